/- Escapes, as the code reads them. -/
import Derived.Test.YthjnbpfbhmfopaaDoorCl19w
import Derived.BigRegion
namespace Go.Proofs.YthjnbpfbhmfopaaDoor
open Go Go.RowKit
attribute [local irreducible] wd

set_option maxHeartbeats 8000000 in
set_option maxRecDepth 20000 in
theorem clEscape2 (E : Nat → Addr) (c : UInt8) (r : List UInt8) (hlen : (92 :: c :: r : List UInt8).length ≤ 10000) (w : World) (hE : ErrC [2, 4] w E) :
    Calls Tryd.prog 80 #[.string ⟨(92 :: c :: r : List UInt8).toArray⟩] w fun e w' => e = .returned (sgV E (escS (92 :: c :: r))) ∧ Ext w w' := by
  have hz0 : 4 < w.heap.size := block_lt_of_cell (hE.cell (i := 2) (by simp) rfl)
  have hz1 : 1 < w.heap.size := block_lt_of_cell (hE.cell (i := 4) (by simp) rfl)
  have hS := SB.zero (w := w) rfl
  have hx0 := Ext.new1 w (.cells #[.int .u64 0, .int .u64 0, .int .u64 0, .int .u64 0] 25)
  have n0 : ¬ 4 = w.heap.size := by omega
  have n1 : ¬ 1 = w.heap.size := by omega
  have n2 : ¬ w.heap.size = 4 := by omega
  have n3 : ¬ w.heap.size = 1 := by omega
  have HE := Lib.hid hE
  have HS := Lib.hid hS
  have HL := Lib.hid hlen
  have hc6 := UInt8.toNat_lt c
  clear hE hS hz0 hz1 hlen
  by_cases hk : c.toNat = 110
  focus
    have HR := Lib.hid (show escS (92 :: c :: r) = .byte 10 2 by unfold escS escC; simp [hk])
    go_enter Tryd.func80, Tryd.ntmps80
    go_wp2_with (go_at_call 86; refine (setRange 48 57 (by omega) (by omega) _).mono ?_; rintro e w1 ⟨rfl, hx1⟩; unfold sp)
    have hS2 := Lib.hid ((HS.out.keep hx1).alloc (.cells #[.int .u64 (wd (fun j => decide (48 ≤ j) && decide (j ≤ 57)) 0 : Nat), .int .u64 (wd (fun j => decide (48 ≤ j) && decide (j ≤ 57)) 1 : Nat), .int .u64 (wd (fun j => decide (48 ≤ j) && decide (j ≤ 57)) 2 : Nat), .int .u64 (wd (fun j => decide (48 ≤ j) && decide (j ≤ 57)) 3 : Nat)] 25))
    have hF2 := Lib.hid (SB.new (w := w1) rfl (fun j => decide (48 ≤ j) && decide (j ≤ 57)))
    have hE2 := Lib.hid ((HE.out.keep (hx0.trans hx1)).keep (Ext.new1 w1 (.cells #[.int .u64 (wd (fun j => decide (48 ≤ j) && decide (j ≤ 57)) 0 : Nat), .int .u64 (wd (fun j => decide (48 ≤ j) && decide (j ≤ 57)) 1 : Nat), .int .u64 (wd (fun j => decide (48 ≤ j) && decide (j ≤ 57)) 2 : Nat), .int .u64 (wd (fun j => decide (48 ≤ j) && decide (j ≤ 57)) 3 : Nat)] 25)))
    have hx2 := (hx0.trans hx1).trans (Ext.new1 w1 (.cells #[.int .u64 (wd (fun j => decide (48 ≤ j) && decide (j ≤ 57)) 0 : Nat), .int .u64 (wd (fun j => decide (48 ≤ j) && decide (j ≤ 57)) 1 : Nat), .int .u64 (wd (fun j => decide (48 ≤ j) && decide (j ≤ 57)) 2 : Nat), .int .u64 (wd (fun j => decide (48 ≤ j) && decide (j ≤ 57)) 3 : Nat)] 25))
    generalize w1.heap.size = gf at *
    generalize w1.alloc (.cells #[.int .u64 (wd (fun j => decide (48 ≤ j) && decide (j ≤ 57)) 0 : Nat), .int .u64 (wd (fun j => decide (48 ≤ j) && decide (j ≤ 57)) 1 : Nat), .int .u64 (wd (fun j => decide (48 ≤ j) && decide (j ≤ 57)) 2 : Nat), .int .u64 (wd (fun j => decide (48 ≤ j) && decide (j ≤ 57)) 3 : Nat)] 25) = w2 at *
    clear hx1
    go_at_call 81
    refine (setOne 10 (by omega) _).mono ?_
    rintro e w3 ⟨rfl, hx3⟩
    have hS3 := hS2.out.keep hx3
    obtain ⟨y0, y1, y2, y3⟩ := hS3.cells
    have f0 := hS3.frozen 0
    have f1 := hS3.frozen 1
    have f2 := hS3.frozen 2
    have f3 := hS3.frozen 3
    have HS3 := Lib.hid hS3
    clear hS3
    have hx9 := hx2.trans hx3
    unfold sp
    go_wp2
    exact bodyPost_ret (v := .tuple #[sp (fun j => j == 10), .bool true, .int .i64 2, .nilIface]) (results_sp4 rfl rfl (HS3.out.set4 (fun j => j == 10)) rfl rfl rfl) rfl ⟨by rw [HR.out]; rfl, by (first | exact Ext.refl _ | (unfold Ext; repeat (first | exact Below.refl _ _ | assumption | refine Below.alloc ?_ (by first | (simp; done) | (simp; omega) | omega) _ | refine Below.setCell ?_ (by first | (simp; done) | (simp; omega) | omega) _ | refine Below.drew ?_)))⟩
  have d110 : ((c.toNat : Int) == 110) = false := by simp; omega
  by_cases hk : c.toNat = 114
  focus
    have HR := Lib.hid (show escS (92 :: c :: r) = .byte 13 2 by unfold escS escC; simp [hk])
    go_enter Tryd.func80, Tryd.ntmps80
    go_wp2_with (go_at_call 86; refine (setRange 48 57 (by omega) (by omega) _).mono ?_; rintro e w1 ⟨rfl, hx1⟩; unfold sp)
    have hS2 := Lib.hid ((HS.out.keep hx1).alloc (.cells #[.int .u64 (wd (fun j => decide (48 ≤ j) && decide (j ≤ 57)) 0 : Nat), .int .u64 (wd (fun j => decide (48 ≤ j) && decide (j ≤ 57)) 1 : Nat), .int .u64 (wd (fun j => decide (48 ≤ j) && decide (j ≤ 57)) 2 : Nat), .int .u64 (wd (fun j => decide (48 ≤ j) && decide (j ≤ 57)) 3 : Nat)] 25))
    have hF2 := Lib.hid (SB.new (w := w1) rfl (fun j => decide (48 ≤ j) && decide (j ≤ 57)))
    have hE2 := Lib.hid ((HE.out.keep (hx0.trans hx1)).keep (Ext.new1 w1 (.cells #[.int .u64 (wd (fun j => decide (48 ≤ j) && decide (j ≤ 57)) 0 : Nat), .int .u64 (wd (fun j => decide (48 ≤ j) && decide (j ≤ 57)) 1 : Nat), .int .u64 (wd (fun j => decide (48 ≤ j) && decide (j ≤ 57)) 2 : Nat), .int .u64 (wd (fun j => decide (48 ≤ j) && decide (j ≤ 57)) 3 : Nat)] 25)))
    have hx2 := (hx0.trans hx1).trans (Ext.new1 w1 (.cells #[.int .u64 (wd (fun j => decide (48 ≤ j) && decide (j ≤ 57)) 0 : Nat), .int .u64 (wd (fun j => decide (48 ≤ j) && decide (j ≤ 57)) 1 : Nat), .int .u64 (wd (fun j => decide (48 ≤ j) && decide (j ≤ 57)) 2 : Nat), .int .u64 (wd (fun j => decide (48 ≤ j) && decide (j ≤ 57)) 3 : Nat)] 25))
    generalize w1.heap.size = gf at *
    generalize w1.alloc (.cells #[.int .u64 (wd (fun j => decide (48 ≤ j) && decide (j ≤ 57)) 0 : Nat), .int .u64 (wd (fun j => decide (48 ≤ j) && decide (j ≤ 57)) 1 : Nat), .int .u64 (wd (fun j => decide (48 ≤ j) && decide (j ≤ 57)) 2 : Nat), .int .u64 (wd (fun j => decide (48 ≤ j) && decide (j ≤ 57)) 3 : Nat)] 25) = w2 at *
    clear hx1
    go_at_call 81
    refine (setOne 13 (by omega) _).mono ?_
    rintro e w3 ⟨rfl, hx3⟩
    have hS3 := hS2.out.keep hx3
    obtain ⟨y0, y1, y2, y3⟩ := hS3.cells
    have f0 := hS3.frozen 0
    have f1 := hS3.frozen 1
    have f2 := hS3.frozen 2
    have f3 := hS3.frozen 3
    have HS3 := Lib.hid hS3
    clear hS3
    have hx9 := hx2.trans hx3
    unfold sp
    go_wp2
    exact bodyPost_ret (v := .tuple #[sp (fun j => j == 13), .bool true, .int .i64 2, .nilIface]) (results_sp4 rfl rfl (HS3.out.set4 (fun j => j == 13)) rfl rfl rfl) rfl ⟨by rw [HR.out]; rfl, by (first | exact Ext.refl _ | (unfold Ext; repeat (first | exact Below.refl _ _ | assumption | refine Below.alloc ?_ (by first | (simp; done) | (simp; omega) | omega) _ | refine Below.setCell ?_ (by first | (simp; done) | (simp; omega) | omega) _ | refine Below.drew ?_)))⟩
  have d114 : ((c.toNat : Int) == 114) = false := by simp; omega
  by_cases hk : c.toNat = 116
  focus
    have HR := Lib.hid (show escS (92 :: c :: r) = .byte 9 2 by unfold escS escC; simp [hk])
    go_enter Tryd.func80, Tryd.ntmps80
    go_wp2_with (go_at_call 86; refine (setRange 48 57 (by omega) (by omega) _).mono ?_; rintro e w1 ⟨rfl, hx1⟩; unfold sp)
    have hS2 := Lib.hid ((HS.out.keep hx1).alloc (.cells #[.int .u64 (wd (fun j => decide (48 ≤ j) && decide (j ≤ 57)) 0 : Nat), .int .u64 (wd (fun j => decide (48 ≤ j) && decide (j ≤ 57)) 1 : Nat), .int .u64 (wd (fun j => decide (48 ≤ j) && decide (j ≤ 57)) 2 : Nat), .int .u64 (wd (fun j => decide (48 ≤ j) && decide (j ≤ 57)) 3 : Nat)] 25))
    have hF2 := Lib.hid (SB.new (w := w1) rfl (fun j => decide (48 ≤ j) && decide (j ≤ 57)))
    have hE2 := Lib.hid ((HE.out.keep (hx0.trans hx1)).keep (Ext.new1 w1 (.cells #[.int .u64 (wd (fun j => decide (48 ≤ j) && decide (j ≤ 57)) 0 : Nat), .int .u64 (wd (fun j => decide (48 ≤ j) && decide (j ≤ 57)) 1 : Nat), .int .u64 (wd (fun j => decide (48 ≤ j) && decide (j ≤ 57)) 2 : Nat), .int .u64 (wd (fun j => decide (48 ≤ j) && decide (j ≤ 57)) 3 : Nat)] 25)))
    have hx2 := (hx0.trans hx1).trans (Ext.new1 w1 (.cells #[.int .u64 (wd (fun j => decide (48 ≤ j) && decide (j ≤ 57)) 0 : Nat), .int .u64 (wd (fun j => decide (48 ≤ j) && decide (j ≤ 57)) 1 : Nat), .int .u64 (wd (fun j => decide (48 ≤ j) && decide (j ≤ 57)) 2 : Nat), .int .u64 (wd (fun j => decide (48 ≤ j) && decide (j ≤ 57)) 3 : Nat)] 25))
    generalize w1.heap.size = gf at *
    generalize w1.alloc (.cells #[.int .u64 (wd (fun j => decide (48 ≤ j) && decide (j ≤ 57)) 0 : Nat), .int .u64 (wd (fun j => decide (48 ≤ j) && decide (j ≤ 57)) 1 : Nat), .int .u64 (wd (fun j => decide (48 ≤ j) && decide (j ≤ 57)) 2 : Nat), .int .u64 (wd (fun j => decide (48 ≤ j) && decide (j ≤ 57)) 3 : Nat)] 25) = w2 at *
    clear hx1
    go_at_call 81
    refine (setOne 9 (by omega) _).mono ?_
    rintro e w3 ⟨rfl, hx3⟩
    have hS3 := hS2.out.keep hx3
    obtain ⟨y0, y1, y2, y3⟩ := hS3.cells
    have f0 := hS3.frozen 0
    have f1 := hS3.frozen 1
    have f2 := hS3.frozen 2
    have f3 := hS3.frozen 3
    have HS3 := Lib.hid hS3
    clear hS3
    have hx9 := hx2.trans hx3
    unfold sp
    go_wp2
    exact bodyPost_ret (v := .tuple #[sp (fun j => j == 9), .bool true, .int .i64 2, .nilIface]) (results_sp4 rfl rfl (HS3.out.set4 (fun j => j == 9)) rfl rfl rfl) rfl ⟨by rw [HR.out]; rfl, by (first | exact Ext.refl _ | (unfold Ext; repeat (first | exact Below.refl _ _ | assumption | refine Below.alloc ?_ (by first | (simp; done) | (simp; omega) | omega) _ | refine Below.setCell ?_ (by first | (simp; done) | (simp; omega) | omega) _ | refine Below.drew ?_)))⟩
  have d116 : ((c.toNat : Int) == 116) = false := by simp; omega
  by_cases hk : c.toNat = 120
  focus
    have HR := Lib.hid (show escS (92 :: c :: r) = codedS (92 :: c :: r) by unfold escS escC; simp [hk])
    go_enter Tryd.func80, Tryd.ntmps80
    go_wp2_with (go_at_call 86; refine (setRange 48 57 (by omega) (by omega) _).mono ?_; rintro e w1 ⟨rfl, hx1⟩; unfold sp)
    have hS2 := Lib.hid ((HS.out.keep hx1).alloc (.cells #[.int .u64 (wd (fun j => decide (48 ≤ j) && decide (j ≤ 57)) 0 : Nat), .int .u64 (wd (fun j => decide (48 ≤ j) && decide (j ≤ 57)) 1 : Nat), .int .u64 (wd (fun j => decide (48 ≤ j) && decide (j ≤ 57)) 2 : Nat), .int .u64 (wd (fun j => decide (48 ≤ j) && decide (j ≤ 57)) 3 : Nat)] 25))
    have hF2 := Lib.hid (SB.new (w := w1) rfl (fun j => decide (48 ≤ j) && decide (j ≤ 57)))
    have hE2 := Lib.hid ((HE.out.keep (hx0.trans hx1)).keep (Ext.new1 w1 (.cells #[.int .u64 (wd (fun j => decide (48 ≤ j) && decide (j ≤ 57)) 0 : Nat), .int .u64 (wd (fun j => decide (48 ≤ j) && decide (j ≤ 57)) 1 : Nat), .int .u64 (wd (fun j => decide (48 ≤ j) && decide (j ≤ 57)) 2 : Nat), .int .u64 (wd (fun j => decide (48 ≤ j) && decide (j ≤ 57)) 3 : Nat)] 25)))
    have hx2 := (hx0.trans hx1).trans (Ext.new1 w1 (.cells #[.int .u64 (wd (fun j => decide (48 ≤ j) && decide (j ≤ 57)) 0 : Nat), .int .u64 (wd (fun j => decide (48 ≤ j) && decide (j ≤ 57)) 1 : Nat), .int .u64 (wd (fun j => decide (48 ≤ j) && decide (j ≤ 57)) 2 : Nat), .int .u64 (wd (fun j => decide (48 ≤ j) && decide (j ≤ 57)) 3 : Nat)] 25))
    generalize w1.heap.size = gf at *
    generalize w1.alloc (.cells #[.int .u64 (wd (fun j => decide (48 ≤ j) && decide (j ≤ 57)) 0 : Nat), .int .u64 (wd (fun j => decide (48 ≤ j) && decide (j ≤ 57)) 1 : Nat), .int .u64 (wd (fun j => decide (48 ≤ j) && decide (j ≤ 57)) 2 : Nat), .int .u64 (wd (fun j => decide (48 ≤ j) && decide (j ≤ 57)) 3 : Nat)] 25) = w2 at *
    clear hx1
    go_at_call 87
    refine (clCoded E (92 :: c :: r) HL.out _ hE2.out).mono ?_
    rintro e w3 ⟨rfl, hx3⟩
    have hS3 := hS2.out.keep hx3
    obtain ⟨y0, y1, y2, y3⟩ := hS3.cells
    have f0 := hS3.frozen 0
    have f1 := hS3.frozen 1
    have f2 := hS3.frozen 2
    have f3 := hS3.frozen 3
    have HS3 := Lib.hid hS3
    clear hS3
    have hx9 := hx2.trans hx3
    unfold sgV sp
    go_wp2
    exact bodyPost_ret (v := sgV E (codedS (92 :: c :: r))) (results_sp4 rfl rfl (HS3.out.set4 (codedS (92 :: c :: r)).set) rfl rfl rfl) rfl ⟨by rw [HR.out], by (first | exact Ext.refl _ | (unfold Ext; repeat (first | exact Below.refl _ _ | assumption | refine Below.alloc ?_ (by first | (simp; done) | (simp; omega) | omega) _ | refine Below.setCell ?_ (by first | (simp; done) | (simp; omega) | omega) _ | refine Below.drew ?_)))⟩
  have d120 : ((c.toNat : Int) == 120) = false := by simp; omega
  by_cases hk : c.toNat = 100
  focus
    have HR := Lib.hid (show escS (92 :: c :: r) = .cls isFig 2 by unfold escS escC; simp [hk])
    go_enter Tryd.func80, Tryd.ntmps80
    go_wp2_with (go_at_call 86; refine (setRange 48 57 (by omega) (by omega) _).mono ?_; rintro e w1 ⟨rfl, hx1⟩; have hS3 := (HS.out.keep hx1).alloc (.cells #[.int .u64 (wd (fun j => decide (48 ≤ j) && decide (j ≤ 57)) 0 : Nat), .int .u64 (wd (fun j => decide (48 ≤ j) && decide (j ≤ 57)) 1 : Nat), .int .u64 (wd (fun j => decide (48 ≤ j) && decide (j ≤ 57)) 2 : Nat), .int .u64 (wd (fun j => decide (48 ≤ j) && decide (j ≤ 57)) 3 : Nat)] 25); have hx2 := (hx0.trans hx1).trans (Ext.new1 w1 (.cells #[.int .u64 (wd (fun j => decide (48 ≤ j) && decide (j ≤ 57)) 0 : Nat), .int .u64 (wd (fun j => decide (48 ≤ j) && decide (j ≤ 57)) 1 : Nat), .int .u64 (wd (fun j => decide (48 ≤ j) && decide (j ≤ 57)) 2 : Nat), .int .u64 (wd (fun j => decide (48 ≤ j) && decide (j ≤ 57)) 3 : Nat)] 25)); obtain ⟨y0, y1, y2, y3⟩ := hS3.cells; have f0 := hS3.frozen 0; have f1 := hS3.frozen 1; have f2 := hS3.frozen 2; have f3 := hS3.frozen 3; have HS3 := Lib.hid hS3; clear hS3; unfold sp)
    exact bodyPost_ret (v := .tuple #[sp isFig, .bool false, .int .i64 2, .nilIface]) (results_sp4 rfl rfl (HS3.out.set4 isFig) rfl rfl rfl) rfl ⟨by rw [HR.out]; rfl, by (first | exact Ext.refl _ | (unfold Ext; repeat (first | exact Below.refl _ _ | assumption | refine Below.alloc ?_ (by first | (simp; done) | (simp; omega) | omega) _ | refine Below.setCell ?_ (by first | (simp; done) | (simp; omega) | omega) _ | refine Below.drew ?_)))⟩
  have d100 : ((c.toNat : Int) == 100) = false := by simp; omega
  by_cases hk : c.toNat = 119
  · exact clEscapeW E c r hk HL.out w HE.out
  have d119 : ((c.toNat : Int) == 119) = false := by simp; omega
  by_cases hk : c.toNat = 115
  focus
    have HR := Lib.hid (show escS (92 :: c :: r) = .cls spaceP 2 by unfold escS escC; simp [hk])
    go_enter Tryd.func80, Tryd.ntmps80
    go_wp2_with (go_at_call 86; refine (setRange 48 57 (by omega) (by omega) _).mono ?_; rintro e w1 ⟨rfl, hx1⟩; unfold sp)
    have hS2 := Lib.hid ((HS.out.keep hx1).alloc (.cells #[.int .u64 (wd (fun j => decide (48 ≤ j) && decide (j ≤ 57)) 0 : Nat), .int .u64 (wd (fun j => decide (48 ≤ j) && decide (j ≤ 57)) 1 : Nat), .int .u64 (wd (fun j => decide (48 ≤ j) && decide (j ≤ 57)) 2 : Nat), .int .u64 (wd (fun j => decide (48 ≤ j) && decide (j ≤ 57)) 3 : Nat)] 25))
    have hF2 := Lib.hid (SB.new (w := w1) rfl (fun j => decide (48 ≤ j) && decide (j ≤ 57)))
    have hE2 := Lib.hid ((HE.out.keep (hx0.trans hx1)).keep (Ext.new1 w1 (.cells #[.int .u64 (wd (fun j => decide (48 ≤ j) && decide (j ≤ 57)) 0 : Nat), .int .u64 (wd (fun j => decide (48 ≤ j) && decide (j ≤ 57)) 1 : Nat), .int .u64 (wd (fun j => decide (48 ≤ j) && decide (j ≤ 57)) 2 : Nat), .int .u64 (wd (fun j => decide (48 ≤ j) && decide (j ≤ 57)) 3 : Nat)] 25)))
    have hx2 := (hx0.trans hx1).trans (Ext.new1 w1 (.cells #[.int .u64 (wd (fun j => decide (48 ≤ j) && decide (j ≤ 57)) 0 : Nat), .int .u64 (wd (fun j => decide (48 ≤ j) && decide (j ≤ 57)) 1 : Nat), .int .u64 (wd (fun j => decide (48 ≤ j) && decide (j ≤ 57)) 2 : Nat), .int .u64 (wd (fun j => decide (48 ≤ j) && decide (j ≤ 57)) 3 : Nat)] 25))
    generalize w1.heap.size = gf at *
    generalize w1.alloc (.cells #[.int .u64 (wd (fun j => decide (48 ≤ j) && decide (j ≤ 57)) 0 : Nat), .int .u64 (wd (fun j => decide (48 ≤ j) && decide (j ≤ 57)) 1 : Nat), .int .u64 (wd (fun j => decide (48 ≤ j) && decide (j ≤ 57)) 2 : Nat), .int .u64 (wd (fun j => decide (48 ≤ j) && decide (j ≤ 57)) 3 : Nat)] 25) = w2 at *
    clear hx1
    go_wp2_with (first
      | (have := hx8; go_at_call 85; refine (setOr _ _ _).mono ?_; rintro e w9 ⟨rfl, hx9⟩; have hxx := (((((((hx2.trans hx3).trans hx4).trans hx5).trans hx6).trans hx7).trans hx8).trans hx9); have hS9 := hS2.out.keep ((((((hx3.trans hx4).trans hx5).trans hx6).trans hx7).trans hx8).trans hx9); obtain ⟨y0, y1, y2, y3⟩ := hS9.cells; have f0 := hS9.frozen 0; have f1 := hS9.frozen 1; have f2 := hS9.frozen 2; have f3 := hS9.frozen 3; have HS9 := Lib.hid hS9; clear hS9; unfold sp)
      | (have := hx7; go_at_call 81; refine (setOne 32 (by omega) _).mono ?_; rintro e w8 ⟨rfl, hx8⟩)
      | (have := hx6; go_at_call 85; refine (setOr _ _ _).mono ?_; rintro e w7 ⟨rfl, hx7⟩)
      | (have := hx5; go_at_call 81; refine (setOne 13 (by omega) _).mono ?_; rintro e w6 ⟨rfl, hx6⟩)
      | (have := hx4; go_at_call 85; refine (setOr _ _ _).mono ?_; rintro e w5 ⟨rfl, hx5⟩)
      | (have := hx3; go_at_call 81; refine (setOne 10 (by omega) _).mono ?_; rintro e w4 ⟨rfl, hx4⟩)
      | (go_at_call 81; refine (setOne 9 (by omega) _).mono ?_; rintro e w3 ⟨rfl, hx3⟩))
    exact bodyPost_ret (v := .tuple #[sp spaceP, .bool false, .int .i64 2, .nilIface]) (results_sp4 rfl rfl (HS9.out.set4 spaceP) rfl rfl rfl) rfl ⟨by rw [HR.out]; rfl, by (first | exact Ext.refl _ | (unfold Ext; repeat (first | exact Below.refl _ _ | assumption | refine Below.alloc ?_ (by first | (simp; done) | (simp; omega) | omega) _ | refine Below.setCell ?_ (by first | (simp; done) | (simp; omega) | omega) _ | refine Below.drew ?_)))⟩
  have d115 : ((c.toNat : Int) == 115) = false := by simp; omega
  have hks : escS (92 :: c :: r) = if isLet c.toNat || isFig c.toNat then .bad 5 else .byte c.toNat 2 := by unfold escS escC; simp only [*, if_false]; simp
  have hc7 : c.toNat < 256 := by omega
  have HKS := Lib.hid hks
  clear hks
  clear hk
  generalize hcn : c.toNat = k at *
  cases hl : isLet k || isFig k
  focus
    have HR := Lib.hid (show escS (92 :: c :: r) = .byte k 2 by rw [HKS.out, hl]; rfl)
    have h1 : isLet k = false := by cases h : isLet k; rfl; simp [h] at hl
    have h2 : isFig k = false := by cases h : isFig k; rfl; simp [h] at hl
    have H1 := Lib.hid h1
    have H2 := Lib.hid h2
    clear hl h1 h2
    go_enter Tryd.func80, Tryd.ntmps80
    go_wp2_with (go_at_call 86; refine (setRange 48 57 (by omega) (by omega) _).mono ?_; rintro e w1 ⟨rfl, hx1⟩; unfold sp)
    have hS2 := (HS.out.keep hx1).alloc (.cells #[.int .u64 (wd (fun j => decide (48 ≤ j) && decide (j ≤ 57)) 0 : Nat), .int .u64 (wd (fun j => decide (48 ≤ j) && decide (j ≤ 57)) 1 : Nat), .int .u64 (wd (fun j => decide (48 ≤ j) && decide (j ≤ 57)) 2 : Nat), .int .u64 (wd (fun j => decide (48 ≤ j) && decide (j ≤ 57)) 3 : Nat)] 25)
    have hE2 := (HE.out.keep (hx0.trans hx1)).keep (Ext.new1 w1 (.cells #[.int .u64 (wd (fun j => decide (48 ≤ j) && decide (j ≤ 57)) 0 : Nat), .int .u64 (wd (fun j => decide (48 ≤ j) && decide (j ≤ 57)) 1 : Nat), .int .u64 (wd (fun j => decide (48 ≤ j) && decide (j ≤ 57)) 2 : Nat), .int .u64 (wd (fun j => decide (48 ≤ j) && decide (j ≤ 57)) 3 : Nat)] 25))
    have hx2 := (hx0.trans hx1).trans (Ext.new1 w1 (.cells #[.int .u64 (wd (fun j => decide (48 ≤ j) && decide (j ≤ 57)) 0 : Nat), .int .u64 (wd (fun j => decide (48 ≤ j) && decide (j ≤ 57)) 1 : Nat), .int .u64 (wd (fun j => decide (48 ≤ j) && decide (j ≤ 57)) 2 : Nat), .int .u64 (wd (fun j => decide (48 ≤ j) && decide (j ≤ 57)) 3 : Nat)] 25))
    generalize w1.alloc (.cells #[.int .u64 (wd (fun j => decide (48 ≤ j) && decide (j ≤ 57)) 0 : Nat), .int .u64 (wd (fun j => decide (48 ≤ j) && decide (j ≤ 57)) 1 : Nat), .int .u64 (wd (fun j => decide (48 ≤ j) && decide (j ≤ 57)) 2 : Nat), .int .u64 (wd (fun j => decide (48 ≤ j) && decide (j ≤ 57)) 3 : Nat)] 25) = w2 at *
    clear hx1
    have HS2 := Lib.hid hS2
    clear hS2
    go_wp2_with (first
      | (go_at_call 81; refine (setOne k hc7 _).mono ?_; rintro e w3 ⟨rfl, hx3⟩; have hS3 := HS2.out.keep hx3; obtain ⟨y0, y1, y2, y3⟩ := hS3.cells; have f0 := hS3.frozen 0; have f1 := hS3.frozen 1; have f2 := hS3.frozen 2; have f3 := hS3.frozen 3; have HS3 := Lib.hid hS3; clear hS3; have hxx := hx2.trans hx3; unfold sp)
      | (go_at_call 75; refine (clFigure k hc7 _).mono ?_; rintro e w3 ⟨rfl, rfl⟩; rw [H2.out])
      | (go_at_call 74; refine (clLetter k hc7 _).mono ?_; rintro e w3 ⟨rfl, rfl⟩; rw [H1.out]))
    exact bodyPost_ret (v := .tuple #[sp (fun j => j == k), .bool true, .int .i64 2, .nilIface]) (results_sp4 rfl rfl (HS3.out.set4 (fun j => j == k)) rfl rfl rfl) rfl ⟨by rw [HR.out]; rfl, by (first | exact Ext.refl _ | (unfold Ext; repeat (first | exact Below.refl _ _ | assumption | refine Below.alloc ?_ (by first | (simp; done) | (simp; omega) | omega) _ | refine Below.setCell ?_ (by first | (simp; done) | (simp; omega) | omega) _ | refine Below.drew ?_)))⟩
  focus
    have HR := Lib.hid (show escS (92 :: c :: r) = .bad 5 by rw [HKS.out, hl]; rfl)
    cases h1 : isLet k
    focus
      have h2 : isFig k = true := by simpa [h1] using hl
      have H1 := Lib.hid h1
      have H2 := Lib.hid h2
      clear hl h1 h2
      go_enter Tryd.func80, Tryd.ntmps80
      go_wp2_with (go_at_call 86; refine (setRange 48 57 (by omega) (by omega) _).mono ?_; rintro e w1 ⟨rfl, hx1⟩; unfold sp)
      have hS2 := (HS.out.keep hx1).alloc (.cells #[.int .u64 (wd (fun j => decide (48 ≤ j) && decide (j ≤ 57)) 0 : Nat), .int .u64 (wd (fun j => decide (48 ≤ j) && decide (j ≤ 57)) 1 : Nat), .int .u64 (wd (fun j => decide (48 ≤ j) && decide (j ≤ 57)) 2 : Nat), .int .u64 (wd (fun j => decide (48 ≤ j) && decide (j ≤ 57)) 3 : Nat)] 25)
      have hE2 := (HE.out.keep (hx0.trans hx1)).keep (Ext.new1 w1 (.cells #[.int .u64 (wd (fun j => decide (48 ≤ j) && decide (j ≤ 57)) 0 : Nat), .int .u64 (wd (fun j => decide (48 ≤ j) && decide (j ≤ 57)) 1 : Nat), .int .u64 (wd (fun j => decide (48 ≤ j) && decide (j ≤ 57)) 2 : Nat), .int .u64 (wd (fun j => decide (48 ≤ j) && decide (j ≤ 57)) 3 : Nat)] 25))
      have hx2 := (hx0.trans hx1).trans (Ext.new1 w1 (.cells #[.int .u64 (wd (fun j => decide (48 ≤ j) && decide (j ≤ 57)) 0 : Nat), .int .u64 (wd (fun j => decide (48 ≤ j) && decide (j ≤ 57)) 1 : Nat), .int .u64 (wd (fun j => decide (48 ≤ j) && decide (j ≤ 57)) 2 : Nat), .int .u64 (wd (fun j => decide (48 ≤ j) && decide (j ≤ 57)) 3 : Nat)] 25))
      generalize w1.alloc (.cells #[.int .u64 (wd (fun j => decide (48 ≤ j) && decide (j ≤ 57)) 0 : Nat), .int .u64 (wd (fun j => decide (48 ≤ j) && decide (j ≤ 57)) 1 : Nat), .int .u64 (wd (fun j => decide (48 ≤ j) && decide (j ≤ 57)) 2 : Nat), .int .u64 (wd (fun j => decide (48 ≤ j) && decide (j ≤ 57)) 3 : Nat)] 25) = w2 at *
      clear hx1
      have c1 := hE2.cell (i := 4) (g := 1) (by simp) rfl
      obtain ⟨y0, y1, y2, y3⟩ := hS2.cells
      have f0 := hS2.frozen 0
      have f1 := hS2.frozen 1
      have f2 := hS2.frozen 2
      have f3 := hS2.frozen 3
      have HS2 := Lib.hid hS2
      clear hS2 hE2
      go_wp2_with (first | (go_at_call 75; refine (clFigure k hc7 _).mono ?_; rintro e w3 ⟨rfl, rfl⟩; rw [H2.out]) | (go_at_call 74; refine (clLetter k hc7 _).mono ?_; rintro e w3 ⟨rfl, rfl⟩; rw [H1.out]))
      go_region
      all_goals go_wp2
      all_goals exact bodyPost_ret (v := .tuple #[sp (fun _ => false), .bool false, .int .i64 0, errV E 4]) (results_sp4 rfl rfl HS2.out.zset.drew rfl rfl rfl) rfl ⟨by rw [HR.out]; rfl, by (first | exact Ext.refl _ | (unfold Ext; repeat (first | exact Below.refl _ _ | assumption | refine Below.alloc ?_ (by first | (simp; done) | (simp; omega) | omega) _ | refine Below.setCell ?_ (by first | (simp; done) | (simp; omega) | omega) _ | refine Below.drew ?_)))⟩
    focus
      have H1 := Lib.hid h1
      clear hl h1
      go_enter Tryd.func80, Tryd.ntmps80
      go_wp2_with (go_at_call 86; refine (setRange 48 57 (by omega) (by omega) _).mono ?_; rintro e w1 ⟨rfl, hx1⟩; unfold sp)
      have hS2 := (HS.out.keep hx1).alloc (.cells #[.int .u64 (wd (fun j => decide (48 ≤ j) && decide (j ≤ 57)) 0 : Nat), .int .u64 (wd (fun j => decide (48 ≤ j) && decide (j ≤ 57)) 1 : Nat), .int .u64 (wd (fun j => decide (48 ≤ j) && decide (j ≤ 57)) 2 : Nat), .int .u64 (wd (fun j => decide (48 ≤ j) && decide (j ≤ 57)) 3 : Nat)] 25)
      have hE2 := (HE.out.keep (hx0.trans hx1)).keep (Ext.new1 w1 (.cells #[.int .u64 (wd (fun j => decide (48 ≤ j) && decide (j ≤ 57)) 0 : Nat), .int .u64 (wd (fun j => decide (48 ≤ j) && decide (j ≤ 57)) 1 : Nat), .int .u64 (wd (fun j => decide (48 ≤ j) && decide (j ≤ 57)) 2 : Nat), .int .u64 (wd (fun j => decide (48 ≤ j) && decide (j ≤ 57)) 3 : Nat)] 25))
      have hx2 := (hx0.trans hx1).trans (Ext.new1 w1 (.cells #[.int .u64 (wd (fun j => decide (48 ≤ j) && decide (j ≤ 57)) 0 : Nat), .int .u64 (wd (fun j => decide (48 ≤ j) && decide (j ≤ 57)) 1 : Nat), .int .u64 (wd (fun j => decide (48 ≤ j) && decide (j ≤ 57)) 2 : Nat), .int .u64 (wd (fun j => decide (48 ≤ j) && decide (j ≤ 57)) 3 : Nat)] 25))
      generalize w1.alloc (.cells #[.int .u64 (wd (fun j => decide (48 ≤ j) && decide (j ≤ 57)) 0 : Nat), .int .u64 (wd (fun j => decide (48 ≤ j) && decide (j ≤ 57)) 1 : Nat), .int .u64 (wd (fun j => decide (48 ≤ j) && decide (j ≤ 57)) 2 : Nat), .int .u64 (wd (fun j => decide (48 ≤ j) && decide (j ≤ 57)) 3 : Nat)] 25) = w2 at *
      clear hx1
      have c1 := hE2.cell (i := 4) (g := 1) (by simp) rfl
      obtain ⟨y0, y1, y2, y3⟩ := hS2.cells
      have f0 := hS2.frozen 0
      have f1 := hS2.frozen 1
      have f2 := hS2.frozen 2
      have f3 := hS2.frozen 3
      have HS2 := Lib.hid hS2
      clear hS2 hE2
      go_wp2_with (go_at_call 74; refine (clLetter k hc7 _).mono ?_; rintro e w3 ⟨rfl, rfl⟩; rw [H1.out])
      go_region
      all_goals go_wp2
      all_goals exact bodyPost_ret (v := .tuple #[sp (fun _ => false), .bool false, .int .i64 0, errV E 4]) (results_sp4 rfl rfl HS2.out.zset.drew rfl rfl rfl) rfl ⟨by rw [HR.out]; rfl, by (first | exact Ext.refl _ | (unfold Ext; repeat (first | exact Below.refl _ _ | assumption | refine Below.alloc ?_ (by first | (simp; done) | (simp; omega) | omega) _ | refine Below.setCell ?_ (by first | (simp; done) | (simp; omega) | omega) _ | refine Below.drew ?_)))⟩

set_option maxHeartbeats 4000000 in
set_option maxRecDepth 20000 in
theorem clEscape (E : Nat → Addr) (l : List UInt8) (hlen : l.length ≤ 10000) (w : World) (hE : ErrC [2, 4] w E) :
    Calls Tryd.prog 80 #[.string ⟨l.toArray⟩] w fun e w' => e = .returned (sgV E (escS l)) ∧ Ext w w' := by
  have hz0 : 4 < w.heap.size := block_lt_of_cell (hE.cell (i := 2) (by simp) rfl)
  have hz1 : 1 < w.heap.size := block_lt_of_cell (hE.cell (i := 4) (by simp) rfl)
  have hS := SB.zero (w := w) rfl
  have hE1 := hE.keep (Ext.new1 w (.cells #[.int .u64 0, .int .u64 0, .int .u64 0, .int .u64 0] 25))
  have hx0 := Ext.new1 w (.cells #[.int .u64 0, .int .u64 0, .int .u64 0, .int .u64 0] 25)
  have c0 : (w.alloc (.cells #[.int .u64 0, .int .u64 0, .int .u64 0, .int .u64 0] 25)).cell? ⟨4, 0, none⟩ = some (errV E 2) := hE1.cell (i := 2) (by simp) rfl
  have c1 : (w.alloc (.cells #[.int .u64 0, .int .u64 0, .int .u64 0, .int .u64 0] 25)).cell? ⟨1, 0, none⟩ = some (errV E 4) := hE1.cell (i := 4) (by simp) rfl
  have n0 : ¬ 4 = w.heap.size := by omega
  have n1 : ¬ 1 = w.heap.size := by omega
  have n2 : ¬ w.heap.size = 4 := by omega
  have n3 : ¬ w.heap.size = 1 := by omega
  have HE := Lib.hid hE
  have HS := Lib.hid hS
  clear hE hE1 hS hz0 hz1
  match l, hlen with
  | [], _ =>
    have HR := Lib.hid (show escS [] = .bad 3 from rfl)
    go_enter Tryd.func80, Tryd.ntmps80
    go_wp2
    go_region
    all_goals go_wp2
    all_goals exact bodyPost_ret (v := .tuple #[sp (fun _ => false), .bool false, .int .i64 0, errV E 2]) (results_sp4 rfl rfl HS.out.drew rfl rfl rfl) rfl ⟨by rw [HR.out]; rfl, by (first | exact Ext.refl _ | (unfold Ext; repeat (first | exact Below.refl _ _ | assumption | refine Below.alloc ?_ (by first | (simp; done) | (simp; omega) | omega) _ | refine Below.setCell ?_ (by first | (simp; done) | (simp; omega) | omega) _ | refine Below.drew ?_)))⟩
  | a :: t, hlen =>
    by_cases ha : a.toNat = 92
    · obtain rfl : a = 92 := UInt8.toNat_inj.1 ha
      clear ha
      match t, hlen with
      | [], _ =>
        have HR := Lib.hid (show escS [92] = .bad 3 from rfl)
        go_enter Tryd.func80, Tryd.ntmps80
        go_wp2
        go_region
        all_goals go_wp2
        all_goals exact bodyPost_ret (v := .tuple #[sp (fun _ => false), .bool false, .int .i64 0, errV E 2]) (results_sp4 rfl rfl HS.out.drew rfl rfl rfl) rfl ⟨by rw [HR.out]; rfl, by (first | exact Ext.refl _ | (unfold Ext; repeat (first | exact Below.refl _ _ | assumption | refine Below.alloc ?_ (by first | (simp; done) | (simp; omega) | omega) _ | refine Below.setCell ?_ (by first | (simp; done) | (simp; omega) | omega) _ | refine Below.drew ?_)))⟩
      | c :: r, hlen => exact clEscape2 E c r hlen w HE.out
    · have HR := Lib.hid (show escS (a :: t) = .bad 5 by unfold escS; simp [ha])
      have ha2 : (a == 92) = false := by
        have : a ≠ 92 := fun e => ha (by rw [e]; rfl)
        simpa using this
      have ha3 : ((a.toNat : Int) != 92) = true := by simp; omega
      have ha4 : ¬ a = 92 := fun e => ha (by rw [e]; rfl)
      clear ha
      go_enter Tryd.func80, Tryd.ntmps80
      go_wp2
      go_region
      all_goals go_wp2
      all_goals exact bodyPost_ret (v := .tuple #[sp (fun _ => false), .bool false, .int .i64 0, errV E 4]) (results_sp4 rfl rfl HS.out.drew rfl rfl rfl) rfl ⟨by rw [HR.out]; rfl, by (first | exact Ext.refl _ | (unfold Ext; repeat (first | exact Below.refl _ _ | assumption | refine Below.alloc ?_ (by first | (simp; done) | (simp; omega) | omega) _ | refine Below.setCell ?_ (by first | (simp; done) | (simp; omega) | omega) _ | refine Below.drew ?_)))⟩
end Go.Proofs.YthjnbpfbhmfopaaDoor
