/- Escapes, as the code reads them. -/
import Derived.Test.YthjnbpfbhmfopaaDoorCl18
import Derived.BigRegion
namespace Go.Proofs.YthjnbpfbhmfopaaDoor
open Go Go.RowKit
attribute [local irreducible] wd

set_option maxHeartbeats 8000000 in
set_option maxRecDepth 20000 in
theorem clEscapeW (E : Nat → Addr) (c : UInt8) (r : List UInt8) (hk : c.toNat = 119) (hlen : (92 :: c :: r : List UInt8).length ≤ 10000) (w : World) (hE : ErrC [2, 4] w E) :
    Calls Tryd.prog 80 #[.string ⟨(92 :: c :: r : List UInt8).toArray⟩] w fun e w' => e = .returned (sgV E (escS (92 :: c :: r))) ∧ Ext w w' := by
  have hz0 : 4 < w.heap.size := block_lt_of_cell (hE.cell (i := 2) (by simp) rfl)
  have hz1 : 1 < w.heap.size := block_lt_of_cell (hE.cell (i := 4) (by simp) rfl)
  have hS := SB.zero (w := w) rfl
  have hx0 := Ext.new1 w (.cells #[.int .u64 0, .int .u64 0, .int .u64 0, .int .u64 0] 25)
  have n0 : ¬ 4 = w.heap.size := by omega
  have n1 : ¬ 1 = w.heap.size := by omega
  have n2 : ¬ w.heap.size = 4 := by omega
  have n3 : ¬ w.heap.size = 1 := by omega
  have HE := Lib.hid hE
  have HS := Lib.hid hS
  have HL := Lib.hid hlen
  have hc6 := UInt8.toNat_lt c
  clear hE hS hz0 hz1 hlen
  have HR := Lib.hid (show escS (92 :: c :: r) = .cls wordP 2 by unfold escS escC; simp [hk])
  go_enter Tryd.func80, Tryd.ntmps80
  go_wp2_with (go_at_call 86; refine (setRange 48 57 (by omega) (by omega) _).mono ?_; rintro e w1 ⟨rfl, hx1⟩; unfold sp)
  have hS2 := Lib.hid ((HS.out.keep hx1).alloc (.cells #[.int .u64 (wd (fun j => decide (48 ≤ j) && decide (j ≤ 57)) 0 : Nat), .int .u64 (wd (fun j => decide (48 ≤ j) && decide (j ≤ 57)) 1 : Nat), .int .u64 (wd (fun j => decide (48 ≤ j) && decide (j ≤ 57)) 2 : Nat), .int .u64 (wd (fun j => decide (48 ≤ j) && decide (j ≤ 57)) 3 : Nat)] 25))
  have hF2 := Lib.hid (SB.new (w := w1) rfl (fun j => decide (48 ≤ j) && decide (j ≤ 57)))
  have hE2 := Lib.hid ((HE.out.keep (hx0.trans hx1)).keep (Ext.new1 w1 (.cells #[.int .u64 (wd (fun j => decide (48 ≤ j) && decide (j ≤ 57)) 0 : Nat), .int .u64 (wd (fun j => decide (48 ≤ j) && decide (j ≤ 57)) 1 : Nat), .int .u64 (wd (fun j => decide (48 ≤ j) && decide (j ≤ 57)) 2 : Nat), .int .u64 (wd (fun j => decide (48 ≤ j) && decide (j ≤ 57)) 3 : Nat)] 25)))
  have hx2 := (hx0.trans hx1).trans (Ext.new1 w1 (.cells #[.int .u64 (wd (fun j => decide (48 ≤ j) && decide (j ≤ 57)) 0 : Nat), .int .u64 (wd (fun j => decide (48 ≤ j) && decide (j ≤ 57)) 1 : Nat), .int .u64 (wd (fun j => decide (48 ≤ j) && decide (j ≤ 57)) 2 : Nat), .int .u64 (wd (fun j => decide (48 ≤ j) && decide (j ≤ 57)) 3 : Nat)] 25))
  generalize w1.heap.size = gf at *
  generalize w1.alloc (.cells #[.int .u64 (wd (fun j => decide (48 ≤ j) && decide (j ≤ 57)) 0 : Nat), .int .u64 (wd (fun j => decide (48 ≤ j) && decide (j ≤ 57)) 1 : Nat), .int .u64 (wd (fun j => decide (48 ≤ j) && decide (j ≤ 57)) 2 : Nat), .int .u64 (wd (fun j => decide (48 ≤ j) && decide (j ≤ 57)) 3 : Nat)] 25) = w2 at *
  clear hx1
  obtain ⟨z0, z1, z2, z3⟩ := hF2.out.cells
  go_region_with (first
    | (have := hx7; go_at_call 85; refine (setOr _ _ _).mono ?_; rintro e w8 ⟨rfl, hx8⟩; have hxx := ((((((hx2.trans hx3).trans hx4).trans hx5).trans hx6).trans hx7).trans hx8); have hS9 := hS2.out.keep (((((hx3.trans hx4).trans hx5).trans hx6).trans hx7).trans hx8); obtain ⟨y0, y1, y2, y3⟩ := hS9.cells; have f0 := hS9.frozen 0; have f1 := hS9.frozen 1; have f2 := hS9.frozen 2; have f3 := hS9.frozen 3; have HS9 := Lib.hid hS9; clear hS9; unfold sp)
    | (have := hx6; go_at_call 81; refine (setOne 95 (by omega) _).mono ?_; rintro e w7 ⟨rfl, hx7⟩)
    | (have := hx5; go_at_call 85; refine (setOr _ _ _).mono ?_; rintro e w6 ⟨rfl, hx6⟩)
    | (have := hx4; go_at_call 86; refine (setRange 65 90 (by omega) (by omega) _).mono ?_; rintro e w5 ⟨rfl, hx5⟩)
    | (have := hx3; go_at_call 85; refine (setOr _ _ _).mono ?_; rintro e w4 ⟨rfl, hx4⟩)
    | (go_at_call 86; refine (setRange 97 122 (by omega) (by omega) _).mono ?_; rintro e w3 ⟨rfl, hx3'⟩; have hx3 : Ext w2 w3 := Ext.trans (show Ext w2 w2.drew from (Below.refl _ _).drew) hx3'; obtain ⟨z0, z1, z2, z3⟩ := (hF2.out.keep hx3).cells))
  all_goals go_wp2
  all_goals exact bodyPost_ret (v := .tuple #[sp wordP, .bool false, .int .i64 2, .nilIface]) (results_sp4 rfl (by simp [Act.put]) (HS9.out.set4 wordP) (by simp [Act.put]) (by simp [Act.put]) (by simp [Act.put])) (by simp [Act.put]) ⟨by rw [HR.out]; rfl, by (first | exact Ext.refl _ | (unfold Ext; repeat (first | exact Below.refl _ _ | assumption | refine Below.alloc ?_ (by first | (simp; done) | (simp; omega) | omega) _ | refine Below.setCell ?_ (by first | (simp; done) | (simp; omega) | omega) _ | refine Below.drew ?_)))⟩
end Go.Proofs.YthjnbpfbhmfopaaDoor
