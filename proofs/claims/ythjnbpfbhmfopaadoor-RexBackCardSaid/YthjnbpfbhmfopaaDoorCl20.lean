/- A sign of a class, as the code reads it. -/
import Derived.Test.YthjnbpfbhmfopaaDoorCl20e
namespace Go.Proofs.YthjnbpfbhmfopaaDoor
open Go Go.RowKit
attribute [local irreducible] wd

set_option maxHeartbeats 4000000 in
set_option maxRecDepth 20000 in
theorem clRSign (E : Nat → Addr) (l : List UInt8) (k r : Nat) (hlen : l.length ≤ 10000) (hk : k ≤ l.length) (w : World) (hE : ErrC [2, 4] w E) (hR : RdAt w r l k) :
    Calls Tryd.prog 89 #[.pointer (some ⟨r, 0, none⟩)] w fun e w' =>
      e = .returned (.tuple #[sp (signS (l.drop k)).set, .bool (signS (l.drop k)).one, ev E (signS (l.drop k)).err]) ∧ RdAt w' r l (k + (signS (l.drop k)).size) ∧ Chg [r] w w' := by
  by_cases hesc : ∃ (hkl : k < l.length), (l[k]'hkl).toNat = 92
  · obtain ⟨hkl, h92⟩ := hesc
    exact clRSignE E l k r _ hlen hkl rfl h92 w hE hR
  have hz0 : 4 < w.heap.size := block_lt_of_cell (hE.cell (i := 2) (by simp) rfl)
  have hz1 : 1 < w.heap.size := block_lt_of_cell (hE.cell (i := 4) (by simp) rfl)
  have hx0 := Ext.new1 w (.cells #[.int .u64 0, .int .u64 0, .int .u64 0, .int .u64 0] 25)
  have hS := SB.zero (w := w) rfl
  have hrl := hR.lt
  have hR1 := hR.keep hx0
  have hE1 := hE.keep hx0
  have k0 : (w.alloc (.cells #[.int .u64 0, .int .u64 0, .int .u64 0, .int .u64 0] 25)).cell? ⟨4, 0, none⟩ = some (errV E 2) := hE1.cell (i := 2) (by simp) rfl
  have k1 : (w.alloc (.cells #[.int .u64 0, .int .u64 0, .int .u64 0, .int .u64 0] 25)).cell? ⟨1, 0, none⟩ = some (errV E 4) := hE1.cell (i := 4) (by simp) rfl
  have c0 := hR1.c0
  have c1 := hR1.c1
  obtain ⟨y0, y1, y2, y3⟩ := hS.cells
  have f0 := hS.frozen 0
  have f1 := hS.frozen 1
  have f2 := hS.frozen 2
  have f3 := hS.frozen 3
  have fr : (w.alloc (.cells #[.int .u64 0, .int .u64 0, .int .u64 0, .int .u64 0] 25)).frozen? ⟨r, 1, none⟩ = false := Blk.frozen hR1 1
  have n0 : ¬ 4 = w.heap.size := by omega
  have n1 : ¬ 1 = w.heap.size := by omega
  have n2 : ¬ w.heap.size = 4 := by omega
  have n3 : ¬ w.heap.size = 1 := by omega
  have n4 : ¬ w.heap.size = r := by omega
  have n5 : ¬ r = w.heap.size := by omega
  have HE := Lib.hid hE1
  have HS := Lib.hid hS
  have HR1 := Lib.hid hR1
  clear hE hE1 hS hR hR1
  go_enter Tryd.func89, Tryd.ntmps89
  go_wp2_with fail
  generalize hgz : w.heap.size = gz at *
  generalize w.alloc (.cells #[.int .u64 0, .int .u64 0, .int .u64 0, .int .u64 0] 25) = w0 at *
  clear hz0 hz1
  by_cases hs : l.length ≤ k
  · have hs' : (l.length : Int) ≤ (k : Int) := by omega
    have HQ := Lib.hid (show signS (l.drop k) = .bad 3 by rw [List.drop_eq_nil_of_le hs]; rfl)
    go_region
    all_goals go_wp2
    all_goals go_region
    all_goals go_wp2
    all_goals exact bodyPost_ret (v := .tuple #[sp (fun _ => false), .bool false, errV E 2]) (results_sp3 rfl rfl HS.out.zset.drew.drew rfl rfl) rfl ⟨by rw [HQ.out]; rfl, by rw [HQ.out]; exact (HR1.out.far4 n5 _ _ _ _).drew.drew, Chg.of_ext (by (first | exact Ext.refl _ | (unfold Ext; repeat (first | exact Below.refl _ _ | assumption | refine Below.alloc ?_ (by first | (simp; done) | (simp; omega) | omega) _ | refine Below.setCell ?_ (by first | (simp; done) | (simp; omega) | omega) _ | refine Below.drew ?_))))⟩
  · have hs' : ¬ (l.length : Int) ≤ (k : Int) := by omega
    have hkl : k < l.length := by omega
    obtain ⟨c, hc⟩ : ∃ c, l[k]'hkl = c := ⟨_, rfl⟩
    have hd : l.drop k = c :: l.drop (k + 1) := by rw [← hc]; exact List.drop_eq_getElem_cons hkl
    have hc6 := UInt8.toNat_lt c
    have hki : (k : Int) < (l.length : Int) := by omega
    have HC := Lib.hid hc
    have HD := Lib.hid hd
    clear hd
    by_cases h93 : c.toNat = 93 ∨ c.toNat = 45
    · have HQ := Lib.hid (show signS (l.drop k) = .bad 5 by rw [HD.out]; unfold signS; simp [h93])
      rcases h93 with h93 | h93
      · have hx93 : ((c.toNat : Int) == 93) = true := by simp [h93]
        clear h93
        go_region
        all_goals go_wp2
        all_goals go_region
        all_goals go_wp2
        all_goals go_region
        all_goals go_wp2
        all_goals exact bodyPost_ret (v := .tuple #[sp (fun _ => false), .bool false, errV E 4]) (results_sp3 rfl rfl HS.out.zset.drew.drew.drew rfl rfl) rfl ⟨by rw [HQ.out]; rfl, by rw [HQ.out]; exact (HR1.out.far4 n5 _ _ _ _).drew.drew.drew, Chg.of_ext (by (first | exact Ext.refl _ | (unfold Ext; repeat (first | exact Below.refl _ _ | assumption | refine Below.alloc ?_ (by first | (simp; done) | (simp; omega) | omega) _ | refine Below.setCell ?_ (by first | (simp; done) | (simp; omega) | omega) _ | refine Below.drew ?_))))⟩
      · have hx93 : ((c.toNat : Int) == 93) = false := by simp [h93]
        have hx45 : ((c.toNat : Int) == 45) = true := by simp [h93]
        clear h93
        go_region
        all_goals go_wp2
        all_goals go_region
        all_goals go_wp2
        all_goals go_region
        all_goals go_wp2
        all_goals exact bodyPost_ret (v := .tuple #[sp (fun _ => false), .bool false, errV E 4]) (results_sp3 rfl rfl HS.out.zset.drew.drew.drew rfl rfl) rfl ⟨by rw [HQ.out]; rfl, by rw [HQ.out]; exact (HR1.out.far4 n5 _ _ _ _).drew.drew.drew, Chg.of_ext (by (first | exact Ext.refl _ | (unfold Ext; repeat (first | exact Below.refl _ _ | assumption | refine Below.alloc ?_ (by first | (simp; done) | (simp; omega) | omega) _ | refine Below.setCell ?_ (by first | (simp; done) | (simp; omega) | omega) _ | refine Below.drew ?_))))⟩
    · have hx93 : ((c.toNat : Int) == 93) = false := by simp; omega
      have hx45 : ((c.toNat : Int) == 45) = false := by simp; omega
      by_cases h92 : c.toNat = 92
      · exact absurd ⟨hkl, by rw [hc]; exact h92⟩ hesc
      · have HQ := Lib.hid (show signS (l.drop k) = .byte c.toNat 1 by rw [HD.out]; unfold signS; simp [h93, h92])
        have hx92 : ((c.toNat : Int) == 92) = false := by simp; omega
        have hc7 : c.toNat < 256 := by omega
        clear h92 h93
        go_region
        all_goals go_wp2
        all_goals go_region
        all_goals go_wp2_with fail
        generalize c.toNat = m at *
        have hRx := HR1.out.set (k + 1)
        have hSx := HS.out.far (a := ⟨r, 1, none⟩) n4 (.int .i64 (k + 1 : Nat))
        have hxx : Chg [r] w (w0.setCell ⟨r, 1, none⟩ (.int .i64 (k + 1 : Nat))).drew.drew := (((Chg.of_ext hx0).setCell (by exact .head _) _).drew).drew
        rw [show ((k + 1 : Nat) : Int) = (k : Int) + 1 from rfl] at hRx hSx hxx
        go_at_call 81
        refine (setOne m hc7 _).mono ?_
        rintro e w3 ⟨rfl, hx3⟩
        have hR3 := hRx.drew.drew.keep hx3
        have hS3 := hSx.drew.drew.keep hx3
        have hc3 := hxx.trans (Chg.of_ext hx3)
        obtain ⟨y0, y1, y2, y3⟩ := hS3.cells
        have f0 := hS3.frozen 0
        have f1 := hS3.frozen 1
        have f2 := hS3.frozen 2
        have f3 := hS3.frozen 3
        have HS3 := Lib.hid hS3
        have HR3 := Lib.hid hR3
        clear hS3 hR3 hRx hSx
        unfold sp
        go_wp2
        exact bodyPost_ret (v := .tuple #[sp (fun j => j == m), .bool true, .nilIface]) (results_sp3 rfl rfl (HS3.out.set4 (fun j => j == m)) rfl rfl) rfl ⟨by rw [HQ.out]; rfl, by rw [HQ.out]; exact HR3.out.far4 n5 _ _ _ _, (((hc3.setNew (by simp [hgz]) _).setNew (by simp [hgz]) _).setNew (by simp [hgz]) _).setNew (by simp [hgz]) _⟩
end Go.Proofs.YthjnbpfbhmfopaaDoor
