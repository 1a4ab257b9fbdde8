/- A sign of a class, as the code reads it. -/
import Derived.Test.YthjnbpfbhmfopaaDoorCl19
namespace Go.Proofs.YthjnbpfbhmfopaaDoor
open Go Go.RowKit
attribute [local irreducible] wd

theorem Sg.fits_size {s : Sg} {l : List UInt8} (h : s.fits l) : s.size ≤ l.length := by
  cases s with
  | bad k => exact Nat.zero_le _
  | byte m n => exact h.2.2
  | cls p n => exact h.2
/-- A reader: its text, and where it stands. -/
def RdAt (w : World) (r : Nat) (l : List UInt8) (k : Nat) : Prop := Blk w r 133 [.string ⟨l.toArray⟩, .int .i64 (k : Nat)]
theorem RdAt.keep {w w' : World} {r : Nat} {l : List UInt8} {k : Nat} (h : RdAt w r l k) (hx : Ext w w') : RdAt w' r l k := Blk.keep h hx
theorem RdAt.c0 {w : World} {r : Nat} {l : List UInt8} {k : Nat} (h : RdAt w r l k) : w.cell? ⟨r, 0, none⟩ = some (.string ⟨l.toArray⟩) := Blk.cell h 0
theorem RdAt.c1 {w : World} {r : Nat} {l : List UInt8} {k : Nat} (h : RdAt w r l k) : w.cell? ⟨r, 1, none⟩ = some (.int .i64 (k : Nat)) := Blk.cell h 1
theorem RdAt.lt {w : World} {r : Nat} {l : List UInt8} {k : Nat} (h : RdAt w r l k) : r < w.heap.size := Blk.lt h
theorem RdAt.set {w : World} {r : Nat} {l : List UInt8} {k : Nat} (h : RdAt w r l k) (k' : Nat) : RdAt (w.setCell ⟨r, 1, none⟩ (.int .i64 (k' : Nat))) r l k' := Blk.set_ h 1 _
theorem RdAt.far {w : World} {r : Nat} {l : List UInt8} {k : Nat} (h : RdAt w r l k) {a : Addr} (ha : r ≠ a.block) (u : Value) : RdAt (w.setCell a u) r l k := Blk.far h ha u

theorem RdAt.far4 {w : World} {r g : Nat} {l : List UInt8} {k : Nat} (h : RdAt w r l k) (hg : r ≠ g) (u0 u1 u2 u3 : Value) : RdAt ((((w.setCell ⟨g, 0, none⟩ u0).setCell ⟨g, 1, none⟩ u1).setCell ⟨g, 2, none⟩ u2).setCell ⟨g, 3, none⟩ u3) r l k := (((h.far hg _).far hg _).far hg _).far hg _
theorem RdAt.drew {w : World} {r : Nat} {l : List UInt8} {k : Nat} (h : RdAt w r l k) : RdAt w.drew r l k := h

set_option maxHeartbeats 4000000 in
set_option maxRecDepth 20000 in
theorem clRSignE (E : Nat → Addr) (l : List UInt8) (k r : Nat) (c : UInt8) (hlen : l.length ≤ 10000) (hkl : k < l.length) (hc : l[k]'hkl = c) (h92 : c.toNat = 92) (w : World) (hE : ErrC [2, 4] w E) (hR : RdAt w r l k) :
    Calls Tryd.prog 89 #[.pointer (some ⟨r, 0, none⟩)] w fun e w' =>
      e = .returned (.tuple #[sp (signS (l.drop k)).set, .bool (signS (l.drop k)).one, ev E (signS (l.drop k)).err]) ∧ RdAt w' r l (k + (signS (l.drop k)).size) ∧ Chg [r] w w' := by
  have hz0 : 4 < w.heap.size := block_lt_of_cell (hE.cell (i := 2) (by simp) rfl)
  have hz1 : 1 < w.heap.size := block_lt_of_cell (hE.cell (i := 4) (by simp) rfl)
  have hx0 := Ext.new1 w (.cells #[.int .u64 0, .int .u64 0, .int .u64 0, .int .u64 0] 25)
  have hS := SB.zero (w := w) rfl
  have hrl := hR.lt
  have hR1 := hR.keep hx0
  have hE1 := hE.keep hx0
  have k0 : (w.alloc (.cells #[.int .u64 0, .int .u64 0, .int .u64 0, .int .u64 0] 25)).cell? ⟨4, 0, none⟩ = some (errV E 2) := hE1.cell (i := 2) (by simp) rfl
  have k1 : (w.alloc (.cells #[.int .u64 0, .int .u64 0, .int .u64 0, .int .u64 0] 25)).cell? ⟨1, 0, none⟩ = some (errV E 4) := hE1.cell (i := 4) (by simp) rfl
  have c0 := hR1.c0
  have c1 := hR1.c1
  obtain ⟨y0, y1, y2, y3⟩ := hS.cells
  have f0 := hS.frozen 0
  have f1 := hS.frozen 1
  have f2 := hS.frozen 2
  have f3 := hS.frozen 3
  have fr : (w.alloc (.cells #[.int .u64 0, .int .u64 0, .int .u64 0, .int .u64 0] 25)).frozen? ⟨r, 1, none⟩ = false := Blk.frozen hR1 1
  have n0 : ¬ 4 = w.heap.size := by omega
  have n1 : ¬ 1 = w.heap.size := by omega
  have n2 : ¬ w.heap.size = 4 := by omega
  have n3 : ¬ w.heap.size = 1 := by omega
  have n4 : ¬ w.heap.size = r := by omega
  have n5 : ¬ r = w.heap.size := by omega
  have HE := Lib.hid hE1
  have HS := Lib.hid hS
  have HR1 := Lib.hid hR1
  clear hE hE1 hS hR hR1
  go_enter Tryd.func89, Tryd.ntmps89
  go_wp2_with fail
  generalize hgz : w.heap.size = gz at *
  generalize w.alloc (.cells #[.int .u64 0, .int .u64 0, .int .u64 0, .int .u64 0] 25) = w0 at *
  clear hz0 hz1
  have hs' : ¬ (l.length : Int) ≤ (k : Int) := by omega
  have hd : l.drop k = c :: l.drop (k + 1) := by rw [← hc]; exact List.drop_eq_getElem_cons hkl
  have hki : (k : Int) < (l.length : Int) := by omega
  have HC := Lib.hid hc
  have HD := Lib.hid hd
  clear hd
  have hx93 : ((c.toNat : Int) == 93) = false := by simp [h92]
  have hx45 : ((c.toNat : Int) == 45) = false := by simp [h92]
  have HQ := Lib.hid (show signS (l.drop k) = escS (l.drop k) by rw [HD.out]; unfold signS; simp [h92])
  have hx92 : ((c.toNat : Int) == 92) = true := by simp [h92]
  have hsl : signS (l.drop k) = escS (l.drop k) := HQ.out
  have hfit := esc_fits (l.drop k)
  have HFIT := Lib.hid hfit
  clear h92 hfit hsl
  go_region
  all_goals go_wp2
  all_goals go_region
  all_goals go_wp2_with fail
  have hl2 : (l.drop k).length ≤ 10000 := by rw [List.length_drop]; omega
  clear y0 y1 y2 y3 f0 f1 f2 f3
  have hrw := HR1.out.lt
  have n6 : ¬ r = w0.heap.size := by omega
  have n7 : ¬ w0.heap.size = r := by omega
  have hkk : (k : Int) ≤ (l.length : Int) := by omega
  go_region_with (go_at_call 80; refine (clEscape E (l.drop k) hl2 _ (HE.out.keep (by (first | exact Ext.refl _ | (unfold Ext; repeat (first | exact Below.refl _ _ | assumption | refine Below.alloc ?_ (by first | (simp; done) | (simp; omega) | omega) _ | refine Below.setCell ?_ (by first | (simp; done) | (simp; omega) | omega) _ | refine Below.drew ?_)))))).mono ?_; rintro e w3 ⟨rfl, hx3⟩; (try have hN := (SB.zero (w := w0.drew.drew.drew) (g := w0.heap.size) rfl).keep hx3); (try obtain ⟨z0, z1, z2, z3⟩ := hN.cells); (try have q0 := hN.frozen 0); (try have q1 := hN.frozen 1); (try have q2 := hN.frozen 2); (try have q3 := hN.frozen 3); (try have HN := Lib.hid hN); (try clear hN); unfold sgV sp)
  all_goals
    first
    | (have hx3' : Ext w0 w3 := Ext.trans (show Ext w0 w0.drew.drew.drew from (((Below.refl _ _).drew).drew).drew) hx3
       have hxA := hx3'.trans (Ext.new1 w3 (.cells #[.int .u64 (wd (escS (l.drop k)).set 0 : Nat), .int .u64 (wd (escS (l.drop k)).set 1 : Nat), .int .u64 (wd (escS (l.drop k)).set 2 : Nat), .int .u64 (wd (escS (l.drop k)).set 3 : Nat)] 25))
       have HSg := Lib.hid (SB.new (w := w3) rfl (escS (l.drop k)).set)
       have HRA := Lib.hid (HR1.out.keep hxA)
       have HSr := Lib.hid (HS.out.keep hxA)
       have hcA : Chg [r] w _ := Chg.of_ext (hx0.trans hxA)
       have m1 : ¬ r = w3.heap.size := by have := hx3'.size; omega
       have m2 : ¬ w3.heap.size = r := by omega
       clear hx3 hx3' hxA c0 c1 k0 k1 n6 n7
       generalize w3.heap.size = gA at *
       generalize w3.alloc (.cells #[.int .u64 (wd (escS (l.drop k)).set 0 : Nat), .int .u64 (wd (escS (l.drop k)).set 1 : Nat), .int .u64 (wd (escS (l.drop k)).set 2 : Nat), .int .u64 (wd (escS (l.drop k)).set 3 : Nat)] 25) = wA at *
       have hc9 := HRA.out.c1
       have fr9 : wA.frozen? ⟨r, 1, none⟩ = false := Blk.frozen HRA.out 1
       obtain ⟨z0, z1, z2, z3⟩ := HSg.out.cells
       obtain ⟨y0, y1, y2, y3⟩ := HSr.out.cells
       have f0 := HSr.out.frozen 0
       have f1 := HSr.out.frozen 1
       have f2 := HSr.out.frozen 2
       have f3 := HSr.out.frozen 3
       have hsz := Sg.fits_size HFIT.out
       rw [List.length_drop] at hsz
       have hrA := HRA.out.set (k + (escS (l.drop k)).size)
       have hrS := HSr.out.far (a := ⟨r, 1, none⟩) n4 (.int .i64 (k + (escS (l.drop k)).size : Nat))
       have hcA2 : Chg [r] w (wA.setCell ⟨r, 1, none⟩ (.int .i64 (k + (escS (l.drop k)).size : Nat))) := hcA.setCell (by exact .head _) _
       have HRA2 := Lib.hid hrA
       have HSr2 := Lib.hid hrS
       have HCA2 := Lib.hid hcA2
       clear hrA hrS hcA2 hcA
       go_wp2
       exact bodyPost_ret (v := .tuple #[sp (escS (l.drop k)).set, .bool (escS (l.drop k)).one, ev E (escS (l.drop k)).err]) (results_sp3 rfl (by simp) (HSr2.out.set4 (escS (l.drop k)).set) (by simp) (by simp)) (by simp) ⟨by rw [HQ.out], by rw [HQ.out]; exact HRA2.out.far4 n5 _ _ _ _, (((HCA2.out.setNew (by simp [hgz]) _).setNew (by simp [hgz]) _).setNew (by simp [hgz]) _).setNew (by simp [hgz]) _⟩)
    | (have hx3' : Ext w0 w3 := Ext.trans (show Ext w0 (w0.drew.drew.drew.alloc _) from ((((Below.refl _ _).drew).drew).drew).alloc (Nat.le_refl _) _) hx3
       have hA : Ext w0 ((((w3.setCell ⟨w0.heap.size, 0, none⟩ (.int .u64 (wd (escS (l.drop k)).set 0 : Nat))).setCell ⟨w0.heap.size, 1, none⟩ (.int .u64 (wd (escS (l.drop k)).set 1 : Nat))).setCell ⟨w0.heap.size, 2, none⟩ (.int .u64 (wd (escS (l.drop k)).set 2 : Nat))).setCell ⟨w0.heap.size, 3, none⟩ (.int .u64 (wd (escS (l.drop k)).set 3 : Nat))) := by (first | exact Ext.refl _ | (unfold Ext; repeat (first | exact Below.refl _ _ | assumption | refine Below.alloc ?_ (by first | (simp; done) | (simp; omega) | omega) _ | refine Below.setCell ?_ (by first | (simp; done) | (simp; omega) | omega) _ | refine Below.drew ?_)))
       have HSg := Lib.hid (HN.out.set4 (escS (l.drop k)).set)
       have HRA := Lib.hid (HR1.out.keep hA)
       have HSr := Lib.hid (HS.out.keep hA)
       have hcA : Chg [r] w _ := Chg.of_ext (hx0.trans hA)
       clear hx3 hx3' hA c0 c1 k0 k1 z0 z1 z2 z3 q0 q1 q2 q3 HN
       generalize ((((w3.setCell ⟨w0.heap.size, 0, none⟩ (.int .u64 (wd (escS (l.drop k)).set 0 : Nat))).setCell ⟨w0.heap.size, 1, none⟩ (.int .u64 (wd (escS (l.drop k)).set 1 : Nat))).setCell ⟨w0.heap.size, 2, none⟩ (.int .u64 (wd (escS (l.drop k)).set 2 : Nat))).setCell ⟨w0.heap.size, 3, none⟩ (.int .u64 (wd (escS (l.drop k)).set 3 : Nat))) = wA at *
       generalize w0.heap.size = gA at *
       have hc9 := HRA.out.c1
       have fr9 : wA.frozen? ⟨r, 1, none⟩ = false := Blk.frozen HRA.out 1
       obtain ⟨z0, z1, z2, z3⟩ := HSg.out.cells
       obtain ⟨y0, y1, y2, y3⟩ := HSr.out.cells
       have f0 := HSr.out.frozen 0
       have f1 := HSr.out.frozen 1
       have f2 := HSr.out.frozen 2
       have f3 := HSr.out.frozen 3
       have hsz := Sg.fits_size HFIT.out
       rw [List.length_drop] at hsz
       have hrA := HRA.out.set (k + (escS (l.drop k)).size)
       have hrS := HSr.out.far (a := ⟨r, 1, none⟩) n4 (.int .i64 (k + (escS (l.drop k)).size : Nat))
       have hcA2 : Chg [r] w (wA.setCell ⟨r, 1, none⟩ (.int .i64 (k + (escS (l.drop k)).size : Nat))) := hcA.setCell (by exact .head _) _
       have HRA2 := Lib.hid hrA
       have HSr2 := Lib.hid hrS
       have HCA2 := Lib.hid hcA2
       clear hrA hrS hcA2 hcA
       go_wp2
       exact bodyPost_ret (v := .tuple #[sp (escS (l.drop k)).set, .bool (escS (l.drop k)).one, ev E (escS (l.drop k)).err]) (results_sp3 rfl (by simp) (HSr2.out.set4 (escS (l.drop k)).set) (by simp) (by simp)) (by simp) ⟨by rw [HQ.out], by rw [HQ.out]; exact HRA2.out.far4 n5 _ _ _ _, (((HCA2.out.setNew (by simp [hgz]) _).setNew (by simp [hgz]) _).setNew (by simp [hgz]) _).setNew (by simp [hgz]) _⟩)
end Go.Proofs.YthjnbpfbhmfopaaDoor
