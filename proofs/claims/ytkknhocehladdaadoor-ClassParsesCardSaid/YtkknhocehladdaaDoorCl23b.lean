/- A class, as the code reads it: nothing behind it. -/
import Derived.Test.YtkknhocehladdaaDoorCl23
namespace Go.Proofs.YtkknhocehladdaaDoor
open Go Go.RowKit
attribute [local irreducible] wd

set_option maxHeartbeats 8000000 in
set_option maxRecDepth 20000 in
theorem clParse1b (E : Nat → Addr) (t : List UInt8) (b : Bool) (hbv : b = false) (hb : decide ((91 :: t : List UInt8)[1]? = some 94) = b) (hlt : ¬ 1 < (91 :: t : List UInt8).length) (hlen : (91 :: t : List UInt8).length ≤ 10000) (w : World) (hE : ErrC [2, 4] w E) (hT : Tab w) :
    Calls Tryd.prog 23 #[.string ⟨(91 :: t : List UInt8).toArray⟩] w fun e w' => e = .returned (parseV E (parseS (91 :: t))) ∧ Ext w w' := by
  have hz0 : 0 < w.heap.size := block_lt_of_cell (hE.cell (i := 2) (by simp) rfl)
  have hz1 : 1 < w.heap.size := block_lt_of_cell (hE.cell (i := 4) (by simp) rfl)
  have hz2 : 16 < w.heap.size := block_lt_of_cell (hT 0 (by decide))
  have HE := Lib.hid hE
  have HT := Lib.hid hT
  obtain ⟨l, hl⟩ : ∃ l : List UInt8, 91 :: t = l := ⟨_, rfl⟩
  obtain ⟨R, hRR⟩ : ∃ R, goS l (if b then 2 else 1) (l.length + 1) (if b then 2 else 1) (fun _ => false) = R := ⟨_, rfl⟩
  have hres := parse_some t b hb R (by rw [hl]; exact hRR)
  have hl0 : 0 < l.length := by rw [← hl]; simp
  have hl91 : l[0]'hl0 = 91 := by simp only [← hl]; rfl
  have hne : (l.isEmpty) = false := by rw [← hl]; rfl
  rw [hl] at hlen hres hb ⊢
  subst hbv
  have h1 : ¬ 1 < l.length := by rw [← hl]; exact hlt
  have HRES := Lib.hid hres
  clear hE hT hres hl
  generalize hgz : w.heap.size = gz at *
  have m1 : ¬ gz = gz + 1 := by omega
  have m2 : ¬ gz + 1 = gz := by omega
  simp only [Bool.false_eq_true, if_false] at hRR
  have HRR := Lib.hid hRR
  clear hb hRR hlt
  have h1' : ¬ (1 : Int) < (l.length : Int) := by omega
  go_enter Tryd.func23, Tryd.ntmps23
  go_wp2
  clear h1'
  go_loopw [9] (fun _ wr => ∃ (k f : Nat) (x : Nat → Bool), 1 ≤ k ∧ k ≤ l.length ∧ l.length + 1 ≤ f + k ∧ goS l 1 f k x = R ∧ RdAt wr (gz + 1) l k ∧ SB wr gz x ∧ Ext w wr) (fun _ wr => l.length + 1 - posOf wr (gz + 1))
  case atStart => exact ⟨1, l.length + 1, fun _ => false, by omega, by omega, by omega, HRR.out, Blk.newA (by simp [hgz]) _ [.string ⟨l.toArray⟩, .int .i64 1], (SB.zero hgz).alloc _, by (first | exact Ext.refl _ | (unfold Ext; repeat (first | exact Below.refl _ _ | assumption | refine Below.alloc ?_ (by first | (simp; done) | (simp; omega) | omega) _ | refine Below.setCell ?_ (by first | (simp; done) | (simp; omega) | omega) _ | refine Below.drew ?_)))⟩
  case round =>
    obtain ⟨k, f, x, hbk, hk, hf, hg, hR, hS, hx⟩ := hrel
    obtain ⟨f', rfl⟩ : ∃ f', f = f' + 1 := ⟨f - 1, by omega⟩
    rw [goS_at] at hg
    have hpos := hR.pos
    have HRd := Lib.hid hR
    have c0 := hR.c0
    have c1 := hR.c1
    have HEr := Lib.hid (HE.out.keep hx)
    have HTr := Lib.hid (HT.out.keep hx)
    clear hR
    have hk1 : k = 1 := by omega
    rw [if_neg (by simp [hk1])] at hg
    have hkb' : ((k : Int) == 1) = true := by simp [hk1]
    have hk2 : ¬ k < l.length := by omega
    clear hk1
    go_wp2_with fail
    go_at_call 36
    refine (clItem E l k (gz + 1) hlen hk _ HEr.out HTr.out HRd.out (by omega) (by omega) (by omega)).mono ?_
    rintro e w1 ⟨rfl, hR1, hc1⟩
    have hw1 : gz + 1 < w1.heap.size := Nat.lt_of_lt_of_le HRd.out.lt hc1.size
    have hx1 : Ext w w1 := hc1.below hx (by have := hx.size; omega) (by simp; omega)
    have hS1 := (hS.chg hc1 (by simp))
    have q1 : ¬ w1.heap.size = gz := by omega
    have q2 : ¬ gz = w1.heap.size := by omega
    have hS2 := hS1.alloc (.cells #[.int .u64 (wd (itemS (l.drop k)).1 0 : Nat), .int .u64 (wd (itemS (l.drop k)).1 1 : Nat), .int .u64 (wd (itemS (l.drop k)).1 2 : Nat), .int .u64 (wd (itemS (l.drop k)).1 3 : Nat)] 24)
    have hx2 := hx1.trans (Ext.new1 w1 (.cells #[.int .u64 (wd (itemS (l.drop k)).1 0 : Nat), .int .u64 (wd (itemS (l.drop k)).1 1 : Nat), .int .u64 (wd (itemS (l.drop k)).1 2 : Nat), .int .u64 (wd (itemS (l.drop k)).1 3 : Nat)] 24))
    clear c0 c1
    by_cases hi : (itemS (l.drop k)).2.2 = 0
    · exfalso
      have hfit := (item_fits (l.drop k)).1 hi
      rw [List.length_drop] at hfit
      omega
    · have hi3 := (item_fits (l.drop k)).2.resolve_left hi
      rw [if_pos hi] at hg
      have HR' := Lib.hid (show parseS l = (fun _ => false, 0, (itemS (l.drop k)).2.2) by rw [HRES.out, ← hg]; simp [hi])
      obtain ⟨z0, z1, z2, z3⟩ := hS2.cells
      have f0 := hS2.frozen 0
      have f1 := hS2.frozen 1
      have f2 := hS2.frozen 2
      have f3 := hS2.frozen 3
      have HS2 := Lib.hid hS2
      clear hg hR1 hi hS2 hS1 hx1 hx HRd HEr HTr hS
      rcases hi3 with hi3 | hi3
      · rw [hi3] at HR'
        rw [hi3]
        simp only [ev, errV]
        unfold sp
        go_wp2
        exact bodyPost_ret (v := .tuple #[sp (fun _ => false), .int .i64 0, errV E 2]) (results_sp3 rfl rfl HS2.out.zset rfl rfl) rfl ⟨by rw [HR'.out]; rfl, by (first | exact Ext.refl _ | (unfold Ext; repeat (first | exact Below.refl _ _ | assumption | refine Below.alloc ?_ (by first | (simp; done) | (simp; omega) | omega) _ | refine Below.setCell ?_ (by first | (simp; done) | (simp; omega) | omega) _ | refine Below.drew ?_)))⟩
      · rw [hi3] at HR'
        rw [hi3]
        simp only [ev, errV]
        unfold sp
        go_wp2
        exact bodyPost_ret (v := .tuple #[sp (fun _ => false), .int .i64 0, errV E 4]) (results_sp3 rfl rfl HS2.out.zset rfl rfl) rfl ⟨by rw [HR'.out]; rfl, by (first | exact Ext.refl _ | (unfold Ext; repeat (first | exact Below.refl _ _ | assumption | refine Below.alloc ?_ (by first | (simp; done) | (simp; omega) | omega) _ | refine Below.setCell ?_ (by first | (simp; done) | (simp; omega) | omega) _ | refine Below.drew ?_)))⟩
end Go.Proofs.YtkknhocehladdaaDoor
