/- A class, as the code reads it: no hat. -/
import Derived.Test.YtkknhocehladdaaDoorCl23
namespace Go.Proofs.YtkknhocehladdaaDoor
open Go Go.RowKit
attribute [local irreducible] wd

set_option maxHeartbeats 8000000 in
set_option maxRecDepth 20000 in
theorem clParse1a (E : Nat → Addr) (t : List UInt8) (b : Bool) (hbv : b = false) (hb : decide ((91 :: t : List UInt8)[1]? = some 94) = b) (hlt : 1 < (91 :: t : List UInt8).length) (hlen : (91 :: t : List UInt8).length ≤ 10000) (w : World) (hE : ErrC [2, 4] w E) (hT : Tab w) :
    Calls Tryd.prog 23 #[.string ⟨(91 :: t : List UInt8).toArray⟩] w fun e w' => e = .returned (parseV E (parseS (91 :: t))) ∧ Ext w w' := by
  have hz0 : 0 < w.heap.size := block_lt_of_cell (hE.cell (i := 2) (by simp) rfl)
  have hz1 : 1 < w.heap.size := block_lt_of_cell (hE.cell (i := 4) (by simp) rfl)
  have hz2 : 16 < w.heap.size := block_lt_of_cell (hT 0 (by decide))
  have HE := Lib.hid hE
  have HT := Lib.hid hT
  obtain ⟨l, hl⟩ : ∃ l : List UInt8, 91 :: t = l := ⟨_, rfl⟩
  obtain ⟨R, hRR⟩ : ∃ R, goS l (if b then 2 else 1) (l.length + 1) (if b then 2 else 1) (fun _ => false) = R := ⟨_, rfl⟩
  have hres := parse_some t b hb R (by rw [hl]; exact hRR)
  have hl0 : 0 < l.length := by rw [← hl]; simp
  have hl91 : l[0]'hl0 = 91 := by simp only [← hl]; rfl
  have hne : (l.isEmpty) = false := by rw [← hl]; rfl
  rw [hl] at hlen hres hb ⊢
  subst hbv
  have h1 : 1 < l.length := by rw [← hl]; exact hlt
  have HRES := Lib.hid hres
  clear hE hT hres hl
  generalize hgz : w.heap.size = gz at *
  have m1 : ¬ gz = gz + 1 := by omega
  have m2 : ¬ gz + 1 = gz := by omega
  have HB := Lib.hid hb
  simp only [Bool.false_eq_true, if_false] at hRR
  have HRR := Lib.hid hRR
  clear hb hRR hlt
  have h1' : (1 : Int) < (l.length : Int) := by omega
  obtain ⟨c, hc⟩ : ∃ c, l[1]'h1 = c := ⟨_, rfl⟩
  have hc94 : ((c.toNat : Int) == 94) = false := by
    have h2 := HB.out
    rw [List.getElem?_eq_getElem h1, hc] at h2
    have h3 : c ≠ 94 := fun e => by rw [e] at h2; simp at h2
    have h4 : c.toNat ≠ 94 := fun e => h3 (UInt8.toNat_inj.1 e)
    simp; omega
  go_enter Tryd.func23, Tryd.ntmps23
  go_wp2
  clear hc94 hc h1'
  go_loopw [9] (fun _ wr => ∃ (k f : Nat) (x : Nat → Bool), 1 ≤ k ∧ k ≤ l.length ∧ l.length + 1 ≤ f + k ∧ goS l 1 f k x = R ∧ RdAt wr (gz + 1) l k ∧ SB wr gz x ∧ Ext w wr) (fun _ wr => l.length + 1 - posOf wr (gz + 1))
  case atStart => exact ⟨1, l.length + 1, fun _ => false, by omega, by omega, by omega, HRR.out, Blk.newA (by simp [hgz]) _ [.string ⟨l.toArray⟩, .int .i64 1], (SB.zero hgz).alloc _, by (first | exact Ext.refl _ | (unfold Ext; repeat (first | exact Below.refl _ _ | assumption | refine Below.alloc ?_ (by first | (simp; done) | (simp; omega) | omega) _ | refine Below.setCell ?_ (by first | (simp; done) | (simp; omega) | omega) _ | refine Below.drew ?_)))⟩
  case round =>
    obtain ⟨k, f, x, hbk, hk, hf, hg, hR, hS, hx⟩ := hrel
    obtain ⟨f', rfl⟩ : ∃ f', f = f' + 1 := ⟨f - 1, by omega⟩
    rw [goS_at] at hg
    have hpos := hR.pos
    have HRd := Lib.hid hR
    have c0 := hR.c0
    have c1 := hR.c1
    have HEr := Lib.hid (HE.out.keep hx)
    have HTr := Lib.hid (HT.out.keep hx)
    clear hR
    by_cases hend : k ≠ 1 ∧ l[k]? = some 93
    · rw [if_pos hend] at hg
      have hkl := (List.getElem?_eq_some_iff.1 hend.2).1
      have hc93 : l[k]'hkl = 93 := (List.getElem?_eq_some_iff.1 hend.2).2
      have hkb : ((k : Int) == 1) = false := by have := hend.1; simp; omega
      have hki : (k : Int) < (l.length : Int) := by omega
      have hki' : ¬ (l.length : Int) ≤ (k : Int) := by omega
      have HR' := Lib.hid (show parseS l = (notP false x, k + 1, 0) by rw [HRES.out, ← hg]; rfl)
      obtain ⟨z0, z1, z2, z3⟩ := hS.cells
      have f0 := hS.frozen 0
      have f1 := hS.frozen 1
      have f2 := hS.frozen 2
      have f3 := hS.frozen 3
      have HS := Lib.hid hS
      clear hg hend hS
      go_wp2_with fail
      go_region
      all_goals go_wp2
      all_goals exact bodyPost_ret (v := .tuple #[sp x, .int .i64 ((k : Int) + 1), .nilIface]) (results_sp3 rfl rfl (HS.out.set4 x).drew rfl rfl) rfl ⟨by rw [HR'.out, parseV_id], by (first | exact Ext.refl _ | (unfold Ext; repeat (first | exact Below.refl _ _ | assumption | refine Below.alloc ?_ (by first | (simp; done) | (simp; omega) | omega) _ | refine Below.setCell ?_ (by first | (simp; done) | (simp; omega) | omega) _ | refine Below.drew ?_)))⟩
    · rw [if_neg hend] at hg
      by_cases hkb : k = 1
      · have hkb' : ((k : Int) == 1) = true := by simp [hkb]
        clear hend
        clear hkb
        go_wp2_with fail
        go_at_call 36
        refine (clItem E l k (gz + 1) hlen hk _ HEr.out HTr.out HRd.out (by omega) (by omega) (by omega)).mono ?_
        rintro e w1 ⟨rfl, hR1, hc1⟩
        have hw1 : gz + 1 < w1.heap.size := Nat.lt_of_lt_of_le HRd.out.lt hc1.size
        have hx1 : Ext w w1 := hc1.below hx (by have := hx.size; omega) (by simp; omega)
        have hS1 := (hS.chg hc1 (by simp))
        have q1 : ¬ w1.heap.size = gz := by omega
        have q2 : ¬ gz = w1.heap.size := by omega
        have hS2 := hS1.alloc (.cells #[.int .u64 (wd (itemS (l.drop k)).1 0 : Nat), .int .u64 (wd (itemS (l.drop k)).1 1 : Nat), .int .u64 (wd (itemS (l.drop k)).1 2 : Nat), .int .u64 (wd (itemS (l.drop k)).1 3 : Nat)] 24)
        have hx2 := hx1.trans (Ext.new1 w1 (.cells #[.int .u64 (wd (itemS (l.drop k)).1 0 : Nat), .int .u64 (wd (itemS (l.drop k)).1 1 : Nat), .int .u64 (wd (itemS (l.drop k)).1 2 : Nat), .int .u64 (wd (itemS (l.drop k)).1 3 : Nat)] 24))
        clear c0 c1
        by_cases hi : (itemS (l.drop k)).2.2 = 0
        · have hR2 := RdAt.keep (hR1 hi) (Ext.new1 w1 (.cells #[.int .u64 (wd (itemS (l.drop k)).1 0 : Nat), .int .u64 (wd (itemS (l.drop k)).1 1 : Nat), .int .u64 (wd (itemS (l.drop k)).1 2 : Nat), .int .u64 (wd (itemS (l.drop k)).1 3 : Nat)] 24))
          have hfit := (item_fits (l.drop k)).1 hi
          rw [List.length_drop] at hfit
          rw [if_neg (by simp [hi])] at hg
          rw [hi]
          clear hR1 hi
          simp only [ev]
          unfold sp
          obtain ⟨z0, z1, z2, z3⟩ := hS2.cells
          have f0 := hS2.frozen 0
          have f1 := hS2.frozen 1
          have f2 := hS2.frozen 2
          have f3 := hS2.frozen 3
          have HG := Lib.hid hg
          have HS2 := Lib.hid hS2
          have HR2 := Lib.hid hR2
          clear hg hS2 hR2 hS1 hx1 hx HRd HEr HTr hS
          go_wp2_with (go_at_call 11; refine (setOr x (itemS (l.drop k)).1 _).mono ?_; rintro e w3 ⟨rfl, hx3⟩; have hS3 := HS2.out.keep hx3; obtain ⟨z0, z1, z2, z3⟩ := hS3.cells; have f0 := hS3.frozen 0; have f1 := hS3.frozen 1; have f2 := hS3.frozen 2; have f3 := hS3.frozen 3; have HS3 := Lib.hid hS3; clear hS3; unfold sp)
          have hR4 := Lib.hid ((HR2.out.keep hx3).far4 m2 (.int .u64 (wd (fun j => x j || (itemS (l.drop k)).1 j) 0 : Nat)) (.int .u64 (wd (fun j => x j || (itemS (l.drop k)).1 j) 1 : Nat)) (.int .u64 (wd (fun j => x j || (itemS (l.drop k)).1 j) 2 : Nat)) (.int .u64 (wd (fun j => x j || (itemS (l.drop k)).1 j) 3 : Nat)))
          have hx4 := hx2.trans hx3
          go_roundw
          case rel => exact ⟨k + (itemS (l.drop k)).2.1, f', _, by omega, by omega, by omega, HG.out, hR4.out, HS3.out.set4 (fun j => x j || (itemS (l.drop k)).1 j), by (first | exact Ext.refl _ | (unfold Ext; repeat (first | exact Below.refl _ _ | assumption | refine Below.alloc ?_ (by first | (simp; done) | (simp; omega) | omega) _ | refine Below.setCell ?_ (by first | (simp; done) | (simp; omega) | omega) _ | refine Below.drew ?_)))⟩
          case measure => rw [hR4.out.pos, hpos]; omega
        · have hi3 := (item_fits (l.drop k)).2.resolve_left hi
          rw [if_pos hi] at hg
          have HR' := Lib.hid (show parseS l = (fun _ => false, 0, (itemS (l.drop k)).2.2) by rw [HRES.out, ← hg]; simp [hi])
          obtain ⟨z0, z1, z2, z3⟩ := hS2.cells
          have f0 := hS2.frozen 0
          have f1 := hS2.frozen 1
          have f2 := hS2.frozen 2
          have f3 := hS2.frozen 3
          have HS2 := Lib.hid hS2
          clear hg hR1 hi hS2 hS1 hx1 hx HRd HEr HTr hS
          rcases hi3 with hi3 | hi3
          · rw [hi3] at HR'
            rw [hi3]
            simp only [ev, errV]
            unfold sp
            go_wp2
            exact bodyPost_ret (v := .tuple #[sp (fun _ => false), .int .i64 0, errV E 2]) (results_sp3 rfl rfl HS2.out.zset rfl rfl) rfl ⟨by rw [HR'.out]; rfl, by (first | exact Ext.refl _ | (unfold Ext; repeat (first | exact Below.refl _ _ | assumption | refine Below.alloc ?_ (by first | (simp; done) | (simp; omega) | omega) _ | refine Below.setCell ?_ (by first | (simp; done) | (simp; omega) | omega) _ | refine Below.drew ?_)))⟩
          · rw [hi3] at HR'
            rw [hi3]
            simp only [ev, errV]
            unfold sp
            go_wp2
            exact bodyPost_ret (v := .tuple #[sp (fun _ => false), .int .i64 0, errV E 4]) (results_sp3 rfl rfl HS2.out.zset rfl rfl) rfl ⟨by rw [HR'.out]; rfl, by (first | exact Ext.refl _ | (unfold Ext; repeat (first | exact Below.refl _ _ | assumption | refine Below.alloc ?_ (by first | (simp; done) | (simp; omega) | omega) _ | refine Below.setCell ?_ (by first | (simp; done) | (simp; omega) | omega) _ | refine Below.drew ?_)))⟩
      · have hkb' : ((k : Int) == 1) = false := by simp; omega
        by_cases hge : l.length ≤ k
        · have hge' : (l.length : Int) ≤ (k : Int) := by omega
          clear hend
          go_wp2_with fail
          go_at_call 36
          refine (clItem E l k (gz + 1) hlen hk _ HEr.out HTr.out HRd.out (by omega) (by omega) (by omega)).mono ?_
          rintro e w1 ⟨rfl, hR1, hc1⟩
          have hw1 : gz + 1 < w1.heap.size := Nat.lt_of_lt_of_le HRd.out.lt hc1.size
          have hx1 : Ext w w1 := hc1.below hx (by have := hx.size; omega) (by simp; omega)
          have hS1 := (hS.chg hc1 (by simp))
          have q1 : ¬ w1.heap.size = gz := by omega
          have q2 : ¬ gz = w1.heap.size := by omega
          have hS2 := hS1.alloc (.cells #[.int .u64 (wd (itemS (l.drop k)).1 0 : Nat), .int .u64 (wd (itemS (l.drop k)).1 1 : Nat), .int .u64 (wd (itemS (l.drop k)).1 2 : Nat), .int .u64 (wd (itemS (l.drop k)).1 3 : Nat)] 24)
          have hx2 := hx1.trans (Ext.new1 w1 (.cells #[.int .u64 (wd (itemS (l.drop k)).1 0 : Nat), .int .u64 (wd (itemS (l.drop k)).1 1 : Nat), .int .u64 (wd (itemS (l.drop k)).1 2 : Nat), .int .u64 (wd (itemS (l.drop k)).1 3 : Nat)] 24))
          clear c0 c1
          by_cases hi : (itemS (l.drop k)).2.2 = 0
          · exfalso
            have hfit := (item_fits (l.drop k)).1 hi
            rw [List.length_drop] at hfit
            omega
          · have hi3 := (item_fits (l.drop k)).2.resolve_left hi
            rw [if_pos hi] at hg
            have HR' := Lib.hid (show parseS l = (fun _ => false, 0, (itemS (l.drop k)).2.2) by rw [HRES.out, ← hg]; simp [hi])
            obtain ⟨z0, z1, z2, z3⟩ := hS2.cells
            have f0 := hS2.frozen 0
            have f1 := hS2.frozen 1
            have f2 := hS2.frozen 2
            have f3 := hS2.frozen 3
            have HS2 := Lib.hid hS2
            clear hg hR1 hi hS2 hS1 hx1 hx HRd HEr HTr hS
            rcases hi3 with hi3 | hi3
            · rw [hi3] at HR'
              rw [hi3]
              simp only [ev, errV]
              unfold sp
              go_wp2
              exact bodyPost_ret (v := .tuple #[sp (fun _ => false), .int .i64 0, errV E 2]) (results_sp3 rfl rfl HS2.out.zset rfl rfl) rfl ⟨by rw [HR'.out]; rfl, by (first | exact Ext.refl _ | (unfold Ext; repeat (first | exact Below.refl _ _ | assumption | refine Below.alloc ?_ (by first | (simp; done) | (simp; omega) | omega) _ | refine Below.setCell ?_ (by first | (simp; done) | (simp; omega) | omega) _ | refine Below.drew ?_)))⟩
            · rw [hi3] at HR'
              rw [hi3]
              simp only [ev, errV]
              unfold sp
              go_wp2
              exact bodyPost_ret (v := .tuple #[sp (fun _ => false), .int .i64 0, errV E 4]) (results_sp3 rfl rfl HS2.out.zset rfl rfl) rfl ⟨by rw [HR'.out]; rfl, by (first | exact Ext.refl _ | (unfold Ext; repeat (first | exact Below.refl _ _ | assumption | refine Below.alloc ?_ (by first | (simp; done) | (simp; omega) | omega) _ | refine Below.setCell ?_ (by first | (simp; done) | (simp; omega) | omega) _ | refine Below.drew ?_)))⟩
        · have hge' : ¬ (l.length : Int) ≤ (k : Int) := by omega
          have hki : (k : Int) < (l.length : Int) := by omega
          have hkl : k < l.length := by omega
          obtain ⟨c, hc⟩ : ∃ c, l[k]'hkl = c := ⟨_, rfl⟩
          have hc93 : ((c.toNat : Int) != 93) = true := by
            have h3 : c ≠ 93 := fun e => hend ⟨hkb, by rw [List.getElem?_eq_getElem hkl, hc, e]⟩
            have h4 : c.toNat ≠ 93 := fun e => h3 (UInt8.toNat_inj.1 e)
            simp; omega
          clear hend
          go_wp2_with fail
          go_at_call 36
          refine (clItem E l k (gz + 1) hlen hk _ HEr.out HTr.out HRd.out (by omega) (by omega) (by omega)).mono ?_
          rintro e w1 ⟨rfl, hR1, hc1⟩
          have hw1 : gz + 1 < w1.heap.size := Nat.lt_of_lt_of_le HRd.out.lt hc1.size
          have hx1 : Ext w w1 := hc1.below hx (by have := hx.size; omega) (by simp; omega)
          have hS1 := (hS.chg hc1 (by simp))
          have q1 : ¬ w1.heap.size = gz := by omega
          have q2 : ¬ gz = w1.heap.size := by omega
          have hS2 := hS1.alloc (.cells #[.int .u64 (wd (itemS (l.drop k)).1 0 : Nat), .int .u64 (wd (itemS (l.drop k)).1 1 : Nat), .int .u64 (wd (itemS (l.drop k)).1 2 : Nat), .int .u64 (wd (itemS (l.drop k)).1 3 : Nat)] 24)
          have hx2 := hx1.trans (Ext.new1 w1 (.cells #[.int .u64 (wd (itemS (l.drop k)).1 0 : Nat), .int .u64 (wd (itemS (l.drop k)).1 1 : Nat), .int .u64 (wd (itemS (l.drop k)).1 2 : Nat), .int .u64 (wd (itemS (l.drop k)).1 3 : Nat)] 24))
          clear c0 c1
          by_cases hi : (itemS (l.drop k)).2.2 = 0
          · have hR2 := RdAt.keep (hR1 hi) (Ext.new1 w1 (.cells #[.int .u64 (wd (itemS (l.drop k)).1 0 : Nat), .int .u64 (wd (itemS (l.drop k)).1 1 : Nat), .int .u64 (wd (itemS (l.drop k)).1 2 : Nat), .int .u64 (wd (itemS (l.drop k)).1 3 : Nat)] 24))
            have hfit := (item_fits (l.drop k)).1 hi
            rw [List.length_drop] at hfit
            rw [if_neg (by simp [hi])] at hg
            rw [hi]
            clear hR1 hi
            simp only [ev]
            unfold sp
            obtain ⟨z0, z1, z2, z3⟩ := hS2.cells
            have f0 := hS2.frozen 0
            have f1 := hS2.frozen 1
            have f2 := hS2.frozen 2
            have f3 := hS2.frozen 3
            have HG := Lib.hid hg
            have HS2 := Lib.hid hS2
            have HR2 := Lib.hid hR2
            clear hg hS2 hR2 hS1 hx1 hx HRd HEr HTr hS
            go_wp2_with (go_at_call 11; refine (setOr x (itemS (l.drop k)).1 _).mono ?_; rintro e w3 ⟨rfl, hx3⟩; have hS3 := HS2.out.keep hx3; obtain ⟨z0, z1, z2, z3⟩ := hS3.cells; have f0 := hS3.frozen 0; have f1 := hS3.frozen 1; have f2 := hS3.frozen 2; have f3 := hS3.frozen 3; have HS3 := Lib.hid hS3; clear hS3; unfold sp)
            have hR4 := Lib.hid ((HR2.out.keep hx3).far4 m2 (.int .u64 (wd (fun j => x j || (itemS (l.drop k)).1 j) 0 : Nat)) (.int .u64 (wd (fun j => x j || (itemS (l.drop k)).1 j) 1 : Nat)) (.int .u64 (wd (fun j => x j || (itemS (l.drop k)).1 j) 2 : Nat)) (.int .u64 (wd (fun j => x j || (itemS (l.drop k)).1 j) 3 : Nat)))
            have hx4 := hx2.trans hx3
            go_roundw
            case rel => exact ⟨k + (itemS (l.drop k)).2.1, f', _, by omega, by omega, by omega, HG.out, hR4.out, HS3.out.set4 (fun j => x j || (itemS (l.drop k)).1 j), by (first | exact Ext.refl _ | (unfold Ext; repeat (first | exact Below.refl _ _ | assumption | refine Below.alloc ?_ (by first | (simp; done) | (simp; omega) | omega) _ | refine Below.setCell ?_ (by first | (simp; done) | (simp; omega) | omega) _ | refine Below.drew ?_)))⟩
            case measure => rw [hR4.out.pos, hpos]; omega
          · have hi3 := (item_fits (l.drop k)).2.resolve_left hi
            rw [if_pos hi] at hg
            have HR' := Lib.hid (show parseS l = (fun _ => false, 0, (itemS (l.drop k)).2.2) by rw [HRES.out, ← hg]; simp [hi])
            obtain ⟨z0, z1, z2, z3⟩ := hS2.cells
            have f0 := hS2.frozen 0
            have f1 := hS2.frozen 1
            have f2 := hS2.frozen 2
            have f3 := hS2.frozen 3
            have HS2 := Lib.hid hS2
            clear hg hR1 hi hS2 hS1 hx1 hx HRd HEr HTr hS
            rcases hi3 with hi3 | hi3
            · rw [hi3] at HR'
              rw [hi3]
              simp only [ev, errV]
              unfold sp
              go_wp2
              exact bodyPost_ret (v := .tuple #[sp (fun _ => false), .int .i64 0, errV E 2]) (results_sp3 rfl rfl HS2.out.zset rfl rfl) rfl ⟨by rw [HR'.out]; rfl, by (first | exact Ext.refl _ | (unfold Ext; repeat (first | exact Below.refl _ _ | assumption | refine Below.alloc ?_ (by first | (simp; done) | (simp; omega) | omega) _ | refine Below.setCell ?_ (by first | (simp; done) | (simp; omega) | omega) _ | refine Below.drew ?_)))⟩
            · rw [hi3] at HR'
              rw [hi3]
              simp only [ev, errV]
              unfold sp
              go_wp2
              exact bodyPost_ret (v := .tuple #[sp (fun _ => false), .int .i64 0, errV E 4]) (results_sp3 rfl rfl HS2.out.zset rfl rfl) rfl ⟨by rw [HR'.out]; rfl, by (first | exact Ext.refl _ | (unfold Ext; repeat (first | exact Below.refl _ _ | assumption | refine Below.alloc ?_ (by first | (simp; done) | (simp; omega) | omega) _ | refine Below.setCell ?_ (by first | (simp; done) | (simp; omega) | omega) _ | refine Below.drew ?_)))⟩
end Go.Proofs.YtkknhocehladdaaDoor
