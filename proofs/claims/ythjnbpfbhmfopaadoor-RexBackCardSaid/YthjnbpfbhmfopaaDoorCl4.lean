/- Sets as four words: Not, Len, One, All. -/
import Derived.Test.YthjnbpfbhmfopaaDoorCl3
namespace Go.Proofs.YthjnbpfbhmfopaaDoor
open Go Go.RowKit

theorem ones_bit (j : Nat) : Nat.testBit 18446744073709551615 j = decide (j < 64) := Nat.testBit_two_pow_sub_one 64 j
theorem wd_not (p : Nat → Bool) (k : Nat) : 18446744073709551615 ^^^ wd p k = wd (fun j => !p j) k := by
  refine bnum_eq fun j => ?_
  rw [Nat.testBit_xor, wd_bit, ones_bit]
  cases decide (j < 64) <;> simp
theorem not_wd (p : Nat → Bool) (k : Nat) : bits BinOp.xor IntKind.u64 (if IntKind.u64.signed = true then -1 else IntKind.u64.max) (wd p k : Nat) = (wd (fun j => !p j) k : Nat) := by
  have e : (if IntKind.u64.signed = true then -1 else IntKind.u64.max) = ((18446744073709551615 : Nat) : Int) := rfl
  rw [e]
  exact (u64_xor_nat _ _ (by decide) (wd_lt _ _)).trans (by rw [wd_not])
theorem one_wd (c k j : Nat) (hck : c = 64 * k + j) (hj : j < 64) : 2 ^ j = wd (fun i => i == c) k := by
  refine bnum_eq fun i => ?_
  rw [Nat.testBit_two_pow]
  by_cases h : j = i
  · subst h; simp [hj, hck]
  · simp [h, hck]; omega
theorem one_wd' (c k j n : Nat) (hck : c = 64 * k + j) (hj : j < 64) (hn : n ≠ k) : wd (fun i => i == c) n = 0 := by
  refine Eq.symm (bnum_eq fun i => ?_)
  simp
  omega

set_option maxHeartbeats 1000000 in
set_option maxRecDepth 20000 in
theorem setNot (p : Nat → Bool) (w : World) :
    Calls Tryd.prog 73 #[sp p] w fun e w' => e = .returned (sp fun j => !p j) ∧ Ext w w' := by
  unfold sp
  go_enter Tryd.func73, Tryd.ntmps73
  go_wp2
  go_loopw [4] (fun iv wr => ∃ i : Nat, i ≤ 4 ∧ iv = .int .i64 i ∧ Blk wr w.heap.size 25 (mix (wd p) (wd fun j => !p j) i) ∧ Blk wr (w.heap.size + 1) 25 (mix (fun _ => 0) (fun _ => 0) 0) ∧ Ext w wr) (fun iv _ => 4 - (intOf iv).toNat)
  case atStart => exact ⟨0, by omega, rfl, ((Blk.newA rfl _ _).alloc _), Blk.newA (by simp) _ _, by (first | exact Ext.refl _ | (unfold Ext; repeat (first | exact Below.refl _ _ | assumption | refine Below.alloc ?_ (by first | (simp; done) | (simp; omega) | omega) _ | refine Below.setCell ?_ (by first | (simp; done) | (simp; omega) | omega) _ | refine Below.drew ?_)))⟩
  case round =>
    obtain ⟨i, hi, rfl, hB, hD, hx⟩ := hrel
    have hi4 : i = 0 ∨ i = 1 ∨ i = 2 ∨ i = 3 ∨ i = 4 := by omega
    rcases hi4 with rfl | rfl | rfl | rfl | rfl
    focus
      have b0 := hB.cell 0
      have f0 := hB.frozen 0
      have r0 := not_wd p 0
      simp only [mix, List.getElem?_cons_zero] at b0
      have HB := Lib.hid hB
      have HD := Lib.hid hD
      clear hB hD
      go_wp2
      go_roundw
      case rel => exact ⟨1, by omega, by go_num, HB.out.set_ 0 _, HD.out.far (by simp) _, by (first | exact Ext.refl _ | (unfold Ext; repeat (first | exact Below.refl _ _ | assumption | refine Below.alloc ?_ (by first | (simp; done) | (simp; omega) | omega) _ | refine Below.setCell ?_ (by first | (simp; done) | (simp; omega) | omega) _ | refine Below.drew ?_)))⟩
      case measure => simp [intOf]
    focus
      have b0 := hB.cell 1
      have f0 := hB.frozen 1
      have r0 := not_wd p 1
      simp only [mix, List.getElem?_cons_zero, List.getElem?_cons_succ] at b0
      have HB := Lib.hid hB
      have HD := Lib.hid hD
      clear hB hD
      go_wp2
      go_roundw
      case rel => exact ⟨2, by omega, by go_num, HB.out.set_ 1 _, HD.out.far (by simp) _, by (first | exact Ext.refl _ | (unfold Ext; repeat (first | exact Below.refl _ _ | assumption | refine Below.alloc ?_ (by first | (simp; done) | (simp; omega) | omega) _ | refine Below.setCell ?_ (by first | (simp; done) | (simp; omega) | omega) _ | refine Below.drew ?_)))⟩
      case measure => simp [intOf]
    focus
      have b0 := hB.cell 2
      have f0 := hB.frozen 2
      have r0 := not_wd p 2
      simp only [mix, List.getElem?_cons_zero, List.getElem?_cons_succ] at b0
      have HB := Lib.hid hB
      have HD := Lib.hid hD
      clear hB hD
      go_wp2
      go_roundw
      case rel => exact ⟨3, by omega, by go_num, HB.out.set_ 2 _, HD.out.far (by simp) _, by (first | exact Ext.refl _ | (unfold Ext; repeat (first | exact Below.refl _ _ | assumption | refine Below.alloc ?_ (by first | (simp; done) | (simp; omega) | omega) _ | refine Below.setCell ?_ (by first | (simp; done) | (simp; omega) | omega) _ | refine Below.drew ?_)))⟩
      case measure => simp [intOf]
    focus
      have b0 := hB.cell 3
      have f0 := hB.frozen 3
      have r0 := not_wd p 3
      simp only [mix, List.getElem?_cons_zero, List.getElem?_cons_succ] at b0
      have HB := Lib.hid hB
      have HD := Lib.hid hD
      clear hB hD
      go_wp2
      go_roundw
      case rel => exact ⟨4, by omega, by go_num, HB.out.set_ 3 _, HD.out.far (by simp) _, by (first | exact Ext.refl _ | (unfold Ext; repeat (first | exact Below.refl _ _ | assumption | refine Below.alloc ?_ (by first | (simp; done) | (simp; omega) | omega) _ | refine Below.setCell ?_ (by first | (simp; done) | (simp; omega) | omega) _ | refine Below.drew ?_)))⟩
      case measure => simp [intOf]
    focus
      have b0 := hB.cell 0
      have b1 := hB.cell 1
      have b2 := hB.cell 2
      have b3 := hB.cell 3
      have d0 := hD.cell 0
      have d1 := hD.cell 1
      have d2 := hD.cell 2
      have d3 := hD.cell 3
      have f0 := hD.frozen 0
      have f1 := hD.frozen 1
      have f2 := hD.frozen 2
      have f3 := hD.frozen 3
      simp only [mix, List.getElem?_cons_zero, List.getElem?_cons_succ] at b0 b1 b2 b3 d0 d1 d2 d3
      have HB := Lib.hid hB
      have HD := Lib.hid hD
      clear hB hD
      go_wp2
      refine bodyPost_ret (v := sp fun j => !p j) ?_ rfl ⟨rfl, ?_⟩
      · rw [results_cell1 rfl]
        unfold sp
        go_simp
      · (first | exact Ext.refl _ | (unfold Ext; repeat (first | exact Below.refl _ _ | assumption | refine Below.alloc ?_ (by first | (simp; done) | (simp; omega) | omega) _ | refine Below.setCell ?_ (by first | (simp; done) | (simp; omega) | omega) _ | refine Below.drew ?_)))

set_option maxHeartbeats 1000000 in
set_option maxRecDepth 20000 in
theorem setOne (c : Nat) (hc : c < 256) (w : World) :
    Calls Tryd.prog 81 #[.int .u8 (c : Nat)] w fun e w' => e = .returned (sp fun j => j == c) ∧ Ext w w' := by
  obtain ⟨k, hk⟩ : ∃ k, c / 64 = k := ⟨_, rfl⟩
  obtain ⟨j, hj⟩ : ∃ j, c % 64 = j := ⟨_, rfl⟩
  have hck : c = 64 * k + j := by omega
  have hj6 : j < 64 := by omega
  have hk4 : k = 0 ∨ k = 1 ∨ k = 2 ∨ k = 3 := by omega
  have e1 : (c : Int).tdiv 64 = (k : Int) := by rw [← hk]; rfl
  have e2 : (c : Int).tmod 64 = (j : Int) := by rw [← hj]; rfl
  have e3 : IntKind.u64.wrap (2 ^ j) = (wd (fun j => j == c) k : Nat) := by
    rw [show ((2 : Int) ^ j) = ((2 ^ j : Nat) : Int) by simp, wrap_id64 _ (Nat.pow_lt_pow_of_lt (a := 2) (m := 64) (by omega) hj6), one_wd c k j hck hj6]
  have e4 : ∀ n, n ≠ k → wd (fun j => j == c) n = 0 := fun n hnk => one_wd' c k j n hck hj6 hnk
  unfold sp
  clear hk hj hck
  rcases hk4 with rfl | rfl | rfl | rfl
  all_goals
    go_enter Tryd.func81, Tryd.ntmps81
    go_wp2
    refine bodyPost_ret (v := sp fun j => j == c) ?_ rfl ⟨rfl, by (first | exact Ext.refl _ | (unfold Ext; repeat (first | exact Below.refl _ _ | assumption | refine Below.alloc ?_ (by first | (simp; done) | (simp; omega) | omega) _ | refine Below.setCell ?_ (by first | (simp; done) | (simp; omega) | omega) _ | refine Below.drew ?_)))⟩
    rw [results_cell1 rfl]
    unfold sp
    (try rw [e4 0 (by omega)])
    (try rw [e4 1 (by omega)])
    (try rw [e4 2 (by omega)])
    (try rw [e4 3 (by omega)])
    go_simp
end Go.Proofs.YthjnbpfbhmfopaaDoor
