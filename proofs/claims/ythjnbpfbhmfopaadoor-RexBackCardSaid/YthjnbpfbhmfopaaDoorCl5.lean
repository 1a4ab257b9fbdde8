/- Sets as four words: Len, All, Range. -/
import Derived.Test.YthjnbpfbhmfopaaDoorCl4
namespace Go.Proofs.YthjnbpfbhmfopaaDoor
open Go Go.RowKit

theorem cnt_word (p : Nat → Bool) (k : Nat) : cnt p (64 * (k + 1)) = cnt p (64 * k) + cnt (fun j => (wd p k).testBit j) 64 := by
  rw [Nat.mul_add, Nat.mul_one, cnt_add]
  congr 1
  exact cnt_congr fun j hj => by rw [wd_bit]; simp [hj]

/-- 'a[i]' of an array of one-cell elements, by value. -/
theorem run_index_arr {P : Program} (t e : TypeId) (n : Nat) (cs : Array Value) (i : Nat) (v : Value) (h : P.underlying t = some (.array n e)) (he : (P.info? e).map (·.size) = some 1) (ha : ∀ w, (isAgg e).run P w = .ok false w) (hi : i < n) (hv : cs[i]? = some v) (w : World) :
    (Instr.index t (.agg cs) (.int .i64 (i : Nat))).run P w = .ok v w := by
  cases hq : P.info? e with
  | none => simp [hq] at he
  | some d =>
    simp [hq] at he
    simp [Instr.index, run_underlying h, asIntOf, go_sem, part, sizeOf, typeInfo, hq, he, ha, hv]
    omega

set_option maxHeartbeats 1000000 in
set_option maxRecDepth 20000 in
theorem setLen (p : Nat → Bool) (w : World) :
    Calls Tryd.prog 63 #[sp p] w fun e w' => e = .returned (.int .i64 (cnt p 256 : Nat)) ∧ Ext w w' := by
  have ix : ∀ (i : Nat) (w : World), i < 4 → (Instr.index 25 (sp p) (.int .i64 (i : Nat))).run Tryd.prog w = .ok (.int .u64 (wd p i : Nat)) w :=
    fun i w hi => run_index_arr _ _ 4 _ i _ Tryd.underlying25 (by kernel_rfl) (fun w => by kernel_rfl) hi (by
      have h4 : i = 0 ∨ i = 1 ∨ i = 2 ∨ i = 3 := by omega
      rcases h4 with rfl | rfl | rfl | rfl <;> rfl) w
  have IX := Lib.hid ix
  clear ix
  unfold sp at IX ⊢
  go_enter Tryd.func63, Tryd.ntmps63
  go_wp2
  go_loopw [3, 7] (fun n i wr => ∃ (k : Nat), k ≤ 4 ∧ i = .int .i64 k ∧ n = .int .i64 (cnt p (64 * k) : Nat) ∧ Ext w wr) (fun _ i _ => 4 - (intOf i).toNat)
  case atStart => exact ⟨0, by omega, rfl, rfl, by (first | exact Ext.refl _ | (unfold Ext; repeat (first | exact Below.refl _ _ | assumption | refine Below.alloc ?_ (by first | (simp; done) | (simp; omega) | omega) _ | refine Below.setCell ?_ (by first | (simp; done) | (simp; omega) | omega) _ | refine Below.drew ?_)))⟩
  case round =>
    obtain ⟨k, hk, rfl, rfl, hx⟩ := hrel
    obtain ⟨m, hm⟩ : ∃ m, cnt p (64 * k) = m := ⟨_, rfl⟩
    have hm6 : m ≤ 256 := by rw [← hm]; exact Nat.le_trans (cnt_le _ _) (by omega)
    rw [hm]
    by_cases hlt : k < 4
    · obtain ⟨n, hn⟩ : ∃ n, cnt (fun j => (wd p k).testBit j) 64 = n := ⟨_, rfl⟩
      have hn6 : n ≤ 64 := by rw [← hn]; exact cnt_le _ _
      have hs : cnt p (64 * (k + 1)) = m + n := by rw [cnt_word, hm, hn]
      have HS := Lib.hid hs
      have HN := Lib.hid hn
      have i0 := fun w => IX.out k w hlt
      clear hm hs hn
      go_wp2_with (go_at_call 69; refine (ones (wd p k) (wd_lt _ _) _).mono ?_; rintro e w1 ⟨rfl, rfl⟩; rw [HN.out])
      go_roundw
      case rel => exact ⟨k + 1, by omega, by go_num, by rw [HS.out]; go_num, by (first | exact Ext.refl _ | (unfold Ext; repeat (first | exact Below.refl _ _ | assumption | refine Below.alloc ?_ (by first | (simp; done) | (simp; omega) | omega) _ | refine Below.setCell ?_ (by first | (simp; done) | (simp; omega) | omega) _ | refine Below.drew ?_)))⟩
      case measure => simp [intOf]; omega
    · obtain rfl : k = 4 := by omega
      have HM := Lib.hid hm
      clear hm
      go_wp2
      go_ret
      exact ⟨by rw [show cnt p 256 = m from HM.out]; simp, hx⟩

theorem sp_empty : sp (fun _ => false) = .agg #[.int .u64 0, .int .u64 0, .int .u64 0, .int .u64 0] := by
  have e : ∀ k, wd (fun _ => false) k = 0 := fun k => Eq.symm (bnum_eq fun i => by simp)
  unfold sp
  rw [e, e, e, e]
  rfl
set_option maxHeartbeats 1000000 in
set_option maxRecDepth 20000 in
theorem setAll (w : World) :
    Calls Tryd.prog 65 #[] w fun e w' => e = .returned (sp fun _ => true) ∧ Ext w w' := by
  go_enter Tryd.func65, Tryd.ntmps65
  go_wp2_with (go_at_call 73; have h := setNot (fun _ => false) (w.alloc (.cells #[.int .u64 0, .int .u64 0, .int .u64 0, .int .u64 0] 25)); rw [sp_empty] at h; refine h.mono ?_; rintro e w1 ⟨rfl, hx1⟩; simp only [Bool.not_false]; unfold sp; have hD := (Blk.newA (w := w) rfl 25 (mix (fun _ => 0) (fun _ => 0) 0)).keep hx1; have d0 := hD.cell 0; have d1 := hD.cell 1; have d2 := hD.cell 2; have d3 := hD.cell 3; have f0 := hD.frozen 0; have f1 := hD.frozen 1; have f2 := hD.frozen 2; have f3 := hD.frozen 3; simp only [mix, List.getElem?_cons_zero, List.getElem?_cons_succ] at d0 d1 d2 d3; have hx := (Ext.new1 _ _).trans hx1; have HD := Lib.hid hD; have HX1 := Lib.hid hx1; clear hD hx1)
  all_goals
    refine bodyPost_ret (v := sp fun _ => true) ?_ rfl ⟨rfl, by (first | exact Ext.refl _ | (unfold Ext; repeat (first | exact Below.refl _ _ | assumption | refine Below.alloc ?_ (by first | (simp; done) | (simp; omega) | omega) _ | refine Below.setCell ?_ (by first | (simp; done) | (simp; omega) | omega) _ | refine Below.drew ?_)))⟩
    rw [results_cell1 rfl]
    unfold sp
    go_simp
end Go.Proofs.YthjnbpfbhmfopaaDoor
