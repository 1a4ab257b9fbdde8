/- The document's sets: Or, From, In, Len, least. -/
import Derived.Test.YthjnbpfbhmfopaaDoorCl6
namespace Go.Proofs.YthjnbpfbhmfopaaDoor
open Go Go.RowKit

set_option maxHeartbeats 1000000 in
set_option maxRecDepth 20000 in
theorem refOr (p q : Nat → Bool) (w : World) :
    Calls Tryd.prog 56 #[bp p, bp q] w fun e w' => e = .returned (bp fun j => p j || q j) ∧ Ext w w' := by
  unfold bp
  go_enter Tryd.func56, Tryd.ntmps56
  go_wp2
  go_loopw [6] (fun iv wr => ∃ i : Nat, i ≤ 256 ∧ iv = .int .i64 i ∧ BB wr w.heap.size (fun j => if j < i then p j || q j else p j) ∧ BB wr (w.heap.size + 1) q ∧ BB wr (w.heap.size + 2) (fun _ => false) ∧ Ext w wr) (fun iv _ => 256 - (intOf iv).toNat)
  case atStart => exact ⟨0, by omega, rfl, (((BB.new rfl p).alloc _).alloc _).congr (fun c hc => by simp), (BB.new (by simp) q).alloc _, BB.zero (by simp), by (first | exact Ext.refl _ | (unfold Ext; repeat (first | exact Below.refl _ _ | assumption | refine Below.alloc ?_ (by first | (simp; done) | (simp; omega) | omega) _ | refine Below.setCell ?_ (by first | (simp; done) | (simp; omega) | omega) _ | refine Below.drew ?_)))⟩
  case round =>
    obtain ⟨i, hi, rfl, hB, hC, hD, hx⟩ := hrel
    by_cases hlt : i < 256
    · have b0 := hB.cell hlt
      have c0 := hC.cell hlt
      have f0 := hB.frozen i
      have hlt' : (i : Int) < 256 := by omega
      simp only [Nat.lt_irrefl, if_false] at b0
      have HB := Lib.hid hB
      have HC := Lib.hid hC
      have HD := Lib.hid hD
      clear hB hC hD
      obtain ⟨x, hx1⟩ : ∃ x, p i = x := ⟨_, rfl⟩
      obtain ⟨y, hy1⟩ : ∃ y, q i = y := ⟨_, rfl⟩
      rw [hx1] at b0
      rw [hy1] at c0
      have HX := Lib.hid hx1
      have HY := Lib.hid hy1
      clear hx1 hy1
      cases x
      · go_wp2
        go_roundw
        case rel => exact ⟨i + 1, by omega, by go_num, (HB.out.set_ i y).congr (fun c hc => by by_cases h : c = i; (subst h; simp [HX.out, HY.out]); (by_cases h2 : c < i <;> simp [h, h2] <;> omega)), HC.out.far (by simp) _, HD.out.far (by simp) _, by (first | exact Ext.refl _ | (unfold Ext; repeat (first | exact Below.refl _ _ | assumption | refine Below.alloc ?_ (by first | (simp; done) | (simp; omega) | omega) _ | refine Below.setCell ?_ (by first | (simp; done) | (simp; omega) | omega) _ | refine Below.drew ?_)))⟩
        case measure => simp [intOf]; omega
      · go_wp2
        go_roundw
        case rel => exact ⟨i + 1, by omega, by go_num, (HB.out.set_ i true).congr (fun c hc => by by_cases h : c = i; (subst h; simp [HX.out, HY.out]); (by_cases h2 : c < i <;> simp [h, h2] <;> omega)), HC.out.far (by simp) _, HD.out.far (by simp) _, by (first | exact Ext.refl _ | (unfold Ext; repeat (first | exact Below.refl _ _ | assumption | refine Below.alloc ?_ (by first | (simp; done) | (simp; omega) | omega) _ | refine Below.setCell ?_ (by first | (simp; done) | (simp; omega) | omega) _ | refine Below.drew ?_)))⟩
        case measure => simp [intOf]; omega
    · obtain rfl : i = 256 := by omega
      have HB := hB.congr (q := fun j => p j || q j) (fun c hc => by simp [hc])
      clear hB
      go_wp2_with (first | (refine load_set rfl (.tmp 2) rfl (g := w.heap.size) rfl HB ?_) | (refine store_set rfl (.tmp 4) (.tmp 20) rfl (g := w.heap.size + 2) rfl rfl hD ?_))
      exact bodyPost_ret (v := bp fun j => p j || q j) (results_set rfl _ _ (w.heap.size + 2) _ (by simp [Act.put]) (hD.row _)) rfl ⟨rfl, hx.row _ _ (by omega)⟩

set_option maxHeartbeats 1000000 in
set_option maxRecDepth 20000 in
theorem refFrom (a b : Nat) (ha : a < 256) (hb : b < 256) (w : World) :
    Calls Tryd.prog 38 #[.int .i64 (a : Nat), .int .i64 (b : Nat)] w fun e w' => e = .returned (bp fun j => decide (a ≤ j) && decide (j ≤ b)) ∧ Ext w w' := by
  go_enter Tryd.func38, Tryd.ntmps38
  go_wp2_with (refine store_set rfl (.tmp 5) (.tmp 7) rfl (g := w.heap.size + 1) (q := fun _ => false) rfl (by rw [← zero28]; rfl) (BB.zero (by simp)) ?_)
  go_loopw [6] (fun iv wr => ∃ i : Nat, i ≤ 256 ∧ a ≤ i ∧ (i = a ∨ i ≤ b + 1) ∧ iv = .int .i64 i ∧ BB wr (w.heap.size + 1) (fun j => decide (a ≤ j) && decide (j < i)) ∧ BB wr w.heap.size (fun _ => false) ∧ Ext w wr) (fun iv _ => 256 - (intOf iv).toNat)
  case atStart => exact ⟨a, by omega, Nat.le_refl _, .inl rfl, rfl, ((BB.zero (w := w.alloc (.cells Tryd.zeroCells37 37)) (g := w.heap.size + 1) (by simp)).row _).congr (fun c hc => by first | (simp; done) | (simp; omega)), ((BB.zero rfl).alloc _).rowFar _ (by omega), Ext.row (by (first | exact Ext.refl _ | (unfold Ext; repeat (first | exact Below.refl _ _ | assumption | refine Below.alloc ?_ (by first | (simp; done) | (simp; omega) | omega) _ | refine Below.setCell ?_ (by first | (simp; done) | (simp; omega) | omega) _ | refine Below.drew ?_)))) _ _ (by omega)⟩
  case round =>
    obtain ⟨i, hi, hai, hib, rfl, hB, hD, hx⟩ := hrel
    by_cases hlt : i ≤ b
    · have b0 := hB.cell (j := i) (by omega)
      have f0 := hB.frozen i
      have hlt' : (i : Int) < 256 := by omega
      have hle' : (i : Int) ≤ (b : Int) := by omega
      have HB := Lib.hid hB
      have HD := Lib.hid hD
      clear hB hD
      go_wp2
      go_roundw
      case rel => exact ⟨i + 1, by omega, by omega, .inr (by omega), by go_num, (HB.out.set_ i true).congr (fun c hc => by by_cases h : c = i; (subst h; simp; omega); (by_cases h2 : c < i <;> simp [h, h2] <;> omega)), HD.out.far (by simp) _, by (first | exact Ext.refl _ | (unfold Ext; repeat (first | exact Below.refl _ _ | assumption | refine Below.alloc ?_ (by first | (simp; done) | (simp; omega) | omega) _ | refine Below.setCell ?_ (by first | (simp; done) | (simp; omega) | omega) _ | refine Below.drew ?_)))⟩
      case measure => simp [intOf]; omega
    · have HB := hB.congr (q := fun j => decide (a ≤ j) && decide (j ≤ b)) (fun c hc => by rw [Bool.eq_iff_iff]; simp only [Bool.and_eq_true, decide_eq_true_eq]; omega)
      have hle' : ¬ (i : Int) ≤ (b : Int) := by omega
      clear hB
      go_wp2_with (first | (refine load_set rfl (.tmp 5) rfl (g := w.heap.size + 1) rfl HB ?_) | (refine store_set rfl (.tmp 4) (.tmp 16) rfl (g := w.heap.size) rfl rfl hD ?_))
      exact bodyPost_ret (v := bp fun j => decide (a ≤ j) && decide (j ≤ b)) (results_set rfl _ _ w.heap.size _ (by simp) (hD.row _)) rfl ⟨rfl, hx.row _ _ (by omega)⟩

set_option maxHeartbeats 1000000 in
set_option maxRecDepth 20000 in
theorem refIn (l : List UInt8) (hl : l.length ≤ 1000000) (w : World) :
    Calls Tryd.prog 37 #[.string ⟨l.toArray⟩] w fun e w' => e = .returned (bp fun j => l.any fun c => c.toNat == j) ∧ Ext w w' := by
  go_enter Tryd.func37, Tryd.ntmps37
  go_wp2_with (refine store_set rfl (.tmp 3) (.tmp 5) rfl (g := w.heap.size + 1) (q := fun _ => false) rfl (by rw [← zero28]; rfl) (BB.zero (by simp)) ?_)
  go_loopw [4] (fun iv wr => ∃ i : Nat, i ≤ l.length ∧ iv = .int .i64 i ∧ BB wr (w.heap.size + 1) (fun j => (l.take i).any fun c => c.toNat == j) ∧ BB wr w.heap.size (fun _ => false) ∧ Ext w wr) (fun iv _ => l.length - (intOf iv).toNat)
  case atStart => exact ⟨0, by omega, rfl, ((BB.zero (w := w.alloc (.cells Tryd.zeroCells37 37)) (g := w.heap.size + 1) (by simp)).row _).congr (fun c hc => by simp), ((BB.zero rfl).alloc _).rowFar _ (by omega), Ext.row (by (first | exact Ext.refl _ | (unfold Ext; repeat (first | exact Below.refl _ _ | assumption | refine Below.alloc ?_ (by first | (simp; done) | (simp; omega) | omega) _ | refine Below.setCell ?_ (by first | (simp; done) | (simp; omega) | omega) _ | refine Below.drew ?_)))) _ _ (by omega)⟩
  case round =>
    obtain ⟨i, hi, rfl, hB, hD, hx⟩ := hrel
    by_cases hlt : i < l.length
    · obtain ⟨c, hc⟩ : ∃ c, l[i]'hlt = c := ⟨_, rfl⟩
      have hc6 : (c.toNat : Int) < 256 := by have := UInt8.toNat_lt c; omega
      have b0 := hB.cell (j := c.toNat) (by omega)
      have f0 := hB.frozen c.toNat
      have hlt' : (i : Int) < (l.length : Int) := by omega
      have HB := Lib.hid hB
      have HD := Lib.hid hD
      have ht : l.take (i + 1) = l.take i ++ [c] := by rw [List.take_succ_eq_append_getElem hlt, hc]
      have HT := Lib.hid ht
      clear hB hD ht
      go_wp2
      go_roundw
      case rel => exact ⟨i + 1, by omega, by go_num, (HB.out.set_ c.toNat true).congr (fun d hd => by rw [HT.out, List.any_append]; by_cases h : d = c.toNat; (subst h; simp); (have h' : ¬ c.toNat = d := fun e => h e.symm); simp [h, h']), HD.out.far (by simp) _, by (first | exact Ext.refl _ | (unfold Ext; repeat (first | exact Below.refl _ _ | assumption | refine Below.alloc ?_ (by first | (simp; done) | (simp; omega) | omega) _ | refine Below.setCell ?_ (by first | (simp; done) | (simp; omega) | omega) _ | refine Below.drew ?_)))⟩
      case measure => simp [intOf]; omega
    · obtain rfl : i = l.length := by omega
      rw [List.take_length] at hB
      go_wp2_with (first | (refine load_set rfl (.tmp 3) rfl (g := w.heap.size + 1) rfl hB ?_) | (refine store_set rfl (.tmp 2) (.tmp 16) rfl (g := w.heap.size) rfl rfl hD ?_))
      exact bodyPost_ret (v := bp fun j => l.any fun c => c.toNat == j) (results_set rfl _ _ w.heap.size _ (by simp [Act.put]) (hD.row _)) rfl ⟨rfl, hx.row _ _ (by omega)⟩

/-- A set by value, indexed. -/
theorem ix_set (p : Nat → Bool) (i : Nat) (hi : i < 256) (w : World) : (Instr.index 37 (.agg (bcs p)) (.int .i64 (i : Nat))).run Tryd.prog w = .ok (.bool (p i)) w :=
  run_index_arr _ _ 256 _ i _ Tryd.underlying37 (by kernel_rfl) (fun w => by kernel_rfl) hi (bcs_get p hi) w

set_option maxHeartbeats 1000000 in
set_option maxRecDepth 20000 in
theorem refLen (p : Nat → Bool) (w : World) :
    Calls Tryd.prog 46 #[bp p] w fun e w' => e = .returned (.int .i64 (cnt p 256 : Nat)) ∧ Ext w w' := by
  unfold bp
  go_enter Tryd.func46, Tryd.ntmps46
  go_wp2_with (refine load_set rfl (.tmp 1) rfl (g := w.heap.size) rfl (BB.new rfl p) ?_)
  go_loopw [3, 7] (fun n iv wr => ∃ i : Nat, i ≤ 256 ∧ iv = .int .i64 i ∧ n = .int .i64 (cnt p i : Nat) ∧ Ext w wr) (fun _ iv _ => 256 - (intOf iv).toNat)
  case atStart => exact ⟨0, by omega, rfl, rfl, by (first | exact Ext.refl _ | (unfold Ext; repeat (first | exact Below.refl _ _ | assumption | refine Below.alloc ?_ (by first | (simp; done) | (simp; omega) | omega) _ | refine Below.setCell ?_ (by first | (simp; done) | (simp; omega) | omega) _ | refine Below.drew ?_)))⟩
  case round =>
    obtain ⟨i, hi, rfl, rfl, hx⟩ := hrel
    obtain ⟨m, hm⟩ : ∃ m, cnt p i = m := ⟨_, rfl⟩
    have hm6 : m ≤ 256 := by rw [← hm]; exact Nat.le_trans (cnt_le _ _) hi
    by_cases hlt : i < 256
    · obtain ⟨x, hx1⟩ : ∃ x, p i = x := ⟨_, rfl⟩
      have hs : cnt p (i + 1) = m + (if x then 1 else 0) := by rw [cnt, hm, hx1]
      have i0 : ∀ w, (Instr.index 37 (.agg (bcs p)) (.int .i64 (i : Nat))).run Tryd.prog w = .ok (.bool x) w := fun w => by rw [ix_set p i hlt w, hx1]
      have hlt' : (i : Int) < 256 := by omega
      have HS := Lib.hid hs
      rw [hm]
      clear hs hm hx1
      cases x
      · go_wp2
        go_roundw
        case rel => exact ⟨i + 1, by omega, by go_num, by rw [HS.out]; simp, hx⟩
        case measure => simp [intOf]; omega
      · go_wp2
        go_roundw
        case rel => exact ⟨i + 1, by omega, by go_num, by rw [HS.out]; go_num, hx⟩
        case measure => simp [intOf]; omega
    · obtain rfl : i = 256 := by omega
      go_wp2
      go_ret
      exact ⟨by simp, hx⟩

set_option maxHeartbeats 1000000 in
set_option maxRecDepth 20000 in
theorem refLeast (p : Nat → Bool) (m : Nat) (hm : m < 256) (hp : p m = true) (hl : ∀ j, j < m → p j = false) (w : World) :
    Calls Tryd.prog 48 #[bp p] w fun e w' => e = .returned (.int .i64 (m : Nat)) ∧ Ext w w' := by
  unfold bp
  have HL := Lib.hid hl
  have HP := Lib.hid hp
  clear hl hp
  go_enter Tryd.func48, Tryd.ntmps48
  go_wp2_with (refine load_set rfl (.tmp 1) rfl (g := w.heap.size) rfl (BB.new rfl p) ?_)
  go_loopw [6] (fun iv wr => ∃ i : Nat, i ≤ m ∧ iv = .int .i64 i ∧ Ext w wr) (fun iv _ => 256 - (intOf iv).toNat)
  case atStart => exact ⟨0, by omega, rfl, by (first | exact Ext.refl _ | (unfold Ext; repeat (first | exact Below.refl _ _ | assumption | refine Below.alloc ?_ (by first | (simp; done) | (simp; omega) | omega) _ | refine Below.setCell ?_ (by first | (simp; done) | (simp; omega) | omega) _ | refine Below.drew ?_)))⟩
  case round =>
    obtain ⟨i, hi, rfl, hx⟩ := hrel
    have hlt' : (i : Int) < 256 := by omega
    by_cases hlt : i < m
    · have i0 : ∀ w, (Instr.index 37 (.agg (bcs p)) (.int .i64 (i : Nat))).run Tryd.prog w = .ok (.bool false) w := fun w => by rw [ix_set p i (by omega) w, HL.out i hlt]
      go_wp2
      go_roundw
      case rel => exact ⟨i + 1, by omega, by go_num, hx⟩
      case measure => simp [intOf]; omega
    · obtain rfl : i = m := by omega
      have i0 : ∀ w, (Instr.index 37 (.agg (bcs p)) (.int .i64 (i : Nat))).run Tryd.prog w = .ok (.bool true) w := fun w => by rw [ix_set p i (by omega) w, HP.out]
      go_wp2
      go_ret
      exact ⟨by simp, hx⟩
end Go.Proofs.YthjnbpfbhmfopaaDoor
