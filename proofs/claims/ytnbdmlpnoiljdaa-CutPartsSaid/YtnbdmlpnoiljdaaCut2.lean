/- layer 39: size, marked, Right. -/
import Derived.Test.YtnbdmlpnoiljdaaCut1
namespace Go.Proofs.Ytnbdmlpnoiljdaa
open Go Go.RowKit

def evA (e : Ev) (vb vm : Value) : Value := .agg #[.int .i64 e.kind, .int .i64 e.n, vb, vm]

set_option maxHeartbeats 1000000 in
theorem cutSize {w : World} {X : List Nat} {e : Ev} {vb vm : Value} (h : EvOk w X e vb vm) :
    Calls Try.prog 32 #[evA e vb vm] w fun r w' => r = .returned (.int .i64 (sizeE e)) ∧ Ext w w' := by
  obtain ⟨A, c, B, d, rfl, rfl, h1, h2, h3, h4, hb, hm⟩ := h.open
  obtain ⟨k, n, b, m⟩ := e
  unfold evA
  simp only at *
  clear hb hm h
  by_cases hk1 : k = 1
  · subst hk1
    go_enter Try.func32, Try.ntmps32
    go_wp2
    go_ret
    exact ⟨rfl, Ext.new1 _ _⟩
  · by_cases hk3 : k = 3
    · subst hk3
      go_enter Try.func32, Try.ntmps32
      go_wp2
      go_ret
      exact ⟨rfl, Ext.new1 _ _⟩
    · have hs : sizeE ⟨k, n, b, m⟩ = -1 := by unfold sizeE; rw [if_neg hk1, if_neg hk3]
      have hk1' : (k == 1) = false := by simpa using hk1
      have hk3' : (k == 3) = false := by simpa using hk3
      rw [hs]
      clear hk1 hk3 hs
      go_enter Try.func32, Try.ntmps32
      go_wp2
      go_ret
      exact ⟨rfl, Ext.new1 _ _⟩

set_option maxHeartbeats 2000000 in
set_option maxRecDepth 20000 in
theorem rawMarked {w : World} {X : List Nat} {e : Ev} {vb vm : Value} (h : EvOk w X e vb vm) (r : Bool) (hrb : risA (-1) e.b.length e.m = r) :
    Calls Try.prog 36 #[evA e vb vm] w fun r' w' => r' = .returned (.bool r) ∧ Ext w w' := by
  obtain ⟨A, c, B, d, rfl, rfl, h1, h2, h3, h4, hb, hr⟩ := h.open
  obtain ⟨k, en, b, L⟩ := e
  unfold evA
  simp only at *
  obtain ⟨many, hmany⟩ : ∃ many, b.length = many := ⟨_, rfl⟩
  obtain ⟨n, hn⟩ : ∃ n, L.length = n := ⟨_, rfl⟩
  rw [hmany] at hrb hb h1 ⊢
  rw [hn] at hr h3 ⊢
  have HR := Lib.hid hrb
  have HL := Lib.hid hn
  have hr1 := hr.keep (Ext.new1 w (.cells #[.int .i64 k, .int .i64 en, .slice A many c, .slice B n d] 43))
  have e2 := (Blk.newL w 43 [.int .i64 k, .int .i64 en, .slice A many c, .slice B n d]).cell 2
  have e3 := (Blk.newL w 43 [.int .i64 k, .int .i64 en, .slice A many c, .slice B n d]).cell 3
  have hmx : many ≤ 9223372036854775807 := by unfold maxLen at h2; omega
  have hnx : n ≤ 9223372036854775807 := by unfold maxLen at h4; omega
  have hB1 := Ext.new1 w (.cells #[.int .i64 k, .int .i64 en, .slice A many c, .slice B n d] 43)
  clear hrb hn hr hb h hmany h1 h2 h3 h4
  go_enter Try.func36, Try.ntmps36
  go_wp2
  generalize w.heap.size = g at *
  generalize (w.alloc (.cells #[.int .i64 k, .int .i64 en, .slice A many c, .slice B n d] 43)) = w1 at *
  go_loop [8] (fun i => ∃ (k : Nat) (last : Int), k ≤ n ∧ i = .int .i64 k ∧ risA last many (L.drop k) = r ∧ -1 ≤ last ∧ (k = 0 ∧ last = -1 ∨ ∃ j, k = j + 1 ∧ L[j]? = some last)) (fun i => n - (intOf i).toNat)
  case atStart => exact ⟨0, -1, Nat.zero_le _, rfl, HR.out, by omega, .inl ⟨rfl, rfl⟩⟩
  case round =>
    obtain ⟨k, last, hk, rfl, hris, hl1, hlast⟩ := hrel
    by_cases hlt : k < n
    · have hkL : k < L.length := by rw [HL.out]; exact hlt
      obtain ⟨b, o, rfl, hb, hc⟩ := hr1.2 (by simp [intsV]; omega)
      obtain ⟨x, hx⟩ : ∃ x, L[k]? = some x := ⟨_, List.getElem?_eq_getElem hkL⟩
      have hxe : L[k] = x := by rw [List.getElem?_eq_getElem hkL] at hx; exact Option.some.inj hx
      have hcx : w1.cell? ⟨b, o + k, none⟩ = some (.int .i64 x) := hc k _ (by simp [intsV, hx])
      rw [List.drop_eq_getElem_cons hkL, hxe] at hris
      simp only [risA] at hris
      have hcell : ∀ j, L[j]? = some last → w1.cell? ⟨b, o + j, none⟩ = some (.int .i64 last) := fun j hj => hc j _ (by simp [intsV, hj])
      have HX := Lib.hid hx
      have HRS := Lib.hid hris
      have HC := Lib.hid hcell
      clear hx hxe hris hc hcell hr1
      by_cases hbad : x < 0 ∨ (many : Int) ≤ x ∨ x ≤ last
      · have hf : r = false := by
          rw [← HRS.out]
          by_cases h1 : last < x
          · rw [decide_eq_false (p := x < (many : Int)) (by omega)]; simp
          · rw [decide_eq_false h1]; rfl
        subst hf
        by_cases h1 : x < 0
        · clear hlast
          go_wp2
          go_ret
          exact ⟨rfl, hB1⟩
        · by_cases h2 : (many : Int) ≤ x
          · clear hlast
            go_wp2
            go_ret
            exact ⟨rfl, hB1⟩
          · have h3 : x ≤ last := by omega
            have h4 : x < (many : Int) := by omega
            rcases hlast with ⟨rfl, rfl⟩ | ⟨j, rfl, hj⟩
            · omega
            · have hcj := HC.out j hj
              clear hj hbad
              go_wp2
              go_ret
              exact ⟨rfl, hB1⟩
      · have h1 : ¬ x < 0 := by omega
        have h2 : x < (many : Int) := by omega
        have h3 : last < x := by omega
        have hn : risA x many (L.drop (k + 1)) = r := by
          have := HRS.out
          rw [decide_eq_true h3, decide_eq_true h2] at this
          exact this
        have HN := Lib.hid hn
        clear hn hbad
        rcases hlast with ⟨rfl, rfl⟩ | ⟨j, rfl, hj⟩
        · simp only [Nat.add_zero] at hcx
          go_wp2
          go_round
          case rel => exact ⟨1, x, by omega, by go_num, HN.out, by omega, .inr ⟨0, rfl, HX.out⟩⟩
          case measure => simp [intOf]; omega
        · have hcj := HC.out j hj
          clear hj
          go_wp2
          go_round
          case rel => exact ⟨j + 1 + 1, x, by omega, by go_num, HN.out, by omega, .inr ⟨j + 1, rfl, HX.out⟩⟩
          case measure => simp [intOf]; omega
    · obtain rfl : k = n := by omega
      have ht : r = true := by rw [← hris, List.drop_of_length_le (by rw [HL.out]; exact Nat.le_refl _)]; rfl
      subst ht
      clear hris hlast
      go_wp2
      go_ret
      exact ⟨rfl, hB1⟩

set_option maxHeartbeats 2000000 in
set_option maxRecDepth 20000 in
theorem rawRight {w : World} {X : List Nat} {e : Ev} {vb vm : Value} (h : EvOk w X e vb vm) (r : Bool) (hrb : rightE e = r) :
    Calls Try.prog 28 #[evA e vb vm] w fun r' w' => r' = .returned (.bool r) ∧ Ext w w' := by
  have h' := h.keep (Ext.new1 w (.cells (evV e vb vm).toArray 43))
  obtain ⟨A, c, B, d, rfl, rfl, h1, h2, h3, h4, hb, hm⟩ := h.open
  obtain ⟨k, en, b, L⟩ := e
  have HH := Lib.hid h'
  unfold evA
  unfold maxLen at h2 h4
  simp only [evV] at *
  clear hb hm h h'
  have HX1 := Ext.new1 w (.cells #[.int .i64 k, .int .i64 en, .slice A b.length c, .slice B L.length d] 43)
  by_cases hk1 : k = 1
  · subst hk1
    by_cases hn0 : en = 0
    · by_cases hbl : b.length ≤ 1024
      · obtain ⟨q, hq⟩ : ∃ q, risA (-1) b.length L = q := ⟨_, rfl⟩
        have hr : r = q := by rw [← hrb]; unfold rightE; simp [hn0, hbl, hq]
        have HQ := Lib.hid hq
        subst hr hn0
        clear hrb hq
        go_enter Try.func28, Try.ntmps28
        go_wp2_with (go_at_call 36; refine (rawMarked HH.out r HQ.out).mono ?_; rintro e' w1 ⟨rfl, hb1⟩)
        go_ret
        exact ⟨by simp, HX1.trans hb1⟩
      · have hr : r = false := by rw [← hrb]; unfold rightE; simp [hbl]
        subst hr hn0
        have hbl' : ¬ (b.length : Int) ≤ 1024 := by omega
        clear hrb hbl
        go_enter Try.func28, Try.ntmps28
        go_wp2
        go_ret
        exact ⟨by simp, HX1⟩
    · have hr : r = false := by rw [← hrb]; unfold rightE; simp [hn0]
      subst hr
      have hn0' : (en == 0) = false := by simpa using hn0
      clear hrb hn0
      go_enter Try.func28, Try.ntmps28
      go_wp2
      go_ret
      exact ⟨by simp, HX1⟩
  have hk1' : (k == 1) = false := by simpa using hk1
  have hsum : (wrap64 ((b.length : Int) + L.length) == 0) = decide (b = [] ∧ L = []) := by
    unfold wrap64
    cases b with
    | nil => cases L with
      | nil => rfl
      | cons x y => simp at h3 ⊢; omega
    | cons x y => simp at h1 ⊢; omega
  obtain ⟨z, hz⟩ : ∃ z, decide (b = [] ∧ L = []) = z := ⟨_, rfl⟩
  rw [hz] at hsum
  by_cases hk2 : k = 2 ∨ k = 3
  · have hr : r = (decide (0 ≤ en) && (decide (en ≤ 9999) && z)) := by
      rw [← hrb, ← hz]; unfold rightE; rw [if_neg hk1, if_pos hk2]
      by_cases h0 : 0 ≤ en <;> by_cases h9 : en ≤ 9999 <;> simp [h0, h9]
    have HR := Lib.hid hr
    clear hrb hz hr hk1
    rcases hk2 with rfl | rfl
    all_goals
      go_enter Try.func28, Try.ntmps28
      go_wp2
      all_goals go_ret
      all_goals exact ⟨by rw [HR.out]; by_cases h0 : 0 ≤ en <;> by_cases h9 : en ≤ 9999 <;> first | omega | simp [h0, h9], HX1⟩
  · have hk2' : (k == 2) = false := by simp; omega
    have hk3' : (k == 3) = false := by simp; omega
    by_cases hk4 : k = 4
    · have hr : r = (decide (en = 0) && z) := by
        rw [← hrb, ← hz]; unfold rightE; rw [if_neg hk1, if_neg hk2, if_pos hk4]
        by_cases h0 : en = 0 <;> simp [h0]
      have HR := Lib.hid hr
      clear hrb hz hr hk1 hk2
      subst hk4
      by_cases h0 : en = 0
      · subst h0
        go_enter Try.func28, Try.ntmps28
        go_wp2
        go_ret
        exact ⟨by rw [HR.out]; simp, HX1⟩
      · have h0' : (en == 0) = false := by simpa using h0
        have hrf : r = false := by rw [HR.out, decide_eq_false h0]; rfl
        have HRF := Lib.hid hrf
        clear h0 hrf
        go_enter Try.func28, Try.ntmps28
        go_wp2
        go_ret
        exact ⟨by rw [HRF.out]; simp, HX1⟩
    · have hr : r = false := by rw [← hrb]; unfold rightE; rw [if_neg hk1, if_neg hk2, if_neg hk4]
      have hk4' : (k == 4) = false := by simpa using hk4
      subst hr
      clear hrb hz hk1 hk2 hk4
      go_enter Try.func28, Try.ntmps28
      go_wp2
      go_ret
      exact ⟨by simp, HX1⟩
end Go.Proofs.Ytnbdmlpnoiljdaa
