/- layer 39's document: Of, Same, Right. -/
import Derived.Test.YtnbdmlpnoiljdaaRef1
namespace Go.Proofs.Ytnbdmlpnoiljdaa
open Go Go.RowKit

set_option maxHeartbeats 1000000 in
set_option maxRecDepth 20000 in
theorem lawOf {w : World} {X : List Nat} {e : Ev} {vb vm : Value} (h : EvOk w X e vb vm) :
    Calls Try.prog 20 #[evA e vb vm] w fun r w' => r = .returned (evA e (strV e.b) vm) ∧ Ext w w' := by
  obtain ⟨A, c, B, d, rfl, rfl, h1, h2, h3, h4, hb, hm⟩ := h.open
  obtain ⟨k, n, b, m⟩ := e
  simp only at h1 h3 hb hm ⊢
  have hx2 := (Ext.new1 w (.cells #[.int .i64 k, .int .i64 n, .slice A b.length c, .slice B m.length d] 43)).trans (Ext.new1 _ (.cells #[.int .i64 0, .int .i64 0, .string ⟨#[]⟩, .slice none 0 0] 34))
  have hcv := conv_str (P := Try.prog) (c := c) Try.underlying35 Try.underlying5 Try.underlying9 (hb.keep hx2)
  clear hb hm h hx2
  unfold evA
  simp only
  go_enter Try.func20, Try.ntmps20
  go_wp2
  refine bodyPost_ret (v := .agg #[.int .i64 k, .int .i64 n, .string ⟨b.toArray⟩, .slice B m.length d]) ?_ rfl ⟨rfl, (Ext.new1 w _).trans (Ext.new1 _ _)⟩
  rw [results_cell1 rfl]
  go_simp

set_option maxHeartbeats 1000000 in
set_option maxRecDepth 20000 in
theorem refSame {w : World} {X : List Nat} {a b : Ev} {va vm vb vn : Value} (h : RvOk w X a va vm) (h' : RvOk w X b vb vn) (ha : a.m.length ≤ 1000000) (hb : b.m.length ≤ 1000000) (r : Bool) (hr : decide (a = b) = r) :
    Calls Try.prog 21 #[evA a va vm, evA b vb vn] w fun e w' => e = .returned (.bool r) ∧ Ext w w' := by
  obtain ⟨B, d, rfl, rfl, _, _, h2⟩ := h.open
  obtain ⟨B', d', rfl, rfl, _, _, h4⟩ := h'.open
  obtain ⟨k, n, l, m⟩ := a
  obtain ⟨k', n', l', m'⟩ := b
  unfold evA strV
  simp only at *
  have HR := Lib.hid hr
  have hx2 := (Ext.new1 w (.cells #[.int .i64 k, .int .i64 n, .string ⟨l.toArray⟩, .slice B m.length d] 34)).trans (Ext.new1 _ (.cells #[.int .i64 k', .int .i64 n', .string ⟨l'.toArray⟩, .slice B' m'.length d'] 34))
  have H2 := Lib.hid (h2.keep hx2)
  have H4 := Lib.hid (h4.keep hx2)
  clear h h' h2 h4 hr
  by_cases hk : k = k'
  · by_cases hn : n = n'
    · by_cases hl : l = l'
      · subst hk hn hl
        have hrm : decide (m = m') = r := by rw [← HR.out]; simp
        have HRM := Lib.hid hrm
        clear hrm
        go_enter Try.func21, Try.ntmps21
        go_wp2_with (go_at_call 16; refine (sameInts m m' B B' _ d _ d' _ H2.out H4.out (by omega) (by omega) r HRM.out).mono ?_; rintro e w2 ⟨rfl, hb2⟩)
        go_ret
        exact ⟨by simp, hx2.trans hb2⟩
      · have hf : r = false := by rw [← HR.out, decide_eq_false]; intro e; injection e with _ _ e; exact hl e
        have hll : (l == l') = false := by simpa using hl
        have HF := Lib.hid hf
        subst hk hn
        clear hf hl
        go_enter Try.func21, Try.ntmps21
        go_wp2
        go_ret
        exact ⟨by rw [HF.out]; simp, hx2⟩
    · have hf : r = false := by rw [← HR.out, decide_eq_false]; intro e; injection e with _ e; exact hn e
      have hnn : (n == n') = false := by simpa using hn
      have HF := Lib.hid hf
      subst hk
      clear hf hn
      go_enter Try.func21, Try.ntmps21
      go_wp2
      go_ret
      exact ⟨by rw [HF.out]; simp, hx2⟩
  · have hf : r = false := by rw [← HR.out, decide_eq_false]; intro e; injection e with e; exact hk e
    have hkk : (k == k') = false := by simpa using hk
    have HF := Lib.hid hf
    clear hf hk
    go_enter Try.func21, Try.ntmps21
    go_wp2
    go_ret
    exact ⟨by rw [HF.out]; simp, hx2⟩
end Go.Proofs.Ytnbdmlpnoiljdaa
