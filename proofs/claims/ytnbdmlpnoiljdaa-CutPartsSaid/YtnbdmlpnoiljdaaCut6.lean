/- layer 39: are events the same? -/
import Derived.Test.YtnbdmlpnoiljdaaCut5
import Derived.BigQuiet
import Derived.Deep.QuietTactic
namespace Go.Proofs.Ytnbdmlpnoiljdaa
open Go Go.RowKit

set_option maxHeartbeats 1000000 in
set_option maxRecDepth 20000 in
theorem intsEqual (l k : List Int) (A B : Option Addr) (n c m d : Nat) (w : World) (hl : Rd w 1 A n (intsV l)) (hk : Rd w 1 B m (intsV k)) (hn : n ≤ 1000000) (hm : m ≤ 1000000) (r : Bool) (hr : decide (l = k) = r) :
    Calls Try.prog 31 #[.slice A n c, .slice B m d] w fun e w' => e = .returned (.bool r) ∧ Ext w w' := by
  have hln := hl.len_ints
  have hkn := hk.len_ints
  have HR := Lib.hid hr
  have HL := Lib.hid hl
  have HK := Lib.hid hk
  have HLN := Lib.hid hln
  have HKN := Lib.hid hkn
  clear hr hl hk hln hkn
  by_cases hnm : n = m
  · subst hnm
    go_enter Try.func31, Try.ntmps31
    go_wp2
    go_loopw [13] (fun i wr => ∃ j : Nat, j ≤ n ∧ i = .int .i64 j ∧ Ext w wr ∧ l.take j = k.take j) (fun i _ => n - (intOf i).toNat)
    case atStart => exact ⟨0, Nat.zero_le _, rfl, Ext.refl _, by simp⟩
    case round =>
      obtain ⟨j, hj, rfl, hx, ht⟩ := hrel
      by_cases hlt : j < n
      · obtain ⟨x, hxl⟩ : ∃ x, l[j]? = some x := ⟨_, List.getElem?_eq_getElem (by rw [HLN.out]; exact hlt)⟩
        obtain ⟨y, hyk⟩ : ∃ y, k[j]? = some y := ⟨_, List.getElem?_eq_getElem (by rw [HKN.out]; exact hlt)⟩
        obtain ⟨b1, o1, rfl, _, hc1⟩ := (HL.out.keep hx).2 (by have := HLN.out; simp [intsV]; omega)
        obtain ⟨b2, o2, rfl, _, hc2⟩ := (HK.out.keep hx).2 (by have := HKN.out; simp [intsV]; omega)
        have p1 : wr.cell? ⟨b1, o1 + j, none⟩ = some (.int .i64 x) := hc1 j _ (by simp [intsV, hxl])
        have p2 : wr.cell? ⟨b2, o2 + j, none⟩ = some (.int .i64 y) := hc2 j _ (by simp [intsV, hyk])
        have HXL := Lib.hid hxl
        have HYK := Lib.hid hyk
        have HT := Lib.hid ht
        clear hc1 hc2 hxl hyk ht
        by_cases hxy : x = y
        · subst hxy
          have ht2 : l.take (j + 1) = k.take (j + 1) := by rw [List.take_add_one, List.take_add_one, HT.out, HXL.out, HYK.out]
          have HT2 := Lib.hid ht2
          clear ht2
          go_wp2
          go_quiet (fail)
          go_wp2
          go_roundw
          case rel => exact ⟨j + 1, hlt, by go_num, hx.trans (Ext.drawn _ _), HT2.out⟩
          case measure => simp [intOf]; omega
        · have hf : r = false := by
            rw [← HR.out, decide_eq_false]
            intro e
            have := HXL.out
            rw [e, HYK.out] at this
            exact hxy (Option.some.inj this).symm
          have hb : (x == y) = false := by simpa using hxy
          have HF := Lib.hid hf
          clear hf hxy
          go_wp2
          go_quiet (fail)
          go_wp2
          go_ret
          exact ⟨by rw [HF.out]; simp, hx.trans (Ext.drawn _ _)⟩
      · obtain rfl : j = n := by omega
        have ht' : r = true := by
          rw [← HR.out, decide_eq_true]
          rw [List.take_of_length_le (by rw [HLN.out]; exact Nat.le_refl _), List.take_of_length_le (by rw [HKN.out]; exact Nat.le_refl _)] at ht
          exact ht
        have HT := Lib.hid ht'
        clear ht' ht
        go_wp2
        go_ret
        exact ⟨by rw [HT.out]; simp, hx⟩
  · have hf : r = false := by
      rw [← HR.out, decide_eq_false]
      intro e; rw [e] at HLN; have := HLN.out; have := HKN.out; omega
    have hb : ((n : Int) == (m : Int)) = false := by simp; omega
    have HF := Lib.hid hf
    clear hf hnm
    go_enter Try.func31, Try.ntmps31
    go_wp2
    go_ret
    exact ⟨by rw [HF.out]; simp, Ext.refl _⟩

theorem bytesEqual (l k : List UInt8) (A B : Option Addr) (n c m d : Nat) (w : World) (hl : Rd w 1 A n (bytesV l)) (hk : Rd w 1 B m (bytesV k)) :
    Calls Try.prog 30 #[.slice A n c, .slice B m d] w fun e w' => e = .returned (.bool (l == k)) ∧ w = w' := by
  have h1 := conv_str (P := Try.prog) (c := c) Try.underlying35 Try.underlying5 Try.underlying9 hl
  have h2 := conv_str (P := Try.prog) (c := d) Try.underlying35 Try.underlying5 Try.underlying9 hk
  go_enter Try.func30, Try.ntmps30
  go_wp2
  go_ret
  exact ⟨by simp, rfl⟩

set_option maxHeartbeats 1000000 in
set_option maxRecDepth 20000 in
theorem rawSame {w : World} {X : List Nat} {a b : Ev} {va vm vb vn : Value} (h : EvOk w X a va vm) (h' : EvOk w X b vb vn) (ha : a.m.length ≤ 1000000) (hb : b.m.length ≤ 1000000) (r : Bool) (hr : decide (a = b) = r) :
    Calls Try.prog 19 #[evA a va vm, evA b vb vn] w fun e w' => e = .returned (.bool r) ∧ Ext w w' := by
  obtain ⟨A, c, B, d, rfl, rfl, _, _, _, _, h1, h2⟩ := h.open
  obtain ⟨A', c', B', d', rfl, rfl, _, _, _, _, h3, h4⟩ := h'.open
  obtain ⟨k, n, l, m⟩ := a
  obtain ⟨k', n', l', m'⟩ := b
  unfold evA
  simp only at *
  have HR := Lib.hid hr
  have hx2 := (Ext.new1 w (.cells #[.int .i64 k, .int .i64 n, .slice A l.length c, .slice B m.length d] 43)).trans (Ext.new1 _ (.cells #[.int .i64 k', .int .i64 n', .slice A' l'.length c', .slice B' m'.length d'] 43))
  have H1 := Lib.hid (h1.keep hx2)
  have H2 := Lib.hid (h2.keep hx2)
  have H3 := Lib.hid (h3.keep hx2)
  have H4 := Lib.hid (h4.keep hx2)
  clear h h' h1 h2 h3 h4 hr
  by_cases hk : k = k'
  · by_cases hn : n = n'
    · by_cases hl : l = l'
      · subst hk hn
        have hll : (l == l') = true := by simpa using hl
        have HL := Lib.hid hl
        clear hl
        have hrm : decide (m = m') = r := by rw [← HR.out]; simp [HL.out]
        have HRM := Lib.hid hrm
        clear hrm
        go_enter Try.func19, Try.ntmps19
        go_wp2_with (first
          | (go_at_call 31; refine (intsEqual m m' B B' _ d _ d' _ H2.out H4.out ha hb r HRM.out).mono ?_; rintro e w2 ⟨rfl, hb2⟩)
          | (go_at_call 30; refine (bytesEqual l l' A A' _ c _ c' _ H1.out H3.out).mono ?_; rw [hll]; rintro e w1 ⟨rfl, rfl⟩))
        go_ret
        exact ⟨by simp, hx2.trans hb2⟩
      · have hf : r = false := by rw [← HR.out, decide_eq_false]; intro e; injection e with _ _ e; exact hl e
        have hll : (l == l') = false := by simpa using hl
        have HF := Lib.hid hf
        subst hk hn
        clear hf hl
        go_enter Try.func19, Try.ntmps19
        go_wp2_with (go_at_call 30; refine (bytesEqual l l' A A' _ c _ c' _ H1.out H3.out).mono ?_; rw [hll]; rintro e w1 ⟨rfl, rfl⟩)
        go_ret
        exact ⟨by rw [HF.out]; simp, hx2⟩
    · have hf : r = false := by rw [← HR.out, decide_eq_false]; intro e; injection e with _ e; exact hn e
      have hnn : (n == n') = false := by simpa using hn
      have HF := Lib.hid hf
      subst hk
      clear hf hn
      go_enter Try.func19, Try.ntmps19
      go_wp2
      go_ret
      exact ⟨by rw [HF.out]; simp, hx2⟩
  · have hf : r = false := by rw [← HR.out, decide_eq_false]; intro e; injection e with e; exact hk e
    have hkk : (k == k') = false := by simpa using hk
    have HF := Lib.hid hf
    clear hf hk
    go_enter Try.func19, Try.ntmps19
    go_wp2
    go_ret
    exact ⟨by rw [HF.out]; simp, hx2⟩
end Go.Proofs.Ytnbdmlpnoiljdaa
