/- layer 5: are two tokens the same? -/
import Derived.Test.YtbipkbpcjkgohaaIac8
namespace Go.Proofs.Ytbipkbpcjkgohaa
open Go Go.RowKit

theorem ba_eq (a b : List UInt8) : ((⟨a.toArray⟩ : ByteArray) == ⟨b.toArray⟩) = decide (a = b) := by
  show ((a.toArray : Array UInt8) == b.toArray) = _
  rw [Bool.eq_iff_iff]
  simp

set_option maxHeartbeats 400000 in
theorem bytesEqual (l m : List UInt8) (A B : Option Addr) (n c n' c' : Nat) (w : World) (ha : Rd w 1 A n (bytesV l)) (hb : Rd w 1 B n' (bytesV m)) :
    Calls Try.prog 40 #[.slice A n c, .slice B n' c'] w fun e w' => e = .returned (.bool (decide (l = m))) ∧ w = w' := by
  have h1 := conv_str (P := Try.prog) (c := c) Try.underlying22 Try.underlying5 Try.underlying9 ha
  have h2 := conv_str (P := Try.prog) (c := c') Try.underlying22 Try.underlying5 Try.underlying9 hb
  by_cases hlm : l = m
  · subst hlm
    go_enter Try.func40, Try.ntmps40
    go_wp2
    go_ret
    exact ⟨by simp, rfl⟩
  · have hq : ((⟨l.toArray⟩ : ByteArray) == ⟨m.toArray⟩) = false := by rw [ba_eq]; simpa using hlm
    have HLM := Lib.hid hlm
    clear hlm
    go_enter Try.func40, Try.ntmps40
    go_wp2
    go_ret
    exact ⟨by simp [HLM.out], rfl⟩

def tokEq (t u : Tok) : Bool := t.kind == u.kind && (t.code == u.code && (t.opt == u.opt && (t.cut == u.cut && decide (t.body = u.body))))
theorem tokEq_refl (t : Tok) : tokEq t t = true := by simp [tokEq]
theorem tokEq_iff (t u : Tok) : tokEq t u = true ↔ t = u := by
  obtain ⟨a, b, c, d, e⟩ := t
  obtain ⟨a', b', c', d', e'⟩ := u
  simp [tokEq]
  intros
  exact And.comm

set_option maxHeartbeats 1000000 in
theorem iacSame (t u : Tok) (A B : Option Addr) (n c n' c' : Nat) (w : World) (ha : Rd w 1 A n (bytesV t.body)) (hb : Rd w 1 B n' (bytesV u.body)) :
    Calls Try.prog 19 #[.agg #[.int .i64 t.kind, .int .i64 t.code, .int .i64 t.opt, .slice A n c, .bool t.cut], .agg #[.int .i64 u.kind, .int .i64 u.code, .int .i64 u.opt, .slice B n' c', .bool u.cut]] w fun e w' => e = .returned (.bool (tokEq t u)) ∧ Ext w w' := by
  obtain ⟨r, hr⟩ : ∃ r, tokEq t u = r := ⟨_, rfl⟩
  rw [hr]
  have hrd1 := fun w' h => ha.keep (w' := w') h
  have hrd2 := fun w' h => hb.keep (w' := w') h
  have h2 := (Ext.new1 w (.cells #[.int .i64 t.kind, .int .i64 t.code, .int .i64 t.opt, .slice A n c, .bool t.cut] 35)).trans (Ext.new1 _ (.cells #[.int .i64 u.kind, .int .i64 u.code, .int .i64 u.opt, .slice B n' c', .bool u.cut] 35))
  have H1 := Lib.hid (hrd1 _ h2)
  have H2 := Lib.hid (hrd2 _ h2)
  clear hrd1 hrd2
  unfold tokEq at hr
  cases e1 : (t.kind == u.kind) with
  | false =>
    have HR := Lib.hid (show r = false by rw [← hr, e1]; rfl)
    clear hr
    go_enter Try.func19, Try.ntmps19
    go_wp2
    go_ret
    exact ⟨by rw [HR.out]; simp, h2⟩
  | true =>
    rw [e1, Bool.true_and] at hr
    cases e2 : (t.code == u.code) with
    | false =>
      have HR := Lib.hid (show r = false by rw [← hr, e2]; rfl)
      clear hr
      go_enter Try.func19, Try.ntmps19
      go_wp2
      go_ret
      exact ⟨by rw [HR.out]; simp, h2⟩
    | true =>
      rw [e2, Bool.true_and] at hr
      cases e3 : (t.opt == u.opt) with
      | false =>
        have HR := Lib.hid (show r = false by rw [← hr, e3]; rfl)
        clear hr
        go_enter Try.func19, Try.ntmps19
        go_wp2
        go_ret
        exact ⟨by rw [HR.out]; simp, h2⟩
      | true =>
        rw [e3, Bool.true_and] at hr
        cases e4 : (t.cut == u.cut) with
        | false =>
          have HR := Lib.hid (show r = false by rw [← hr, e4]; rfl)
          clear hr
          go_enter Try.func19, Try.ntmps19
          go_wp2
          go_ret
          exact ⟨by rw [HR.out]; simp, h2⟩
        | true =>
          rw [e4, Bool.true_and] at hr
          have HR := Lib.hid hr
          clear hr
          go_enter Try.func19, Try.ntmps19
          go_wp2_with (go_at_call 40; refine (bytesEqual _ _ _ _ _ _ _ _ _ H1.out H2.out).mono ?_; rintro e w' ⟨rfl, rfl⟩)
          go_ret
          exact ⟨by rw [← HR.out]; simp, h2⟩
end Go.Proofs.Ytbipkbpcjkgohaa
