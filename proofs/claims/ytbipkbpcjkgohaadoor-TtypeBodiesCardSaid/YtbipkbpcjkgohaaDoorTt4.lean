/- layer 13: the law of bodies. -/
import Derived.Test.YtbipkbpcjkgohaaDoorTt3
namespace Go.Proofs.YtbipkbpcjkgohaaDoor
open Go Go.RowKit

theorem parseP_le (l s : List UInt8) (a : Bool) (n : Nat) (h : parseP l = (s, a, n)) : n ≤ 6 := by
  cases l with
  | nil => simp [parseP] at h; omega
  | cons c r =>
    simp only [parseP] at h
    split at h
    · split at h <;> (simp at h; omega)
    · split at h
      · split at h <;> (simp at h; omega)
      · simp at h; omega

set_option maxHeartbeats 2000000 in
set_option maxRecDepth 20000 in
theorem lawBodies (E : Nat → Addr) (l bs : List UInt8) (A : Option Addr) (m c : Nat) (w : World) (hE : Errs w E) (hmc : m ≤ c) (hr : Rd w 1 A m (bytesV bs)) :
    Calls Tryd.prog 7 #[.string ⟨l.toArray⟩, .slice A m c] w fun e w' => e = .returned (.bool true) ∧ Ext w w' := by
  have hm : bs.length = m := hr.len_bytes
  subst hm
  have hR := Lib.hid hr
  clear hr
  by_cases hs : 100 < l.length ∨ 100 < bs.length
  · have hs' : 100 < l.length ∨ (¬ 100 < l.length ∧ 100 < bs.length) := by omega
    clear hs
    rcases hs' with h | ⟨h1, h⟩
    all_goals
      go_enter Tryd.func7, Tryd.ntmps7
      go_wp2_with (go_at_call 30; refine (alive13 E _ hE).mono ?_; rintro e w1 ⟨rfl, hbc⟩)
      go_ret
      exact ⟨rfl, hbc⟩
  have h1 : ¬ 100 < l.length := by omega
  have h2 : ¬ 100 < bs.length := by omega
  clear hs
  obtain ⟨s, a, n, hp⟩ : ∃ s a n, parseP bs = (s, a, n) := ⟨_, _, _, rfl⟩
  have hn6 := parseP_le _ _ _ _ hp
  obtain ⟨rb, hrb⟩ : ∃ rb, rightB l = rb := ⟨_, rfl⟩
  have HR := Lib.hid hrb
  have HP := Lib.hid hp
  have hni := fun w => run_eql_iface_nil (P := Tryd.prog) (w := w) 27 (by kernel_rfl) 165 (.pointer (some (E 5)))
  clear hrb hp
  cases n
  case' zero => have ek : errN E 0 = .nilIface := rfl
  case' succ k => have hk : k < 16 := (by omega); have ek : errN E (k + 1) = errV E k := rfl
  all_goals
    cases rb
    all_goals
      go_enter Tryd.func7, Tryd.ntmps7
      go_wp2_with (first
        | (go_at_call 43; refine (ttAsk _).mono ?_; rintro e w8 ⟨rfl, hrd8, hb8⟩; have hcv8 := conv_str (P := Tryd.prog) (c := 1) (src := 31) (dst := 9) Tryd.underlying31 Tryd.underlying5 Tryd.underlying9 hrd8)
        | (go_at_call 23; with_reducible refine (numErr E k _ (hE.keep hbc) hk).mono ?_; rintro e w7 ⟨rfl, hb7⟩; have hbc := hbc.trans hb7)
        | (go_at_call 23; with_reducible refine (numNil _).mono ?_; rintro e w7 ⟨rfl, rfl⟩)
        | (go_at_call 42; refine (refParse bs s a _ HP.out (by omega) _).mono ?_; rintro e w6 ⟨rfl, rfl⟩)
        | (go_at_call 35; refine (ttParse E bs s a _ HP.out (by omega) A bs.length c _ (hE.keep hbc) hmc (hR.out.keep hbc)).mono ?_; rw [ek]; rintro e w5 ⟨rfl, hb5⟩; have hbc := hbc.trans hb5; have hcv5 := conv_str (P := Tryd.prog) (c := c) (src := 31) (dst := 9) Tryd.underlying31 Tryd.underlying5 Tryd.underlying9 (hR.out.keep hbc))
        | (go_at_call 23; refine (numErr E 5 _ (hE.keep hbc) (by omega)).mono ?_; rintro e w4 ⟨rfl, hb4⟩; have hbc := hbc.trans hb4)
        | (go_at_call 41; refine (ttRight l (by omega) _).mono ?_; rw [HR.out]; rintro e w3 ⟨rfl, hb3⟩; have hbc := hbc.trans hb3; have hcv3 := conv_str (P := Tryd.prog) (c := c2) (src := 31) (dst := 9) Tryd.underlying31 Tryd.underlying5 Tryd.underlying9 (hrd2.keep hb3))
        | (go_at_call 40; refine (refRight l (by omega) _).mono ?_; rw [HR.out]; rintro e w9 ⟨rfl, rfl⟩)
        | (go_at_call 33; refine (ttBody E l (by omega) _ (hE.keep hbc)).mono ?_; rw [HR.out]; simp only [if_true, Bool.false_eq_true, if_false]; (try unfold errV); rintro e w2 ⟨v, rfl, ⟨A2, n2, c2, rfl, hn2, hc2, hrd2⟩, hb2⟩; have hl2 := hrd2.len_bytes; simp at hl2; subst hl2; have hbc := hbc.trans hb2)
        | (go_at_call 30; refine (alive13 E _ hE).mono ?_; rintro e w1 ⟨rfl, hbc⟩))
      go_ret
      exact ⟨by simp, hbc.trans hb8⟩
end Go.Proofs.YtbipkbpcjkgohaaDoor
