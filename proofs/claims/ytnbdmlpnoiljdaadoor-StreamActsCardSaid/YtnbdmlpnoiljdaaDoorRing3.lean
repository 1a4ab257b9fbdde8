/- The ring's Peek and Take. -/
import Derived.Test.YtnbdmlpnoiljdaaDoorRing2
namespace Go.Proofs.YtnbdmlpnoiljdaaDoor
open Go Go.RowKit

/-- A slice that a call has made and handed out: of the bytes l, in a block of its own, if there are any. -/
def Gave (w0 w : World) (v : Value) (l : List UInt8) : Prop :=
  (l = [] ∧ v = .slice none 0 0) ∨ (l ≠ [] ∧ ∃ g, w0.heap.size ≤ g ∧ v = .slice (some ⟨g, 0, none⟩) l.length l.length ∧ Blk w g 5 (bytesV l))
theorem Gave.rd {w0 w : World} {v : Value} {l : List UInt8} (h : Gave w0 w v l) : ∃ A, v = .slice A l.length l.length ∧ Rd w 1 A l.length (bytesV l) := by
  rcases h with ⟨rfl, rfl⟩ | ⟨_, g, _, rfl, hB⟩
  · exact ⟨none, rfl, Rd.nil⟩
  · refine ⟨_, rfl, ?_⟩
    have := hB.rd (n := l.length) (size := 1) 0 (by simp [bytesV])
    rwa [List.drop_zero, List.take_of_length_le (by simp [bytesV])] at this

set_option maxHeartbeats 1000000 in
theorem ringPeek {p g R went f : Nat} {q s : List UInt8} (w : World) (x : Int) (m : Nat) (hq : RingAt w p g R q went f s) (hm : m = min x.toNat q.length) :
    Calls Tryd.prog 81 #[.pointer (some ⟨p, 0, none⟩), .int .i64 x] w fun e w' => ∃ v, e = .returned v ∧ Gave w w' v (q.take m) ∧ Ext w w' := by
  have hfit := hq.circ.fits
  have hsl := hq.circ.len
  have hcirc := hq.circ
  have hlt := hq.lt
  have hmo := hq.most
  have hs := hq.small
  obtain ⟨mm, hmin, hmm⟩ : ∃ mm : Int, (if (q.length : Int) < x then (q.length : Int) else x) = mm ∧ mm = min x q.length := by
    exact ⟨min x q.length, by split <;> omega, rfl⟩
  have HMM := Lib.hid hmm
  have HM := Lib.hid hm
  have hml : m ≤ q.length := by omega
  go_enter Tryd.func81, Tryd.ntmps81
  by_cases h0 : m = 0
  · have hm0 : mm < 1 := by omega
    clear hm hmm
    go_wp2_with (go_at_call 80; refine (ringLen (p := p) (g := g) (R := R) (q := q) (went := went) (f := f) (s := s) _ ?_).mono ?_; exact hq; rintro e w' ⟨rfl, rfl⟩)
    all_goals go_ret
    all_goals exact ⟨_, rfl, .inl ⟨by simp [h0], by simp⟩, (Below.refl _ _).drew⟩
  · obtain rfl : mm = (m : Int) := by omega
    have hm1 : ¬ ((m : Int) < 1) := by omega
    clear hm hmm
    go_wp2_with (first
      | (go_at_call 80; refine (ringLen (p := p) (g := g) (R := R) (q := q) (went := went) (f := f) (s := s) _ ?_).mono ?_; exact hq; rintro e w' ⟨rfl, rfl⟩)
      | (at_make; refine wpList_mk1 Tryd.elemB rfl rfl (.tmp 13) (.tmp 13) rfl (n := m) (cap := m) rfl rfl rfl rfl (Nat.le_refl _) (by omega) (by unfold maxLen; omega) ?_; intro w1 hB0 hb0))
    have hb1 : Ext w w1 := Below.trans ((Below.refl _ w).drew) hb0
    have h1 := hq.keep hb1
    have hne : w.heap.size ≠ p ∧ w.heap.size ≠ g := ⟨by have := hq.pt.lt; omega, by have := hq.sl.lt; omega⟩
    have HB0 := Lib.hid (show Blk w1 w.heap.size 5 (bytesV (List.replicate m 0)) by simpa [bytesV, U8] using hB0)
    have e0 := h1.c0
    have e1 := h1.c1
    have hcut : (f : Int) ≤ R := by omega
    have hcut2 : (R = f) = False := by simp; omega
    have hsrc : ∀ w', Blk w' g 5 (bytesV s) → Rd w' 1 (some ⟨g, f, none⟩) (R - f) (bytesV (s.drop f)) := fun w' hB => by
      have := hB.rd (n := R - f) (size := 1) f (by simp [bytesV]; omega)
      rwa [bytesV_drop, List.take_of_length_le (by simp [bytesV]; omega)] at this
    have hsrc2 : ∀ w', Blk w' g 5 (bytesV s) → Rd w' 1 (some ⟨g, 0, none⟩) R (bytesV s) := fun w' hB => by
      have := hB.rd (n := R) (size := 1) 0 (by simp [bytesV]; omega)
      rwa [List.drop_zero, List.take_of_length_le (by simp [bytesV]; omega)] at this
    clear hB0 hb0 hmin hm1
    go_region_law (refine step_cpC (g := w.heap.size) (off := 0) (cur := bytesV (List.replicate m 0)) (cs := bytesV (s.drop f)) Tryd.elemB rfl (.tmp 15) (.tmp 24) rfl rfl HB0.out.drew (fun _ => rfl) (by simp [bytesV]) rfl (hsrc _ h1.drew.sl) (one_bytesV _) ?_; intro w2 hB1 hc1; have HB1 := Lib.hid hB1; clear hB1)
    all_goals (
      have h2 := h1.drew.chg hc1 (by simpa using hne.1.symm) (by simpa using hne.2.symm)
      have hb2 : Ext w w2 := hc1.below (hb1.drew) (by simpa using hb1.size) (by simp)
      have g0 := h2.c0
      clear e0 e1 h1 hb1 hc1 HB0
      go_wp2
      obtain ⟨k, hk, hkm⟩ : ∃ k, k = min (R - f) m ∧ k ≤ m := ⟨_, rfl, Nat.min_le_right _ _⟩
      rw [← hk]
      have HK := Lib.hid hk
      clear hk
      have hcut4 : (k : Int) ≤ m := by omega
      go_region_law (refine step_cpC (g := w.heap.size) (off := k) (cur := splice (bytesV (List.replicate m 0)) 0 (List.take m (bytesV (s.drop f)))) (cs := bytesV s) Tryd.elemB rfl (.tmp 28) (.tmp 32) rfl rfl HB1.out.drew (fun _ => if_neg (by omega)) (by rw [length_splice _ _ _ (by simp [bytesV]; omega)]; simp [bytesV]; omega) rfl (hsrc2 _ h2.drew.sl) (one_bytesV _) ?_; intro w3 hB2 hc2; have HB2 := Lib.hid hB2; clear hB2)
      all_goals (
        have hb3 : Ext w w3 := hc2.below (hb2.drew) (by simpa using hb2.size) (by simp)
        have HF : Gave w w3 (.slice (some ⟨w.heap.size, 0, none⟩) m m) (q.take m) := by
          have hlq : (q.take m).length = m := by simp; omega
          refine .inr ⟨fun h => by rw [h] at hlq; simp at hlq; omega, w.heap.size, Nat.le_refl _, by rw [hlq], ?_⟩
          have e : splice (splice (bytesV (List.replicate m 0)) 0 (List.take m (bytesV (s.drop f)))) k (List.take (m - k) (bytesV s)) = bytesV (q.take m) := by
            have e1 : List.take m (s.drop f) = List.take k (s.drop f) := by
              rw [List.take_eq_take_iff, HK.out]; simp; omega
            rw [bytesV_take, bytesV_take, bytesV_splice, bytesV_splice, e1, hcirc.peek hlt hml HK.out]
          rw [← e]
          exact HB2.out
        have HF' := Lib.hid HF
        clear HF HB2 HB1 hsrc hsrc2 g0
        go_wp2
        all_goals go_ret
        all_goals exact ⟨_, rfl, by first | (simpa using HF'.out) | (have hh := HF'.out; clear HF'; subst_vars; simpa using hh), hb3⟩))

set_option maxHeartbeats 1000000 in
theorem ringTake {p g R went f : Nat} {q s : List UInt8} (w : World) (x : Int) (m : Nat) (hq : RingAt w p g R q went f s) (hm : m = min x.toNat q.length) :
    Calls Tryd.prog 62 #[.pointer (some ⟨p, 0, none⟩), .int .i64 x] w fun e w' => ∃ v, e = .returned v ∧ Gave w w' v (q.take m) ∧ RingAt w' p g R (q.drop m) (went + m) ((f + m) % R) s ∧ Chg [p] w w' := by
  have hml : m ≤ q.length := by omega
  have hlen : (q.take m).length = m := by simp; omega
  have hm2 : m = min ((q.take m).length : Int).toNat q.length := by rw [hlen]; omega
  have HM := Lib.hid hm
  have HL := Lib.hid hlen
  have HM2 := Lib.hid hm2
  clear hm hlen hm2
  have hpl := hq.pt.lt
  go_enter Tryd.func62, Tryd.ntmps62
  go_wp2_with (first
    | (go_at_call 81; refine (ringPeek (p := p) (g := g) (R := R) (q := q) (went := went) (f := f) (s := s) _ x m ?_ HM.out).mono ?_; exact hq; rintro e w1 ⟨v1, rfl, hg1, hb1⟩; have hq1 := hq.keep hb1; obtain ⟨A1, hv1, hrd1⟩ := hg1.rd; rw [HL.out] at hv1; subst hv1)
    | (go_at_call 82; refine (ringDrop (p := p) (g := g) (R := R) (q := q) (went := went) (f := f) (s := s) _ _ m ?_ ?_).mono ?_; exact hq1; omega; rintro e w2 ⟨rfl, hq2, hc2⟩))
  go_ret
  refine ⟨_, rfl, ?_, hq2, (Chg.of_ext hb1).trans hc2⟩
  have hgv : Gave w w1 (.slice A1 m m) (q.take m) := hg1
  rcases hgv with h | ⟨h1, g', h2, h3, h4⟩
  · exact .inl (by simpa using h)
  · exact .inr ⟨h1, g', h2, by simpa using h3, h4.chg hc2 (by simp; omega)⟩
end Go.Proofs.YtnbdmlpnoiljdaaDoor
