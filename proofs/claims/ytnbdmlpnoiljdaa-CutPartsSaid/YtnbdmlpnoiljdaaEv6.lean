/- layer 39, plainly: the document's parts of an event's atoms are the parted events. -/
import Derived.Test.YtnbdmlpnoiljdaaRef7
namespace Go.Proofs.Ytnbdmlpnoiljdaa

/-- Atoms, joined in rows of so many. -/
def cutsJ (sz : Nat → Nat) (T : List Ev) : Nat → Nat → Nat → List Ev × Nat
  | 0, _, c => ([], c)
  | f + 1, a, c => if a < T.length then (joinL (runAt T a (min (a + sz c) T.length)) :: (cutsJ sz T f (min (a + sz c) T.length) (c + 1)).1, (cutsJ sz T f (min (a + sz c) T.length) (c + 1)).2) else ([], c)
theorem cutsJ_end {sz : Nat → Nat} {T : List Ev} {f a c : Nat} (h : T.length ≤ a) : cutsJ sz T f a c = ([], c) := by
  cases f with
  | zero => rfl
  | succ f => simp [cutsJ, show ¬ a < T.length by omega]
theorem cutsJ_step {sz : Nat → Nat} {T : List Ev} {f a c to : Nat} (h : a < T.length) (hf : T.length ≤ a + f) (ht : to = min (a + sz c) T.length) : ∃ f', f = f' + 1 ∧ cutsJ sz T f a c = (joinL (runAt T a to) :: (cutsJ sz T f' to (c + 1)).1, (cutsJ sz T f' to (c + 1)).2) := by
  cases f with
  | zero => omega
  | succ f => exact ⟨f, rfl, by subst ht; simp [cutsJ, h]⟩
theorem runAt_parts {e : Ev} (h : rightE e = true) (hs : ¬ sizeE e < 0) {a t : Nat} (hat : a < t) (ht : (t : Int) ≤ sizeE e) : joinL (runAt (atomsE e) a t) = partE e a t := by
  have h1 : runAt (atomsE e) a t = (List.range' a (t - a - 1 + 1)).map fun q => partE e q (q + 1) := by
    rw [atomsE_right h hs]
    unfold runAt
    rw [← List.map_drop, ← List.map_take]
    congr 1
    apply List.ext_getElem?
    intro i
    rw [List.getElem?_take, List.getElem?_drop]
    by_cases hi : i < t - a
    · rw [if_pos hi, List.getElem?_range (by omega), List.getElem?_range' (by omega)]
      simp
    · rw [if_neg hi, List.getElem?_eq_none (by simp; omega)]
  rw [h1, joinL_parts h hs a (t - a - 1) (by omega)]
  congr 1
  omega
theorem cutsJ_right {sz : Nat → Nat} (hsz : ∀ k, 1 ≤ sz k) {e : Ev} (h : rightE e = true) (hs : ¬ sizeE e < 0) : ∀ (f a c : Nat), cutsJ sz (atomsE e) f a c = cutsE sz e (sizeE e).toNat f a c := by
  have hN : (atomsE e).length = (sizeE e).toNat := by rw [atomsE_right h hs]; simp
  intro f
  induction f with
  | zero => intro a c; rfl
  | succ f ih =>
    intro a c
    simp only [cutsJ, cutsE, hN]
    by_cases hlt : a < (sizeE e).toNat
    · have := hsz c
      rw [if_pos hlt, if_pos hlt, ih, runAt_parts h hs (by omega) (by omega)]
    · rw [if_neg hlt, if_neg hlt]
/-- An event's parts, out of its atoms. -/
theorem splitE_J {sz : Nat → Nat} (hsz : ∀ k, 1 ≤ sz k) (c : Nat) (e : Ev) (sz' : Nat → Nat) (h13 : e.kind = 1 ∨ e.kind = 3 → sz' = sz) (ho : ¬ (e.kind = 1 ∨ e.kind = 3) → ∀ k, 1 ≤ sz' k) :
    (splitE sz c e).1 = (cutsJ sz' (atomsE e) (atomsE e).length 0 c).1 ∧ (e.kind = 1 ∨ e.kind = 3 → (cutsJ sz' (atomsE e) (atomsE e).length 0 c).2 = (splitE sz c e).2) ∧ (¬ (e.kind = 1 ∨ e.kind = 3) → (splitE sz c e).2 = c) := by
  unfold splitE
  by_cases h : rightE e = true
  · rw [if_pos h]
    by_cases hs : sizeE e < 0
    · have hk : ¬ (e.kind = 1 ∨ e.kind = 3) := by
        rintro (hk | hk)
        · rw [size1 hk] at hs; omega
        · rw [size3 hk] at hs; have := right3 h hk; omega
      have ha : isAtom e := by
        have : e ∈ atoms [e] := by simp [atoms, atomsE_whole h hs]
        exact atoms_atom e this
      rw [if_pos hs, atomsE_whole h hs]
      refine ⟨?_, fun hk' => absurd hk' hk, fun _ => rfl⟩
      have := ho hk c
      simp only [List.length_singleton, cutsJ]
      rw [if_pos (by omega), show min (0 + sz' c) 1 = 1 by omega]
      show [e] = joinL (runAt [e] 0 1) :: _
      rw [show runAt [e] 0 1 = [e] from rfl, joinL_one ha]
    · have hk := size_kind hs
      have hN : (atomsE e).length = (sizeE e).toNat := by rw [atomsE_right h hs]; simp
      rw [if_neg hs, h13 hk, cutsJ_right hsz h hs, hN]
      exact ⟨rfl, fun _ => rfl, fun hk' => absurd hk hk'⟩
  · have h' : rightE e = false := by simpa using h
    rw [if_neg h, atomsE_wrong h']
    exact ⟨rfl, fun _ => rfl, fun _ => rfl⟩
/-- How much the document takes. -/
theorem sz_min {l : List Int} (hl : l ≠ []) {a N c : Nat} {x : Int} (hx : l[c % l.length]? = some x) (hN : N ≤ 9999) (ha : a ≤ N) : min ((N - a : Nat) : Int) (max x 1) = ((min (a + szOf l c) N - a : Nat) : Int) := by
  unfold szOf
  rw [if_neg hl]
  simp only [List.getD, hx, Option.getD_some]
  omega
theorem sz_nil {a N c : Nat} (hN : N ≤ 9999) : min (a + szOf [] c) N = N := by
  unfold szOf
  rw [if_pos rfl]
  omega
end Go.Proofs.Ytnbdmlpnoiljdaa
