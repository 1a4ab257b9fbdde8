/- layer 39, plainly: how many. -/
import Derived.Test.YtnbdmlpnoiljdaaCut13
namespace Go.Proofs.Ytnbdmlpnoiljdaa

theorem atomsE_len (e : Ev) : ((atomsE e).length : Int) ≤ 4 * wt e + 4 := by
  unfold wt
  by_cases h : rightE e = true
  · by_cases hs : sizeE e < 0
    · rw [atomsE_whole h hs]; simp; omega
    · rw [atomsE_right h hs]
      rcases size_kind hs with hk | hk
      · rw [size1 hk]; simp; omega
      · rw [size3 hk]; simp; omega
  · rw [atomsE_wrong (by simpa using h)]; simp; omega
theorem atoms_len : ∀ (l : List Ev), ((atoms l).length : Int) ≤ 4 * sumW l + 4 * l.length := by
  intro l
  induction l with
  | nil => simp [atoms, sumW]
  | cons e r ih =>
    have h1 := atomsE_len e
    have h2 : atoms (e :: r) = atomsE e ++ atoms r := rfl
    have h3 : sumW (e :: r) = wt e + sumW r := by simp [sumW]
    rw [h2, h3, List.length_append, List.length_cons]
    omega
theorem cuts_len {sz : Nat → Nat} (hsz : ∀ k, 1 ≤ sz k) (e : Ev) (N : Nat) : ∀ (f a c : Nat), (cutsE sz e N f a c).1.length ≤ N - a := by
  intro f
  induction f with
  | zero => intro a c; simp [cutsE]
  | succ f ih =>
    intro a c
    by_cases hlt : a < N
    · have hp := hsz c
      simp only [cutsE, if_pos hlt, List.length_cons]
      have := ih (min (a + sz c) N) (c + 1)
      omega
    · simp [cutsE, hlt]
theorem splitE_len {sz : Nat → Nat} (hsz : ∀ k, 1 ≤ sz k) (c : Nat) (e : Ev) : (splitE sz c e).1.length ≤ (atomsE e).length := by
  unfold splitE
  by_cases h : rightE e = true
  · rw [if_pos h]
    by_cases hs : sizeE e < 0
    · rw [if_pos hs, atomsE_whole h hs]; exact Nat.le_refl _
    · rw [if_neg hs, atomsE_right h hs, List.length_map, List.length_range]
      have := cuts_len hsz e (sizeE e).toNat (sizeE e).toNat 0 c
      omega
  · rw [if_neg h]; simp
theorem split_len {sz : Nat → Nat} (hsz : ∀ k, 1 ≤ sz k) : ∀ (l : List Ev) (c : Nat), (splitL sz l c).1.length ≤ (atoms l).length := by
  intro l
  induction l with
  | nil => intro c; simp [splitL]
  | cons e r ih =>
    intro c
    have h1 := splitE_len hsz c e
    have h2 := ih (splitE sz c e).2
    have h3 : atoms (e :: r) = atomsE e ++ atoms r := rfl
    simp only [splitL]
    rw [h3, List.length_append, List.length_append]
    omega
theorem jm_len : ∀ (l : List Ev) (o : Nat), (jm o l).length ≤ l.length := by
  intro l
  induction l with
  | nil => intro o; simp [jm]
  | cons e r ih =>
    intro o
    have := ih (o + e.b.length)
    simp only [jm, List.length_append, List.length_cons]
    split <;> simp <;> omega
end Go.Proofs.Ytnbdmlpnoiljdaa
