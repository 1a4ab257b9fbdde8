/- layer 39, plainly: the document's runs of atoms are the merged events; parts are joined atoms. -/
import Derived.Test.YtnbdmlpnoiljdaaRef3
namespace Go.Proofs.Ytnbdmlpnoiljdaa

theorem jm_nil_of : ∀ (l : List Ev) (o : Nat), (∀ x ∈ l, x.m = []) → jm o l = [] := by
  intro l
  induction l with
  | nil => intro o _; rfl
  | cons e r ih =>
    intro o h
    simp only [jm]
    rw [if_pos (h e List.mem_cons_self), ih _ fun x hx => h x (List.mem_cons_of_mem _ hx)]
    rfl
theorem joinL_one {x : Ev} (hx : isAtom x) : joinL [x] = x := by
  obtain ⟨k, n, b, m⟩ := x
  unfold joinL
  have hm : m = [] ∨ m = [0] := by
    rcases hx with ⟨_, _, _, h⟩ | ⟨_, _, _, h⟩ | ⟨_, _, h, _⟩
    · exact h
    · exact .inl h
    · exact .inl h
  rcases hm with rfl | rfl <;> simp [sumN, bytesL, jm]
/-- A run of atoms of one kind. -/
def runOf (k : Int) (R : List Ev) : Prop := R ≠ [] ∧ ∀ x ∈ R, x.kind = k ∧ isAtom x
theorem atom1 {x : Ev} (h : isAtom x) (hk : x.kind = 1) : x.n = 0 ∧ x.b.length = 1 ∧ (x.m = [] ∨ x.m = [0]) := by
  rcases h with h | h | h
  · exact ⟨h.2.1, h.2.2.1, h.2.2.2⟩
  · omega
  · have := size1 hk; omega
theorem atom3 {x : Ev} (h : isAtom x) (hk : x.kind = 3) : x.n = 1 ∧ x.b = [] ∧ x.m = [] := by
  rcases h with h | h | ⟨h1, h2, h3, h4⟩
  · omega
  · exact h.2
  · have := size3 hk
    have := right3 h4 hk
    omega
theorem run_bytes : ∀ {R : List Ev}, (∀ x ∈ R, x.kind = 1 ∧ isAtom x) → (bytesL R).length = R.length ∧ sumN R = 0 := by
  intro R
  induction R with
  | nil => intro _; exact ⟨rfl, rfl⟩
  | cons x r ih =>
    intro h
    obtain ⟨h1, h2⟩ := ih fun y hy => h y (List.mem_cons_of_mem _ hy)
    obtain ⟨hk, ha⟩ := h x List.mem_cons_self
    obtain ⟨a1, a2, _⟩ := atom1 ha hk
    unfold bytesL at h1 ⊢
    unfold sumN at h2 ⊢
    simp only [List.flatMap_cons, List.length_append, List.length_cons, List.map_cons, List.sum_cons]
    omega
theorem run_ticks : ∀ {R : List Ev}, (∀ x ∈ R, x.kind = 3 ∧ isAtom x) → bytesL R = [] ∧ sumN R = R.length ∧ ∀ x ∈ R, x.m = [] := by
  intro R
  induction R with
  | nil => intro _; exact ⟨rfl, rfl, by simp⟩
  | cons x r ih =>
    intro h
    obtain ⟨h1, h2, h3⟩ := ih fun y hy => h y (List.mem_cons_of_mem _ hy)
    obtain ⟨hk, ha⟩ := h x List.mem_cons_self
    obtain ⟨a1, a2, a3⟩ := atom3 ha hk
    unfold bytesL at h1 ⊢
    unfold sumN at h2 ⊢
    simp only [List.flatMap_cons, List.length_cons, List.map_cons, List.sum_cons]
    refine ⟨by rw [a2, h1]; rfl, by omega, fun y hy => ?_⟩
    rcases List.mem_cons.1 hy with rfl | hy
    · exact a3
    · exact h3 y hy
theorem run_kind {k : Int} {R : List Ev} (h : runOf k R) : (R.head?.map (·.kind)).getD 0 = k := by
  obtain ⟨h1, h2⟩ := h
  cases R with
  | nil => exact absurd rfl h1
  | cons x r => exact (h2 x List.mem_cons_self).1
theorem run1 {R : List Ev} (h : runOf 1 R) : joinL R = ⟨1, 0, bytesL R, jm 0 R⟩ ∧ (bytesL R).length = R.length := by
  obtain ⟨h1, h2⟩ := run_bytes h.2
  unfold joinL
  rw [run_kind h, h2]
  exact ⟨rfl, h1⟩
theorem run3 {R : List Ev} (h : runOf 3 R) : joinL R = ⟨3, R.length, [], []⟩ := by
  obtain ⟨h1, h2, h3⟩ := run_ticks h.2
  unfold joinL
  rw [run_kind h, h2, h1, jm_nil_of _ _ h3]
theorem run_snoc {k : Int} {R : List Ev} {x : Ev} (h : runOf k R) (hk : x.kind = k) (hx : isAtom x) : runOf k (R ++ [x]) := by
  refine ⟨by simp, fun y hy => ?_⟩
  rcases List.mem_append.1 hy with h' | h'
  · exact h.2 y h'
  · simp at h'; subst h'; exact ⟨hk, hx⟩
theorem join_snoc {k : Int} {R : List Ev} {x : Ev} (h : runOf k R) (hk : x.kind = k) (hx : isAtom x) (h13 : k = 1 ∨ k = 3) : joinP (joinL R) x = joinL (R ++ [x]) := by
  have hs := run_snoc h hk hx
  rcases h13 with rfl | rfl
  · obtain ⟨j1, j2⟩ := run1 h
    obtain ⟨_, _, hm⟩ := atom1 hx hk
    rw [j1, (run1 hs).1]
    unfold joinP
    simp only [show ((1 : Int) = 3) = False by simp, if_false, Ev.mk.injEq, true_and]
    refine ⟨by simp [bytesL], ?_⟩
    rw [jm_append, Nat.zero_add]
    congr 1
    rcases hm with hm | hm <;> simp [jm, hm]
  · rw [run3 h, run3 hs]
    unfold joinP
    have := (atom3 hx hk).1
    simp; omega

/-- The run from `at` up to `to`. -/
def runAt (A : List Ev) (a t : Nat) : List Ev := (A.drop a).take (t - a)
def Mst (A : List Ev) (a : Nat) (D : List Ev) : Prop := mergeL (A.take a) = D ∧ ∀ x, A[a]? = some x → ∀ y, D.getLast? = some y → canJoin y x = false
def Mrun (A : List Ev) (a t : Nat) (D : List Ev) : Prop :=
  a < t ∧ t ≤ A.length ∧ mergeL (A.take t) = D ++ [joinL (runAt A a t)] ∧ ∀ x, A[a]? = some x → runOf x.kind (runAt A a t) ∧ (x.kind ≠ 1 → x.kind ≠ 3 → t = a + 1) ∧ (x.kind = 1 → t - a ≤ 1024) ∧ (x.kind = 3 → t - a ≤ 9999)
theorem Mst.start (A : List Ev) : Mst A 0 [] := ⟨rfl, fun x _ y h => by simp at h⟩
theorem runAt_one {A : List Ev} {a : Nat} {x : Ev} (h : A[a]? = some x) : runAt A a (a + 1) = [x] := by
  unfold runAt
  rw [show a + 1 - a = 0 + 1 by omega, List.take_add_one, List.getElem?_drop, Nat.add_zero, h]
  rfl
theorem runAt_snoc {A : List Ev} {a t : Nat} {x : Ev} (hat : a < t) (h : A[t]? = some x) : runAt A a (t + 1) = runAt A a t ++ [x] := by
  unfold runAt
  rw [show t + 1 - a = (t - a) + 1 by omega, List.take_add_one, List.getElem?_drop, show a + (t - a) = t by omega, h]
  rfl
theorem Mst.run {A : List Ev} (hA : ∀ x ∈ A, rightE x = true ∧ isAtom x) {a : Nat} {D : List Ev} (h : Mst A a D) {x : Ev} (hx : A[a]? = some x) : Mrun A a (a + 1) D := by
  obtain ⟨h1, h2⟩ := h
  have hal := (List.getElem?_eq_some_iff.1 hx).1
  obtain ⟨_, hxa⟩ := hA x (List.mem_of_getElem? hx)
  have hone := runAt_one hx
  refine ⟨by omega, by omega, ?_, fun y hy => ?_⟩
  · rw [hone, joinL_one hxa, List.take_add_one, hx]
    show mergeL (A.take a ++ [x]) = _
    rw [mergeL_snoc, h1]
    unfold mstep
    split
    · next y hy => rw [if_neg (by rw [h2 x hx y hy]; simp)]
    · rfl
  · rw [hx] at hy
    cases hy
    rw [hone]
    refine ⟨⟨by simp, fun y hy => ?_⟩, fun _ _ => rfl, fun _ => by omega, fun _ => by omega⟩
    simp at hy
    subst hy
    exact ⟨rfl, hxa⟩
theorem runAt_len {A : List Ev} {a t : Nat} (h : t ≤ A.length) (_ : a ≤ t) : (runAt A a t).length = t - a := by
  unfold runAt
  rw [List.length_take, List.length_drop]
  omega
theorem Mrun.can {A : List Ev} (hA : ∀ x ∈ A, rightE x = true ∧ isAtom x) {a t : Nat} {D : List Ev} (h : Mrun A a t D) {x y : Ev} (hx : A[a]? = some x) (hy : A[t]? = some y) :
    canJoin (joinL (runAt A a t)) y = true ↔ (x.kind = y.kind ∧ (x.kind = 1 ∧ t - a < 1024 ∨ x.kind = 3 ∧ t - a < 9999)) := by
  obtain ⟨h1, h2, h3, h4⟩ := h
  obtain ⟨hr, ho, _, _⟩ := h4 x hx
  have hl := runAt_len h2 (by omega : a ≤ t)
  obtain ⟨_, hya⟩ := hA y (List.mem_of_getElem? hy)
  have hkk : (joinL (runAt A a t)).kind = x.kind := run_kind hr
  unfold canJoin
  rw [Bool.and_eq_true, decide_eq_true_eq, hkk]
  by_cases hk3 : x.kind = 3
  · rw [if_pos hk3, decide_eq_true_eq, run3 (hk3 ▸ hr), hk3]
    simp only [hl]
    constructor
    · rintro ⟨e, h⟩
      have := (atom3 hya e.symm).1
      exact ⟨e, .inr ⟨trivial, by omega⟩⟩
    · rintro ⟨e, h⟩
      have := (atom3 hya e.symm).1
      exact ⟨e, by omega⟩
  · rw [if_neg hk3, decide_eq_true_eq]
    by_cases hk1 : x.kind = 1
    · obtain ⟨j1, j2⟩ := run1 (hk1 ▸ hr)
      rw [j1, hk1]
      simp only [List.length_append, j2, hl]
      constructor
      · rintro ⟨e, _, h⟩
        have := (atom1 hya e.symm).2.1
        exact ⟨e, .inl ⟨trivial, by omega⟩⟩
      · rintro ⟨e, h⟩
        have := (atom1 hya e.symm).2.1
        exact ⟨e, trivial, by omega⟩
    · constructor
      · rintro ⟨_, h, _⟩; exact absurd h hk1
      · rintro ⟨_, h | h⟩
        · exact absurd h.1 hk1
        · exact absurd h.1 hk3
theorem Mrun.grow {A : List Ev} (hA : ∀ x ∈ A, rightE x = true ∧ isAtom x) {a t : Nat} {D : List Ev} (h : Mrun A a t D) {x y : Ev} (hx : A[a]? = some x) (hy : A[t]? = some y) (hc : x.kind = y.kind ∧ (x.kind = 1 ∧ t - a < 1024 ∨ x.kind = 3 ∧ t - a < 9999)) : Mrun A a (t + 1) D := by
  have hcan := (h.can hA hx hy).2 hc
  obtain ⟨h1, h2, h3, h4⟩ := h
  obtain ⟨hr, ho, l1, l3⟩ := h4 x hx
  obtain ⟨_, hya⟩ := hA y (List.mem_of_getElem? hy)
  have htl := (List.getElem?_eq_some_iff.1 hy).1
  have hsn := runAt_snoc h1 hy
  refine ⟨by omega, by omega, ?_, fun x' hx' => ?_⟩
  · rw [List.take_add_one, hy]
    show mergeL (A.take t ++ [y]) = _
    rw [mergeL_snoc, h3]
    have hlast : (D ++ [joinL (runAt A a t)]).getLast? = some (joinL (runAt A a t)) := by simp
    unfold mstep
    rw [hlast]
    simp only
    rw [if_pos hcan, hsn, join_snoc hr hc.1.symm hya (by omega)]
    simp
  · rw [hx] at hx'
    cases hx'
    rw [hsn]
    exact ⟨run_snoc hr hc.1.symm hya, fun k1 k3 => by omega, fun _ => by omega, fun _ => by omega⟩
theorem Mrun.done {A : List Ev} (hA : ∀ x ∈ A, rightE x = true ∧ isAtom x) {a t : Nat} {D : List Ev} (h : Mrun A a t D) {x : Ev} (hx : A[a]? = some x) (hc : ∀ y, A[t]? = some y → ¬ (x.kind = y.kind ∧ (x.kind = 1 ∧ t - a < 1024 ∨ x.kind = 3 ∧ t - a < 9999))) : Mst A t (D ++ [joinL (runAt A a t)]) := by
  refine ⟨h.2.2.1, fun y hy z hz => ?_⟩
  rw [List.getLast?_append, List.getLast?_singleton] at hz
  simp at hz
  subst hz
  have := h.can hA hx hy
  rw [Bool.eq_false_iff]
  intro e
  exact hc y hy (this.1 e)
theorem Mst.end {A : List Ev} {D : List Ev} (h : Mst A A.length D) : D = mergeL A := by
  have := h.1
  rw [List.take_length] at this
  exact this.symm

/-- A part is its atoms, put together. -/
theorem joinL_parts {e : Ev} (h : rightE e = true) (hs : ¬ sizeE e < 0) (a : Nat) : ∀ (n : Nat), ((a + n + 1 : Nat) : Int) ≤ sizeE e → joinL ((List.range' a (n + 1)).map fun q => partE e q (q + 1)) = partE e a (a + n + 1) := by
  have hat : ∀ q : Nat, (q : Int) < sizeE e → isAtom (partE e q (q + 1)) ∧ (partE e q (q + 1)).kind = e.kind := fun q hq => by
    have h2 : partE e q (q + 1) ∈ atomsE e := by
      rw [atomsE_right h hs]
      exact List.mem_map.2 ⟨q, List.mem_range.2 (by omega), rfl⟩
    refine ⟨atoms_atom (l := [e]) _ (by simpa [atoms] using h2), ?_⟩
    unfold partE
    rcases size_kind hs with hk | hk
    · rw [if_neg (by omega), hk]
    · rw [if_pos hk, hk]
  have hrun : ∀ n : Nat, ((a + n + 1 : Nat) : Int) ≤ sizeE e → runOf e.kind ((List.range' a (n + 1)).map fun q => partE e q (q + 1)) := fun n hn => by
    refine ⟨by simp, fun x hx => ?_⟩
    obtain ⟨q, hq, rfl⟩ := List.mem_map.1 hx
    have := List.mem_range'_1.1 hq
    have := hat q (by omega)
    exact ⟨this.2, this.1⟩
  intro n
  induction n with
  | zero =>
    intro hn
    show joinL [partE e a (a + 1)] = _
    exact joinL_one (hat a (by omega)).1
  | succ n ih =>
    intro hn
    have hn' : ((a + n + 1 : Nat) : Int) ≤ sizeE e := by omega
    have hlast := hat (a + n + 1) (by omega)
    rw [show n + 1 + 1 = (n + 1) + 1 from rfl, List.range'_1_concat, List.map_append, List.map_singleton, ← Nat.add_assoc a n 1]
    rw [← join_snoc (hrun n hn') hlast.2 hlast.1 (size_kind hs), ih hn', ← part_snoc h hs (by omega) (by omega)]
end Go.Proofs.Ytnbdmlpnoiljdaa
