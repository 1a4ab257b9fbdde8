/- layer 39, plainly: bytes and marks of atoms; merged and parted events. -/
import Derived.Test.YtnbdmlpnoiljdaaCut7
namespace Go.Proofs.Ytnbdmlpnoiljdaa

theorem size1 {e : Ev} (h : e.kind = 1) : sizeE e = e.b.length := by unfold sizeE; rw [if_pos h]
theorem size3 {e : Ev} (h : e.kind = 3) : sizeE e = e.n := by unfold sizeE; rw [if_neg (by omega), if_pos h]
theorem atomsE_right {e : Ev} (h : rightE e = true) (hs : ¬ sizeE e < 0) : atomsE e = (List.range (sizeE e).toNat).map fun i => partE e i (i + 1) := by unfold atomsE; rw [if_pos h, if_neg hs]
theorem atomsE_whole {e : Ev} (h : rightE e = true) (hs : sizeE e < 0) : atomsE e = [e] := by unfold atomsE; rw [if_pos h, if_pos hs]
theorem atomsE_wrong {e : Ev} (h : rightE e = false) : atomsE e = [] := by unfold atomsE; rw [if_neg (by simp [h])]

theorem marks_all {many : Nat} : ∀ {m : List Int} {last : Int}, -1 ≤ last → risA last many m = true → marksIn m 0 many = m := by
  intro m last hl h
  unfold marksIn
  have : m.filter (fun x => decide (((0 : Nat) : Int) ≤ x) && decide (x < (many : Int))) = m := by
    rw [List.filter_eq_self]
    intro x hx
    have := risA_mem h x hx
    simp; omega
  rw [this]
  simp
/-- The first k atoms of a right event, put together. -/
theorem atoms_pre {e : Ev} (h : rightE e = true) (hs : ¬ sizeE e < 0) : ∀ k : Nat, (k : Int) ≤ sizeE e → bytesL ((List.range k).map fun i => partE e i (i + 1)) = (if e.kind = 1 then e.b.take k else []) ∧
    ∀ o, jm o ((List.range k).map fun i => partE e i (i + 1)) = (if e.kind = 1 then (marksIn e.m 0 k).map fun x => (o : Int) + x else []) := by
  intro k
  induction k with
  | zero => intro _; simp [bytesL, jm, marksIn]
  | succ k ih =>
    intro hk
    obtain ⟨i1, i2⟩ := ih (by omega)
    rw [List.range_succ, List.map_append, bytesL_append, i1]
    rcases size_kind hs with hk1 | hk3
    · obtain ⟨_, _, hr⟩ := right1 h hk1
      have hkl : k < e.b.length := by rw [size1 hk1] at hk; omega
      have hp : partE e k (k + 1) = ⟨1, 0, [e.b[k]], marksIn e.m k (k + 1)⟩ := by
        unfold partE
        rw [if_neg (by omega), List.take_succ_eq_append_getElem hkl, List.drop_left' (by simp; omega)]
      simp only [if_pos hk1] at i1 i2 ⊢
      constructor
      · rw [List.take_succ_eq_append_getElem hkl]
        simp [bytesL, hp]
      · intro o
        rw [jm_append, i1, i2, marks_snoc hr 0 k (Nat.zero_le _), List.map_append, List.map_map]
        congr 1
        simp only [List.map_cons, List.map_nil, jm, hp, List.append_nil]
        rcases marks_one hr k with hm | hm
        · rw [hm]; simp
        · rw [hm]; simp; omega
    · have hp : partE e k (k + 1) = ⟨3, ((k + 1 : Nat) : Int) - k, [], []⟩ := by unfold partE; rw [if_pos hk3]
      have hk1 : ¬ e.kind = 1 := by omega
      simp only [if_neg hk1] at i1 i2 ⊢
      constructor
      · simp [bytesL, hp]
      · intro o
        rw [jm_append, i2]
        simp [jm, hp]
theorem atomsE_bytes (e : Ev) : bytesL (atomsE e) = if rightE e then e.b else [] := by
  by_cases h : rightE e = true
  · rw [if_pos h]
    by_cases hs : sizeE e < 0
    · rw [atomsE_whole h hs]; simp [bytesL]
    · rw [atomsE_right h hs, (atoms_pre h hs _ (by omega)).1]
      rcases size_kind hs with hk | hk
      · rw [if_pos hk, size1 hk]; simp
      · rw [if_neg (by omega), (right3 h hk).2.2.1]
  · rw [if_neg h, atomsE_wrong (by simpa using h)]; rfl
theorem atomsE_marks (e : Ev) (o : Nat) : jm o (atomsE e) = if rightE e then e.m.map fun x => (o : Int) + x else [] := by
  by_cases h : rightE e = true
  · rw [if_pos h]
    by_cases hs : sizeE e < 0
    · rw [atomsE_whole h hs]
      have hk1 : e.kind ≠ 1 := fun hk => by rw [size1 hk] at hs; omega
      simp [jm, (rightO h hk1).2]
    · rw [atomsE_right h hs, (atoms_pre h hs _ (by omega)).2]
      rcases size_kind hs with hk | hk
      · rw [if_pos hk, size1 hk, Int.toNat_natCast, marks_all (by omega) (right1 h hk).2.2]
      · rw [if_neg (by omega), (right3 h hk).2.2.2]; rfl
  · rw [if_neg h, atomsE_wrong (by simpa using h)]; rfl

/-- All bytes, all marks of right events. -/
def bytesR (l : List Ev) : List UInt8 := bytesL (atoms l)
def marksR (l : List Ev) : List Int := jm 0 (atoms l)
theorem atoms_snoc (l : List Ev) (e : Ev) : atoms (l ++ [e]) = atoms l ++ atomsE e := by simp [atoms]
theorem bytesR_snoc (l : List Ev) (e : Ev) : bytesR (l ++ [e]) = bytesR l ++ (if rightE e then e.b else []) := by unfold bytesR; rw [atoms_snoc, bytesL_append, atomsE_bytes]
theorem marksR_snoc (l : List Ev) (e : Ev) : marksR (l ++ [e]) = marksR l ++ (if rightE e then e.m.map fun x => ((bytesR l).length : Int) + x else []) := by
  unfold marksR bytesR; rw [atoms_snoc, jm_append, atomsE_marks, Nat.zero_add]
theorem bytesR_len (l : List Ev) : ∀ k, (bytesR (l.take k)).length ≤ 1024 * k := by
  intro k
  induction k with
  | zero => simp [bytesR, atoms, bytesL]
  | succ k ih =>
    by_cases hk : k < l.length
    · rw [List.take_succ_eq_append_getElem hk, bytesR_snoc, List.length_append]
      have : (if rightE l[k] then l[k].b else []).length ≤ 1024 := by
        split
        · next h =>
          by_cases hk1 : l[k].kind = 1
          · exact (right1 h hk1).2.1
          · rw [(rightO h hk1).1]; simp
        · simp
      omega
    · rw [List.take_of_length_le (by omega)]
      rw [List.take_of_length_le (by omega)] at ih
      omega
theorem right_marks {e : Ev} (h : rightE e = true) : e.m.length ≤ 1024 ∧ ∀ x ∈ e.m, 0 ≤ x ∧ x < 1024 := by
  by_cases hk1 : e.kind = 1
  · obtain ⟨_, h2, h3⟩ := right1 h hk1
    refine ⟨?_, fun x hx => by have := risA_mem h3 x hx; omega⟩
    have h4 : ∀ (l : List Int) (last : Int), risA last e.b.length l = true → (l.length : Int) ≤ e.b.length - last - 1 ∨ l = [] := by
      intro l
      induction l with
      | nil => intro _ _; exact .inr rfl
      | cons x r ih =>
        intro last hl
        obtain ⟨a1, a2, a3⟩ := risA_cons hl
        left
        rcases ih x a3 with h | h
        · simp only [List.length_cons]; omega
        · subst h; simp; omega
    rcases h4 _ _ h3 with h | h
    · omega
    · rw [h]; simp
  · rw [(rightO h hk1).2]; simp
end Go.Proofs.Ytnbdmlpnoiljdaa
