/- layer 39, plainly: atoms of merged and of parted events. -/
import Derived.Test.YtnbdmlpnoiljdaaEv2
namespace Go.Proofs.Ytnbdmlpnoiljdaa

theorem risA_weak {many : Nat} {l : List Int} {last last' : Int} (h : risA last many l = true) (hl : last' ≤ last) : risA last' many l = true := by
  cases l with
  | nil => rfl
  | cons x r =>
    obtain ⟨h1, h2, h3⟩ := risA_cons h
    simp only [risA, Bool.and_eq_true, decide_eq_true_eq]
    exact ⟨by omega, h2, h3⟩
theorem risA_shift {n : Nat} (m : Nat) : ∀ {l : List Int} {last : Int}, risA last n l = true → risA (m + last) (m + n) (l.map fun y => (m : Int) + y) = true := by
  intro l
  induction l with
  | nil => intro _ _; rfl
  | cons x r ih =>
    intro last h
    obtain ⟨h1, h2, h3⟩ := risA_cons h
    simp only [List.map_cons, risA, Bool.and_eq_true, decide_eq_true_eq]
    exact ⟨by omega, by omega, ih h3⟩
theorem risA_join {m n : Nat} {B : List Int} (hB : risA (-1) n B = true) : ∀ {A : List Int} {last : Int}, risA last m A = true → last < m → risA last (m + n) (A ++ B.map fun y => (m : Int) + y) = true := by
  intro A
  induction A with
  | nil =>
    intro last _ hl
    exact risA_weak (risA_shift m hB) (by omega)
  | cons x r ih =>
    intro last h hl
    obtain ⟨h1, h2, h3⟩ := risA_cons h
    simp only [List.cons_append, risA, Bool.and_eq_true, decide_eq_true_eq]
    exact ⟨h1, by omega, ih h3 h2⟩
theorem marks_none {many : Nat} {l : List Int} {last : Int} (h : risA last many l = true) (i j : Nat) (hi : many ≤ i) : marksIn l i j = [] := by
  unfold marksIn
  rw [List.map_eq_nil_iff, List.filter_eq_nil_iff]
  intro y hy
  have := risA_mem h y hy
  simp; omega
theorem marksIn_append (A B : List Int) (i j : Nat) : marksIn (A ++ B) i j = marksIn A i j ++ marksIn B i j := by simp [marksIn]
theorem marksIn_low (B : List Int) (m i j : Nat) (hB : ∀ y ∈ B, 0 ≤ y) (hj : j ≤ m) : marksIn (B.map fun y => (m : Int) + y) i j = [] := by
  unfold marksIn
  rw [List.map_eq_nil_iff, List.filter_eq_nil_iff]
  intro y hy
  obtain ⟨z, hz, rfl⟩ := List.mem_map.1 hy
  have := hB z hz
  simp; omega
theorem marksIn_shift (B : List Int) (m i j : Nat) : marksIn (B.map fun y => (m : Int) + y) (m + i) (m + j) = marksIn B i j := by
  unfold marksIn
  rw [List.filter_map, List.map_map]
  congr 1
  · funext x; simp; omega
  · congr 1
    funext x
    simp only [Function.comp]
    congr 1 <;> apply decide_eq_decide.2 <;> omega
theorem marksIn_marksIn (L : List Int) (i j p q : Nat) (h : q ≤ j - i) : marksIn (marksIn L i j) p q = marksIn L (i + p) (i + q) := by
  unfold marksIn
  rw [List.filter_map, List.map_map, List.filter_filter]
  congr 1
  · funext x; simp; omega
  · congr 1
    funext x
    simp only [Function.comp]
    by_cases h1 : (i : Int) ≤ x ∧ x < (j : Int) ∧ (p : Int) ≤ x - i ∧ x - i < (q : Int)
    · have : ((i + p : Nat) : Int) ≤ x ∧ x < ((i + q : Nat) : Int) := by omega
      simp [h1]; omega
    · have h2 : ¬ (((i + p : Nat) : Int) ≤ x ∧ x < ((i + q : Nat) : Int)) := by omega
      rw [Bool.eq_iff_iff]
      simp only [Bool.and_eq_true, decide_eq_true_eq]
      constructor
      · rintro ⟨⟨a, b⟩, c, d⟩; exact absurd ⟨c, d, a, b⟩ h1
      · rintro ⟨a, b⟩; exact absurd ⟨a, b⟩ h2
theorem marksIn_ris {many : Nat} (i j : Nat) : ∀ {L : List Int} {last : Int}, risA last many L = true → risA (max (last - i) (-1)) (j - i) (marksIn L i j) = true := by
  intro L
  induction L with
  | nil => intro _ _; rfl
  | cons x r ih =>
    intro last h
    obtain ⟨h1, h2, h3⟩ := risA_cons h
    have hr := ih h3
    unfold marksIn at hr ⊢
    by_cases hin : (i : Int) ≤ x ∧ x < (j : Int)
    · have hd : (decide ((i : Int) ≤ x) && decide (x < (j : Int))) = true := by simp [hin]
      rw [List.filter_cons, if_pos hd, List.map_cons]
      simp only [risA, Bool.and_eq_true, decide_eq_true_eq]
      exact ⟨by omega, by omega, risA_weak hr (by omega)⟩
    · have hd : ¬ (decide ((i : Int) ≤ x) && decide (x < (j : Int))) = true := by simpa using hin
      rw [List.filter_cons, if_neg hd]
      by_cases hlo : x < i
      · exact risA_weak hr (by omega)
      · -- none comes behind
        have : (r.filter fun x => decide ((i : Int) ≤ x) && decide (x < (j : Int))) = [] := by
          rw [List.filter_eq_nil_iff]
          intro y hy
          have := risA_mem h3 y hy
          simp; omega
        rw [this]; rfl
theorem marks_at {many : Nat} {L : List Int} {last : Int} (h : risA last many L = true) (hl : -1 ≤ last) : ∀ x ∈ L, 0 ≤ x := fun x hx => by have := risA_mem h x hx; omega

/-- Parts of right events are right. -/
theorem part_right {e : Ev} (h : rightE e = true) (hs : ¬ sizeE e < 0) {i j : Nat} (hij : i ≤ j) (hj : (j : Int) ≤ sizeE e) : rightE (partE e i j) = true ∧ sizeE (partE e i j) = (j : Int) - i := by
  rcases size_kind hs with hk | hk
  · obtain ⟨_, h2, h3⟩ := right1 h hk
    rw [size1 hk] at hj
    have hp : partE e i j = ⟨1, 0, (e.b.take j).drop i, marksIn e.m i j⟩ := by unfold partE; rw [if_neg (by omega)]
    have hl : ((e.b.take j).drop i).length = j - i := by simp; omega
    have hr := marksIn_ris i j h3
    rw [hp]
    refine ⟨?_, ?_⟩
    · unfold rightE
      simp only [if_pos, hl, Bool.and_eq_true, decide_eq_true_eq]
      exact ⟨⟨trivial, by omega⟩, risA_weak hr (by omega)⟩
    · rw [size1 rfl]; simp only; rw [hl]; omega
  · obtain ⟨_, h2, _, _⟩ := right3 h hk
    rw [size3 hk] at hj
    have hp : partE e i j = ⟨3, (j : Int) - i, [], []⟩ := by unfold partE; rw [if_pos hk]
    rw [hp]
    refine ⟨?_, size3 rfl⟩
    unfold rightE
    simp; omega
theorem part_part {e : Ev} (hs : ¬ sizeE e < 0) {i j p q : Nat} (hq : q ≤ j - i) : partE (partE e i j) p q = partE e (i + p) (i + q) := by
  rcases size_kind hs with hk | hk
  · have hp : ∀ i j, partE e i j = ⟨1, 0, (e.b.take j).drop i, marksIn e.m i j⟩ := fun i j => by unfold partE; rw [if_neg (by omega)]
    rw [hp i j, hp (i + p)]
    unfold partE
    simp only [show ((1 : Int) = 3) = False by simp, if_false, Ev.mk.injEq, true_and]
    refine ⟨?_, marksIn_marksIn _ _ _ _ _ hq⟩
    apply List.ext_getElem?
    intro k
    simp only [List.getElem?_drop, List.getElem?_take]
    by_cases hkq : p + k < q
    · rw [if_pos hkq, if_pos (by omega), if_pos (by omega)]; congr 1; omega
    · rw [if_neg hkq, if_neg (by omega)]
  · have hp : ∀ e : Ev, e.kind = 3 → ∀ i j, partE e i j = ⟨3, (j : Int) - i, [], []⟩ := fun e hk i j => by unfold partE; rw [if_pos hk]
    rw [hp e hk, hp e hk, hp _ rfl]
    simp; omega
theorem atomsE_part {e : Ev} (h : rightE e = true) (hs : ¬ sizeE e < 0) {i j : Nat} (hij : i ≤ j) (hj : (j : Int) ≤ sizeE e) : atomsE (partE e i j) = (List.range' i (j - i)).map fun q => partE e q (q + 1) := by
  obtain ⟨h1, h2⟩ := part_right h hs hij hj
  rw [atomsE_right h1 (by omega), h2, show ((j : Int) - i).toNat = j - i by omega, List.range'_eq_map_range, List.map_map]
  apply List.map_congr_left
  intro k hk
  rw [List.mem_range] at hk
  rw [part_part hs (by omega)]
  rfl

/-- Parted events' atoms. -/
theorem cuts_atoms {sz : Nat → Nat} (hsz : ∀ k, 1 ≤ sz k) {e : Ev} (h : rightE e = true) (hs : ¬ sizeE e < 0) {N : Nat} (hN : (N : Int) = sizeE e) : ∀ (f a c : Nat), N ≤ a + f → a ≤ N → atoms (cutsE sz e N f a c).1 = (List.range' a (N - a)).map fun q => partE e q (q + 1) := by
  intro f
  induction f with
  | zero => intro a c h1 h2; simp [cutsE, atoms, show N - a = 0 by omega]
  | succ f ih =>
    intro a c h1 h2
    by_cases hlt : a < N
    · have hp := hsz c
      simp only [cutsE, if_pos hlt]
      obtain ⟨to, hto⟩ : ∃ to, min (a + sz c) N = to := ⟨_, rfl⟩
      rw [hto]
      have h3 := ih to (c + 1) (by omega) (by omega)
      show atomsE (partE e a to) ++ atoms _ = _
      rw [h3, atomsE_part h hs (by omega) (by omega), ← List.map_append]
      congr 1
      rw [show N - a = (to - a) + (N - to) by omega, ← List.range'_append_1]
      congr 2
      omega
    · simp [cutsE, hlt, atoms, show N - a = 0 by omega]
theorem splitE_atoms {sz : Nat → Nat} (hsz : ∀ k, 1 ≤ sz k) (c : Nat) (e : Ev) : atoms (splitE sz c e).1 = atomsE e := by
  unfold splitE
  by_cases h : rightE e = true
  · rw [if_pos h]
    by_cases hs : sizeE e < 0
    · rw [if_pos hs]; simp [atoms]
    · rw [if_neg hs, cuts_atoms hsz h hs (by omega) _ _ _ (by omega) (by omega), atomsE_right h hs, Nat.sub_zero, List.range_eq_range']
  · rw [if_neg h, atomsE_wrong (by simpa using h)]; rfl
theorem split_atoms {sz : Nat → Nat} (hsz : ∀ k, 1 ≤ sz k) : ∀ (l : List Ev) (c : Nat), atoms (splitL sz l c).1 = atoms l := by
  intro l
  induction l with
  | nil => intro c; rfl
  | cons e r ih =>
    intro c
    simp only [splitL]
    show atoms (_ ++ _) = atomsE e ++ atoms r
    rw [← ih (splitE sz c e).2, ← splitE_atoms hsz c e]
    simp [atoms]

/-- Two events as one: right, and their atoms. -/
theorem join_kind {a x : Ev} (h : canJoin a x = true) : a.kind = x.kind ∧ (a.kind = 3 ∧ a.n + x.n ≤ 9999 ∨ a.kind = 1 ∧ a.b.length + x.b.length ≤ 1024) := by
  unfold canJoin at h
  simp only [Bool.and_eq_true, decide_eq_true_eq] at h
  refine ⟨h.1, ?_⟩
  have h2 := h.2
  split at h2
  · next h3 => exact .inl ⟨h3, by simpa using h2⟩
  · right; simpa using h2
theorem join_right {a x : Ev} (ha : rightE a = true) (hx : rightE x = true) (h : canJoin a x = true) : rightE (joinP a x) = true := by
  obtain ⟨hk, h3 | h1⟩ := join_kind h
  · have e : joinP a x = ⟨3, a.n + x.n, [], []⟩ := by unfold joinP; rw [if_pos h3.1]
    have r1 := right3 ha h3.1
    have r2 := right3 hx (by omega)
    rw [e]
    unfold rightE
    simp; omega
  · have e : joinP a x = ⟨1, 0, a.b ++ x.b, a.m ++ x.m.map fun y => (a.b.length : Int) + y⟩ := by unfold joinP; rw [if_neg (by omega)]
    obtain ⟨_, _, r1⟩ := right1 ha h1.1
    obtain ⟨_, _, r2⟩ := right1 hx (by omega)
    rw [e]
    unfold rightE
    simp only [if_pos, List.length_append, Bool.and_eq_true, decide_eq_true_eq]
    exact ⟨⟨trivial, h1.2⟩, risA_join r2 r1 (by omega)⟩
theorem join_atoms {a x : Ev} (ha : rightE a = true) (hx : rightE x = true) (h : canJoin a x = true) : atomsE (joinP a x) = atomsE a ++ atomsE x := by
  have hr := join_right ha hx h
  obtain ⟨hk, h3 | h1⟩ := join_kind h
  · have e : joinP a x = ⟨3, a.n + x.n, [], []⟩ := by unfold joinP; rw [if_pos h3.1]
    have hk3 : x.kind = 3 := by omega
    have r1 := right3 ha h3.1
    have r2 := right3 hx hk3
    rw [e] at hr ⊢
    have s1 := size3 h3.1
    have s2 := size3 hk3
    have s3 : sizeE ⟨3, a.n + x.n, [], []⟩ = a.n + x.n := rfl
    rw [atomsE_right hr (by omega), atomsE_right ha (by omega), atomsE_right hx (by omega), s1, s2, s3, show (a.n + x.n).toNat = a.n.toNat + x.n.toNat by omega, List.range_add, List.map_append, List.map_map]
    have hp : ∀ e : Ev, e.kind = 3 → ∀ i, partE e i (i + 1) = ⟨3, 1, [], []⟩ := fun e hk i => by unfold partE; rw [if_pos hk]; simp; omega
    congr 1 <;> apply List.map_congr_left <;> intro i _
    · rw [hp _ rfl, hp a h3.1]
    · simp only [Function.comp]; rw [hp _ rfl, hp x hk3]
  · have e : joinP a x = ⟨1, 0, a.b ++ x.b, a.m ++ x.m.map fun y => (a.b.length : Int) + y⟩ := by unfold joinP; rw [if_neg (by omega)]
    have hk1 : x.kind = 1 := by omega
    obtain ⟨_, _, r1⟩ := right1 ha h1.1
    obtain ⟨_, _, r2⟩ := right1 hx hk1
    rw [e] at hr ⊢
    have s1 := size1 h1.1
    have s2 := size1 hk1
    have s3 : sizeE ⟨1, 0, a.b ++ x.b, a.m ++ x.m.map fun y => (a.b.length : Int) + y⟩ = ((a.b.length + x.b.length : Nat) : Int) := by rw [size1 rfl]; simp
    rw [atomsE_right hr (by omega), atomsE_right ha (by omega), atomsE_right hx (by omega), s1, s2, s3, Int.toNat_natCast, Int.toNat_natCast, Int.toNat_natCast, List.range_add, List.map_append, List.map_map]
    have hp : ∀ e : Ev, e.kind = 1 → ∀ i j, partE e i j = ⟨1, 0, (e.b.take j).drop i, marksIn e.m i j⟩ := fun e hk i j => by unfold partE; rw [if_neg (by omega)]
    congr 1 <;> apply List.map_congr_left <;> intro i hi <;> rw [List.mem_range] at hi
    · rw [hp _ rfl, hp a h1.1]
      simp only [Ev.mk.injEq, true_and]
      refine ⟨by rw [List.take_append_of_le_length (by omega)], ?_⟩
      rw [marksIn_append, marksIn_low _ _ _ _ (marks_at r2 (by omega)) (by omega), List.append_nil]
    · simp only [Function.comp]
      rw [hp _ rfl, hp x hk1]
      simp only [Ev.mk.injEq, true_and]
      refine ⟨?_, ?_⟩
      · rw [Nat.add_assoc, List.take_append, List.drop_append]
        simp only [List.length_take]
        rw [List.take_of_length_le (by omega), List.drop_of_length_le (by omega), List.nil_append]
        congr 1
        · omega
        · congr 1; omega
      · rw [marksIn_append, marks_none r1 _ _ (by omega), List.nil_append, Nat.add_assoc, marksIn_shift]

theorem atoms_right {l : List Ev} : ∀ x ∈ atoms l, rightE x = true := by
  intro x hx
  obtain ⟨e, _, he⟩ := List.mem_flatMap.1 hx
  by_cases hr : rightE e = true
  · by_cases hs : sizeE e < 0
    · rw [atomsE_whole hr hs] at he; simp at he; subst he; exact hr
    · rw [atomsE_right hr hs] at he
      obtain ⟨i, hi, rfl⟩ := List.mem_map.1 he
      have := List.mem_range.1 hi
      exact (part_right hr hs (by omega) (by omega)).1
  · rw [atomsE_wrong (by simpa using hr)] at he; simp at he
theorem atomsE_self {x : Ev} (hx : isAtom x) (hr : rightE x = true) : atomsE x = [x] := by
  rcases hx with ⟨hk, hn, hb, hm⟩ | ⟨hk, hn, hb, hm⟩ | ⟨hs, _, _, _⟩
  · have s := size1 hk
    rw [hb] at s
    rw [atomsE_right hr (by omega), s]
    show [partE x 0 (0 + 1)] = _
    unfold partE
    rw [if_neg (by omega)]
    obtain ⟨k, n, b, m⟩ := x
    simp only at hk hn hb hm
    subst hk hn
    congr 2
    · simp [List.take_of_length_le (show b.length ≤ 0 + 1 by omega)]
    · rcases hm with hm | hm <;> subst hm <;> rfl
  · have s := size3 hk
    rw [atomsE_right hr (by omega), s, hn]
    show [partE x 0 (0 + 1)] = _
    unfold partE
    rw [if_pos hk]
    obtain ⟨k, n, b, m⟩ := x
    simp only at hk hn hb hm
    subst hk hn hb hm
    simp
  · exact atomsE_whole hr hs
/-- Merged events. -/
theorem mstep_right {out : List Ev} {x : Ev} (ho : ∀ e ∈ out, rightE e = true) (hx : rightE x = true) : ∀ e ∈ mstep out x, rightE e = true := by
  unfold mstep
  split
  · next a ha =>
    have hra := ho a (List.mem_of_getLast? ha)
    split
    · next hc =>
      intro e he
      rcases List.mem_append.1 he with h | h
      · exact ho e (List.dropLast_subset _ h)
      · simp at h; subst h; exact join_right hra hx hc
    · intro e he
      rcases List.mem_append.1 he with h | h
      · exact ho e h
      · simp at h; subst h; exact hx
  · intro e he
    rcases List.mem_append.1 he with h | h
    · exact ho e h
    · simp at h; subst h; exact hx
theorem mstep_atoms {out : List Ev} {x : Ev} (ho : ∀ e ∈ out, rightE e = true) (hx : rightE x = true) (hxa : isAtom x) : atoms (mstep out x) = atoms out ++ [x] := by
  have hself := atomsE_self hxa hx
  have hsn : atoms (out ++ [x]) = atoms out ++ [x] := by rw [atoms_snoc, hself]
  unfold mstep
  split
  · next a ha =>
    have hra := ho a (List.mem_of_getLast? ha)
    split
    · next hc =>
      rw [atoms_snoc, join_atoms hra hx hc, hself, ← List.append_assoc, ← atoms_snoc]
      obtain ⟨ys, rfl⟩ := List.getLast?_eq_some_iff.1 ha
      simp
    · exact hsn
  · exact hsn
theorem merge_foldl : ∀ (l : List Ev) (out : List Ev), (∀ e ∈ out, rightE e = true) → (∀ x ∈ l, rightE x = true ∧ isAtom x) → (∀ e ∈ l.foldl mstep out, rightE e = true) ∧ atoms (l.foldl mstep out) = atoms out ++ l := by
  intro l
  induction l with
  | nil => intro out ho _; exact ⟨ho, by simp⟩
  | cons x r ih =>
    intro out ho hl
    obtain ⟨hx, hxa⟩ := hl x List.mem_cons_self
    obtain ⟨h1, h2⟩ := ih (mstep out x) (mstep_right ho hx) (fun y hy => hl y (List.mem_cons_of_mem _ hy))
    refine ⟨h1, ?_⟩
    rw [List.foldl_cons, h2, mstep_atoms ho hx hxa, List.append_assoc]
    rfl
theorem merge_right {l : List Ev} (hl : ∀ x ∈ l, rightE x = true ∧ isAtom x) : ∀ e ∈ mergeL l, rightE e = true := (merge_foldl l [] (by simp) hl).1
theorem merge_atoms {l : List Ev} (hl : ∀ x ∈ l, rightE x = true ∧ isAtom x) : atoms (mergeL l) = l := by
  have := (merge_foldl l [] (by simp) hl).2
  exact this
theorem merge_all (l : List Ev) : atoms (mergeL (atoms l)) = atoms l := merge_atoms fun x hx => ⟨atoms_right x hx, atoms_atom x hx⟩
theorem merge_same (a b : List Ev) : mergeL (atoms a) = mergeL (atoms b) ↔ atoms a = atoms b := by
  constructor
  · intro h
    rw [← merge_all a, ← merge_all b, h]
  · intro h; rw [h]
theorem mstep_len (out : List Ev) (x : Ev) : (mstep out x).length ≤ out.length + 1 := by
  unfold mstep
  split
  · split
    · simp
    · simp
  · simp
theorem merge_len : ∀ (l : List Ev) (out : List Ev), (l.foldl mstep out).length ≤ out.length + l.length := by
  intro l
  induction l with
  | nil => intro out; simp
  | cons x r ih => intro out; have := ih (mstep out x); have := mstep_len out x; simp only [List.foldl_cons, List.length_cons]; omega
theorem mergeL_len (l : List Ev) : (mergeL l).length ≤ l.length := by have := merge_len l []; simp only [List.length_nil, Nat.zero_add] at this; exact this
theorem mergeL_snoc (l : List Ev) (x : Ev) : mergeL (l ++ [x]) = mstep (mergeL l) x := by unfold mergeL; rw [List.foldl_append]; rfl
end Go.Proofs.Ytnbdmlpnoiljdaa
