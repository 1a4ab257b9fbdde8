/- layer 39, plainly: events, their atoms, parted and put together. -/
import Derived.Test.YtnbdmlpnoiljdaaDoorRis
namespace Go.Proofs.YtnbdmlpnoiljdaaDoor

structure Ev where
  kind : Int
  n : Int
  b : List UInt8
  m : List Int
deriving DecidableEq

/-- Is an event right? -/
def rightE (e : Ev) : Bool :=
  if e.kind = 1 then decide (e.n = 0 ∧ e.b.length ≤ 1024) && risA (-1) e.b.length e.m
  else if e.kind = 2 ∨ e.kind = 3 then decide (0 ≤ e.n ∧ e.n ≤ 9999 ∧ e.b = [] ∧ e.m = [])
  else if e.kind = 4 then decide (e.n = 0 ∧ e.b = [] ∧ e.m = [])
  else false
def sizeE (e : Ev) : Int := if e.kind = 1 then e.b.length else if e.kind = 3 then e.n else -1
def marksIn (m : List Int) (i j : Nat) : List Int := (m.filter fun x => decide ((i : Int) ≤ x) && decide (x < (j : Int))).map fun x => x - i
def partE (e : Ev) (i j : Nat) : Ev := if e.kind = 3 then ⟨3, (j : Int) - i, [], []⟩ else ⟨1, 0, (e.b.take j).drop i, marksIn e.m i j⟩
def atomsE (e : Ev) : List Ev := if rightE e then (if sizeE e < 0 then [e] else (List.range (sizeE e).toNat).map fun i => partE e i (i + 1)) else []
def atoms (l : List Ev) : List Ev := l.flatMap atomsE
/-- Two events as one. -/
def joinP (a x : Ev) : Ev := if a.kind = 3 then ⟨3, a.n + x.n, [], []⟩ else ⟨1, 0, a.b ++ x.b, a.m ++ x.m.map fun y => (a.b.length : Int) + y⟩
def canJoin (a x : Ev) : Bool := decide (a.kind = x.kind) && (if a.kind = 3 then decide (a.n + x.n ≤ 9999) else decide (a.kind = 1 ∧ (a.b ++ x.b).length ≤ 1024))
def mstep (out : List Ev) (x : Ev) : List Ev :=
  match out.getLast? with
  | some a => if canJoin a x then out.dropLast ++ [joinP a x] else out ++ [x]
  | none => out ++ [x]
def mergeL (l : List Ev) : List Ev := l.foldl mstep []
/-- The places of marks in a row of atoms. -/
def jm : Nat → List Ev → List Int
  | _, [] => []
  | o, e :: r => (if e.m = [] then [] else [(o : Int)]) ++ jm (o + e.b.length) r
def bytesL (l : List Ev) : List UInt8 := l.flatMap (·.b)
def sumN (l : List Ev) : Int := (l.map (·.n)).sum
def joinL (l : List Ev) : Ev := ⟨(l.head?.map (·.kind)).getD 0, sumN l, bytesL l, jm 0 l⟩

/-- Atoms. -/
def isAtom (e : Ev) : Prop := (e.kind = 1 ∧ e.n = 0 ∧ e.b.length = 1 ∧ (e.m = [] ∨ e.m = [0])) ∨ (e.kind = 3 ∧ e.n = 1 ∧ e.b = [] ∧ e.m = []) ∨ (sizeE e < 0 ∧ e.b = [] ∧ e.m = [] ∧ rightE e = true)

theorem jm_append (o : Nat) (l r : List Ev) : jm o (l ++ r) = jm o l ++ jm (o + (bytesL l).length) r := by
  induction l generalizing o with
  | nil => simp [jm, bytesL]
  | cons e l ih => simp [jm, ih, bytesL, Nat.add_assoc]
theorem bytesL_append (l r : List Ev) : bytesL (l ++ r) = bytesL l ++ bytesL r := by simp [bytesL]
theorem sumN_append (l r : List Ev) : sumN (l ++ r) = sumN l + sumN r := by simp [sumN]

theorem risA_cons {last x : Int} {many : Nat} {r : List Int} (h : risA last many (x :: r) = true) : last < x ∧ x < many ∧ risA x many r = true := by
  simpa [risA] using h
/-- A mark stands once. -/
theorem marks_one {many : Nat} : ∀ {m : List Int} {last : Int} (_ : risA last many m = true) (i : Nat), marksIn m i (i + 1) = [] ∨ marksIn m i (i + 1) = [0] := by
  intro m
  induction m with
  | nil => intro _ _ i; left; rfl
  | cons x r ih =>
    intro last h i
    obtain ⟨h1, h2, h3⟩ := risA_cons h
    by_cases hx : x = i
    · right
      have hr : marksIn r i (i + 1) = [] := by
        unfold marksIn
        rw [List.map_eq_nil_iff, List.filter_eq_nil_iff]
        intro y hy
        have := risA_mem h3 y hy
        simp; omega
      unfold marksIn at hr ⊢
      have hd : (decide ((i : Int) ≤ x) && decide (x < ((i + 1 : Nat) : Int))) = true := by subst hx; simp; omega
      rw [List.filter_cons, if_pos hd, List.map_cons, hr]
      simp [hx]
    · have hx' : marksIn (x :: r) i (i + 1) = marksIn r i (i + 1) := by
        unfold marksIn
        have hd : ¬ (decide ((i : Int) ≤ x) && decide (x < ((i + 1 : Nat) : Int))) = true := by simp; omega
        rw [List.filter_cons, if_neg hd]
      rw [hx']
      exact ih h3 i
/-- The marks up to j, and the one at j. -/
theorem marks_snoc {many : Nat} : ∀ {m : List Int} {last : Int} (_ : risA last many m = true) (i j : Nat) (_ : i ≤ j), marksIn m i (j + 1) = marksIn m i j ++ (marksIn m j (j + 1)).map fun y => ((j - i : Nat) : Int) + y := by
  intro m
  induction m with
  | nil => intro _ _ i j _; rfl
  | cons x r ih =>
    intro last h i j hij
    obtain ⟨h1, h2, h3⟩ := risA_cons h
    have hi := ih h3 i j hij
    by_cases hx : x < i
    · have e : ∀ k, marksIn (x :: r) i k = marksIn r i k := fun k => by
        unfold marksIn; rw [List.filter_cons, if_neg (by simp; omega)]
      have e2 : marksIn (x :: r) j (j + 1) = marksIn r j (j + 1) := by
        unfold marksIn; rw [List.filter_cons, if_neg (by simp; omega)]
      rw [e, e, e2, hi]
    · by_cases hxj : x < j
      · have e : ∀ k, j ≤ k → marksIn (x :: r) i k = (x - i) :: marksIn r i k := fun k hk => by
          unfold marksIn; rw [List.filter_cons, if_pos (by simp; omega)]; rfl
        have e2 : marksIn (x :: r) j (j + 1) = marksIn r j (j + 1) := by
          unfold marksIn; rw [List.filter_cons, if_neg (by simp; omega)]
        rw [e _ (Nat.le_refl _), e _ (by omega), e2, hi]; rfl
      · have hr0 : marksIn r i j = [] := by
          unfold marksIn
          rw [List.map_eq_nil_iff, List.filter_eq_nil_iff]
          intro y hy
          have := risA_mem h3 y hy
          simp; omega
        have e0 : marksIn (x :: r) i j = [] := by
          unfold marksIn at hr0 ⊢; rw [List.filter_cons, if_neg (by simp; omega)]; exact hr0
        rw [hr0, List.nil_append] at hi
        rw [e0, List.nil_append]
        by_cases hxe : x = j
        · have e1 : marksIn (x :: r) i (j + 1) = (x - i) :: marksIn r i (j + 1) := by
            unfold marksIn; rw [List.filter_cons, if_pos (by simp; omega)]; rfl
          have e2 : marksIn (x :: r) j (j + 1) = (x - j) :: marksIn r j (j + 1) := by
            unfold marksIn; rw [List.filter_cons, if_pos (by simp; omega)]; rfl
          rw [e1, e2, hi, List.map_cons]
          congr 1
          omega
        · have e1 : marksIn (x :: r) i (j + 1) = marksIn r i (j + 1) := by
            unfold marksIn; rw [List.filter_cons, if_neg (by simp; omega)]
          have e2 : marksIn (x :: r) j (j + 1) = marksIn r j (j + 1) := by
            unfold marksIn; rw [List.filter_cons, if_neg (by simp; omega)]
          rw [e1, e2, hi]

theorem right_kind {e : Ev} (h : rightE e = true) : e.kind = 1 ∨ e.kind = 2 ∨ e.kind = 3 ∨ e.kind = 4 := by
  unfold rightE at h
  split at h
  · omega
  · split at h
    · omega
    · split at h
      · omega
      · cases h
theorem right1 {e : Ev} (h : rightE e = true) (hk : e.kind = 1) : e.n = 0 ∧ e.b.length ≤ 1024 ∧ risA (-1) e.b.length e.m = true := by
  unfold rightE at h
  simp [hk] at h
  exact ⟨h.1.1, h.1.2, h.2⟩
theorem right3 {e : Ev} (h : rightE e = true) (hk : e.kind = 3) : 0 ≤ e.n ∧ e.n ≤ 9999 ∧ e.b = [] ∧ e.m = [] := by
  unfold rightE at h
  simpa [hk] using h
theorem rightO {e : Ev} (h : rightE e = true) (h1 : e.kind ≠ 1) : e.b = [] ∧ e.m = [] := by
  unfold rightE at h
  rcases right_kind (by unfold rightE; exact h) with hk | hk | hk | hk
  · exact absurd hk h1
  all_goals simp [hk] at h; simp [h]

/-- A part grows by an atom. -/
theorem part_snoc {e : Ev} (h : rightE e = true) (hs : ¬ sizeE e < 0) {i j : Nat} (hij : i ≤ j) (hj : (j : Int) < sizeE e) : partE e i (j + 1) = joinP (partE e i j) (partE e j (j + 1)) := by
  rcases right_kind h with hk | hk | hk | hk
  · obtain ⟨_, _, hr⟩ := right1 h hk
    have hjl : j < e.b.length := by unfold sizeE at hj; rw [if_pos hk] at hj; omega
    unfold partE joinP
    simp only [hk, show ((1 : Int) = 3) = False by simp, if_false]
    simp only [Ev.mk.injEq, true_and]
    constructor
    · rw [List.take_succ_eq_append_getElem hjl, List.drop_append_of_le_length (by simp; omega)]
      congr 1
      rw [List.drop_left' (by simp; omega)]
    · rw [marks_snoc hr i j hij]
      simp only [List.length_drop, List.length_take]
      rw [show min j e.b.length - i = j - i by omega]
  · simp [sizeE, hk] at hs
  · unfold partE joinP
    simp only [hk, if_true]
    simp; omega
  · simp [sizeE, hk] at hs
end Go.Proofs.YtnbdmlpnoiljdaaDoor
