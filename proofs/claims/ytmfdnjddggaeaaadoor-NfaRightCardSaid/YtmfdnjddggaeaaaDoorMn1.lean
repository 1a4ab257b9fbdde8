/- Where matches end, as lists; which trees are told; the algebra of what is said. Plain. -/
import Derived.Test.YtmfdnjddggaeaaaDoorMn0
namespace Go.Proofs.YtmfdnjddggaeaaaDoor
open Go Go.RowKit

noncomputable def saysB (t : T) (s : List UInt8) : Bool := @decide (Lang t s) (Classical.propDecidable _)
theorem saysB_iff {t : T} {s : List UInt8} : saysB t s = true ↔ Lang t s := by unfold saysB; exact @decide_eq_true_iff _ (Classical.propDecidable _)
theorem saysB_eq {t t' : T} {s s' : List UInt8} (h : Lang t s ↔ Lang t' s') : saysB t s = saysB t' s' := by
  rw [Bool.eq_iff_iff, saysB_iff, saysB_iff]; exact h
def placesL (p : List Bool) : List Nat := (List.range p.length).filter fun j => p[j]? == some true
def oneP (a n : Nat) : List Bool := (List.replicate n false).set a true
theorem oneP_len (a n : Nat) : (oneP a n).length = n := by unfold oneP; simp
theorem oneP_in {a n : Nat} (h : a < n) (j : Nat) : inP (oneP a n) j ↔ j = a := by
  unfold inP oneP
  rw [List.getElem?_set]
  by_cases e : a = j
  · subst e; simp [h]
  · rw [if_neg e, List.getElem?_replicate]
    constructor
    · intro h'; split at h' <;> simp at h'
    · intro h'; exact absurd h'.symm e
def endsL (t : T) (l : List UInt8) (a : Nat) : List Nat := placesL (stepT l t (oneP a (l.length + 1)))
theorem step_one (t : T) (l : List UInt8) {a : Nat} (ha : a ≤ l.length) {j : Nat} (hj : j ≤ l.length) : inP (stepT l t (oneP a (l.length + 1))) j ↔ a ≤ j ∧ Lang t (seg l a j) := by
  rw [(stepT_sem l t (oneP a (l.length + 1)) (oneP_len _ _)).2 j hj]
  constructor
  · rintro ⟨i, h1, h2, h3⟩
    obtain rfl := (oneP_in (by omega) i).1 h2
    exact ⟨h1, h3⟩
  · rintro ⟨h1, h3⟩
    exact ⟨a, h1, (oneP_in (by omega) a).2 rfl, h3⟩
/-- The ends by the definition. -/
theorem ends_filter (t : T) (l : List UInt8) {a : Nat} (ha : a ≤ l.length) : endsL t l a = (List.range' a (l.length + 1 - a)).filter fun j => saysB t (seg l a j) := by
  unfold endsL placesL
  rw [(stepT_sem l t (oneP a (l.length + 1)) (oneP_len _ _)).1]
  have e1 : List.range (l.length + 1) = List.range' 0 a ++ List.range' a (l.length + 1 - a) := by
    rw [List.range_eq_range', show l.length + 1 = a + (l.length + 1 - a) by omega, ← List.range'_append_1]
    congr 2
    · omega
    · omega
  rw [e1, List.filter_append]
  have h1 : (List.range' 0 a).filter (fun j => (stepT l t (oneP a (l.length + 1)))[j]? == some true) = [] := by
    rw [List.filter_eq_nil_iff]
    intro j hj
    have hja : j < a := by have := List.mem_range'_1.1 hj; omega
    intro h
    have h2 : inP (stepT l t (oneP a (l.length + 1))) j := by unfold inP; simpa using h
    have := ((step_one t l ha (by omega)).1 h2).1
    omega
  rw [h1, List.nil_append]
  refine List.filter_congr fun j hj => ?_
  have hja := List.mem_range'_1.1 hj
  rw [Bool.eq_iff_iff, saysB_iff]
  have h2 := step_one t l ha (j := j) (by omega)
  unfold inP at h2
  simp only [beq_iff_eq]
  rw [h2]
  exact ⟨fun h => h.2, fun h => ⟨by omega, h⟩⟩
theorem ends_mem {t : T} {l : List UInt8} {a : Nat} (ha : a ≤ l.length) {j : Nat} : j ∈ endsL t l a ↔ a ≤ j ∧ j ≤ l.length ∧ Lang t (seg l a j) := by
  rw [ends_filter t l ha, List.mem_filter, List.mem_range'_1, saysB_iff]
  constructor
  · rintro ⟨⟨h1, h2⟩, h3⟩; exact ⟨h1, by omega, h3⟩
  · rintro ⟨h1, h2, h3⟩; exact ⟨⟨h1, by omega⟩, h3⟩
theorem says_ends (t : T) (l : List UInt8) : decide (l.length ∈ endsL t l 0) = saysB t l := by
  rw [Bool.eq_iff_iff, decide_eq_true_iff, saysB_iff, ends_mem (Nat.zero_le _), seg_whole]
  exact ⟨fun h => h.2.2, fun h => ⟨Nat.zero_le _, Nat.le_refl _, h⟩⟩
theorem ends_ext {t t' : T} (h : ∀ s, Lang t s ↔ Lang t' s) (l : List UInt8) {a : Nat} (ha : a ≤ l.length) : endsL t l a = endsL t' l a := by
  rw [ends_filter t l ha, ends_filter t' l ha]
  exact List.filter_congr fun j _ => saysB_eq (h _)

mutual
/-- Only kinds that there are, and kids where they must be. -/
def T.good : T → Prop
  | .node k _ _ _ ks => 1 ≤ k ∧ k ≤ 8 ∧ (5 ≤ k → ks ≠ []) ∧ goodL ks
def goodL : List T → Prop
  | [] => True
  | t :: ts => t.good ∧ goodL ts
end
theorem goodL_mem {ks : List T} (h : goodL ks) {t : T} (ht : t ∈ ks) : t.good := by
  induction ks with
  | nil => cases ht
  | cons x r ih =>
    unfold goodL at h
    rcases List.mem_cons.1 ht with rfl | ht
    · exact h.1
    · exact ih h.2 ht
theorem kidsOk_kind {k : Int} {n : Nat} (h : kidsOk k n = true) : 1 ≤ k ∧ k ≤ 8 ∧ (5 ≤ k → n ≠ 0) := by
  unfold kidsOk at h
  split at h
  · rename_i h1; omega
  split at h
  · rename_i h1 h2
    simp only [decide_eq_true_eq] at h
    omega
  split at h
  · rename_i h1 h2 h3
    simp only [decide_eq_true_eq] at h
    omega
  · cases h
mutual
theorem right_good : ∀ (t : T) (d g : Nat), (t.right d g).1 = true → t.good
  | .node k m z p ks, d, g => by
    intro h
    unfold T.right at h
    split at h
    · cases h
    · rename_i h1
      split at h
      · cases h
      · simp only [Bool.and_eq_true] at h
        have hk : kidsOk k ks.length = true := by
          cases hk : kidsOk k ks.length
          · exact absurd (.inr (.inl hk)) h1
          · rfl
        obtain ⟨a1, a2, a3⟩ := kidsOk_kind hk
        unfold T.good
        exact ⟨a1, a2, fun h5 e => a3 h5 (by rw [e]; rfl), rightL_good ks _ _ h.1⟩
theorem rightL_good : ∀ (ks : List T) (d g : Nat), (rightL ks d g).1 = true → goodL ks
  | [], _, _ => by intro _; unfold goodL; trivial
  | t :: ts, d, g => by
    intro h
    unfold rightL at h
    split at h
    · rename_i h1
      unfold goodL
      exact ⟨right_good t d g h1, rightL_good ts _ _ h⟩
    · cases h
end

theorem plus_parts {L : List UInt8 → Prop} {s : List UInt8} : Plus L s ↔ L s ∨ ∃ a b, s = a ++ b ∧ a ≠ [] ∧ b ≠ [] ∧ L a ∧ Plus L b := by
  constructor
  · intro h
    induction h with
    | one h => exact .inl h
    | @more a b h1 h2 ih =>
      by_cases ha : a = []
      · subst ha; exact ih
      by_cases hb : b = []
      · subst hb; rw [List.append_nil]; exact .inl h1
      · exact .inr ⟨a, b, rfl, ha, hb, h1, h2⟩
  · rintro (h | ⟨a, b, rfl, _, _, h1, h2⟩)
    · exact .one h
    · exact .more h1 h2
theorem plus_nil {L : List UInt8 → Prop} : Plus L [] ↔ L [] := by
  rw [plus_parts]
  constructor
  · rintro (h | ⟨a, b, e, ha, _⟩)
    · exact h
    · have := List.append_eq_nil_iff.1 e.symm
      exact absurd this.1 ha
  · exact .inl
mutual
/-- The empty text is said just where nullable says so. -/
theorem lang_nil : ∀ t : T, t.good → (Lang t [] ↔ t.nullable = true)
  | .node k m z p ks => by
    intro h
    unfold T.good at h
    obtain ⟨h1, h2, h3, h4⟩ := h
    have hL := langCat_nil ks h4
    have hA := langAlt_nil ks h4
    have hH : 5 ≤ k → (LangHead ks [] ↔ headN ks = true) := fun h5 => langHead_nil ks h4 (h3 h5)
    unfold Lang T.nullable
    by_cases k2 : k = 2
    · subst k2; simp
    by_cases k3 : k = 3
    · subst k3; simpa using hL
    by_cases k4 : k = 4
    · subst k4; simpa using hA
    by_cases k7 : k = 7
    · subst k7; simp
    by_cases k5 : k = 5
    · subst k5; simp
    by_cases k6 : k = 6
    · subst k6; simp [plus_nil]; exact hH (by omega)
    by_cases k8 : k = 8
    · subst k8; simpa using hH (by omega)
    · obtain rfl : k = 1 := by omega
      simp
theorem langCat_nil : ∀ ks : List T, goodL ks → (LangCat ks [] ↔ allN ks = true)
  | [] => by intro _; simp [LangCat, allN]
  | t :: ts => by
    intro h
    unfold goodL at h
    have h1 := lang_nil t h.1
    have h2 := langCat_nil ts h.2
    simp only [LangCat, allN, Bool.and_eq_true]
    rw [← h1, ← h2]
    constructor
    · rintro ⟨a, b, e, c, d⟩
      obtain ⟨rfl, rfl⟩ := List.append_eq_nil_iff.1 e.symm
      exact ⟨c, d⟩
    · rintro ⟨c, d⟩; exact ⟨[], [], rfl, c, d⟩
theorem langAlt_nil : ∀ ks : List T, goodL ks → (LangAlt ks [] ↔ anyN ks = true)
  | [] => by intro _; simp [LangAlt, anyN]
  | t :: ts => by
    intro h
    unfold goodL at h
    simp only [LangAlt, anyN, Bool.or_eq_true]
    rw [← lang_nil t h.1, ← langAlt_nil ts h.2]
theorem langHead_nil : ∀ ks : List T, goodL ks → ks ≠ [] → (LangHead ks [] ↔ headN ks = true)
  | [] => by intro _ h; exact absurd rfl h
  | t :: ts => by
    intro h _
    unfold goodL at h
    simp only [LangHead, headN]
    exact lang_nil t h.1
end

/-- What a Cat of two says. -/
theorem lang_cat2 {a b : T} {s : List UInt8} {m : Int} {z : Bool} {p : Nat → Bool} : Lang (.node 3 m z p [a, b]) s ↔ ∃ i, i ≤ s.length ∧ Lang a (s.take i) ∧ Lang b (s.drop i) := by
  simp only [Lang, LangCat]
  constructor
  · intro h
    simp at h
    obtain ⟨x, y, rfl, hx, hy⟩ := h
    exact ⟨x.length, by simp, by simpa using hx, by simpa using hy⟩
  · rintro ⟨i, hi, hx, hy⟩
    simp
    exact ⟨s.take i, s.drop i, (List.take_append_drop i s).symm, hx, hy⟩
theorem lang_alt2 {a b : T} {s : List UInt8} {m : Int} {z : Bool} {p : Nat → Bool} : Lang (.node 4 m z p [a, b]) s ↔ Lang a s ∨ Lang b s := by
  simp [Lang, LangAlt]
theorem lang_opt {a : T} {s : List UInt8} {m : Int} {z : Bool} {p : Nat → Bool} : Lang (.node 7 m z p [a]) s ↔ s = [] ∨ Lang a s := by
  simp [Lang, LangHead]
theorem lang_star {a : T} {s : List UInt8} {m : Int} {z : Bool} {p : Nat → Bool} : Lang (.node 5 m z p [a]) s ↔ s = [] ∨ Plus (Lang a) s := by
  simp only [Lang, LangHead]; simp
theorem lang_plus {a : T} {s : List UInt8} {m : Int} {z : Bool} {p : Nat → Bool} : Lang (.node 6 m z p [a]) s ↔ Plus (Lang a) s := by
  simp only [Lang, LangHead]; simp
/-- A Plus is its kid and then the Star. -/
theorem lang_both {a : T} {s : List UInt8} {m m' m'' : Int} {z z' z'' : Bool} {p p' p'' : Nat → Bool} : Lang (.node 3 m z p [a, .node 5 m' z' p' [a]]) s ↔ Lang (.node 6 m'' z'' p'' [a]) s := by
  rw [lang_cat2, lang_plus]
  constructor
  · rintro ⟨i, hi, hx, hy⟩
    rw [lang_star] at hy
    rcases hy with hy | hy
    · have : s.take i = s := by have := List.take_append_drop i s; rw [hy, List.append_nil] at this; exact this
      rw [this] at hx
      exact .one hx
    · have := Plus.more hx hy
      rwa [List.take_append_drop] at this
  · intro h
    cases h with
    | one h => exact ⟨s.length, Nat.le_refl _, by rw [List.take_length]; exact h, by rw [lang_star]; left; simp⟩
    | @more a9 b9 h1 h2 => exact ⟨a9.length, by simp, by simpa using h1, by rw [lang_star]; right; simpa using h2⟩

mutual
/-- A right tree without groups is right at any place that isn't too deep. -/
theorem right_move : ∀ (t : T) (d g d' g' : Nat), (t.right d g).1 = true → t.groups = 0 → d' + t.size ≤ 41 → (t.right d' g').1 = true ∧ (t.right d' g').2 = g'
  | .node k m z p ks, d, g, d', g' => by
    intro h hg hd
    unfold T.groups at hg
    have k8 : k ≠ 8 := by intro e; rw [if_pos e] at hg; omega
    rw [if_neg k8] at hg
    rw [size_node] at hd
    unfold T.right at h ⊢
    split at h
    · cases h
    · rename_i h1
      rw [if_neg (by rintro (h2 | h2); omega; exact h1 (.inr h2)), if_neg (by intro e; exact k8 e.1)]
      rw [if_neg (by intro e; exact k8 e.1)] at h
      simp only [k8, if_false, Bool.and_eq_true] at h ⊢
      obtain ⟨h3, h4⟩ := rightL_move ks _ _ (d' + 1) g' h.1 (by omega) (by omega)
      exact ⟨⟨h3, h.2⟩, h4⟩
theorem rightL_move : ∀ (ks : List T) (d g d' g' : Nat), (rightL ks d g).1 = true → groupsL ks = 0 → d' + sizeL ks ≤ 41 → (rightL ks d' g').1 = true ∧ (rightL ks d' g').2 = g'
  | [], _, _, _, _ => by intro _ _ _; unfold rightL; exact ⟨rfl, rfl⟩
  | t :: ts, d, g, d', g' => by
    intro h hg hd
    unfold groupsL at hg
    unfold sizeL at hd
    unfold rightL at h ⊢
    split at h
    · rename_i h1
      obtain ⟨h2, h3⟩ := right_move t d g d' g' h1 (by omega) (by have := size_pos t; omega)
      rw [if_pos h2, h3]
      exact rightL_move ts _ _ d' g' h (by omega) (by have := size_pos t; omega)
    · cases h
end
end Go.Proofs.YtmfdnjddggaeaaaDoor
