/- The first match of all trees: plain. -/
import Derived.Test.YtmfdnjddggaeaaaDoorMn1
namespace Go.Proofs.YtmfdnjddggaeaaaDoor
open Go Go.RowKit

/-- Tree t matches from a to b. -/
def Hit (t : T) (l : List UInt8) (a b : Nat) : Prop := a ≤ b ∧ b ≤ l.length ∧ Lang t (seg l a b)
/-- Where matches end, of a tree that need not be right. -/
def endsR (t : T) (l : List UInt8) (a : Nat) : List Nat := if (t.right 1 0).1 = true then endsL t l a else []
/-- The best of all that begin below N. -/
def Best1 (t : T) (l : List UInt8) (N f b : Nat) (is : Bool) : Prop :=
  (is = false → f = 0 ∧ b = 0 ∧ ((t.right 1 0).1 = true → ∀ a, a < N → ∀ c, ¬ Hit t l a c)) ∧
  (is = true → (t.right 1 0).1 = true ∧ f < N ∧ Hit t l f b ∧ ∀ a, a < N → ∀ c, Hit t l a c → b < c ∨ (b = c ∧ f ≤ a))
theorem best1_zero (t : T) (l : List UInt8) : Best1 t l 0 0 0 false := ⟨fun _ => ⟨rfl, rfl, fun _ a h => by omega⟩, fun h => by cases h⟩
theorem ends_head {t : T} {l : List UInt8} {a b : Nat} {r : List Nat} (ha : a ≤ l.length) (h : endsL t l a = b :: r) : Hit t l a b ∧ ∀ c, Hit t l a c → b ≤ c := by
  have hm : b ∈ endsL t l a := by rw [h]; exact List.mem_cons_self
  have h1 := (ends_mem ha).1 hm
  refine ⟨⟨h1.1, h1.2.1, h1.2.2⟩, fun c hc => ?_⟩
  have hcm : c ∈ endsL t l a := (ends_mem ha).2 ⟨hc.1, hc.2.1, hc.2.2⟩
  have hs : (endsL t l a).Pairwise (· < ·) := by
    rw [ends_filter t l ha]
    exact List.Pairwise.sublist List.filter_sublist (List.pairwise_lt_range' (s := a) (n := l.length + 1 - a))
  rw [h] at hs hcm
  rcases List.mem_cons.1 hcm with rfl | hcm
  · exact Nat.le_refl _
  · exact Nat.le_of_lt ((List.pairwise_cons.1 hs).1 c hcm)
theorem ends_none {t : T} {l : List UInt8} {a : Nat} (ha : a ≤ l.length) (h : endsL t l a = []) (c : Nat) : ¬ Hit t l a c := fun hc => by
  have : c ∈ endsL t l a := (ends_mem ha).2 ⟨hc.1, hc.2.1, hc.2.2⟩
  rw [h] at this
  cases this
theorem best1_skip {t : T} {l : List UInt8} {N f b : Nat} {is : Bool} (hN : N ≤ l.length) (h : Best1 t l N f b is) (he : endsR t l N = []) : Best1 t l (N + 1) f b is := by
  obtain ⟨h1, h2⟩ := h
  unfold endsR at he
  refine ⟨fun e => ?_, fun e => ?_⟩
  · obtain ⟨a1, a2, a3⟩ := h1 e
    refine ⟨a1, a2, fun hr a ha c => ?_⟩
    rw [if_pos hr] at he
    by_cases e2 : a = N
    · subst e2; exact ends_none hN he c
    · exact a3 hr a (by omega) c
  · obtain ⟨a1, a2, a3, a4⟩ := h2 e
    rw [if_pos a1] at he
    refine ⟨a1, by omega, a3, fun a ha c hc => ?_⟩
    by_cases e2 : a = N
    · subst e2; exact absurd hc (ends_none hN he c)
    · exact a4 a (by omega) c hc
theorem best1_keep {t : T} {l : List UInt8} {N f b e : Nat} {r : List Nat} (hN : N ≤ l.length) (h : Best1 t l N f b true) (he : endsR t l N = e :: r) (hb : ¬ e < b) : Best1 t l (N + 1) f b true := by
  obtain ⟨h1, h2⟩ := h
  obtain ⟨a1, a2, a3, a4⟩ := h2 rfl
  unfold endsR at he
  rw [if_pos a1] at he
  have h3 := ends_head hN he
  refine ⟨(fun e => by cases e), fun _ => ⟨a1, by omega, a3, fun a ha c hc => ?_⟩⟩
  by_cases e2 : a = N
  · subst e2; have := h3.2 c hc; omega
  · exact a4 a (by omega) c hc
theorem best1_take {t : T} {l : List UInt8} {N f b e : Nat} {is : Bool} {r : List Nat} (hN : N ≤ l.length) (h : Best1 t l N f b is) (he : endsR t l N = e :: r) (hb : is = true → e < b) : Best1 t l (N + 1) N e true := by
  obtain ⟨h1, h2⟩ := h
  unfold endsR at he
  have hr : (t.right 1 0).1 = true := by
    cases hr : (t.right 1 0).1
    · rw [hr] at he; simp at he
    · rfl
  rw [if_pos hr] at he
  have h3 := ends_head hN he
  refine ⟨(fun e => by cases e), fun _ => ⟨hr, by omega, h3.1, fun a ha c hc => ?_⟩⟩
  by_cases e2 : a = N
  · subst e2; have := h3.2 c hc; omega
  · cases is
    · exact absurd hc ((h1 rfl).2.2 hr a (by omega) c)
    · have := (h2 rfl).2.2.2 a (by omega) c hc
      have := hb rfl
      omega

/-- The best of the first N trees. -/
def HitR (ts : List T) (l : List UInt8) (i a b : Nat) : Prop := ∃ t, ts[i]? = some t ∧ (t.right 1 0).1 = true ∧ Hit t l a b
def Best (ts : List T) (l : List UInt8) (N k f b : Nat) (is : Bool) : Prop :=
  (is = false → k = 0 ∧ f = 0 ∧ b = 0 ∧ ∀ i, i < N → ∀ a c, ¬ HitR ts l i a c) ∧
  (is = true → k < N ∧ HitR ts l k f b ∧ ∀ i, i < N → ∀ a c, HitR ts l i a c → b < c ∨ (b = c ∧ (k < i ∨ (k = i ∧ f ≤ a))))
theorem best_zero (ts : List T) (l : List UInt8) : Best ts l 0 0 0 0 false := ⟨fun _ => ⟨rfl, rfl, rfl, fun i h => by omega⟩, fun h => by cases h⟩
theorem best_skip {ts : List T} {l : List UInt8} {N k f b : Nat} {is : Bool} {t : T} (ht : ts[N]? = some t) (h : Best ts l N k f b is) {f' b' : Nat} (h1 : Best1 t l (l.length + 1) f' b' false) : Best ts l (N + 1) k f b is := by
  have hno : ∀ a c, ¬ HitR ts l N a c := fun a c ⟨t', e, hr, hc⟩ => by
    obtain rfl : t' = t := by rw [ht] at e; injection e with e; exact e.symm
    exact (h1.1 rfl).2.2 hr a (by have := hc.1; have := hc.2.1; omega) c hc
  refine ⟨fun e => ?_, fun e => ?_⟩
  · obtain ⟨a1, a2, a3, a4⟩ := h.1 e
    refine ⟨a1, a2, a3, fun i hi a c => ?_⟩
    by_cases e2 : i = N
    · subst e2; exact hno a c
    · exact a4 i (by omega) a c
  · obtain ⟨a1, a2, a3⟩ := h.2 e
    refine ⟨by omega, a2, fun i hi a c hc => ?_⟩
    by_cases e2 : i = N
    · subst e2; exact absurd hc (hno a c)
    · exact a3 i (by omega) a c hc
theorem best_keep {ts : List T} {l : List UInt8} {N k f b : Nat} {t : T} (ht : ts[N]? = some t) (h : Best ts l N k f b true) {f' b' : Nat} (h1 : Best1 t l (l.length + 1) f' b' true) (hb : ¬ b' < b) : Best ts l (N + 1) k f b true := by
  obtain ⟨a1, a2, a3⟩ := h.2 rfl
  refine ⟨(fun e => by cases e), fun _ => ⟨by omega, a2, fun i hi a c hc => ?_⟩⟩
  by_cases e2 : i = N
  · subst e2
    obtain ⟨t', e, hr, hc⟩ := hc
    obtain rfl : t' = t := by rw [ht] at e; injection e with e; exact e.symm
    have := (h1.2 rfl).2.2.2 a (by have := hc.1; have := hc.2.1; omega) c hc
    omega
  · exact a3 i (by omega) a c hc
theorem best_take {ts : List T} {l : List UInt8} {N k f b : Nat} {is : Bool} {t : T} (ht : ts[N]? = some t) (h : Best ts l N k f b is) {f' b' : Nat} (h1 : Best1 t l (l.length + 1) f' b' true) (hb : is = true → b' < b) : Best ts l (N + 1) N f' b' true := by
  obtain ⟨c1, c2, c3, c4⟩ := h1.2 rfl
  refine ⟨(fun e => by cases e), fun _ => ⟨by omega, ⟨t, ht, c1, c3⟩, fun i hi a c hc => ?_⟩⟩
  by_cases e2 : i = N
  · subst e2
    obtain ⟨t', e, hr, hc⟩ := hc
    obtain rfl : t' = t := by rw [ht] at e; injection e with e; exact e.symm
    have := c4 a (by have := hc.1; have := hc.2.1; omega) c hc
    omega
  · cases is
    · exact absurd hc ((h.1 rfl).2.2.2 i (by omega) a c)
    · have := (h.2 rfl).2.2 i (by omega) a c hc
      have := hb rfl
      omega

/-- The trees that are right, and their places. -/
def kept (ts : List T) : List (T × Nat) := ts.zipIdx.filter fun x => (x.1.right 1 0).1
theorem kept_snoc (ts : List T) (t : T) : kept (ts ++ [t]) = kept ts ++ if (t.right 1 0).1 = true then [(t, ts.length)] else [] := by
  unfold kept
  rw [List.zipIdx_append, List.filter_append]
  congr 1
  simp only [List.zipIdx_cons, List.zipIdx_nil, Nat.zero_add]
  cases h : (t.right 1 0).1 <;> simp [h]
theorem kept_get {ts : List T} {k i : Nat} {t : T} (h : (kept ts)[k]? = some (t, i)) : ts[i]? = some t ∧ (t.right 1 0).1 = true := by
  have hm : (t, i) ∈ kept ts := List.mem_of_getElem? h
  unfold kept at hm
  obtain ⟨h1, h2⟩ := List.mem_filter.1 hm
  exact ⟨List.mem_zipIdx_iff_getElem?.1 h1, h2⟩
theorem kept_all {ts : List T} {i : Nat} {t : T} (h : ts[i]? = some t) (hr : (t.right 1 0).1 = true) : ∃ k : Nat, (kept ts)[k]? = some (t, i) := by
  have hm : (t, i) ∈ kept ts := List.mem_filter.2 ⟨List.mem_zipIdx_iff_getElem?.2 h, hr⟩
  exact List.getElem?_of_mem hm
theorem kept_sorted (ts : List T) : (kept ts).Pairwise (fun x y => x.2 < y.2) := by
  refine List.Pairwise.sublist List.filter_sublist ?_
  have h : ∀ (l : List T) (n : Nat), (l.zipIdx n).Pairwise (fun x y => x.2 < y.2) ∧ ∀ x ∈ l.zipIdx n, n ≤ x.2 := by
    intro l
    induction l with
    | nil => intro n; simp
    | cons a l ih =>
      intro n
      obtain ⟨h1, h2⟩ := ih (n + 1)
      rw [List.zipIdx_cons]
      refine ⟨List.pairwise_cons.2 ⟨fun x hx => by have := h2 x hx; show n < x.2; omega, h1⟩, fun x hx => ?_⟩
      rcases List.mem_cons.1 hx with rfl | hx
      · exact Nat.le_refl _
      · have := h2 x hx; omega
  exact (h ts 0).1
theorem kept_lt {ts : List T} {k k' i i' : Nat} {t t' : T} (h : (kept ts)[k]? = some (t, i)) (h' : (kept ts)[k']? = some (t', i')) : k < k' → i < i' := by
  intro hk
  obtain ⟨a1, a2⟩ := List.getElem?_eq_some_iff.1 h
  obtain ⟨b1, b2⟩ := List.getElem?_eq_some_iff.1 h'
  have := List.pairwise_iff_getElem.1 (kept_sorted ts) k k' a1 b1 hk
  rw [a2, b2] at this
  exact this
/-- What the document finds first, in the trees that are right. -/
def First (rs : List T) (l : List UInt8) (k f b : Nat) (is : Bool) : Prop :=
  (is = false → ∀ (i a c : Nat) t, rs[i]? = some t → ¬ Hit t l a c) ∧
  (is = true → ∃ t, rs[k]? = some t ∧ Hit t l f b ∧ ∀ (i a c : Nat) t, rs[i]? = some t → Hit t l a c → b < c ∨ (b = c ∧ (k < i ∨ (k = i ∧ f ≤ a))))
theorem first_law {ts : List T} {l : List UInt8} {k f b k' f' b' : Nat} {is is' : Bool} (h : Best ts l ts.length k f b is) (h' : First ((kept ts).map (·.1)) l k' f' b' is') :
    (is' = false → is = false ∧ k = 0 ∧ f = 0 ∧ b = 0) ∧ (is' = true → is = true ∧ ((kept ts).map (·.2))[k']? = some k ∧ f = f' ∧ b = b') := by
  have hget : ∀ {i : Nat} {t : T}, ((kept ts).map (·.1))[i]? = some t → ∃ j, (kept ts)[i]? = some (t, j) := by
    intro i t e
    rw [List.getElem?_map] at e
    cases hx : (kept ts)[i]? with
    | none => rw [hx] at e; cases e
    | some x => rw [hx] at e; obtain ⟨a, j⟩ := x; simp at e; subst e; exact ⟨j, rfl⟩
  have hlt : ∀ {i : Nat} {t : T}, ts[i]? = some t → i < ts.length := fun e => (List.getElem?_eq_some_iff.1 e).1
  constructor
  · intro e
    have hno := h'.1 e
    have hf : is = false := by
      cases is with
      | false => rfl
      | true =>
        obtain ⟨_, ⟨t, ht, hr, hh⟩, _⟩ := h.2 rfl
        obtain ⟨q, hq⟩ := kept_all ht hr
        exact absurd hh (hno q f b t (by rw [List.getElem?_map, hq]; rfl))
    obtain ⟨a1, a2, a3, _⟩ := h.1 hf
    exact ⟨hf, a1, a2, a3⟩
  · intro e
    obtain ⟨t', ht', hh', hmin'⟩ := h'.2 e
    obtain ⟨j', hj'⟩ := hget ht'
    obtain ⟨e1, e2⟩ := kept_get hj'
    cases is with
    | false => exact absurd ⟨t', e1, e2, hh'⟩ ((h.1 rfl).2.2.2 j' (hlt e1) f' b')
    | true =>
      obtain ⟨_, ⟨t, ht, hr, hh⟩, hmin⟩ := h.2 rfl
      obtain ⟨q, hq⟩ := kept_all ht hr
      have m1 := hmin j' (hlt e1) f' b' ⟨t', e1, e2, hh'⟩
      have m2 := hmin' q f b t (by rw [List.getElem?_map, hq]; rfl) hh
      have hbb : b = b' := by omega
      subst hbb
      have hjk : k = j' := by
        rcases m1 with m1 | ⟨_, m1 | ⟨m1, _⟩⟩
        · omega
        · rcases m2 with m2 | ⟨_, m2 | ⟨m2, _⟩⟩
          · omega
          · have := kept_lt hj' hq m2
            omega
          · subst m2
            rw [hj'] at hq
            simp at hq
            exact hq.2.symm
        · exact m1
      subst hjk
      have hqk : q = k' := by
        rcases Nat.lt_trichotomy q k' with h1 | h1 | h1
        · have := kept_lt hq hj' h1; omega
        · exact h1
        · have := kept_lt hj' hq h1; omega
      subst hqk
      have hff : f = f' := by omega
      refine ⟨rfl, by rw [List.getElem?_map, hj']; rfl, hff, rfl⟩
end Go.Proofs.YtmfdnjddggaeaaaDoor
