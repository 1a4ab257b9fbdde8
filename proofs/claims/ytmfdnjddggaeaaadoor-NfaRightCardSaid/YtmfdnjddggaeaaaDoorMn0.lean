/- What trees say: places, languages. Plain. -/
import Derived.Test.YtmfdnjddggaeaaaDoorTgL
namespace Go.Proofs.YtmfdnjddggaeaaaDoor
open Go Go.RowKit

/-- Is this place in? -/
def inP (p : List Bool) (j : Nat) : Prop := p[j]? = some true
def orL (p q : List Bool) : List Bool := List.zipWith (fun a b => a || b) p q
def byteL (l : List UInt8) (s : Nat → Bool) (p : List Bool) : List Bool := false :: List.zipWith (fun b (c : UInt8) => b && s c.toNat) p l
def closF (f : List Bool → List Bool) : Nat → List Bool → List Bool
  | 0, p => p
  | n + 1, p => if orL p (f p) = p then p else closF f n (orL p (f p))
/-- How many places are out. -/
def outs (p : List Bool) : Nat := (p.filter (fun b => !b)).length
mutual
def stepT (l : List UInt8) : T → List Bool → List Bool
  | .node k _ _ s ks => fun p =>
    if k = 2 then byteL l s p
    else if k = 3 then stepCat l ks p
    else if k = 4 then stepAlt l ks p (List.replicate p.length false)
    else if k = 7 then orL p (stepHead l ks p)
    else if k = 5 then closF (stepHead l ks) (p.length + 1) p
    else if k = 6 then closF (stepHead l ks) (p.length + 1) (stepHead l ks p)
    else if k = 8 then stepHead l ks p
    else p
def stepCat (l : List UInt8) : List T → List Bool → List Bool
  | [] => fun p => p
  | t :: ts => fun p => stepCat l ts (stepT l t p)
def stepAlt (l : List UInt8) : List T → List Bool → List Bool → List Bool
  | [] => fun _ acc => acc
  | t :: ts => fun p acc => stepAlt l ts p (orL acc (stepT l t p))
def stepHead (l : List UInt8) : List T → List Bool → List Bool
  | [] => fun p => p
  | t :: _ => fun p => stepT l t p
end
/-- One or more, one behind the other. -/
inductive Plus (L : List UInt8 → Prop) : List UInt8 → Prop where
  | one {s : List UInt8} : L s → Plus L s
  | more {a b : List UInt8} : L a → Plus L b → Plus L (a ++ b)
mutual
def Lang : T → List UInt8 → Prop
  | .node k _ _ p ks => fun s =>
    if k = 2 then ∃ c : UInt8, s = [c] ∧ p c.toNat = true
    else if k = 3 then LangCat ks s
    else if k = 4 then LangAlt ks s
    else if k = 7 then s = [] ∨ LangHead ks s
    else if k = 5 then s = [] ∨ Plus (LangHead ks) s
    else if k = 6 then Plus (LangHead ks) s
    else if k = 8 then LangHead ks s
    else s = []
def LangCat : List T → List UInt8 → Prop
  | [] => fun s => s = []
  | t :: ts => fun s => ∃ a b, s = a ++ b ∧ Lang t a ∧ LangCat ts b
def LangAlt : List T → List UInt8 → Prop
  | [] => fun _ => False
  | t :: ts => fun s => Lang t s ∨ LangAlt ts s
def LangHead : List T → List UInt8 → Prop
  | [] => fun s => s = []
  | t :: _ => fun s => Lang t s
end

/-- A part of a text. -/
def seg (l : List UInt8) (i j : Nat) : List UInt8 := (l.drop i).take (j - i)
theorem seg_len {l : List UInt8} {i j : Nat} (h : j ≤ l.length) : (seg l i j).length = j - i := by
  unfold seg
  rw [List.length_take, List.length_drop]; omega
theorem seg_self (l : List UInt8) (i : Nat) : seg l i i = [] := by unfold seg; simp
theorem seg_nil {l : List UInt8} {i j : Nat} (h : i ≤ j) (hj : j ≤ l.length) (e : seg l i j = []) : i = j := by
  have := seg_len (i := i) hj
  rw [e] at this; simp at this; omega
theorem seg_app {l : List UInt8} {i j k : Nat} (h1 : i ≤ j) (h2 : j ≤ k) : seg l i j ++ seg l j k = seg l i k := by
  unfold seg
  have e : l.drop j = (l.drop i).drop (j - i) := by rw [List.drop_drop]; congr 1; omega
  rw [e, ← List.take_append_drop (j - i) ((l.drop i).take (k - i)), List.take_take, List.drop_take]
  congr 2
  · omega
  · omega
theorem seg_one {l : List UInt8} {i : Nat} {c : UInt8} (h : l[i]? = some c) : seg l i (i + 1) = [c] := by
  unfold seg
  obtain ⟨hl, rfl⟩ := List.getElem?_eq_some_iff.1 h
  rw [show i + 1 - i = 1 by omega, List.drop_eq_getElem_cons hl]
  rfl
theorem seg_one' {l : List UInt8} {i j : Nat} {c : UInt8} (hij : i ≤ j) (hj : j ≤ l.length) (h : seg l i j = [c]) : j = i + 1 ∧ l[i]? = some c := by
  have h1 := seg_len (i := i) hj
  rw [h] at h1
  simp at h1
  obtain rfl : j = i + 1 := by omega
  refine ⟨rfl, ?_⟩
  have hl : i < l.length := by omega
  have := seg_one (List.getElem?_eq_getElem hl)
  rw [h] at this
  injection this with e
  rw [e]; exact List.getElem?_eq_getElem hl
/-- A part that is put together of two is parted so. -/
theorem seg_split {l : List UInt8} {i k : Nat} {a b : List UInt8} (h : i ≤ k) (hk : k ≤ l.length) (e : seg l i k = a ++ b) : ∃ j, i ≤ j ∧ j ≤ k ∧ a = seg l i j ∧ b = seg l j k := by
  have hl := seg_len (i := i) hk
  rw [e, List.length_append] at hl
  have h1 : i ≤ i + a.length := by omega
  have h2 : i + a.length ≤ k := by omega
  have h3 := seg_app (l := l) h1 h2
  rw [e] at h3
  have h4 : (seg l i (i + a.length)).length = a.length := by rw [seg_len (by omega)]; omega
  obtain ⟨h5, h6⟩ := List.append_inj h3 h4
  exact ⟨i + a.length, h1, h2, h5.symm, h6.symm⟩
theorem seg_whole (l : List UInt8) : seg l 0 l.length = l := by unfold seg; simp
theorem seg_pre (l : List UInt8) (j : Nat) : seg l 0 j = l.take j := by unfold seg; simp
theorem seg_suf (l : List UInt8) (i : Nat) : seg l i l.length = l.drop i := by
  unfold seg
  rw [← List.length_drop, List.take_length]

theorem inP_lt {p : List Bool} {j : Nat} (h : inP p j) : j < p.length := (List.getElem?_eq_some_iff.1 h).1
theorem orL_len {p q : List Bool} (h : p.length = q.length) : (orL p q).length = p.length := by unfold orL; rw [List.length_zipWith]; omega
theorem orL_in {p q : List Bool} (h : p.length = q.length) (j : Nat) : inP (orL p q) j ↔ inP p j ∨ inP q j := by
  unfold inP orL
  rw [List.getElem?_zipWith]
  by_cases hj : j < p.length
  · rw [List.getElem?_eq_getElem hj, List.getElem?_eq_getElem (by omega : j < q.length)]
    simp
  · rw [List.getElem?_eq_none (by omega), List.getElem?_eq_none (by omega)]
    simp
theorem byteL_len {l : List UInt8} {s : Nat → Bool} {p : List Bool} (h : p.length = l.length + 1) : (byteL l s p).length = p.length := by unfold byteL; simp; omega
theorem byteL_in {l : List UInt8} {s : Nat → Bool} {p : List Bool} (h : p.length = l.length + 1) (j : Nat) : inP (byteL l s p) j ↔ ∃ i c, j = i + 1 ∧ inP p i ∧ l[i]? = some c ∧ s c.toNat = true := by
  unfold inP byteL
  cases j with
  | zero => simp
  | succ i =>
    rw [List.getElem?_cons_succ, List.getElem?_zipWith]
    by_cases hi : i < l.length
    · rw [List.getElem?_eq_getElem hi, List.getElem?_eq_getElem (by omega : i < p.length)]
      constructor
      · intro e
        simp at e
        exact ⟨i, l[i], rfl, by rw [List.getElem?_eq_getElem (by omega : i < p.length)]; rw [e.1], List.getElem?_eq_getElem hi, e.2⟩
      · rintro ⟨i', c, e, h1, h2, h3⟩
        obtain rfl : i' = i := by omega
        rw [List.getElem?_eq_getElem (by omega : i' < p.length)] at h1
        rw [List.getElem?_eq_getElem hi] at h2
        injection h1 with h1
        injection h2 with h2
        simp [h1, h2, h3]
    · constructor
      · rw [List.getElem?_eq_none (by omega : l.length ≤ i)]
        intro e
        cases hp : p[i]? <;> rw [hp] at e <;> simp at e
      · rintro ⟨i', c, e, h1, h2, h3⟩
        obtain rfl : i' = i := by omega
        rw [List.getElem?_eq_none (by omega : l.length ≤ i')] at h2
        cases h2
theorem outs_or {p q : List Bool} (h : p.length = q.length) : outs (orL p q) ≤ outs p ∧ (orL p q ≠ p → outs (orL p q) < outs p) := by
  induction p generalizing q with
  | nil => cases q <;> simp [orL, outs]
  | cons a p ih =>
    cases q with
    | nil => simp at h
    | cons b q =>
      have hi := ih (q := q) (by simpa using h)
      have e : orL (a :: p) (b :: q) = (a || b) :: orL p q := rfl
      rw [e]
      have ho : ∀ (c : Bool) (r : List Bool), outs (c :: r) = (if c then 0 else 1) + outs r := fun c r => by
        cases c <;> simp [outs] <;> omega
      rw [ho, ho]
      cases a <;> cases b
      · simp only [Bool.or_self, Bool.false_eq_true, if_false]
        refine ⟨by omega, fun hn => ?_⟩
        have := hi.2 (fun e => hn (by rw [e]))
        omega
      · simp only [Bool.or_true, if_true, Bool.false_eq_true, if_false]
        exact ⟨by omega, fun _ => by omega⟩
      · simp only [Bool.or_false, if_true]
        refine ⟨by omega, fun hn => ?_⟩
        have := hi.2 (fun e => hn (by rw [e]))
        omega
      · simp only [Bool.or_self, if_true]
        refine ⟨by omega, fun hn => ?_⟩
        have := hi.2 (fun e => hn (by rw [e]))
        omega
theorem outs_le (p : List Bool) : outs p ≤ p.length := List.length_filter_le _ _

/-- A step of places by a language. -/
def Steps (l : List UInt8) (f : List Bool → List Bool) (L : List UInt8 → Prop) : Prop :=
  ∀ p : List Bool, p.length = l.length + 1 → (f p).length = l.length + 1 ∧ ∀ j, j ≤ l.length → (inP (f p) j ↔ ∃ i, i ≤ j ∧ inP p i ∧ L (seg l i j))
theorem closF_len {l : List UInt8} {f : List Bool → List Bool} {L : List UInt8 → Prop} (hf : Steps l f L) : ∀ n p, p.length = l.length + 1 → (closF f n p).length = l.length + 1 := by
  intro n
  induction n with
  | zero => intro p hp; exact hp
  | succ n ih =>
    intro p hp
    rw [closF]
    split
    · exact hp
    · exact ih _ (by rw [orL_len (by rw [hp, (hf p hp).1]), hp])
/-- What one place after the other leads to. -/
theorem plus_closed {l : List UInt8} {f : List Bool → List Bool} {L : List UInt8 → Prop} (hf : Steps l f L) {p : List Bool} (hp : p.length = l.length + 1) (hc : orL p (f p) = p) {s : List UInt8} (hs : Plus L s) :
    ∀ i j, i ≤ j → j ≤ l.length → seg l i j = s → inP p i → inP p j := by
  have h1 : ∀ i j, i ≤ j → j ≤ l.length → L (seg l i j) → inP p i → inP p j := by
    intro i j hij hj hL hi
    have : inP (orL p (f p)) j := (orL_in (by rw [hp, (hf p hp).1]) j).2 (.inr (((hf p hp).2 j hj).2 ⟨i, hij, hi, hL⟩))
    rwa [hc] at this
  induction hs with
  | one h => intro i j hij hj e hi; exact h1 i j hij hj (by rw [e]; exact h) hi
  | more h _ ih =>
    intro i j hij hj e hi
    obtain ⟨m, a1, a2, rfl, rfl⟩ := seg_split hij hj e
    exact ih m j a2 hj rfl (h1 i m a1 (by omega) h hi)
theorem closF_in {l : List UInt8} {f : List Bool → List Bool} {L : List UInt8 → Prop} (hf : Steps l f L) : ∀ n p, p.length = l.length + 1 → outs p < n → ∀ j, j ≤ l.length →
    (inP (closF f n p) j ↔ ∃ i, i ≤ j ∧ inP p i ∧ (i = j ∨ Plus L (seg l i j))) := by
  intro n
  induction n with
  | zero => intro p _ h; omega
  | succ n ih =>
    intro p hp hn j hj
    have hl : p.length = (f p).length := by rw [hp, (hf p hp).1]
    rw [closF]
    by_cases hc : orL p (f p) = p
    · rw [if_pos hc]
      constructor
      · intro h; exact ⟨j, Nat.le_refl _, h, .inl rfl⟩
      · rintro ⟨i, hij, hi, rfl | h⟩
        · exact hi
        · exact plus_closed hf hp hc h i j hij hj rfl hi
    · rw [if_neg hc]
      have ho := (outs_or hl).2 hc
      rw [ih _ (by rw [orL_len hl, hp]) (by omega) j hj]
      constructor
      · rintro ⟨i, hij, hi, h⟩
        rcases (orL_in hl i).1 hi with h1 | h1
        · exact ⟨i, hij, h1, h⟩
        · obtain ⟨i0, h2, h3, h4⟩ := ((hf p hp).2 i (by omega)).1 h1
          refine ⟨i0, by omega, h3, .inr ?_⟩
          rcases h with rfl | h
          · exact .one h4
          · rw [← seg_app h2 hij]; exact .more h4 h
      · rintro ⟨i, hij, hi, h⟩
        exact ⟨i, hij, (orL_in hl i).2 (.inl hi), h⟩

mutual
theorem stepT_sem (l : List UInt8) : ∀ t : T, Steps l (stepT l t) (Lang t)
  | .node k m z s ks => by
    intro p hp
    have hH := stepHead_sem l ks
    by_cases k2 : k = 2
    · simp only [stepT, if_pos k2]
      refine ⟨by rw [byteL_len hp, hp], fun j hj => ?_⟩
      simp only [Lang, if_pos k2]
      rw [byteL_in hp]
      constructor
      · rintro ⟨i, c, rfl, h1, h2, h3⟩
        exact ⟨i, by omega, h1, c, seg_one h2, h3⟩
      · rintro ⟨i, hij, h1, c, h2, h3⟩
        obtain ⟨rfl, h4⟩ := seg_one' hij hj h2
        exact ⟨i, c, rfl, h1, h4, h3⟩
    by_cases k3 : k = 3
    · have := stepCat_sem l ks p hp
      simp only [stepT, if_neg k2, if_pos k3, Lang]
      exact this
    by_cases k4 : k = 4
    · obtain ⟨h1, h2⟩ := stepAlt_sem l ks p hp (List.replicate p.length false) (by simp [hp])
      simp only [stepT, if_neg k2, if_neg k3, if_pos k4, Lang]
      refine ⟨h1, fun j hj => (h2 j hj).trans ⟨fun h => ?_, fun h => .inr h⟩⟩
      rcases h with h | h
      · unfold inP at h
        rw [List.getElem?_replicate] at h
        split at h <;> cases h
      · exact h
    by_cases k7 : k = 7
    · have hl : p.length = (stepHead l ks p).length := by rw [hp, (hH p hp).1]
      simp only [stepT, if_neg k2, if_neg k3, if_neg k4, if_pos k7, Lang]
      refine ⟨by rw [orL_len hl, hp], fun j hj => ?_⟩
      rw [orL_in hl, (hH p hp).2 j hj]
      constructor
      · rintro (h | ⟨i, a, b, c⟩)
        · exact ⟨j, Nat.le_refl _, h, .inl (seg_self l j)⟩
        · exact ⟨i, a, b, .inr c⟩
      · rintro ⟨i, a, b, c | c⟩
        · obtain rfl := seg_nil a hj c
          exact .inl b
        · exact .inr ⟨i, a, b, c⟩
    by_cases k5 : k = 5
    · have h1 := closF_len hH (p.length + 1) p hp
      have h2 := closF_in hH (p.length + 1) p hp (by have := outs_le p; omega)
      simp only [stepT, if_neg k2, if_neg k3, if_neg k4, if_neg k7, if_pos k5, Lang]
      refine ⟨h1, fun j hj => (h2 j hj).trans ⟨?_, ?_⟩⟩
      · rintro ⟨i, a, b, rfl | c⟩
        · exact ⟨i, a, b, .inl (seg_self l i)⟩
        · exact ⟨i, a, b, .inr c⟩
      · rintro ⟨i, a, b, c | c⟩
        · exact ⟨i, a, b, .inl (seg_nil a hj c)⟩
        · exact ⟨i, a, b, .inr c⟩
    by_cases k6 : k = 6
    · have hl := (hH p hp).1
      have h1 := closF_len hH (p.length + 1) _ hl
      have h2 := closF_in hH (p.length + 1) _ hl (by have := outs_le (stepHead l ks p); rw [hl, ← hp] at this; omega)
      simp only [stepT, if_neg k2, if_neg k3, if_neg k4, if_neg k7, if_neg k5, if_pos k6, Lang]
      refine ⟨h1, fun j hj => (h2 j hj).trans ⟨?_, ?_⟩⟩
      · rintro ⟨i, a, b, c⟩
        obtain ⟨i0, d1, d2, d3⟩ := ((hH p hp).2 i (by omega)).1 b
        rcases c with rfl | c
        · exact ⟨i0, d1, d2, .one d3⟩
        · exact ⟨i0, by omega, d2, by rw [← seg_app d1 a]; exact .more d3 c⟩
      · rintro ⟨i, a, b, c⟩
        generalize hs : seg l i j = s9 at c
        cases c with
        | one c => exact ⟨j, Nat.le_refl _, ((hH p hp).2 j hj).2 ⟨i, a, b, by rw [hs]; exact c⟩, .inl rfl⟩
        | more c d =>
          obtain ⟨m9, e1, e2, rfl, rfl⟩ := seg_split a hj hs
          exact ⟨m9, e2, ((hH p hp).2 m9 (by omega)).2 ⟨i, e1, b, c⟩, .inr d⟩
    by_cases k8 : k = 8
    · simp only [stepT, if_neg k2, if_neg k3, if_neg k4, if_neg k7, if_neg k5, if_neg k6, if_pos k8, Lang]
      exact hH p hp
    · simp only [stepT, if_neg k2, if_neg k3, if_neg k4, if_neg k7, if_neg k5, if_neg k6, if_neg k8, Lang]
      refine ⟨hp, fun j hj => ⟨fun h => ⟨j, Nat.le_refl _, h, seg_self l j⟩, ?_⟩⟩
      rintro ⟨i, a, b, c⟩
      obtain rfl := seg_nil a hj c
      exact b
theorem stepCat_sem (l : List UInt8) : ∀ ks : List T, Steps l (stepCat l ks) (LangCat ks)
  | [] => by
    intro p hp
    simp only [stepCat, LangCat]
    refine ⟨hp, fun j hj => ⟨fun h => ⟨j, Nat.le_refl _, h, seg_self l j⟩, ?_⟩⟩
    rintro ⟨i, a, b, c⟩
    obtain rfl := seg_nil a hj c
    exact b
  | t :: ts => by
    intro p hp
    obtain ⟨h1, h2⟩ := stepT_sem l t p hp
    obtain ⟨h3, h4⟩ := stepCat_sem l ts _ h1
    simp only [stepCat, LangCat]
    refine ⟨h3, fun j hj => (h4 j hj).trans ⟨?_, ?_⟩⟩
    · rintro ⟨i, a, b, c⟩
      obtain ⟨i0, d1, d2, d3⟩ := (h2 i (by omega)).1 b
      exact ⟨i0, by omega, d2, _, _, (seg_app d1 a).symm, d3, c⟩
    · rintro ⟨i, a, b, s1, s2, e, c, d⟩
      obtain ⟨m9, e1, e2, rfl, rfl⟩ := seg_split a hj e
      exact ⟨m9, e2, (h2 m9 (by omega)).2 ⟨i, e1, b, c⟩, d⟩
theorem stepAlt_sem (l : List UInt8) : ∀ ks : List T, ∀ p, p.length = l.length + 1 → ∀ acc, acc.length = l.length + 1 → (stepAlt l ks p acc).length = l.length + 1 ∧
    ∀ j, j ≤ l.length → (inP (stepAlt l ks p acc) j ↔ inP acc j ∨ ∃ i, i ≤ j ∧ inP p i ∧ LangAlt ks (seg l i j))
  | [] => by
    intro p hp acc ha
    simp only [stepAlt, LangAlt]
    exact ⟨ha, fun j _ => ⟨fun h => .inl h, fun h => h.elim id (fun ⟨_, _, _, h⟩ => h.elim)⟩⟩
  | t :: ts => by
    intro p hp acc ha
    obtain ⟨h1, h2⟩ := stepT_sem l t p hp
    have hl : acc.length = (stepT l t p).length := by rw [ha, h1]
    obtain ⟨h3, h4⟩ := stepAlt_sem l ts p hp (orL acc (stepT l t p)) (by rw [orL_len hl, ha])
    simp only [stepAlt, LangAlt]
    refine ⟨h3, fun j hj => (h4 j hj).trans ?_⟩
    rw [orL_in hl, h2 j hj]
    constructor
    · rintro ((h | ⟨i, a, b, c⟩) | ⟨i, a, b, c⟩)
      · exact .inl h
      · exact .inr ⟨i, a, b, .inl c⟩
      · exact .inr ⟨i, a, b, .inr c⟩
    · rintro (h | ⟨i, a, b, c | c⟩)
      · exact .inl (.inl h)
      · exact .inl (.inr ⟨i, a, b, c⟩)
      · exact .inr ⟨i, a, b, c⟩
theorem stepHead_sem (l : List UInt8) : ∀ ks : List T, Steps l (stepHead l ks) (LangHead ks)
  | [] => by
    intro p hp
    simp only [stepHead, LangHead]
    refine ⟨hp, fun j hj => ⟨fun h => ⟨j, Nat.le_refl _, h, seg_self l j⟩, ?_⟩⟩
    rintro ⟨i, a, b, c⟩
    obtain rfl := seg_nil a hj c
    exact b
  | t :: ts => by
    intro p hp
    have := stepT_sem l t p hp
    simp only [stepHead, LangHead]
    exact this
end
end Go.Proofs.YtmfdnjddggaeaaaDoor
