import Derived.Laws.CopyOwn
namespace Go.Proofs.YtnbdmlpnoiljdaaDoor
open Go

theorem splice_get {α : Type} (L : List α) (off : Nat) (cs : List α) (h : off + cs.length ≤ L.length) (i : Nat) :
    (splice L off cs)[i]? = if i < off then L[i]? else if i < off + cs.length then cs[i - off]? else L[i]? := by
  unfold splice
  by_cases h1 : i < off
  · rw [List.getElem?_append_left (by simp; omega), List.getElem?_take, if_pos h1, if_pos h1]
  · rw [List.getElem?_append_right (by simp; omega), if_neg h1]
    have hl : (L.take off).length = off := by simp; omega
    rw [hl]
    by_cases h2 : i < off + cs.length
    · rw [List.getElem?_append_left (by omega), if_pos h2]
    · rw [List.getElem?_append_right (by omega), if_neg h2, List.getElem?_drop]
      congr 1; omega

/-- The bytes q wait in the circle s of R places, the first one at f. -/
structure Circ (s : List UInt8) (R f : Nat) (q : List UInt8) : Prop where
  len : s.length = R
  fits : q.length ≤ R
  at_ : ∀ i x, q[i]? = some x → s[(f + i) % R]? = some x

theorem Circ.put {s : List UInt8} {R f : Nat} {q b : List UInt8} (h : Circ s R f q) (hf : f < R) (hb : q.length + b.length ≤ R) {at' k : Nat} (ha : at' = (f + q.length) % R) (hk : k = min b.length (R - at')) :
    Circ (splice (splice s at' (b.take k)) 0 (b.drop k)) R f (q ++ b) := by
  have hR : 0 < R := by omega
  have hlt : at' < R := by rw [ha]; exact Nat.mod_lt _ hR
  have hl1 : (splice s at' (b.take k)).length = R := by rw [length_splice _ _ _ (by rw [h.len]; simp; omega), h.len]
  have hk2 : (b.drop k).length ≤ at' := by simp; omega
  refine ⟨by rw [length_splice _ _ _ (by rw [hl1]; omega), hl1], by simp; omega, fun i x hx => ?_⟩
  have hm : (f + i) % R < R := Nat.mod_lt _ hR
  rw [splice_get _ _ _ (by rw [hl1]; omega), if_neg (by omega), Nat.zero_add, Nat.sub_zero, splice_get _ _ _ (by rw [h.len]; simp; omega)]
  have hi : i < q.length + b.length := by
    have := (List.getElem?_eq_some_iff.1 hx).1; simpa using this
  -- what (f + i) % R is
  have e1 : (f + i < R ∧ (f + i) % R = f + i) ∨ (R ≤ f + i ∧ (f + i) % R = f + i - R) := by
    by_cases h : f + i < R
    · exact .inl ⟨h, Nat.mod_eq_of_lt h⟩
    · exact .inr ⟨by omega, by rw [Nat.mod_eq_sub_mod (by omega), Nat.mod_eq_of_lt (by omega)]⟩
  have e2 : (f + q.length < R ∧ at' = f + q.length) ∨ (R ≤ f + q.length ∧ at' = f + q.length - R) := by
    rw [ha]
    by_cases h : f + q.length < R
    · exact .inl ⟨h, Nat.mod_eq_of_lt h⟩
    · exact .inr ⟨by omega, by rw [Nat.mod_eq_sub_mod (by omega), Nat.mod_eq_of_lt (by omega)]⟩
  have hlk : (b.take k).length = k := by simp; omega
  have hld : (b.drop k).length = b.length - k := by simp
  generalize (f + i) % R = j at *
  rw [hlk, hld]
  by_cases hq : i < q.length
  · rw [List.getElem?_append_left hq] at hx
    have hs := h.at_ i x hx
    have hj : j = (f + i) % R := by
      rcases e1 with ⟨h1, h2⟩ | ⟨h1, h2⟩
      · rw [h2, Nat.mod_eq_of_lt h1]
      · rw [h2, Nat.mod_eq_sub_mod h1, Nat.mod_eq_of_lt (by omega)]
    rw [← hj] at hs
    rw [if_neg (by omega)]
    by_cases c2 : j < at'
    · rw [if_pos c2, hs]
    · rw [if_neg c2, if_neg (by omega), hs]
  · rw [List.getElem?_append_right (by omega)] at hx
    by_cases c1 : j < b.length - k
    · rw [if_pos c1, List.getElem?_drop, ← hx]; congr 1; omega
    · rw [if_neg c1, if_neg (by omega), if_pos (by omega), List.getElem?_take, if_pos (by omega), ← hx]; congr 1; omega

theorem Circ.drop {s : List UInt8} {R f : Nat} {q : List UInt8} (h : Circ s R f q) {n : Nat} : Circ s R ((f + n) % R) (q.drop n) := by
  refine ⟨h.len, by have := h.fits; simp; omega, fun i x hx => ?_⟩
  rw [List.getElem?_drop] at hx
  have := h.at_ _ x hx
  rw [Nat.mod_add_mod, Nat.add_assoc]
  exact this

theorem Circ.peek {s : List UInt8} {R f : Nat} {q : List UInt8} (h : Circ s R f q) (hf : f < R) {n k : Nat} (hn : n ≤ q.length) (hk : k = min (R - f) n) :
    splice (splice (List.replicate n 0) 0 ((s.drop f).take k)) k (s.take (n - k)) = q.take n := by
  have hfit := h.fits
  have hl := h.len
  have hl0 : ((s.drop f).take k).length = k := by simp; omega
  have hl1 : (splice (List.replicate n (0 : UInt8)) 0 ((s.drop f).take k)).length = n := by rw [length_splice _ _ _ (by simp; omega)]; simp
  have hl2 : (s.take (n - k)).length = n - k := by simp; omega
  apply List.ext_getElem?
  intro i
  rw [splice_get _ _ _ (by rw [hl1, hl2]; omega), splice_get _ _ _ (by simp; omega), hl0, hl2]
  by_cases hi : i < n
  · have hx := h.at_ i _ (List.getElem?_eq_getElem (show i < q.length by omega))
    have e : (q.take n)[i]? = s[(f + i) % R]? := by rw [List.getElem?_take, if_pos hi, hx]; exact List.getElem?_eq_getElem (by omega)
    rw [e]
    by_cases c : i < k
    · rw [if_pos c, if_neg (by omega), if_pos (by omega), List.getElem?_take, if_pos (by omega), List.getElem?_drop]
      congr 1
      rw [Nat.mod_eq_of_lt (by omega)]; omega
    · rw [if_neg c, if_pos (by omega), List.getElem?_take, if_pos (by omega)]
      congr 1
      rw [Nat.mod_eq_sub_mod (by omega), Nat.mod_eq_of_lt (by omega)]; omega
  · rw [if_neg (by omega), if_neg (by omega), if_neg (by omega), if_neg (by omega), List.getElem?_take, if_neg hi]
    simp; omega
end Go.Proofs.YtnbdmlpnoiljdaaDoor
