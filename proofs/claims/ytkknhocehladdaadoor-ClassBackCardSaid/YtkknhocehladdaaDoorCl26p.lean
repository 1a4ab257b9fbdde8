/- A set's text is read as the set: whole. Plain. -/
import Derived.Test.YtkknhocehladdaaDoorCl25p
namespace Go.Proofs.YtkknhocehladdaaDoor
open Go Go.RowKit

theorem runs_none (p : Nat → Bool) : ∀ n, runsT p n = [] → ∀ j, j < n → p j = false := by
  intro n
  induction n with
  | zero => intro _ j hj; omega
  | succ n ih =>
    intro h j hj
    rw [runs_succ, List.append_eq_nil_iff] at h
    by_cases hjn : j = n
    · subst hjn
      cases hp : p j
      · rfl
      · have h0 : j = 0 ∨ p (j - 1) = false := by
          by_cases e : j = 0
          · exact .inl e
          · exact .inr (ih h.1 (j - 1) (by omega))
        have h2 := h.2
        rw [piece_at hp h0 rfl, List.append_eq_nil_iff] at h2
        have := (sign_len j).2
        rw [h2.1] at this
        simp at this
    · exact ih h.1 j (by omega)
theorem cnt_zero_of {p : Nat → Bool} : ∀ {n : Nat}, (∀ j, j < n → p j = false) → cnt p n = 0 := by
  intro n
  induction n with
  | zero => intro _; rfl
  | succ n ih => intro h; rw [cnt, ih (fun j hj => h j (by omega)), h n (by omega)]; rfl
theorem tail_head94 (p : Nat → Bool) (rest : List UInt8) (hr : ∀ t, rest ≠ 94 :: t) : ∀ n c, c + n ≤ 256 → ∀ t, tailT p n c ++ rest ≠ 94 :: t := by
  intro n
  induction n with
  | zero => intro c _ t; exact hr t
  | succ n ih =>
    intro c hc t h
    rw [tailT, List.append_assoc] at h
    unfold piece at h
    split at h
    · rw [List.append_assoc] at h
      obtain ⟨a, t', h1, _, h2⟩ := sign_head c (by omega) ((if c < rext p 256 c then 45 :: signT (rext p 256 c) else []) ++ (tailT p n (c + 1) ++ rest))
      rw [h1] at h
      injection h with h3 _
      exact h2 h3
    · exact ih (c + 1) (by omega) t h
theorem goS_step (l : List UInt8) (b f k : Nat) (x : Nat → Bool) : goS l b (f + 1) k x =
    if k ≠ b ∧ l[k]? = some 93 then (x, k + 1, 0)
    else if (itemS (l.drop k)).2.2 ≠ 0 then (fun _ => false, 0, (itemS (l.drop k)).2.2)
    else goS l b f (k + (itemS (l.drop k)).2.1) (fun j => x j || (itemS (l.drop k)).1 j) := rfl
theorem parse_br (t : List UInt8) (b : Bool) (hb : decide ((91 :: t : List UInt8)[1]? = some 94) = b) (r : (Nat → Bool) × Nat × Nat) (hr : goS (91 :: t) (if b then 2 else 1) ((91 :: t : List UInt8).length + 1) (if b then 2 else 1) (fun _ => false) = r) (h0 : r.2.2 = 0) :
    parseS (91 :: t) = (notP b r.1, r.2) := by
  have : parseS (91 :: t) = if r.2.2 = 0 then (notP b r.1, r.2) else r := by
    subst hb
    subst hr
    rfl
  rw [this, if_pos h0]

theorem text_back (p : Nat → Bool) (hp : ∀ j, 256 ≤ j → p j = false) (h1 : cnt p 256 ≠ 1) (h2 : cnt p 256 ≠ 256) (behind : List UInt8) :
    (parseS (textT p ++ behind)).2 = ((textT p).length, 0) ∧ ∀ j, j < 256 → (parseS (textT p ++ behind)).1 j = p j := by
  by_cases h0 : cnt p 256 = 0
  · have ht : textT p = 91 :: 94 :: (signT 0 ++ (if 0 < 255 then 45 :: signT 255 else [])) ++ [93] := by
      unfold textT
      rw [if_pos h0, runs_all']
      rfl
    obtain ⟨S, hS⟩ : ∃ S, signT 0 ++ (if 0 < 255 then 45 :: signT 255 else []) = S := ⟨_, rfl⟩
    have hit : ∀ rest, (∀ t, rest ≠ 45 :: t) → itemS (S ++ rest) = (fun j => decide (0 ≤ j) && decide (j ≤ 255), S.length, 0) := by
      intro rest hr
      rw [← hS]
      exact item_told 0 255 (by omega) (by omega) rest hr
    have hS1 : 1 ≤ S.length := by rw [← hS, List.length_append]; have := (sign_len 0).2; omega
    rw [hS] at ht
    have hl : textT p ++ behind = 91 :: (94 :: (S ++ 93 :: behind)) := by rw [ht]; simp
    have hg : goS (91 :: (94 :: (S ++ 93 :: behind))) 2 ((91 :: (94 :: (S ++ 93 :: behind)) : List UInt8).length + 1) 2 (fun _ => false) = (fun j => false || (decide (0 ≤ j) && decide (j ≤ 255)), 2 + S.length + 1, 0) := by
      rw [goS_step, if_neg (by simp)]
      have hd : (91 :: (94 :: (S ++ 93 :: behind)) : List UInt8).drop 2 = S ++ 93 :: behind := rfl
      rw [hd, hit _ (fun t h => by injection h with h _; exact absurd h (by decide)), if_neg (by simp)]
      simp only [List.length_cons]
      rw [goS_step, if_pos]
      refine ⟨by omega, ?_⟩
      rw [show 2 + S.length = S.length + 1 + 1 by omega]
      simp
    rw [hl, parse_br (94 :: (S ++ 93 :: behind)) true (by simp) _ hg rfl, ht]
    refine ⟨by simp; omega, fun j hj => ?_⟩
    rw [cnt_none h0 j hj]
    show (!(false || (decide (0 ≤ j) && decide (j ≤ 255)))) = false
    simp
    omega
  · have ht : textT p = 91 :: (tailT p 256 0 ++ [93]) := by
      unfold textT
      rw [if_neg h0, if_neg h1, if_neg h2]
      have := runs_tail p 256 0
      rw [Nat.zero_add] at this
      rw [this]
      rfl
    have hne : tailT p 256 0 ≠ [] := fun h => by
      have := runs_tail p 256 0
      rw [Nat.zero_add, h] at this
      exact h0 (cnt_zero_of (runs_none p 256 this))
    have hl : textT p ++ behind = 91 :: (tailT p 256 0 ++ 93 :: behind) := by rw [ht]; simp
    have hb : decide ((91 :: (tailT p 256 0 ++ 93 :: behind) : List UInt8)[1]? = some 94) = false := by
      apply decide_eq_false
      intro h
      have h' : (tailT p 256 0 ++ 93 :: behind)[0]? = some 94 := h
      cases hq : tailT p 256 0 ++ 93 :: behind with
      | nil => rw [hq] at h'; simp at h'
      | cons a t =>
        rw [hq] at h'
        simp at h'
        subst h'
        exact tail_head94 p _ (fun t h => by injection h with h _; exact absurd h (by decide)) 256 0 (by omega) t hq
    have hg : goS (91 :: (tailT p 256 0 ++ 93 :: behind)) 1 ((91 :: (tailT p 256 0 ++ 93 :: behind) : List UInt8).length + 1) 1 (fun _ => false) = (fun j => false || (decide (0 ≤ j) && p j), 1 + (tailT p 256 0).length + 1, 0) :=
      go_told p hp (91 :: (tailT p 256 0 ++ 93 :: behind)) 1 behind 256 0 _ 1 (fun _ => false) (by omega) (fun _ _ => .inl rfl) rfl (.inr hne) (by omega) (by simp; omega)
    rw [hl, parse_br _ false hb _ hg rfl, ht]
    refine ⟨by simp; omega, fun j _ => ?_⟩
    show (false || (decide (0 ≤ j) && p j)) = p j
    simp
end Go.Proofs.YtkknhocehladdaaDoor
