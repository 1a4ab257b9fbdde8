/- A set's text: runs of bytes. Plain. -/
import Derived.Test.YthjnbpfbhmfopaaDoorCl12
import Derived.Test.YthjnbpfbhmfopaaDoorBld
namespace Go.Proofs.YthjnbpfbhmfopaaDoor
open Go Go.RowKit

/-- The last byte of the run that begins here. -/
def rext (p : Nat → Bool) : Nat → Nat → Nat
  | 0, c => c
  | f + 1, c => if decide (c + 1 < 256) && p (c + 1) then rext p f (c + 1) else c
theorem rext_go (p : Nat → Bool) : ∀ (f c l : Nat), l - c ≤ f → c ≤ l → l < 256 → (∀ j, c < j → j ≤ l → p j = true) → (l + 1 < 256 → p (l + 1) = false) → rext p f c = l := by
  intro f
  induction f with
  | zero => intro c l h1 h2 _ _ _; rw [rext]; omega
  | succ f ih =>
    intro c l h1 h2 h3 h4 h5
    rw [rext]
    by_cases hc : c = l
    · subst hc
      by_cases h6 : c + 1 < 256
      · simp [h5 h6]
      · simp [h6]
    · have hp := h4 (c + 1) (by omega) (by omega)
      rw [if_pos (by simp [hp]; omega)]
      exact ih (c + 1) l (by omega) (by omega) h3 (fun j hj hj2 => h4 j (by omega) hj2) h5
theorem rext_eq (p : Nat → Bool) (c l : Nat) (h2 : c ≤ l) (h3 : l < 256) (h4 : ∀ j, c < j → j ≤ l → p j = true) (h5 : l + 1 < 256 → p (l + 1) = false) : rext p 256 c = l := rext_go p 256 c l (by omega) h2 h3 h4 h5
/-- The text of the run that begins here, if one does. -/
def piece (p : Nat → Bool) (c : Nat) : List UInt8 := if p c && !(decide (0 < c) && p (c - 1)) then signT c ++ (if c < rext p 256 c then 45 :: signT (rext p 256 c) else []) else []
def runsT (p : Nat → Bool) : Nat → List UInt8
  | 0 => []
  | n + 1 => runsT p n ++ piece p n
theorem runs_zero (p : Nat → Bool) : runsT p 0 = [] := rfl
theorem runs_succ (p : Nat → Bool) (n : Nat) : runsT p (n + 1) = runsT p n ++ piece p n := rfl
theorem piece_off {p : Nat → Bool} {c : Nat} (h : p c = false) : piece p c = [] := by unfold piece; simp [h]
theorem piece_in {p : Nat → Bool} {c : Nat} (h0 : 0 < c) (h : p (c - 1) = true) : piece p c = [] := by unfold piece; simp [h, h0]
theorem piece_at {p : Nat → Bool} {c l : Nat} (h : p c = true) (h0 : c = 0 ∨ p (c - 1) = false) (hl : rext p 256 c = l) : piece p c = signT c ++ (if c < l then 45 :: signT l else []) := by
  unfold piece
  rw [hl]
  rcases h0 with rfl | h0
  · simp [h]
  · simp [h, h0]
theorem runs_skip (p : Nat → Bool) (c : Nat) (hp : p c = true) : ∀ d, (∀ j, c < j → j ≤ c + d → p j = true) → runsT p (c + d + 1) = runsT p (c + 1) := by
  intro d
  induction d with
  | zero => intro _; rfl
  | succ d ih =>
    intro h
    rw [show c + (d + 1) + 1 = (c + d + 1) + 1 by omega, runsT, ih (fun j h1 h2 => h j h1 (by omega)), piece_in (by omega), List.append_nil]
    by_cases hd : d = 0
    · subst hd; exact hp
    · exact h _ (by omega) (by omega)
theorem runs_to (p : Nat → Bool) (c l : Nat) (hp : p c = true) (h0 : c = 0 ∨ p (c - 1) = false) (h2 : c ≤ l) (h3 : l < 256) (h4 : ∀ j, c < j → j ≤ l → p j = true) (h5 : l + 1 < 256 → p (l + 1) = false) :
    runsT p (l + 1) = runsT p c ++ (signT c ++ (if c < l then 45 :: signT l else [])) := by
  obtain ⟨d, rfl⟩ : ∃ d, l = c + d := ⟨l - c, by omega⟩
  rw [runs_skip p c hp d h4, runsT, piece_at hp h0 (rext_eq p c _ h2 h3 h4 h5)]
theorem sign_len (c : Nat) : (signT c).length ≤ 4 ∧ 1 ≤ (signT c).length := by unfold signT; split <;> simp
theorem piece_len (p : Nat → Bool) (c : Nat) : (piece p c).length ≤ 9 := by
  unfold piece
  have h1 := (sign_len c).1
  have h2 := (sign_len (rext p 256 c)).1
  split
  · rw [List.length_append]
    split
    · rw [List.length_cons]; omega
    · rw [List.length_nil]; omega
  · simp
theorem runs_len (p : Nat → Bool) : ∀ n, (runsT p n).length ≤ 9 * n := by
  intro n
  induction n with
  | zero => simp [runsT]
  | succ n ih => rw [runsT, List.length_append]; have := piece_len p n; omega

theorem cnt_none {p : Nat → Bool} : ∀ {n : Nat}, cnt p n = 0 → ∀ j, j < n → p j = false := by
  intro n
  induction n with
  | zero => intro _ j hj; omega
  | succ n ih =>
    intro h j hj
    rw [cnt] at h
    have h1 : cnt p n = 0 := by omega
    by_cases hjn : j = n
    · subst hjn
      cases hp : p j
      · rfl
      · rw [hp] at h; simp at h
    · exact ih h1 j (by omega)
theorem cnt_one {p : Nat → Bool} : ∀ {n : Nat}, cnt p n = 1 → ∃ m, m < n ∧ ∀ j, j < n → p j = (j == m) := by
  intro n
  induction n with
  | zero => intro h; simp [cnt] at h
  | succ n ih =>
    intro h
    rw [cnt] at h
    cases hp : p n
    · rw [hp] at h
      obtain ⟨m, hm, hj⟩ := ih (by simpa using h)
      refine ⟨m, by omega, fun j hjn => ?_⟩
      by_cases e : j = n
      · subst e; rw [hp]; simp; omega
      · exact hj j (by omega)
    · rw [hp] at h
      have h0 : cnt p n = 0 := by simpa using h
      refine ⟨n, by omega, fun j hjn => ?_⟩
      by_cases e : j = n
      · subst e; rw [hp]; simp
      · rw [cnt_none h0 j (by omega)]; simp [e]
theorem cnt_sole {p : Nat → Bool} (h : cnt p 256 = 1) : ∃ m, Sole p m := by
  obtain ⟨m, h1, h2⟩ := cnt_one h
  exact ⟨m, h1, h2⟩
theorem cnt_Sole {p : Nat → Bool} {m : Nat} (h : Sole p m) : cnt p 256 = 1 := by
  rw [cnt_congr (g := fun j => j == m) (fun j hj => h.2 j hj)]
  have : ∀ n, cnt (fun j => j == m) n = if m < n then 1 else 0 := by
    intro n
    induction n with
    | zero => simp [cnt]
    | succ n ih =>
      rw [cnt, ih]
      by_cases e : n = m
      · subst e; simp
      · have e' : (n == m) = false := by simpa using e
        rw [e']
        by_cases h1 : m < n
        · simp [h1]; omega
        · simp [h1]; omega
  rw [this, if_pos h.1]
theorem cnt_full {p : Nat → Bool} : ∀ {n : Nat}, cnt p n = n → ∀ j, j < n → p j = true := by
  intro n
  induction n with
  | zero => intro _ j hj; omega
  | succ n ih =>
    intro h j hj
    rw [cnt] at h
    have h1 := cnt_le p n
    cases hp : p n
    · rw [hp] at h; simp at h; omega
    · rw [hp] at h
      simp at h
      by_cases e : j = n
      · subst e; exact hp
      · exact ih h j (by omega)

/-- The first byte that is in. -/
def lstF (p : Nat → Bool) : Nat → Nat → Nat
  | 0, c => c
  | f + 1, c => if p c then c else lstF p f (c + 1)
theorem lstF_eq (p : Nat → Bool) (m : Nat) (hp : p m = true) : ∀ (f c : Nat), c ≤ m → m < c + f → (∀ j, c ≤ j → j < m → p j = false) → lstF p f c = m := by
  intro f
  induction f with
  | zero => intro c h1 h2; omega
  | succ f ih =>
    intro c h1 h2 h3
    rw [lstF]
    by_cases e : c = m
    · subst e; simp [hp]
    · rw [h3 c (Nat.le_refl _) (by omega)]
      exact ih (c + 1) (by omega) (by omega) (fun j hj => h3 j (by omega))
theorem Sole.lst {p : Nat → Bool} {m : Nat} (h : Sole p m) : lstF p 256 0 = m := by
  refine lstF_eq p m (by rw [h.2 m h.1]; simp) 256 0 (by omega) (by have := h.1; omega) (fun j _ hj => ?_)
  rw [h.2 j (by have := h.1; omega)]
  simp; omega
/-- A set's text. -/
def textT (p : Nat → Bool) : List UInt8 :=
  if cnt p 256 = 0 then [91, 94] ++ runsT (fun _ => true) 256 ++ [93]
  else if cnt p 256 = 1 then signT (lstF p 256 0)
  else if cnt p 256 = 256 then [46]
  else [91] ++ runsT p 256 ++ [93]
theorem text_len (p : Nat → Bool) : (textT p).length ≤ 3000 := by
  unfold textT
  have h1 := runs_len (fun _ => true) 256
  have h2 := runs_len p 256
  have h3 := (sign_len (lstF p 256 0)).1
  split
  · simp only [List.length_append, List.length_cons, List.length_nil]; omega
  · split
    · omega
    · split
      · simp
      · simp only [List.length_append, List.length_cons, List.length_nil]; omega
end Go.Proofs.YthjnbpfbhmfopaaDoor
