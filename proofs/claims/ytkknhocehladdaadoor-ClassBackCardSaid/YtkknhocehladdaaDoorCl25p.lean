/- A set's text is read as the set. Plain. -/
import Derived.Test.YtkknhocehladdaaDoorCl24p
namespace Go.Proofs.YtkknhocehladdaaDoor
open Go Go.RowKit

theorem runs_all' : runsT (fun _ => true) 256 = signT 0 ++ (45 :: signT 255) := by
  rw [runs_to (fun _ => true) 0 255 rfl (.inl rfl) (by omega) (by omega) (fun _ _ _ => rfl) (by omega)]
  rfl
theorem hexC_dig (d : Nat) (hd : d < 16) : digO (hexC d).toNat = some d := by
  have h : ∀ d : Fin 16, digO (hexC d.1).toNat = some d.1 := by decide
  exact h ⟨d, hd⟩
/-- What a told byte is read as. -/
theorem sign_told (c : Nat) (hc : c < 256) (rest : List UInt8) : signS (signT c ++ rest) = .byte c (signT c).length := by
  by_cases hs : (isLet c || isFig c) = true
  · have hr : signT c = [UInt8.ofNat c] := by unfold signT; rw [if_pos hs]
    have h1 : (UInt8.ofNat c).toNat = c := by simp; omega
    have h2 : c ≠ 93 ∧ c ≠ 45 ∧ c ≠ 92 := by
      unfold isLet isFig at hs
      simp at hs
      omega
    rw [hr]
    show (if (UInt8.ofNat c).toNat = 93 ∨ (UInt8.ofNat c).toNat = 45 then Sg.bad 5 else if (UInt8.ofNat c).toNat = 92 then escS (UInt8.ofNat c :: rest) else .byte (UInt8.ofNat c).toNat 1) = _
    rw [h1, if_neg (by omega), if_neg (by omega)]
    rfl
  · have hr : signT c = [92, 120, hexC (c / 16), hexC (c % 16)] := by unfold signT; rw [if_neg hs]
    rw [hr]
    show codedS (92 :: 120 :: hexC (c / 16) :: hexC (c % 16) :: rest) = .byte c 4
    unfold codedS
    show (match digO (hexC (c / 16)).toNat with
      | none => Sg.bad 5
      | some d => match digO (hexC (c % 16)).toNat with
        | none => .bad 5
        | some e => .byte (16 * d + e) 4) = .byte c 4
    rw [hexC_dig _ (by omega), hexC_dig _ (by omega)]
    show Sg.byte (16 * (c / 16) + c % 16) 4 = _
    congr 1
    omega
theorem esc_told (c : Nat) (hc : c < 256) (hs : (isLet c || isFig c) = false) (rest : List UInt8) : escS (signT c ++ rest) = .byte c (signT c).length := by
  have hr : signT c = [92, 120, hexC (c / 16), hexC (c % 16)] := by unfold signT; rw [if_neg (by simp [hs])]
  have h := sign_told c hc rest
  rw [hr] at h ⊢
  exact h
/-- No told byte begins with a minus, or a hat. -/
theorem sign_head (c : Nat) (hc : c < 256) (rest : List UInt8) : ∃ a t, signT c ++ rest = a :: t ∧ a ≠ 45 ∧ a ≠ 94 := by
  by_cases hs : (isLet c || isFig c) = true
  · have hr : signT c = [UInt8.ofNat c] := by unfold signT; rw [if_pos hs]
    have h1 : (UInt8.ofNat c).toNat = c := by simp; omega
    have h2 : c ≠ 45 ∧ c ≠ 94 := by
      unfold isLet isFig at hs
      simp at hs
      omega
    exact ⟨_, _, by rw [hr]; rfl, fun e => h2.1 (by rw [← h1, e]; rfl), fun e => h2.2 (by rw [← h1, e]; rfl)⟩
  · have hr : signT c = [92, 120, hexC (c / 16), hexC (c % 16)] := by unfold signT; rw [if_neg hs]
    exact ⟨_, _, by rw [hr]; rfl, by decide, by decide⟩
/-- A run that is told is read as its bytes. -/
theorem item_told (c e : Nat) (hce : c ≤ e) (he : e < 256) (rest : List UInt8) (hr : ∀ t, rest ≠ 45 :: t) :
    itemS (signT c ++ (if c < e then 45 :: signT e else []) ++ rest) = (fun j => decide (c ≤ j) && decide (j ≤ e), (signT c ++ (if c < e then 45 :: signT e else [])).length, 0) := by
  by_cases h : c < e
  · rw [if_pos h, List.append_assoc]
    unfold itemS
    rw [sign_told c (by omega)]
    simp only
    have h45 : (signT c ++ (45 :: signT e ++ rest))[(signT c).length]? = some 45 := by simp
    rw [if_pos h45]
    have hd : (signT c ++ (45 :: signT e ++ rest)).drop ((signT c).length + 1) = signT e ++ rest := by
      rw [← List.drop_drop, List.drop_left]
      rfl
    rw [hd, sign_told e he]
    simp only
    rw [if_neg (by omega)]
    simp
    omega
  · obtain rfl : c = e := by omega
    rw [if_neg h, List.append_nil]
    unfold itemS
    rw [sign_told c he]
    simp only
    have hn : (signT c ++ rest)[(signT c).length]? ≠ some 45 := by
      rw [List.getElem?_append_right (Nat.le_refl _), Nat.sub_self]
      intro h0
      cases rest with
      | nil => simp at h0
      | cons a t =>
        simp at h0
        exact hr t (by rw [h0])
    rw [if_neg hn]
    congr 1
    funext j
    by_cases hj : j = c
    · subst hj; simp
    · have : (j == c) = false := by simpa using hj
      rw [this]
      symm
      simp
      omega

theorem rext_spec (p : Nat → Bool) : ∀ (f c : Nat), 256 ≤ c + f → c < 256 → c ≤ rext p f c ∧ rext p f c < 256 ∧ (∀ j, c < j → j ≤ rext p f c → p j = true) ∧ (rext p f c + 1 < 256 → p (rext p f c + 1) = false) := by
  intro f
  induction f with
  | zero => intro c h1 h2; omega
  | succ f ih =>
    intro c h1 h2
    rw [rext]
    by_cases hg : (decide (c + 1 < 256) && p (c + 1)) = true
    · rw [if_pos hg]
      simp at hg
      obtain ⟨a1, a2, a3, a4⟩ := ih (c + 1) (by omega) hg.1
      refine ⟨by omega, a2, fun j hj hj2 => ?_, a4⟩
      by_cases e : j = c + 1
      · rw [e]; exact hg.2
      · exact a3 j (by omega) hj2
    · rw [if_neg hg]
      refine ⟨Nat.le_refl _, h2, fun j hj hj2 => by omega, fun h => ?_⟩
      simp at hg
      exact hg h

/-- The rest of the runs. -/
def tailT (p : Nat → Bool) : Nat → Nat → List UInt8
  | 0, _ => []
  | n + 1, c => piece p c ++ tailT p n (c + 1)
theorem runs_tail (p : Nat → Bool) : ∀ n c, runsT p (c + n) = runsT p c ++ tailT p n c := by
  intro n
  induction n with
  | zero => intro c; simp [tailT]
  | succ n ih =>
    intro c
    rw [show c + (n + 1) = c + 1 + n by omega, ih (c + 1), runs_succ, tailT, List.append_assoc]
theorem tail_skip (p : Nat → Bool) (c : Nat) (hp : p c = true) : ∀ d n, (∀ j, c < j → j ≤ c + d → p j = true) → tailT p (n + d) (c + 1) = tailT p n (c + d + 1) := by
  intro d
  induction d with
  | zero => intro n _; rfl
  | succ d ih =>
    intro n h
    rw [show n + (d + 1) = (n + 1) + d by omega, ih (n + 1) (fun j h1 h2 => h j h1 (by omega)), tailT, piece_in (by omega), List.nil_append]
    · rfl
    · by_cases hd : d = 0
      · subst hd; exact hp
      · exact h _ (by omega) (by omega)
theorem tail_head (p : Nat → Bool) (rest : List UInt8) (hr : ∀ t, rest ≠ 45 :: t) : ∀ n c, c + n ≤ 256 → ∀ t, tailT p n c ++ rest ≠ 45 :: t := by
  intro n
  induction n with
  | zero => intro c _ t; exact hr t
  | succ n ih =>
    intro c hc t h
    rw [tailT, List.append_assoc] at h
    unfold piece at h
    split at h
    · rw [List.append_assoc] at h
      obtain ⟨a, t', h1, h2, _⟩ := sign_head c (by omega) ((if c < rext p 256 c then 45 :: signT (rext p 256 c) else []) ++ (tailT p n (c + 1) ++ rest))
      rw [h1] at h
      injection h with h3 _
      exact h2 h3
    · exact ih (c + 1) (by omega) t h

/-- Runs that are told are read as their bytes. -/
theorem go_told (p : Nat → Bool) (hp : ∀ j, 256 ≤ j → p j = false) (l : List UInt8) (bg : Nat) (behind : List UInt8) : ∀ (n c f k : Nat) (x : Nat → Bool), c + n = 256 → (c < 256 → p c = true → c = 0 ∨ p (c - 1) = false) →
    l.drop k = tailT p n c ++ 93 :: behind → (k ≠ bg ∨ tailT p n c ≠ []) → bg ≤ k → (tailT p n c).length + 1 ≤ f → goS l bg f k x = (fun j => x j || (decide (c ≤ j) && p j), k + (tailT p n c).length + 1, 0) := by
  intro n
  induction n using Nat.strongRecOn with
  | _ n ih =>
    intro c f k x hcn hb hd hk hbk hf
    obtain ⟨f', rfl⟩ : ∃ f', f = f' + 1 := ⟨f - 1, by omega⟩
    cases n with
    | zero =>
      have h93 : l[k]? = some 93 := by
        have := congrArg (·[0]?) hd
        simpa [tailT] using this
      have hkb : k ≠ bg := by
        rcases hk with h | h
        · exact h
        · exact absurd rfl h
      show (if k ≠ bg ∧ l[k]? = some 93 then _ else _) = _
      rw [if_pos ⟨hkb, h93⟩]
      congr 1
      funext j
      by_cases hj : c ≤ j
      · rw [hp j (by omega)]; simp
      · simp [hj]
    | succ n =>
      cases hpc : p c
      · have e1 : tailT p (n + 1) c = tailT p n (c + 1) := by rw [tailT, piece_off hpc, List.nil_append]
        rw [e1] at hd hk hf ⊢
        rw [ih n (by omega) (c + 1) (f' + 1) k x (by omega) (fun _ _ => .inr (by simpa using hpc)) hd hk hbk hf]
        congr 1
        funext j
        by_cases hj : j = c
        · subst hj; simp [hpc]
        · by_cases h2 : c ≤ j
          · have : c + 1 ≤ j := by omega
            simp [h2, this]
          · have : ¬ c + 1 ≤ j := by omega
            simp [h2, this]
      · obtain ⟨a1, a2, a3, a4⟩ := rext_spec p 256 c (by omega) (by omega)
        obtain ⟨e, he⟩ : ∃ e, rext p 256 c = e := ⟨_, rfl⟩
        rw [he] at a1 a2 a3 a4
        have h0 := hb (by omega) hpc
        have hpi : piece p c = signT c ++ (if c < e then 45 :: signT e else []) := piece_at hpc h0 he
        have htl : tailT p (n + 1) c = piece p c ++ tailT p (n - (e - c)) (e + 1) := by
          rw [tailT]
          congr 1
          have := tail_skip p c hpc (e - c) (n - (e - c)) (fun j h1 h2 => a3 j h1 (by omega))
          rw [show n - (e - c) + (e - c) = n by omega, show c + (e - c) + 1 = e + 1 by omega] at this
          exact this
        have hrest : ∀ t, tailT p (n - (e - c)) (e + 1) ++ 93 :: behind ≠ 45 :: t := tail_head p _ (fun t h => by injection h with h1 _; exact absurd h1 (by decide)) _ _ (by omega)
        have hit : itemS (l.drop k) = (fun j => decide (c ≤ j) && decide (j ≤ e), (piece p c).length, 0) := by
          rw [hd, htl, List.append_assoc, hpi]
          exact item_told c e a1 a2 _ hrest
        have hh := sign_head c (by omega) ((if c < e then 45 :: signT e else []) ++ (tailT p (n - (e - c)) (e + 1) ++ 93 :: behind))
        have hs93 : l[k]? ≠ some 93 ∨ True := .inr trivial
        have hne93 : ¬ (k ≠ bg ∧ l[k]? = some 93) := by
          rintro ⟨_, h93⟩
          have h1 : (l.drop k)[0]? = some 93 := by simpa using h93
          have h2 : signS (l.drop k) = .byte c (signT c).length := by
            rw [hd, htl, List.append_assoc, hpi, List.append_assoc]
            exact sign_told c (by omega) _
          cases hq : l.drop k with
          | nil => rw [hq] at h1; simp at h1
          | cons a t =>
            rw [hq] at h1 h2
            simp at h1
            subst h1
            simp [signS] at h2
        show (if k ≠ bg ∧ l[k]? = some 93 then _ else if (itemS (l.drop k)).2.2 ≠ 0 then _ else goS l bg f' (k + (itemS (l.drop k)).2.1) (fun j => x j || (itemS (l.drop k)).1 j)) = _
        rw [if_neg hne93, hit, if_neg (by simp)]
        have hlen1 : 1 ≤ (piece p c).length := by rw [hpi, List.length_append]; have := (sign_len c).2; omega
        have hd2 : l.drop (k + (piece p c).length) = tailT p (n - (e - c)) (e + 1) ++ 93 :: behind := by
          rw [← List.drop_drop, hd, htl, List.append_assoc, List.drop_left]
        simp only
        rw [ih (n - (e - c)) (by omega) (e + 1) f' (k + (piece p c).length) _ (by omega) (fun h1 h2 => absurd h2 (by simp [a4 h1])) hd2 (.inl (by omega)) (by omega) (by rw [htl, List.length_append] at hf; omega)]
        rw [htl, List.length_append]
        congr 1
        · funext j
          by_cases h1 : c ≤ j
          · by_cases h2 : j ≤ e
            · have h3 : p j = true := by
                by_cases e1 : j = c
                · rw [e1]; exact hpc
                · exact a3 j (by omega) h2
              simp [h1, h2, h3]
            · have h4 : e + 1 ≤ j := by omega
              simp [h1, h2, h4]
          · have h4 : ¬ e + 1 ≤ j := by omega
            simp [h1, h4]
        · congr 1
          omega
end Go.Proofs.YtkknhocehladdaaDoor
