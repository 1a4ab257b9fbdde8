/- Put together: Cl25p, Cl26p, Rx30, Rx31. -/
import Derived.Test.YtlofdnefbgjmpaaDoorTgJ
import Derived.Test.YtlofdnefbgjmpaaDoorTgM
namespace Go.Proofs.YtlofdnefbgjmpaaDoor
open Go Go.RowKit

theorem runs_all' : runsT (fun _ => true) 256 = signT 0 ++ (45 :: signT 255) := by
  rw [runs_to (fun _ => true) 0 255 rfl (.inl rfl) (by omega) (by omega) (fun _ _ _ => rfl) (by omega)]
  rfl
theorem hexC_dig (d : Nat) (hd : d < 16) : digO (hexC d).toNat = some d := by
  have h : ∀ d : Fin 16, digO (hexC d.1).toNat = some d.1 := by decide
  exact h ⟨d, hd⟩
/-- What a told byte is read as. -/
theorem sign_told (c : Nat) (hc : c < 256) (rest : List UInt8) : signS (signT c ++ rest) = .byte c (signT c).length := by
  by_cases hs : (isLet c || isFig c) = true
  · have hr : signT c = [UInt8.ofNat c] := by unfold signT; rw [if_pos hs]
    have h1 : (UInt8.ofNat c).toNat = c := by simp; omega
    have h2 : c ≠ 93 ∧ c ≠ 45 ∧ c ≠ 92 := by
      unfold isLet isFig at hs
      simp at hs
      omega
    rw [hr]
    show (if (UInt8.ofNat c).toNat = 93 ∨ (UInt8.ofNat c).toNat = 45 then Sg.bad 5 else if (UInt8.ofNat c).toNat = 92 then escS (UInt8.ofNat c :: rest) else .byte (UInt8.ofNat c).toNat 1) = _
    rw [h1, if_neg (by omega), if_neg (by omega)]
    rfl
  · have hr : signT c = [92, 120, hexC (c / 16), hexC (c % 16)] := by unfold signT; rw [if_neg hs]
    rw [hr]
    show codedS (92 :: 120 :: hexC (c / 16) :: hexC (c % 16) :: rest) = .byte c 4
    unfold codedS
    show (match digO (hexC (c / 16)).toNat with
      | none => Sg.bad 5
      | some d => match digO (hexC (c % 16)).toNat with
        | none => .bad 5
        | some e => .byte (16 * d + e) 4) = .byte c 4
    rw [hexC_dig _ (by omega), hexC_dig _ (by omega)]
    show Sg.byte (16 * (c / 16) + c % 16) 4 = _
    congr 1
    omega
theorem esc_told (c : Nat) (hc : c < 256) (hs : (isLet c || isFig c) = false) (rest : List UInt8) : escS (signT c ++ rest) = .byte c (signT c).length := by
  have hr : signT c = [92, 120, hexC (c / 16), hexC (c % 16)] := by unfold signT; rw [if_neg (by simp [hs])]
  have h := sign_told c hc rest
  rw [hr] at h ⊢
  exact h
/-- No told byte begins with a minus, or a hat. -/
theorem sign_head (c : Nat) (hc : c < 256) (rest : List UInt8) : ∃ a t, signT c ++ rest = a :: t ∧ a ≠ 45 ∧ a ≠ 94 := by
  by_cases hs : (isLet c || isFig c) = true
  · have hr : signT c = [UInt8.ofNat c] := by unfold signT; rw [if_pos hs]
    have h1 : (UInt8.ofNat c).toNat = c := by simp; omega
    have h2 : c ≠ 45 ∧ c ≠ 94 := by
      unfold isLet isFig at hs
      simp at hs
      omega
    exact ⟨_, _, by rw [hr]; rfl, fun e => h2.1 (by rw [← h1, e]; rfl), fun e => h2.2 (by rw [← h1, e]; rfl)⟩
  · have hr : signT c = [92, 120, hexC (c / 16), hexC (c % 16)] := by unfold signT; rw [if_neg hs]
    exact ⟨_, _, by rw [hr]; rfl, by decide, by decide⟩
/-- A run that is told is read as its bytes. -/
theorem item_told (c e : Nat) (hce : c ≤ e) (he : e < 256) (rest : List UInt8) (hr : ∀ t, rest ≠ 45 :: t) :
    itemS (signT c ++ (if c < e then 45 :: signT e else []) ++ rest) = (fun j => decide (c ≤ j) && decide (j ≤ e), (signT c ++ (if c < e then 45 :: signT e else [])).length, 0) := by
  by_cases h : c < e
  · rw [if_pos h, List.append_assoc]
    unfold itemS
    rw [sign_told c (by omega)]
    simp only
    have h45 : (signT c ++ (45 :: signT e ++ rest))[(signT c).length]? = some 45 := by simp
    rw [if_pos h45]
    have hd : (signT c ++ (45 :: signT e ++ rest)).drop ((signT c).length + 1) = signT e ++ rest := by
      rw [← List.drop_drop, List.drop_left]
      rfl
    rw [hd, sign_told e he]
    simp only
    rw [if_neg (by omega)]
    simp
    omega
  · obtain rfl : c = e := by omega
    rw [if_neg h, List.append_nil]
    unfold itemS
    rw [sign_told c he]
    simp only
    have hn : (signT c ++ rest)[(signT c).length]? ≠ some 45 := by
      rw [List.getElem?_append_right (Nat.le_refl _), Nat.sub_self]
      intro h0
      cases rest with
      | nil => simp at h0
      | cons a t =>
        simp at h0
        exact hr t (by rw [h0])
    rw [if_neg hn]
    congr 1
    funext j
    by_cases hj : j = c
    · subst hj; simp
    · have : (j == c) = false := by simpa using hj
      rw [this]
      symm
      simp
      omega

theorem rext_spec (p : Nat → Bool) : ∀ (f c : Nat), 256 ≤ c + f → c < 256 → c ≤ rext p f c ∧ rext p f c < 256 ∧ (∀ j, c < j → j ≤ rext p f c → p j = true) ∧ (rext p f c + 1 < 256 → p (rext p f c + 1) = false) := by
  intro f
  induction f with
  | zero => intro c h1 h2; omega
  | succ f ih =>
    intro c h1 h2
    rw [rext]
    by_cases hg : (decide (c + 1 < 256) && p (c + 1)) = true
    · rw [if_pos hg]
      simp at hg
      obtain ⟨a1, a2, a3, a4⟩ := ih (c + 1) (by omega) hg.1
      refine ⟨by omega, a2, fun j hj hj2 => ?_, a4⟩
      by_cases e : j = c + 1
      · rw [e]; exact hg.2
      · exact a3 j (by omega) hj2
    · rw [if_neg hg]
      refine ⟨Nat.le_refl _, h2, fun j hj hj2 => by omega, fun h => ?_⟩
      simp at hg
      exact hg h

/-- The rest of the runs. -/
def tailT (p : Nat → Bool) : Nat → Nat → List UInt8
  | 0, _ => []
  | n + 1, c => piece p c ++ tailT p n (c + 1)
theorem runs_tail (p : Nat → Bool) : ∀ n c, runsT p (c + n) = runsT p c ++ tailT p n c := by
  intro n
  induction n with
  | zero => intro c; simp [tailT]
  | succ n ih =>
    intro c
    rw [show c + (n + 1) = c + 1 + n by omega, ih (c + 1), runs_succ, tailT, List.append_assoc]
theorem tail_skip (p : Nat → Bool) (c : Nat) (hp : p c = true) : ∀ d n, (∀ j, c < j → j ≤ c + d → p j = true) → tailT p (n + d) (c + 1) = tailT p n (c + d + 1) := by
  intro d
  induction d with
  | zero => intro n _; rfl
  | succ d ih =>
    intro n h
    rw [show n + (d + 1) = (n + 1) + d by omega, ih (n + 1) (fun j h1 h2 => h j h1 (by omega)), tailT, piece_in (by omega), List.nil_append]
    · rfl
    · by_cases hd : d = 0
      · subst hd; exact hp
      · exact h _ (by omega) (by omega)
theorem tail_head (p : Nat → Bool) (rest : List UInt8) (hr : ∀ t, rest ≠ 45 :: t) : ∀ n c, c + n ≤ 256 → ∀ t, tailT p n c ++ rest ≠ 45 :: t := by
  intro n
  induction n with
  | zero => intro c _ t; exact hr t
  | succ n ih =>
    intro c hc t h
    rw [tailT, List.append_assoc] at h
    unfold piece at h
    split at h
    · rw [List.append_assoc] at h
      obtain ⟨a, t', h1, h2, _⟩ := sign_head c (by omega) ((if c < rext p 256 c then 45 :: signT (rext p 256 c) else []) ++ (tailT p n (c + 1) ++ rest))
      rw [h1] at h
      injection h with h3 _
      exact h2 h3
    · exact ih (c + 1) (by omega) t h

/-- Runs that are told are read as their bytes. -/
theorem go_told (p : Nat → Bool) (hp : ∀ j, 256 ≤ j → p j = false) (l : List UInt8) (bg : Nat) (behind : List UInt8) : ∀ (n c f k : Nat) (x : Nat → Bool), c + n = 256 → (c < 256 → p c = true → c = 0 ∨ p (c - 1) = false) →
    l.drop k = tailT p n c ++ 93 :: behind → (k ≠ bg ∨ tailT p n c ≠ []) → bg ≤ k → (tailT p n c).length + 1 ≤ f → goS l bg f k x = (fun j => x j || (decide (c ≤ j) && p j), k + (tailT p n c).length + 1, 0) := by
  intro n
  induction n using Nat.strongRecOn with
  | _ n ih =>
    intro c f k x hcn hb hd hk hbk hf
    obtain ⟨f', rfl⟩ : ∃ f', f = f' + 1 := ⟨f - 1, by omega⟩
    cases n with
    | zero =>
      have h93 : l[k]? = some 93 := by
        have := congrArg (·[0]?) hd
        simpa [tailT] using this
      have hkb : k ≠ bg := by
        rcases hk with h | h
        · exact h
        · exact absurd rfl h
      show (if k ≠ bg ∧ l[k]? = some 93 then _ else _) = _
      rw [if_pos ⟨hkb, h93⟩]
      congr 1
      funext j
      by_cases hj : c ≤ j
      · rw [hp j (by omega)]; simp
      · simp [hj]
    | succ n =>
      cases hpc : p c
      · have e1 : tailT p (n + 1) c = tailT p n (c + 1) := by rw [tailT, piece_off hpc, List.nil_append]
        rw [e1] at hd hk hf ⊢
        rw [ih n (by omega) (c + 1) (f' + 1) k x (by omega) (fun _ _ => .inr (by simpa using hpc)) hd hk hbk hf]
        congr 1
        funext j
        by_cases hj : j = c
        · subst hj; simp [hpc]
        · by_cases h2 : c ≤ j
          · have : c + 1 ≤ j := by omega
            simp [h2, this]
          · have : ¬ c + 1 ≤ j := by omega
            simp [h2, this]
      · obtain ⟨a1, a2, a3, a4⟩ := rext_spec p 256 c (by omega) (by omega)
        obtain ⟨e, he⟩ : ∃ e, rext p 256 c = e := ⟨_, rfl⟩
        rw [he] at a1 a2 a3 a4
        have h0 := hb (by omega) hpc
        have hpi : piece p c = signT c ++ (if c < e then 45 :: signT e else []) := piece_at hpc h0 he
        have htl : tailT p (n + 1) c = piece p c ++ tailT p (n - (e - c)) (e + 1) := by
          rw [tailT]
          congr 1
          have := tail_skip p c hpc (e - c) (n - (e - c)) (fun j h1 h2 => a3 j h1 (by omega))
          rw [show n - (e - c) + (e - c) = n by omega, show c + (e - c) + 1 = e + 1 by omega] at this
          exact this
        have hrest : ∀ t, tailT p (n - (e - c)) (e + 1) ++ 93 :: behind ≠ 45 :: t := tail_head p _ (fun t h => by injection h with h1 _; exact absurd h1 (by decide)) _ _ (by omega)
        have hit : itemS (l.drop k) = (fun j => decide (c ≤ j) && decide (j ≤ e), (piece p c).length, 0) := by
          rw [hd, htl, List.append_assoc, hpi]
          exact item_told c e a1 a2 _ hrest
        have hh := sign_head c (by omega) ((if c < e then 45 :: signT e else []) ++ (tailT p (n - (e - c)) (e + 1) ++ 93 :: behind))
        have hs93 : l[k]? ≠ some 93 ∨ True := .inr trivial
        have hne93 : ¬ (k ≠ bg ∧ l[k]? = some 93) := by
          rintro ⟨_, h93⟩
          have h1 : (l.drop k)[0]? = some 93 := by simpa using h93
          have h2 : signS (l.drop k) = .byte c (signT c).length := by
            rw [hd, htl, List.append_assoc, hpi, List.append_assoc]
            exact sign_told c (by omega) _
          cases hq : l.drop k with
          | nil => rw [hq] at h1; simp at h1
          | cons a t =>
            rw [hq] at h1 h2
            simp at h1
            subst h1
            simp [signS] at h2
        show (if k ≠ bg ∧ l[k]? = some 93 then _ else if (itemS (l.drop k)).2.2 ≠ 0 then _ else goS l bg f' (k + (itemS (l.drop k)).2.1) (fun j => x j || (itemS (l.drop k)).1 j)) = _
        rw [if_neg hne93, hit, if_neg (by simp)]
        have hlen1 : 1 ≤ (piece p c).length := by rw [hpi, List.length_append]; have := (sign_len c).2; omega
        have hd2 : l.drop (k + (piece p c).length) = tailT p (n - (e - c)) (e + 1) ++ 93 :: behind := by
          rw [← List.drop_drop, hd, htl, List.append_assoc, List.drop_left]
        simp only
        rw [ih (n - (e - c)) (by omega) (e + 1) f' (k + (piece p c).length) _ (by omega) (fun h1 h2 => absurd h2 (by simp [a4 h1])) hd2 (.inl (by omega)) (by omega) (by rw [htl, List.length_append] at hf; omega)]
        rw [htl, List.length_append]
        congr 1
        · funext j
          by_cases h1 : c ≤ j
          · by_cases h2 : j ≤ e
            · have h3 : p j = true := by
                by_cases e1 : j = c
                · rw [e1]; exact hpc
                · exact a3 j (by omega) h2
              simp [h1, h2, h3]
            · have h4 : e + 1 ≤ j := by omega
              simp [h1, h2, h4]
          · have h4 : ¬ e + 1 ≤ j := by omega
            simp [h1, h4]
        · congr 1
          omega
end Go.Proofs.YtlofdnefbgjmpaaDoor
namespace Go.Proofs.YtlofdnefbgjmpaaDoor
open Go Go.RowKit

theorem runs_none (p : Nat → Bool) : ∀ n, runsT p n = [] → ∀ j, j < n → p j = false := by
  intro n
  induction n with
  | zero => intro _ j hj; omega
  | succ n ih =>
    intro h j hj
    rw [runs_succ, List.append_eq_nil_iff] at h
    by_cases hjn : j = n
    · subst hjn
      cases hp : p j
      · rfl
      · have h0 : j = 0 ∨ p (j - 1) = false := by
          by_cases e : j = 0
          · exact .inl e
          · exact .inr (ih h.1 (j - 1) (by omega))
        have h2 := h.2
        rw [piece_at hp h0 rfl, List.append_eq_nil_iff] at h2
        have := (sign_len j).2
        rw [h2.1] at this
        simp at this
    · exact ih h.1 j (by omega)
theorem cnt_zero_of {p : Nat → Bool} : ∀ {n : Nat}, (∀ j, j < n → p j = false) → cnt p n = 0 := by
  intro n
  induction n with
  | zero => intro _; rfl
  | succ n ih => intro h; rw [cnt, ih (fun j hj => h j (by omega)), h n (by omega)]; rfl
theorem tail_head94 (p : Nat → Bool) (rest : List UInt8) (hr : ∀ t, rest ≠ 94 :: t) : ∀ n c, c + n ≤ 256 → ∀ t, tailT p n c ++ rest ≠ 94 :: t := by
  intro n
  induction n with
  | zero => intro c _ t; exact hr t
  | succ n ih =>
    intro c hc t h
    rw [tailT, List.append_assoc] at h
    unfold piece at h
    split at h
    · rw [List.append_assoc] at h
      obtain ⟨a, t', h1, _, h2⟩ := sign_head c (by omega) ((if c < rext p 256 c then 45 :: signT (rext p 256 c) else []) ++ (tailT p n (c + 1) ++ rest))
      rw [h1] at h
      injection h with h3 _
      exact h2 h3
    · exact ih (c + 1) (by omega) t h
theorem goS_stepB (l : List UInt8) (b f k : Nat) (x : Nat → Bool) : goS l b (f + 1) k x =
    if k ≠ b ∧ l[k]? = some 93 then (x, k + 1, 0)
    else if (itemS (l.drop k)).2.2 ≠ 0 then (fun _ => false, 0, (itemS (l.drop k)).2.2)
    else goS l b f (k + (itemS (l.drop k)).2.1) (fun j => x j || (itemS (l.drop k)).1 j) := rfl
theorem parse_br (t : List UInt8) (b : Bool) (hb : decide ((91 :: t : List UInt8)[1]? = some 94) = b) (r : (Nat → Bool) × Nat × Nat) (hr : goS (91 :: t) (if b then 2 else 1) ((91 :: t : List UInt8).length + 1) (if b then 2 else 1) (fun _ => false) = r) (h0 : r.2.2 = 0) :
    parseS (91 :: t) = (notP b r.1, r.2) := by
  have : parseS (91 :: t) = if r.2.2 = 0 then (notP b r.1, r.2) else r := by
    subst hb
    subst hr
    rfl
  rw [this, if_pos h0]

theorem text_back (p : Nat → Bool) (hp : ∀ j, 256 ≤ j → p j = false) (h1 : cnt p 256 ≠ 1) (h2 : cnt p 256 ≠ 256) (behind : List UInt8) :
    (parseS (textT p ++ behind)).2 = ((textT p).length, 0) ∧ ∀ j, j < 256 → (parseS (textT p ++ behind)).1 j = p j := by
  by_cases h0 : cnt p 256 = 0
  · have ht : textT p = 91 :: 94 :: (signT 0 ++ (if 0 < 255 then 45 :: signT 255 else [])) ++ [93] := by
      unfold textT
      rw [if_pos h0, runs_all']
      rfl
    obtain ⟨S, hS⟩ : ∃ S, signT 0 ++ (if 0 < 255 then 45 :: signT 255 else []) = S := ⟨_, rfl⟩
    have hit : ∀ rest, (∀ t, rest ≠ 45 :: t) → itemS (S ++ rest) = (fun j => decide (0 ≤ j) && decide (j ≤ 255), S.length, 0) := by
      intro rest hr
      rw [← hS]
      exact item_told 0 255 (by omega) (by omega) rest hr
    have hS1 : 1 ≤ S.length := by rw [← hS, List.length_append]; have := (sign_len 0).2; omega
    rw [hS] at ht
    have hl : textT p ++ behind = 91 :: (94 :: (S ++ 93 :: behind)) := by rw [ht]; simp
    have hg : goS (91 :: (94 :: (S ++ 93 :: behind))) 2 ((91 :: (94 :: (S ++ 93 :: behind)) : List UInt8).length + 1) 2 (fun _ => false) = (fun j => false || (decide (0 ≤ j) && decide (j ≤ 255)), 2 + S.length + 1, 0) := by
      rw [goS_stepB, if_neg (by simp)]
      have hd : (91 :: (94 :: (S ++ 93 :: behind)) : List UInt8).drop 2 = S ++ 93 :: behind := rfl
      rw [hd, hit _ (fun t h => by injection h with h _; exact absurd h (by decide)), if_neg (by simp)]
      simp only [List.length_cons]
      rw [goS_stepB, if_pos]
      refine ⟨by omega, ?_⟩
      rw [show 2 + S.length = S.length + 1 + 1 by omega]
      simp
    rw [hl, parse_br (94 :: (S ++ 93 :: behind)) true (by simp) _ hg rfl, ht]
    refine ⟨by simp; omega, fun j hj => ?_⟩
    rw [cnt_none h0 j hj]
    show (!(false || (decide (0 ≤ j) && decide (j ≤ 255)))) = false
    simp
    omega
  · have ht : textT p = 91 :: (tailT p 256 0 ++ [93]) := by
      unfold textT
      rw [if_neg h0, if_neg h1, if_neg h2]
      have := runs_tail p 256 0
      rw [Nat.zero_add] at this
      rw [this]
      rfl
    have hne : tailT p 256 0 ≠ [] := fun h => by
      have := runs_tail p 256 0
      rw [Nat.zero_add, h] at this
      exact h0 (cnt_zero_of (runs_none p 256 this))
    have hl : textT p ++ behind = 91 :: (tailT p 256 0 ++ 93 :: behind) := by rw [ht]; simp
    have hb : decide ((91 :: (tailT p 256 0 ++ 93 :: behind) : List UInt8)[1]? = some 94) = false := by
      apply decide_eq_false
      intro h
      have h' : (tailT p 256 0 ++ 93 :: behind)[0]? = some 94 := h
      cases hq : tailT p 256 0 ++ 93 :: behind with
      | nil => rw [hq] at h'; simp at h'
      | cons a t =>
        rw [hq] at h'
        simp at h'
        subst h'
        exact tail_head94 p _ (fun t h => by injection h with h _; exact absurd h (by decide)) 256 0 (by omega) t hq
    have hg : goS (91 :: (tailT p 256 0 ++ 93 :: behind)) 1 ((91 :: (tailT p 256 0 ++ 93 :: behind) : List UInt8).length + 1) 1 (fun _ => false) = (fun j => false || (decide (0 ≤ j) && p j), 1 + (tailT p 256 0).length + 1, 0) :=
      go_told p hp (91 :: (tailT p 256 0 ++ 93 :: behind)) 1 behind 256 0 _ 1 (fun _ => false) (by omega) (fun _ _ => .inl rfl) rfl (.inr hne) (by omega) (by simp; omega)
    rw [hl, parse_br _ false hb _ hg rfl, ht]
    refine ⟨by simp; omega, fun j _ => ?_⟩
    show (false || (decide (0 ≤ j) && p j)) = p j
    simp
end Go.Proofs.YtlofdnefbgjmpaaDoor
namespace Go.Proofs.YtlofdnefbgjmpaaDoor
open Go Go.RowKit

/-! ### Trees that are the same -/
mutual
def T.same : T → T → Bool
  | .node k m z p ks, .node k' m' z' p' ks' => (decide (k = k') && decide (m = m') && (z == z') && sameP p p') && sameL ks ks'
def sameL : List T → List T → Bool
  | [], [] => true
  | t :: ts, u :: us => t.same u && sameL ts us
  | [], _ :: _ => false
  | _ :: _, [] => false
end
theorem same_node {k k' m m' : Int} {z z' : Bool} {p p' : Nat → Bool} {ks ks' : List T} : (T.node k m z p ks).same (.node k' m' z' p' ks') = true ↔ k = k' ∧ m = m' ∧ z = z' ∧ sameP p p' = true ∧ sameL ks ks' = true := by
  rw [T.same]
  simp only [Bool.and_eq_true, decide_eq_true_eq, beq_iff_eq, and_assoc]
theorem same_len : ∀ {a b : List T}, sameL a b = true → a.length = b.length
  | [], [], _ => rfl
  | t :: ts, u :: us, h => by
    rw [sameL, Bool.and_eq_true] at h
    rw [List.length_cons, List.length_cons, same_len h.2]
  | [], _ :: _, h => by rw [sameL] at h; cases h
  | _ :: _, [], h => by rw [sameL] at h; cases h
mutual
theorem same_nullable : ∀ (t u : T), t.same u = true → t.nullable = u.nullable
  | .node k m z p ks, .node k' m' z' p' ks', h => by
    obtain ⟨rfl, _, _, _, h⟩ := same_node.1 h
    obtain ⟨h1, h2, h3⟩ := sameL_null ks ks' h
    rw [T.nullable, T.nullable, h1, h2, h3]
theorem sameL_null : ∀ (a b : List T), sameL a b = true → allN a = allN b ∧ anyN a = anyN b ∧ headN a = headN b
  | [], [], _ => ⟨rfl, rfl, rfl⟩
  | t :: ts, u :: us, h => by
    rw [sameL, Bool.and_eq_true] at h
    have h1 := same_nullable t u h.1
    obtain ⟨h2, h3, _⟩ := sameL_null ts us h.2
    rw [allN, allN, anyN, anyN, headN, headN, h1, h2, h3]
    exact ⟨rfl, rfl, rfl⟩
  | [], _ :: _, h => by rw [sameL] at h; cases h
  | _ :: _, [], h => by rw [sameL] at h; cases h
end
theorem sameP_refl (p : Nat → Bool) : sameP p p = true := (sameP_iff p p).2 fun _ _ => rfl
theorem sameP_none {p : Nat → Bool} (h : noneB p = true) : sameP noP p = true := by
  refine (sameP_iff _ _).2 fun c hc => ?_
  unfold noneB at h
  rw [List.all_eq_true] at h
  have := h c (by rw [List.mem_range']; exact ⟨c, hc, by omega⟩)
  simp at this
  rw [this]
  rfl

/-! ### Sets' texts -/
theorem rext_congr {p q : Nat → Bool} (h : ∀ j, j < 256 → p j = q j) : ∀ f c, rext p f c = rext q f c := by
  intro f
  induction f with
  | zero => intro c; rfl
  | succ f ih =>
    intro c
    rw [rext, rext, ih]
    by_cases hc : c + 1 < 256
    · rw [h _ hc]
    · simp [hc]
theorem piece_congr {p q : Nat → Bool} (h : ∀ j, j < 256 → p j = q j) {c : Nat} (hc : c < 256) : piece p c = piece q c := by
  unfold piece
  rw [h c hc, h (c - 1) (by omega), rext_congr h]
theorem runs_congr {p q : Nat → Bool} (h : ∀ j, j < 256 → p j = q j) : ∀ n, n ≤ 256 → runsT p n = runsT q n := by
  intro n
  induction n with
  | zero => intro _; rfl
  | succ n ih => intro hn; rw [runs_succ, runs_succ, ih (by omega), piece_congr h (by omega)]
theorem lst_congr {p q : Nat → Bool} (h : ∀ j, j < 256 → p j = q j) : ∀ f c, c + f ≤ 256 → lstF p f c = lstF q f c := by
  intro f
  induction f with
  | zero => intro c _; rfl
  | succ f ih => intro c hc; rw [lstF, lstF, h c (by omega), ih (c + 1) (by omega)]
theorem textT_congr {p q : Nat → Bool} (h : ∀ j, j < 256 → p j = q j) : textT p = textT q := by
  unfold textT
  rw [cnt_congr h, lst_congr h _ _ (by omega), runs_congr h _ (Nat.le_refl _)]
theorem cnt_le_n (p : Nat → Bool) : ∀ n, cnt p n ≤ n := by
  intro n
  induction n with
  | zero => exact Nat.le_refl _
  | succ n ih => rw [cnt]; split <;> omega
theorem cnt_full' {p : Nat → Bool} : ∀ n, cnt p n = n → ∀ j, j < n → p j = true := by
  intro n
  induction n with
  | zero => intro _ j hj; omega
  | succ n ih =>
    intro h j hj
    have hle := cnt_le_n p n
    rw [cnt] at h
    split at h
    · rename_i hp
      by_cases e : j = n
      · subst e; exact hp
      · exact ih (by omega) j (by omega)
    · omega

/-! ### Places in a text -/
theorem drop_add {l x Q : List UInt8} {i : Nat} (h : l.drop i = x ++ Q) : l.drop (i + x.length) = Q := by
  rw [← List.drop_drop, h, List.drop_left]
theorem get_drop {l : List UInt8} {i : Nat} : l[i]? = (l.drop i).head? := by rw [List.head?_drop]
theorem get_first {l r : List UInt8} {i : Nat} {c : UInt8} (h : l.drop i = c :: r) : l[i]? = some c := by rw [get_drop, h]; rfl
theorem get_behind {l x Q : List UInt8} {i : Nat} (h : l.drop i = x ++ Q) : l[i + x.length]? = Q.head? := by rw [get_drop, drop_add h]
theorem drop_tail {l r : List UInt8} {i : Nat} {c : UInt8} (h : l.drop i = c :: r) : l.drop (i + 1) = r := by
  rw [← List.drop_drop, h]; rfl

/-- Nothing that repeats. -/
def Opn (Q : List UInt8) : Prop := ∀ c, Q.head? = some c → c ≠ 42 ∧ c ≠ 43 ∧ c ≠ 63
/-- A text that begins as items do. -/
def HeadF (x : List UInt8) : Prop := ∃ c r, x = c :: r ∧ c ≠ 124 ∧ c ≠ 41 ∧ c ≠ 42 ∧ c ≠ 43 ∧ c ≠ 63
theorem HeadF.app {x : List UInt8} (h : HeadF x) (y : List UInt8) : HeadF (x ++ y) := by
  obtain ⟨c, r, rfl, h⟩ := h
  exact ⟨c, r ++ y, rfl, h⟩
theorem HeadF.opn {x : List UInt8} (h : HeadF x) : Opn x := by
  obtain ⟨c, r, rfl, h⟩ := h
  intro c' hc
  simp at hc
  subst hc
  exact h.2.2
theorem Ends.opn {Q : List UInt8} (h : Ends Q) : Opn Q := by
  intro c hc
  rcases h with rfl | h | h
  · simp at hc
  · rw [h] at hc; injection hc with hc; subst hc; decide
  · rw [h] at hc; injection hc with hc; subst hc; decide
/-- What is read for a tree: it, or there are too many groups, or it is too deep. -/
def RB (g : Nat) (t : T) (j : Nat) (r : PR) : Prop := (∃ t', r = .ok t' j (g + t.groups) ∧ t'.same t = true) ∨ (r = .err 2 ∧ 9 < g + t.groups) ∨ r = .err 11
def TAtom (g : Nat) (t : T) (x : List UInt8) : Prop := ∀ l i ne Q, l.drop i = x ++ Q → ∃ f0 r, RB g t (i + x.length) r ∧ ∀ f, f0 ≤ f → atomP l f ne i g = r
def TItem (g : Nat) (t : T) (x : List UInt8) : Prop := ∀ l i ne Q, l.drop i = x ++ Q → Opn Q → ∃ f0 r, RB g t (i + x.length) r ∧ ∀ f, f0 ≤ f → itemP l f ne i g = r
def TSeq (g : Nat) (t : T) (x : List UInt8) : Prop := ∀ l i ne Q, l.drop i = x ++ Q → Ends Q → ∃ f0 r, RB g t (i + x.length) r ∧ ∀ f, f0 ≤ f → itemsP l f ne i g [] = r
def TAlts (g : Nat) (t : T) (x : List UInt8) : Prop := ∀ l i ne Q, l.drop i = x ++ Q → (Q = [] ∨ Q.head? = some 41) → ∃ f0 r, RB g t (i + x.length) r ∧ ∀ f, f0 ≤ f → altsP l f ne i g [] = r
theorem fuel1 {P : Nat → PR} {f0 : Nat} {r : PR} (h : ∀ f, f0 ≤ f → P (f + 1) = r) : ∀ f, f0 + 1 ≤ f → P f = r := by
  intro f hf
  obtain ⟨f, rfl⟩ : ∃ f', f = f' + 1 := ⟨f - 1, by omega⟩
  exact h f (by omega)
theorem fuel2 {P : Nat → PR} {f0 : Nat} {r : PR} (h : ∀ f, f0 ≤ f → P (f + 2) = r) : ∀ f, f0 + 2 ≤ f → P f = r := by
  intro f hf
  obtain ⟨f, rfl⟩ : ∃ f', f = f' + 2 := ⟨f - 2, by omega⟩
  exact h f (by omega)

theorem rep_none {l Q : List UInt8} {t : T} {j g : Nat} (h : l[j]? = Q.head?) (hQ : Opn Q) : repP l t j g = .ok t j g := by
  unfold repP
  rw [h]
  cases hc : Q.head? with
  | none => rfl
  | some c =>
    have h := hQ c hc
    dsimp only
    rw [if_neg (by simp only [not_or]; exact h)]
theorem atom_item {g : Nat} {t : T} {x : List UInt8} (h : TAtom g t x) : TItem g t x := by
  intro l i ne Q hd hQ
  obtain ⟨f0, r, hr, hf⟩ := h l i ne Q hd
  rcases hr with ⟨t', rfl, hs⟩ | ⟨rfl, h9⟩ | rfl
  · refine ⟨f0 + 1, _, .inl ⟨t', rfl, hs⟩, fuel1 fun f hf1 => ?_⟩
    rw [itemP, hf f hf1]
    dsimp only
    rw [rep_none (get_behind hd) hQ]
  · exact ⟨f0 + 1, _, .inr (.inl ⟨rfl, h9⟩), fuel1 fun f hf1 => by rw [itemP, hf f hf1]⟩
  · exact ⟨f0 + 1, _, .inr (.inr rfl), fuel1 fun f hf1 => by rw [itemP, hf f hf1]⟩
theorem rep_item {g : Nat} {k : T} {x : List UInt8} (h : TAtom g k x) {kd : Int} {z : Bool} {p : Nat → Bool} (hk : kd = 5 ∨ kd = 6 ∨ kd = 7) (hn : kd = 5 ∨ kd = 6 → k.nullable = false) (hp : noneB p = true) : TItem g (.node kd 0 z p [k]) (x ++ signR kd z) := by
  intro l i ne Q hd hQ
  rw [List.append_assoc] at hd
  obtain ⟨f0, r, hr, hf⟩ := h l i ne _ hd
  have hg : (T.node kd 0 z p [k]).groups = k.groups := by
    rw [T.groups, if_neg (by omega), groupsL, groupsL]; omega
  rcases hr with ⟨t', rfl, hs⟩ | ⟨rfl, h9⟩ | rfl
  · have hnl := same_nullable _ _ hs
    obtain ⟨c, hc⟩ : ∃ c : UInt8, c = (if kd = 5 then 42 else if kd = 6 then 43 else 63) := ⟨_, rfl⟩
    have hsg : signR kd z = c :: (if z then [63] else []) := by
      unfold signR
      rw [hc]
      split
      · rfl
      · split <;> rfl
    have hd2 := drop_add hd
    rw [hsg, List.cons_append] at hd2
    have g1 := get_first hd2
    have hd3 := drop_tail hd2
    have g2 : l[i + x.length + 1]? = ((if z then [63] else []) ++ Q : List UInt8).head? := by rw [get_drop, hd3]
    have hz : decide (l[i + x.length + 1]? = some 63) = z := by
      rw [g2]
      cases z
      · have hno : Q.head? ≠ some 63 := fun e => (hQ 63 e).2.2 rfl
        simpa using hno
      · simp
    have hc3 : c = 42 ∨ c = 43 ∨ c = 63 := by
      rcases hk with rfl | rfl | rfl
      · exact .inl hc
      · exact .inr (.inl hc)
      · exact .inr (.inr hc)
    have hnn : ¬ (c ≠ 63 ∧ t'.nullable = true) := by
      rintro ⟨h1, h2⟩
      rw [hnl] at h2
      have hkd : kd = 5 ∨ kd = 6 := by
        rcases hk with rfl | rfl | rfl
        · exact .inl rfl
        · exact .inr rfl
        · exact absurd hc h1
      rw [hn hkd] at h2
      cases h2
    have hkk : (if c = 42 then (5 : Int) else if c = 43 then 6 else 7) = kd := by
      rcases hk with rfl | rfl | rfl <;> rw [hc] <;> rfl
    refine ⟨f0 + 1, _, .inl ⟨.node kd 0 z noP [t'], rfl, same_node.2 ⟨rfl, rfl, rfl, sameP_none hp, show sameL [t'] [k] = true by rw [sameL, sameL, hs]; rfl⟩⟩, fuel1 fun f hf1 => ?_⟩
    rw [itemP, hf f hf1]
    dsimp only
    unfold repP
    rw [g1]
    dsimp only
    rw [if_pos hc3, if_neg hnn, hz, hkk]
    rw [hg, List.length_append, hsg]
    cases z <;> rfl
  · exact ⟨f0 + 1, _, .inr (.inl ⟨rfl, by rw [hg]; exact h9⟩), fuel1 fun f hf1 => by rw [itemP, hf f hf1]⟩
  · exact ⟨f0 + 1, _, .inr (.inr rfl), fuel1 fun f hf1 => by rw [itemP, hf f hf1]⟩
theorem wrap_atom {g : Nat} {t : T} {x : List UInt8} (h : TAlts g t x) : TAtom g t ([40, 63, 58] ++ x ++ [41]) := by
  intro l i ne Q hd
  have hd0 : l.drop i = 40 :: 63 :: 58 :: (x ++ 41 :: Q) := by rw [hd]; simp
  have g0 := get_first hd0
  have hd1 := drop_tail hd0
  have g1 := get_first hd1
  have hd2 := drop_tail hd1
  have g2 := get_first hd2
  have hd3 := drop_tail hd2
  have gE : l[i + 1 + 1 + 1 + x.length]? = some 41 := get_behind hd3
  by_cases hne : ne = 8
  · refine ⟨2, _, .inr (.inr rfl), fuel2 (f0 := 0) fun f hf1 => ?_⟩
    rw [atomP, g0]
    dsimp only
    rw [if_pos rfl, bracketP, if_pos hne]
  obtain ⟨f0, r, hr, hf⟩ := h l (i + 1 + 1 + 1) (ne + 1) _ hd3 (.inr rfl)
  have key : ∀ f, atomP l (f + 2) ne i g = closeP l (altsP l f (ne + 1) (i + 1 + 1 + 1) g []) 0 := by
    intro f
    rw [atomP, g0]
    dsimp only
    rw [if_pos rfl, bracketP, if_neg hne, if_pos g1, show i + 2 = i + 1 + 1 by omega, g2]
    dsimp only
    rw [if_pos rfl, show i + 3 = i + 1 + 1 + 1 by omega]
  rcases hr with ⟨t', rfl, hs⟩ | ⟨rfl, h9⟩ | rfl
  · refine ⟨f0 + 2, _, .inl ⟨t', rfl, hs⟩, fuel2 fun f hf1 => ?_⟩
    rw [key, hf f hf1]
    unfold closeP
    dsimp only
    rw [gE]
    dsimp only
    rw [if_pos rfl]
    congr 1
    simp only [List.length_append, List.length_cons, List.length_nil]; omega
  · exact ⟨f0 + 2, _, .inr (.inl ⟨rfl, h9⟩), fuel2 fun f hf1 => by rw [key, hf f hf1]; rfl⟩
  · exact ⟨f0 + 2, _, .inr (.inr rfl), fuel2 fun f hf1 => by rw [key, hf f hf1]; rfl⟩
theorem group_atom {g : Nat} {t : T} {x : List UInt8} (h : TAlts (g + 1) t x) (hx : x.head? ≠ some 63) {p : Nat → Bool} (hp : noneB p = true) : TAtom g (.node 8 ((g : Int) + 1) false p [t]) (40 :: (x ++ [41])) := by
  intro l i ne Q hd
  have hg : (T.node 8 ((g : Int) + 1) false p [t]).groups = t.groups + 1 := by
    rw [T.groups, if_pos rfl, groupsL, groupsL]; omega
  have hd0 : l.drop i = 40 :: (x ++ 41 :: Q) := by rw [hd]; simp
  have g0 := get_first hd0
  have hd1 := drop_tail hd0
  have g1 : l[i + 1]? ≠ some 63 := by
    rw [get_drop, hd1]
    cases x with
    | nil => simp
    | cons a r => simpa using hx
  have gE : l[i + 1 + x.length]? = some 41 := get_behind hd1
  by_cases hne : ne = 8
  · refine ⟨2, _, .inr (.inr rfl), fuel2 (f0 := 0) fun f hf1 => ?_⟩
    rw [atomP, g0]
    dsimp only
    rw [if_pos rfl, bracketP, if_pos hne]
  by_cases h9 : g = 9
  · refine ⟨2, _, .inr (.inl ⟨rfl, by rw [hg]; omega⟩), fuel2 (f0 := 0) fun f hf1 => ?_⟩
    rw [atomP, g0]
    dsimp only
    rw [if_pos rfl, bracketP, if_neg hne, if_neg g1, if_pos h9]
  obtain ⟨f0, r, hr, hf⟩ := h l (i + 1) (ne + 1) _ hd1 (.inr rfl)
  have key : ∀ f, atomP l (f + 2) ne i g = closeP l (altsP l f (ne + 1) (i + 1) (g + 1) []) (g + 1) := by
    intro f
    rw [atomP, g0]
    dsimp only
    rw [if_pos rfl, bracketP, if_neg hne, if_neg g1, if_neg h9]
  rcases hr with ⟨t', rfl, hs⟩ | ⟨rfl, h9⟩ | rfl
  · refine ⟨f0 + 2, _, .inl ⟨.node 8 ((g : Int) + 1) false noP [t'], rfl, same_node.2 ⟨rfl, rfl, rfl, sameP_none hp, show sameL [t'] [t] = true by rw [sameL, sameL, hs]; rfl⟩⟩, fuel2 fun f hf1 => ?_⟩
    rw [key, hf f hf1]
    unfold closeP
    dsimp only
    rw [gE]
    dsimp only
    rw [if_neg (by omega), hg, show (((g + 1 : Nat) : Int)) = (g : Int) + 1 by omega]
    congr 1
    · simp only [List.length_append, List.length_cons, List.length_nil]; omega
    · omega
  · exact ⟨f0 + 2, _, .inr (.inl ⟨rfl, by rw [hg]; omega⟩), fuel2 fun f hf1 => by rw [key, hf f hf1]; rfl⟩
  · exact ⟨f0 + 2, _, .inr (.inr rfl), fuel2 fun f hf1 => by rw [key, hf f hf1]; rfl⟩
theorem ends_stop {l Q : List UInt8} {j f ne g : Nat} {acc : List T} (h : l[j]? = Q.head?) (hQ : Ends Q) : itemsP l (f + 1) ne j g acc = .ok (mkCat acc) j g := by
  rw [itemsP, h]
  rcases hQ with rfl | e | e
  · rfl
  · rw [e]; rfl
  · rw [e]; rfl
theorem item_step {l : List UInt8} {i f ne g : Nat} {acc : List T} {c : UInt8} (g0 : l[i]? = some c) (h1 : c ≠ 124) (h2 : c ≠ 41) : itemsP l (f + 1) ne i g acc = (match itemP l f ne i g with
      | .out => .out
      | .err k => .err k
      | .ok t i gr => itemsP l f ne i gr (acc ++ [t])) := by
  rw [itemsP, g0]
  dsimp only
  rw [if_neg (by simp [h1, h2])]
  cases itemP l f ne i g <;> rfl
theorem item_seq {g : Nat} {t : T} {x : List UInt8} (h : TItem g t x) (hx : HeadF x) : TSeq g t x := by
  intro l i ne Q hd hQ
  obtain ⟨f0, r, hr, hf⟩ := h l i ne Q hd hQ.opn
  obtain ⟨c, r', rfl, h1, h2, _⟩ := hx
  have g0 := get_first hd
  rcases hr with ⟨t', rfl, hs⟩ | ⟨rfl, h9⟩ | rfl
  · refine ⟨f0 + 2, _, .inl ⟨t', rfl, hs⟩, fuel2 fun f hf1 => ?_⟩
    rw [item_step g0 h1 h2, hf (f + 1) (by omega)]
    dsimp only
    rw [ends_stop (get_behind hd) hQ]
    rfl
  · exact ⟨f0 + 2, _, .inr (.inl ⟨rfl, h9⟩), fuel2 fun f hf1 => by rw [item_step g0 h1 h2, hf (f + 1) (by omega)]⟩
  · exact ⟨f0 + 2, _, .inr (.inr rfl), fuel2 fun f hf1 => by rw [item_step g0 h1 h2, hf (f + 1) (by omega)]⟩
theorem seq_alts {g : Nat} {t : T} {x : List UInt8} (h : TSeq g t x) : TAlts g t x := by
  intro l i ne Q hd hQ
  have hE : Ends Q := by
    rcases hQ with h | h
    · exact .inl h
    · exact .inr (.inr h)
  obtain ⟨f0, r, hr, hf⟩ := h l i ne Q hd hE
  have g0 : l[i + x.length]? ≠ some 124 := by
    rw [get_behind hd]
    rcases hQ with rfl | h
    · simp
    · rw [h]; decide
  rcases hr with ⟨t', rfl, hs⟩ | ⟨rfl, h9⟩ | rfl
  · refine ⟨f0 + 1, _, .inl ⟨t', rfl, hs⟩, fuel1 fun f hf1 => ?_⟩
    rw [altsP, hf f hf1]
    dsimp only
    rw [if_neg g0]
    rfl
  · exact ⟨f0 + 1, _, .inr (.inl ⟨rfl, h9⟩), fuel1 fun f hf1 => by rw [altsP, hf f hf1]⟩
  · exact ⟨f0 + 1, _, .inr (.inr rfl), fuel1 fun f hf1 => by rw [altsP, hf f hf1]⟩

/-! ### Kids, one behind the other -/
def wC (t : T) : List UInt8 := withinT (decide (t.kind = 3 ∨ t.kind = 4 ∨ t.kind = 1)) t.text
def wA (t : T) : List UInt8 := withinT (decide (t.kind = 4)) t.text
def AllItems : Nat → List T → Prop
  | _, [] => True
  | g, t :: ts => (TItem g t (wC t) ∧ HeadF (wC t)) ∧ AllItems (g + t.groups) ts
theorem catT_cons (t : T) (ts : List T) : catT (t :: ts) = wC t ++ catT ts := by rw [catT]; rfl
theorem cat_opn {ts : List T} {g : Nat} (h : AllItems g ts) {Q : List UInt8} (hQ : Ends Q) : Opn (catT ts ++ Q) := by
  cases ts with
  | nil => rw [catT]; exact hQ.opn
  | cons t ts =>
    rw [catT_cons, List.append_assoc]
    exact (h.1.2.app _).opn
theorem max_le {a b f : Nat} (h : a + b ≤ f) : a ≤ f ∧ b ≤ f := by omega
/-- What is read for kids, behind those that were read. -/
def RL (g : Nat) (ks : List T) (mk : List T → T) (acc : List T) (j : Nat) (r : PR) : Prop := (∃ ks', r = .ok (mk (acc ++ ks')) j (g + groupsL ks) ∧ sameL ks' ks = true) ∨ (r = .err 2 ∧ 9 < g + groupsL ks) ∨ r = .err 11
theorem cat_run : ∀ (ks : List T) (g : Nat), AllItems g ks → ∀ l i ne Q acc, l.drop i = catT ks ++ Q → Ends Q → ∃ f0 r, RL g ks mkCat acc (i + (catT ks).length) r ∧ ∀ f, f0 ≤ f → itemsP l f ne i g acc = r := by
  intro ks
  induction ks with
  | nil =>
    intro g _ l i ne Q acc hd hQ
    rw [catT] at hd
    refine ⟨0 + 1, _, .inl ⟨[], rfl, by rw [sameL]⟩, fuel1 fun f _ => ?_⟩
    rw [ends_stop (Q := Q) (by rw [get_drop, hd]; rfl) hQ]
    simp [catT, groupsL]
  | cons t ts ih =>
    intro g h l i ne Q acc hd hQ
    obtain ⟨⟨hi, hh⟩, hr⟩ := h
    rw [catT_cons, List.append_assoc] at hd
    obtain ⟨f1, r1, hr1, hf1⟩ := hi l i ne _ hd (cat_opn hr hQ)
    have hd2 := drop_add hd
    have hgl : groupsL (t :: ts) = t.groups + groupsL ts := by rw [groupsL]
    obtain ⟨c, r, hc, n1, n2, _⟩ := hh
    have g0 : l[i]? = some c := by rw [hc, List.cons_append] at hd; exact get_first hd
    rcases hr1 with ⟨t', rfl, hs⟩ | ⟨rfl, h9⟩ | rfl
    · obtain ⟨f2, r2, hr2, hf2⟩ := ih (g + t.groups) hr l (i + (wC t).length) ne Q (acc ++ [t']) hd2 hQ
      refine ⟨f1 + f2 + 1, r2, ?_, fuel1 fun f hf => ?_⟩
      · rcases hr2 with ⟨ks', rfl, hs2⟩ | ⟨rfl, h9⟩ | rfl
        · refine .inl ⟨t' :: ks', ?_, by rw [sameL, hs, hs2]; rfl⟩
          rw [hgl, catT_cons, List.append_assoc, List.singleton_append, List.length_append, Nat.add_assoc, Nat.add_assoc]
        · exact .inr (.inl ⟨rfl, by rw [hgl]; omega⟩)
        · exact .inr (.inr rfl)
      · obtain ⟨ha, hb⟩ := max_le hf
        rw [item_step g0 n1 n2, hf1 f ha]
        exact hf2 f hb
    · exact ⟨f1 + 1, _, .inr (.inl ⟨rfl, by rw [hgl]; omega⟩), fuel1 fun f hf => by rw [item_step g0 n1 n2, hf1 f hf]⟩
    · exact ⟨f1 + 1, _, .inr (.inr rfl), fuel1 fun f hf => by rw [item_step g0 n1 n2, hf1 f hf]⟩
def AllSeqs : Nat → List T → Prop
  | _, [] => True
  | g, t :: ts => TSeq g t (wA t) ∧ AllSeqs (g + t.groups) ts
theorem altT_cons (t : T) (ts : List T) : altT (t :: ts) = wA t ++ altR ts := by rw [altT]; rfl
theorem altR_cons (t : T) (ts : List T) : altR (t :: ts) = 124 :: altT (t :: ts) := by rw [altR, altT]
theorem alt_run : ∀ (ks : List T) (g : Nat), ks ≠ [] → AllSeqs g ks → ∀ l i ne Q acc, l.drop i = altT ks ++ Q → (Q = [] ∨ Q.head? = some 41) → ∃ f0 r, RL g ks mkAlt acc (i + (altT ks).length) r ∧ ∀ f, f0 ≤ f → altsP l f ne i g acc = r := by
  intro ks
  induction ks with
  | nil => intro g h; exact absurd rfl h
  | cons t ts ih =>
    intro g _ h l i ne Q acc hd hQ
    obtain ⟨hi, hr⟩ := h
    rw [altT_cons, List.append_assoc] at hd
    have hE : Ends (altR ts ++ Q) := by
      cases ts with
      | nil =>
        rw [altR]
        rcases hQ with h | h
        · exact .inl h
        · exact .inr (.inr h)
      | cons u us => rw [altR_cons]; exact .inr (.inl rfl)
    obtain ⟨f1, r1, hr1, hf1⟩ := hi l i ne _ hd hE
    have hd2 := drop_add hd
    have hgl : groupsL (t :: ts) = t.groups + groupsL ts := by rw [groupsL]
    rcases hr1 with ⟨t', rfl, hs⟩ | ⟨rfl, h9⟩ | rfl
    · cases ts with
      | nil =>
        have g0 : l[i + (wA t).length]? ≠ some 124 := by
          rw [get_behind hd, altR]
          rcases hQ with rfl | h
          · simp
          · rw [List.nil_append, h]; decide
        refine ⟨f1 + 1, _, .inl ⟨[t'], rfl, by rw [sameL, sameL, hs]; rfl⟩, fuel1 fun f hf => ?_⟩
        rw [altsP, hf1 f hf]
        dsimp only
        rw [if_neg g0, hgl, altT_cons, altR, groupsL, List.append_nil, Nat.add_zero]
      | cons u us =>
        rw [altR_cons, List.cons_append] at hd2
        have g0 := get_first hd2
        obtain ⟨f2, r2, hr2, hf2⟩ := ih (g + t.groups) (by simp) hr l (i + (wA t).length + 1) ne Q (acc ++ [t']) (drop_tail hd2) hQ
        refine ⟨f1 + f2 + 1, r2, ?_, fuel1 fun f hf => ?_⟩
        · rcases hr2 with ⟨ks', rfl, hs2⟩ | ⟨rfl, h9⟩ | rfl
          · refine .inl ⟨t' :: ks', ?_, by rw [sameL, hs, hs2]; rfl⟩
            rw [hgl, altT_cons t, altR_cons, List.append_assoc, List.singleton_append, List.length_append, List.length_cons, Nat.add_assoc, Nat.add_assoc, Nat.add_assoc, Nat.add_comm 1]
          · exact .inr (.inl ⟨rfl, by rw [hgl]; omega⟩)
          · exact .inr (.inr rfl)
        · obtain ⟨ha, hb⟩ := max_le hf
          rw [altsP, hf1 f ha]
          dsimp only
          rw [if_pos g0]
          exact hf2 f hb
    · exact ⟨f1 + 1, _, .inr (.inl ⟨rfl, by rw [hgl]; omega⟩), fuel1 fun f hf => by rw [altsP, hf1 f hf]⟩
    · exact ⟨f1 + 1, _, .inr (.inr rfl), fuel1 fun f hf => by rw [altsP, hf1 f hf]⟩
end Go.Proofs.YtlofdnefbgjmpaaDoor
namespace Go.Proofs.YtlofdnefbgjmpaaDoor
open Go Go.RowKit

theorem noneB_iff {p : Nat → Bool} : noneB p = true ↔ ∀ j, j < 256 → p j = false := by
  unfold noneB
  rw [List.all_eq_true]
  constructor
  · intro h j hj
    have := h j (by rw [List.mem_range']; exact ⟨j, hj, by omega⟩)
    simpa using this
  · intro h x hx
    rw [List.mem_range'] at hx
    obtain ⟨i, hi, rfl⟩ := hx
    simpa using h (0 + 1 * i) (by omega)
theorem right_node {k m : Int} {z : Bool} {p : Nat → Bool} {ks : List T} {d g : Nat} (h : (T.right (.node k m z p ks) d g).1 = true) :
    d ≤ 40 ∧ kidsOk k ks.length = true ∧ bareB k m z p = true ∧ (k = 8 → m = (g : Int) + 1) ∧ (rightL ks (d + 1) (if k = 8 then g + 1 else g)).1 = true ∧ (k = 5 ∨ k = 6 → headN ks = false) := by
  unfold T.right at h
  split at h
  · cases h
  · rename_i h1
    simp only [not_or] at h1
    split at h
    · cases h
    · rename_i h2
      simp only [Bool.and_eq_true] at h
      refine ⟨by omega, by simpa using h1.2.1, by simpa using h1.2.2, fun hk => ?_, h.1, fun hk => ?_⟩
      · by_cases e : m = (g : Int) + 1
        · exact e
        · exact absurd ⟨hk, e⟩ h2
      · have h3 := h.2
        rw [decide_eq_true hk] at h3
        simpa using h3
theorem rightL_cons {t : T} {ts : List T} {d g : Nat} (h : (rightL (t :: ts) d g).1 = true) : (t.right d g).1 = true ∧ (rightL ts d (t.right d g).2).1 = true := by
  rw [rightL] at h
  split at h
  · rename_i h1; exact ⟨h1, h⟩
  · cases h
mutual
theorem right_count : ∀ (t : T) (d g : Nat), (t.right d g).1 = true → (t.right d g).2 = g + t.groups
  | .node k m z p ks, d, g, h => by
    have hn := right_node h
    have hc := rightL_count ks (d + 1) (if k = 8 then g + 1 else g) hn.2.2.2.2.1
    unfold T.right at h ⊢
    split
    · rename_i h1; rw [if_pos h1] at h; cases h
    · rename_i h1
      rw [if_neg h1] at h
      split
      · rename_i h2; rw [if_pos h2] at h; cases h
      · dsimp only
        rw [hc, T.groups]
        split <;> omega
theorem rightL_count : ∀ (ks : List T) (d g : Nat), (rightL ks d g).1 = true → (rightL ks d g).2 = g + groupsL ks
  | [], _, _, _ => by rw [rightL, groupsL]; rfl
  | t :: ts, d, g, h => by
    obtain ⟨h1, h2⟩ := rightL_cons h
    have e1 := right_count t d g h1
    have e2 := rightL_count ts d _ h2
    rw [rightL, if_pos h1, e2, e1, groupsL, Nat.add_assoc]
end

/-! ### A node of bytes -/
theorem set_atom {g : Nat} {p : Nat → Bool} : TAtom g (.node 2 0 false p []) (textT p) ∧ HeadF (textT p) := by
  have hq : ∀ j, j < 256 → p j = (fun j => p j && decide (j < 256)) j := fun j hj => by simp [hj]
  obtain ⟨q, hqd⟩ : ∃ q : Nat → Bool, (fun j => p j && decide (j < 256)) = q := ⟨_, rfl⟩
  have hb : ∀ j, 256 ≤ j → q j = false := fun j hj => by rw [← hqd]; simp; omega
  have hpq : ∀ j, j < 256 → p j = q j := fun j hj => by rw [← hqd]; exact hq j hj
  have ht : textT p = textT q := textT_congr hpq
  have hg : (T.node 2 0 false p []).groups = 0 := by rw [T.groups, if_neg (by decide), groupsL]
  have fin : ∀ {q' : Nat → Bool}, (∀ j, j < 256 → q' j = q j) → (T.node 2 0 false q' []).same (.node 2 0 false p []) = true := fun {q'} h =>
    same_node.2 ⟨rfl, rfl, rfl, (sameP_iff _ _).2 fun j hj => (h j hj).trans (hpq j hj).symm, by rw [sameL]⟩
  rw [ht]
  by_cases h1 : cnt q 256 = 1
  · obtain ⟨m, hm⟩ := cnt_sole h1
    have htx : textT q = signT m := by unfold textT; rw [if_neg (by omega), if_pos h1, hm.lst]
    rw [htx]
    by_cases hs : (isLet m || isFig m) = true
    · have hr : signT m = [UInt8.ofNat m] := by unfold signT; rw [if_pos hs]
      have hm6 := hm.1
      have e1 : (UInt8.ofNat m).toNat = m := by simp; omega
      have hne : ∀ c : UInt8, (isLet c.toNat || isFig c.toNat) = false → UInt8.ofNat m ≠ c := fun c hc e => by rw [← e, e1, hs] at hc; cases hc
      rw [hr]
      refine ⟨fun l i ne Q hd => ⟨0 + 1, _, .inl ⟨.node 2 0 false (fun j => j == m) [], rfl, fin fun j hj => (hm.2 j hj).symm⟩, fuel1 fun f _ => ?_⟩, ⟨_, [], rfl, hne 124 (by decide), hne 41 (by decide), hne 42 (by decide), hne 43 (by decide), hne 63 (by decide)⟩⟩
      rw [List.singleton_append] at hd
      rw [atomP, get_first hd]
      dsimp only
      rw [if_neg (hne 40 (by decide)), if_neg (hne 91 (by decide)), if_neg (hne 92 (by decide)), if_neg (hne 46 (by decide)), if_neg (by
        simp only [not_or]
        exact ⟨hne 42 (by decide), hne 43 (by decide), hne 63 (by decide)⟩), e1, hg]
      rfl
    · have hs' : (isLet m || isFig m) = false := by simpa using hs
      have hr : signT m = [92, 120, hexC (m / 16), hexC (m % 16)] := by unfold signT; rw [if_neg hs]
      refine ⟨fun l i ne Q hd => ⟨0 + 1, _, .inl ⟨.node 2 0 false (fun j => j == m) [], rfl, fin fun j hj => (hm.2 j hj).symm⟩, fuel1 fun f _ => ?_⟩, ⟨92, [120, hexC (m / 16), hexC (m % 16)], hr, by decide, by decide, by decide, by decide, by decide⟩⟩
      have he := esc_told m hm.1 hs' Q
      rw [← hd] at he
      rw [hr, List.cons_append] at hd
      rw [atomP, get_first hd]
      dsimp only
      rw [if_neg (by decide), if_neg (by decide), if_pos rfl, he, hg]
      rfl
  · by_cases h2 : cnt q 256 = 256
    · have htx : textT q = [46] := by unfold textT; rw [if_neg (by omega), if_neg h1, if_pos h2]
      rw [htx]
      refine ⟨fun l i ne Q hd => ⟨0 + 1, _, .inl ⟨.node 2 0 false allP [], rfl, fin fun j hj => (cnt_full h2 j hj).symm⟩, fuel1 fun f _ => ?_⟩, ⟨46, [], rfl, by decide, by decide, by decide, by decide, by decide⟩⟩
      rw [List.singleton_append] at hd
      rw [atomP, get_first hd]
      dsimp only
      rw [if_neg (by decide), if_neg (by decide), if_neg (by decide), if_pos rfl, hg]
      rfl
    · have hh : ∃ r, textT q = 91 :: r := by
        unfold textT
        rw [if_neg h1, if_neg h2]
        split
        · exact ⟨_, rfl⟩
        · exact ⟨_, rfl⟩
      obtain ⟨r, hr⟩ := hh
      refine ⟨fun l i ne Q hd => ?_, ⟨91, r, hr, by decide, by decide, by decide, by decide, by decide⟩⟩
      obtain ⟨hb2, hb1⟩ := text_back q hb h1 h2 Q
      refine ⟨0 + 1, _, .inl ⟨.node 2 0 false (parseS (textT q ++ Q)).1 [], rfl, fin hb1⟩, fuel1 fun f _ => ?_⟩
      have hd' := hd
      rw [hr, List.cons_append] at hd'
      rw [atomP, get_first hd']
      dsimp only
      rw [if_neg (by decide), if_pos rfl, hd, hb2, hg]
      rfl

/-- All that is told of a right tree's text. -/
structure TGood (g : Nat) (t : T) : Prop where
  kind : 1 ≤ t.kind ∧ t.kind ≤ 8
  atom : t.kind = 2 ∨ t.kind = 8 → TAtom g t t.text
  item : t.kind = 2 ∨ t.kind = 5 ∨ t.kind = 6 ∨ t.kind = 7 ∨ t.kind = 8 → TItem g t t.text ∧ HeadF t.text
  seq : t.kind ≠ 4 → TSeq g t t.text
  alts : TAlts g t t.text
  noQ : t.text.head? ≠ some 63
theorem head_wrap (x : List UInt8) : HeadF ([40, 63, 58] ++ x ++ [41]) := ⟨40, [63, 58] ++ x ++ [41], by simp, by decide, by decide, by decide, by decide, by decide⟩
theorem within_true (x : List UInt8) : withinT true x = [40, 63, 58] ++ x ++ [41] := rfl
theorem within_false (x : List UInt8) : withinT false x = x := rfl
theorem TGood.c {g : Nat} {t : T} (h : TGood g t) : TItem g t (wC t) ∧ HeadF (wC t) := by
  have hk := h.kind
  unfold wC
  by_cases hw : t.kind = 3 ∨ t.kind = 4 ∨ t.kind = 1
  · rw [decide_eq_true hw, within_true]
    exact ⟨atom_item (wrap_atom h.alts), head_wrap _⟩
  · rw [decide_eq_false hw, within_false]
    exact h.item (by omega)
theorem HeadF.noQ {x : List UInt8} (h : HeadF x) : x.head? ≠ some 63 := by
  obtain ⟨c, r, rfl, h⟩ := h
  intro e
  simp at e
  exact h.2.2.2.2 e
theorem TGood.a {g : Nat} {t : T} (h : TGood g t) : TSeq g t (wA t) ∧ (wA t).head? ≠ some 63 := by
  unfold wA
  by_cases hw : t.kind = 4
  · rw [decide_eq_true hw, within_true]
    exact ⟨item_seq (atom_item (wrap_atom h.alts)) (head_wrap _), (head_wrap _).noQ⟩
  · rw [decide_eq_false hw, within_false]
    exact ⟨h.seq hw, h.noQ⟩
theorem TGood.r {g : Nat} {t : T} (h : TGood g t) : TAtom g t (withinT (decide (t.kind ≠ 2 ∧ t.kind ≠ 8)) t.text) ∧ HeadF (withinT (decide (t.kind ≠ 2 ∧ t.kind ≠ 8)) t.text) := by
  by_cases hw : t.kind ≠ 2 ∧ t.kind ≠ 8
  · rw [decide_eq_true hw, within_true]
    exact ⟨wrap_atom h.alts, head_wrap _⟩
  · rw [decide_eq_false hw, within_false]
    have h2 : t.kind = 2 ∨ t.kind = 8 := by omega
    exact ⟨h.atom h2, (h.item (by omega)).2⟩
theorem all_items {d : Nat} {n : Nat} (ih : ∀ t : T, t.size ≤ n → ∀ d g, (t.right d g).1 = true → TGood g t) : ∀ (ks : List T) (g : Nat), sizeL ks ≤ n → (rightL ks d g).1 = true → AllItems g ks ∧ AllSeqs g ks := by
  intro ks
  induction ks with
  | nil => intro g _ _; exact ⟨trivial, trivial⟩
  | cons t ts ih2 =>
    intro g hs h
    obtain ⟨h1, h2⟩ := rightL_cons h
    rw [right_count t d g h1] at h2
    rw [sizeL] at hs
    have hg := ih t (by omega) d g h1
    obtain ⟨h3, h4⟩ := ih2 _ (by omega) h2
    exact ⟨⟨hg.c, h3⟩, ⟨hg.a.1, h4⟩⟩
theorem bare_node {k m : Int} {z : Bool} {p : Nat → Bool} (h : bareB k m z p = true) : (k ≠ 8 → m = 0) ∧ ((k ≠ 5 ∧ k ≠ 6 ∧ k ≠ 7) → z = false) ∧ (k ≠ 2 → noneB p = true) := by
  unfold bareB at h
  simp only [Bool.and_eq_true, Bool.or_eq_true, decide_eq_true_eq, Bool.not_eq_true'] at h
  obtain ⟨⟨h1, h2⟩, h3⟩ := h
  refine ⟨fun hk => h1.resolve_left hk, fun hk => h2.resolve_left (by omega), fun hk => h3.resolve_left hk⟩

theorem seq_only {g : Nat} {t : T} {x : List UInt8} (hs : TSeq g t x) (hx : x.head? ≠ some 63) (hk : t.kind = 1 ∨ t.kind = 3) (ht : t.text = x) : TGood g t := by
  subst ht
  exact ⟨by omega, fun h => by omega, fun h => by omega, fun _ => hs, seq_alts hs, hx⟩
theorem item_only {g : Nat} {t : T} {x : List UInt8} (hs : TItem g t x) (hx : HeadF x) (hk : t.kind = 5 ∨ t.kind = 6 ∨ t.kind = 7) (ht : t.text = x) : TGood g t := by
  subst ht
  exact ⟨by omega, fun h => by omega, fun h => ⟨hs, hx⟩, fun _ => item_seq hs hx, seq_alts (item_seq hs hx), hx.noQ⟩
theorem atom_only {g : Nat} {t : T} {x : List UInt8} (hs : TAtom g t x) (hx : HeadF x) (hk : t.kind = 2 ∨ t.kind = 8) (ht : t.text = x) : TGood g t := by
  subst ht
  exact ⟨by omega, fun _ => hs, fun h => ⟨atom_item hs, hx⟩, fun _ => item_seq (atom_item hs) hx, seq_alts (item_seq (atom_item hs) hx), hx.noQ⟩

theorem text_all : ∀ n, ∀ t : T, t.size ≤ n → ∀ d g, (t.right d g).1 = true → TGood g t := by
  intro n
  induction n with
  | zero => intro t ht; have := size_pos t; omega
  | succ n ih =>
    intro t ht d g hr
    cases t with
    | node k m z p ks =>
      rw [size_node] at ht
      obtain ⟨_, hko, hb, h8, hL, hN⟩ := right_node hr
      obtain ⟨b1, b2, b3⟩ := bare_node hb
      have hks : (k = 1 ∧ ks = []) ∨ (k = 2 ∧ ks = []) ∨ ((k = 3 ∨ k = 4) ∧ 2 ≤ ks.length) ∨ ((k = 5 ∨ k = 6 ∨ k = 7) ∧ ∃ t, ks = [t]) ∨ (k = 8 ∧ ∃ t, ks = [t]) := by
        unfold kidsOk at hko
        split at hko
        · rename_i h
          have h0 : ks = [] := List.eq_nil_of_length_eq_zero (by simpa using hko)
          rcases h with h | h
          · exact .inl ⟨h, h0⟩
          · exact .inr (.inl ⟨h, h0⟩)
        · split at hko
          · rename_i h; exact .inr (.inr (.inl ⟨h, by simpa using hko⟩))
          · split at hko
            · rename_i h
              have h1 : ∃ t, ks = [t] := List.length_eq_one_iff.1 (by simpa using hko)
              rcases h with h | h | h | h
              · exact .inr (.inr (.inr (.inl ⟨.inl h, h1⟩)))
              · exact .inr (.inr (.inr (.inl ⟨.inr (.inl h), h1⟩)))
              · exact .inr (.inr (.inr (.inl ⟨.inr (.inr h), h1⟩)))
              · exact .inr (.inr (.inr (.inr ⟨h, h1⟩)))
            · cases hko
      rcases hks with ⟨rfl, rfl⟩ | ⟨rfl, rfl⟩ | ⟨hk, h2⟩ | ⟨hk, t1, rfl⟩ | ⟨rfl, t1, rfl⟩
      · -- nothing
        obtain rfl := b1 (by decide)
        obtain rfl := b2 (by decide)
        have hp := b3 (by decide)
        refine seq_only (x := []) (fun l i ne Q hd hQ => ⟨0 + 1, _, .inl ⟨.node 1 0 false noP [], rfl, same_node.2 ⟨rfl, rfl, rfl, sameP_none hp, by rw [sameL]⟩⟩, fuel1 fun f _ => ?_⟩) (by simp) (.inl rfl) (by rw [T.text]; simp)
        rw [ends_stop (Q := Q) (by rw [get_drop, hd]; rfl) hQ]
        rw [T.groups, if_neg (by decide), groupsL]
        rfl
      · -- bytes
        obtain rfl := b1 (by decide)
        obtain rfl := b2 (by decide)
        exact atom_only set_atom.1 (set_atom (g := g)).2 (.inl rfl) (by rw [T.text, if_pos rfl])
      · obtain rfl := b1 (by omega)
        obtain rfl := b2 (by omega)
        have hp := b3 (by omega)
        rw [if_neg (by omega)] at hL
        obtain ⟨hI, hS⟩ := all_items ih ks g (by omega) hL
        rcases hk with rfl | rfl
        · -- one behind the other
          have hgr : (T.node 3 0 false p ks).groups = groupsL ks := by rw [T.groups, if_neg (by decide)]; omega
          refine seq_only (x := catT ks) (fun l i ne Q hd hQ => ?_) ?_ (.inr rfl) (by rw [T.text, if_neg (by decide), if_pos rfl])
          · obtain ⟨f0, r, hr0, hf⟩ := cat_run ks g hI l i ne Q [] hd hQ
            refine ⟨f0, r, ?_, hf⟩
            unfold RB
            rw [hgr]
            rcases hr0 with ⟨ks', rfl, hs⟩ | h | h
            · have hl := same_len hs
              refine .inl ⟨.node 3 0 false noP ks', ?_, same_node.2 ⟨rfl, rfl, rfl, sameP_none hp, hs⟩⟩
              rcases ks' with _ | ⟨a, _ | ⟨b, r⟩⟩
              · simp at hl; omega
              · simp at hl; omega
              · rfl
            · exact .inr (.inl h)
            · exact .inr (.inr h)
          · cases ks with
            | nil => simp at h2
            | cons t ts => rw [catT_cons]; exact (hI.1.2.app _).noQ
        · -- one or the other
          have hgr : (T.node 4 0 false p ks).groups = groupsL ks := by rw [T.groups, if_neg (by decide)]; omega
          have htx : (T.node 4 0 false p ks).text = altT ks := by rw [T.text, if_neg (by decide), if_neg (by decide), if_pos rfl]
          have hal : TAlts g (.node 4 0 false p ks) (altT ks) := fun l i ne Q hd hQ => by
            obtain ⟨f0, r, hr0, hf⟩ := alt_run ks g (by rintro rfl; simp at h2) hS l i ne Q [] hd hQ
            refine ⟨f0, r, ?_, hf⟩
            unfold RB
            rw [hgr]
            rcases hr0 with ⟨ks', rfl, hs⟩ | h | h
            · have hl := same_len hs
              refine .inl ⟨.node 4 0 false noP ks', ?_, same_node.2 ⟨rfl, rfl, rfl, sameP_none hp, hs⟩⟩
              rcases ks' with _ | ⟨a, _ | ⟨b, r⟩⟩
              · simp at hl; omega
              · simp at hl; omega
              · rfl
            · exact .inr (.inl h)
            · exact .inr (.inr h)
          have hq : (altT ks).head? ≠ some 63 := by
            cases ks with
            | nil => simp at h2
            | cons t ts =>
              obtain ⟨h1, _⟩ := rightL_cons hL
              rw [sizeL] at ht
              have hg := (ih t (by omega) _ _ h1).a.2
              rw [altT_cons]
              cases ts with
              | nil => simp at h2
              | cons u us =>
                rw [altR_cons]
                cases hw : wA t with
                | nil => simp
                | cons a r => rw [hw] at hg; simpa using hg
          exact ⟨⟨by show (1 : Int) ≤ 4; omega, by show (4 : Int) ≤ 8; omega⟩, fun h => by simp [T.kind] at h, fun h => by simp [T.kind] at h, fun h => absurd rfl h, by rw [htx]; exact hal, by rw [htx]; exact hq⟩
      · -- repeated
        obtain rfl := b1 (by omega)
        have hp := b3 (by omega)
        rw [if_neg (by omega)] at hL
        obtain ⟨h1, _⟩ := rightL_cons hL
        rw [sizeL] at ht
        have hg := ih t1 (by omega) _ _ h1
        refine item_only (rep_item hg.r.1 hk hN hp) (hg.r.2.app _) hk ?_
        rw [T.text, if_neg (by omega), if_neg (by omega), if_neg (by omega), if_neg (by omega), if_pos hk, headW]
      · -- a group
        obtain rfl := h8 rfl
        obtain rfl := b2 (by decide)
        have hp := b3 (by decide)
        rw [if_pos rfl] at hL
        obtain ⟨h1, _⟩ := rightL_cons hL
        rw [sizeL] at ht
        have hg := ih t1 (by omega) _ _ h1
        refine atom_only (group_atom hg.alts hg.noQ hp) ⟨40, _, rfl, by decide, by decide, by decide, by decide, by decide⟩ (.inr rfl) ?_
        rw [T.text, if_neg (by decide), if_neg (by decide), if_neg (by decide), if_pos rfl, headT]

theorem more_ne {s : List UInt8} {f f' ne i gr : Nat} {acc : List T} {r r' : PR} (h : altsP s f ne i gr acc = r) (h' : altsP s f' ne i gr acc = r') (hr : r ≠ .out) (hr' : r' ≠ .out) : r = r' := by
  have a := alts_more s f ne i gr acc (by rw [h]; exact hr) f'
  have b := alts_more s f' ne i gr acc (by rw [h']; exact hr') f
  rw [Nat.add_comm] at b
  rw [← h, ← h', ← a, ← b]
/-- A right tree's text is parsed to it, or it's too long, or there are too many groups, or it is too deep. -/
theorem back_law (t : T) (h : (t.right 1 0).1 = true) : (∃ t' i gr, parseR t.text = .ok t' i gr ∧ t'.same t = true) ∨ (parseR t.text = .err 4 ∧ 120 < t.text.length) ∨ (parseR t.text = .err 2 ∧ 9 < t.groups) ∨ parseR t.text = .err 11 := by
  unfold parseR
  by_cases hl : 120 < t.text.length
  · rw [if_pos hl]; exact .inr (.inl ⟨rfl, hl⟩)
  rw [if_neg hl]
  obtain ⟨f0, r, hr, hf⟩ := (text_all t.size t (Nat.le_refl _) 1 0 h).alts t.text 0 0 [] (by simp) (.inl rfl)
  have hno := (no_out t.text t.text.length 0 (by omega) (by omega)).2.2.2.2 (5 * t.text.length + 5) 0 0 [] (Nat.le_refl _)
  have he : altsP t.text (5 * t.text.length + 5) 0 0 0 [] = r := by
    refine more_ne rfl (hf f0 (Nat.le_refl _)) hno ?_
    rcases hr with ⟨_, rfl, _⟩ | ⟨rfl, _⟩ | rfl <;> (intro e; cases e)
  rw [he]
  rcases hr with ⟨t', rfl, hs⟩ | ⟨rfl, h9⟩ | rfl
  · dsimp only
    rw [if_neg (by omega)]
    exact .inl ⟨t', _, _, rfl, hs⟩
  · exact .inr (.inr (.inl ⟨rfl, by omega⟩))
  · exact .inr (.inr (.inr rfl))
end Go.Proofs.YtlofdnefbgjmpaaDoor
