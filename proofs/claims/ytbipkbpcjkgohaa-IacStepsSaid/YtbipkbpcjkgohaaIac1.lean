/- layer 5, plainly: the machine that reads bytes, and the tokens that are cut off the front of the bytes. Own text. -/
namespace Go.Proofs.Ytbipkbpcjkgohaa

/-- A token. -/
structure Tok where
  kind : Int
  code : Int
  opt : Int
  body : List UInt8
  cut : Bool
def noTok : Tok := ⟨0, 0, 0, [], false⟩

/-- The machine: its state, and the token that is under way. -/
structure Mach where
  st : Nat
  tok : Tok
def mach0 : Mach := ⟨0, noTok⟩
def addB (t : Tok) (c : UInt8) : Tok := if 256 ≤ t.body.length then ⟨t.kind, t.code, t.opt, t.body, true⟩ else ⟨t.kind, t.code, t.opt, t.body ++ [c], t.cut⟩
def feed (m : Mach) (c : UInt8) : Mach × Option Tok :=
  if m.st = 1 then
    if c = 255 then (mach0, some ⟨1, 255, 0, [], false⟩)
    else if c = 250 then (⟨3, m.tok⟩, none)
    else if 250 < c.toNat then (⟨2, ⟨0, c.toNat, 0, [], false⟩⟩, none)
    else (mach0, some ⟨2, c.toNat, 0, [], false⟩)
  else if m.st = 2 then (mach0, some ⟨3, m.tok.code, c.toNat, [], false⟩)
  else if m.st = 3 then (⟨4, ⟨0, 0, c.toNat, [], false⟩⟩, none)
  else if m.st = 4 then
    if c = 255 then (⟨5, m.tok⟩, none) else (⟨4, addB m.tok c⟩, none)
  else if m.st = 5 then
    if c = 255 then (⟨4, addB m.tok c⟩, none)
    else if c = 240 then (mach0, some ⟨4, m.tok.code, m.tok.opt, m.tok.body, m.tok.cut⟩)
    else (mach0, some ⟨5, c.toNat, m.tok.opt, [], false⟩)
  else if c = 255 then (⟨1, m.tok⟩, none)
  else (mach0, some ⟨1, c.toNat, 0, [], false⟩)

/-- The tokens of bytes, and where the machine then stands. -/
def runM : Mach → List UInt8 → List Tok × Mach
  | m, [] => ([], m)
  | m, c :: r => ((feed m c).2.toList ++ (runM (feed m c).1 r).1, (runM (feed m c).1 r).2)
theorem runM_append (a b : List UInt8) : ∀ m, runM m (a ++ b) = ((runM m a).1 ++ (runM (runM m a).2 b).1, (runM (runM m a).2 b).2) := by
  induction a with
  | nil => intro m; simp [runM]
  | cons c r ih => intro m; simp [runM, ih]
theorem runM_snoc (a : List UInt8) (c : UInt8) (m : Mach) : runM m (a ++ [c]) = ((runM m a).1 ++ (feed (runM m a).2 c).2.toList, (feed (runM m a).2 c).1) := by
  rw [runM_append]; simp [runM]
theorem runM_len (l : List UInt8) : ∀ m, (runM m l).1.length ≤ l.length := by
  induction l with
  | nil => intro m; simp [runM]
  | cons c r ih =>
    intro m
    have := ih (feed m c).1
    have h : (feed m c).2.toList.length ≤ 1 := by cases (feed m c).2 <;> simp
    simp only [runM, List.length_append, List.length_cons]
    omega

/-- What always holds of a machine. -/
structure MachOk (m : Mach) : Prop where
  st : m.st ≤ 5
  body : m.tok.body.length ≤ 256
  idle : m.st ≤ 1 → m.tok = noTok
  kind : m.tok.kind = 0
  few : m.st ≤ 3 → m.tok.body = [] ∧ m.tok.cut = false
theorem mach0_ok : MachOk mach0 := ⟨by simp [mach0], by simp [mach0, noTok], fun _ => rfl, rfl, fun _ => ⟨rfl, rfl⟩⟩
theorem addB_len {t : Tok} {c : UInt8} (h : t.body.length ≤ 256) : (addB t c).body.length ≤ 256 := by
  unfold addB; split
  · exact h
  · simp; omega
theorem addB_kind {t : Tok} {c : UInt8} : (addB t c).kind = t.kind := by unfold addB; split <;> rfl
theorem feed_ok {m : Mach} (h : MachOk m) (c : UInt8) : MachOk (feed m c).1 := by
  have h1 := h.st
  have h2 := h.body
  have h3 := h.kind
  unfold feed
  by_cases e1 : m.st = 1
  · have hn : m.tok = noTok := h.idle (by omega)
    rw [if_pos e1]
    repeat' split
    all_goals first | exact mach0_ok | (refine ⟨by simp, by simp [hn, noTok], fun h => ?_, by simp [hn, noTok], fun _ => by simp [hn, noTok]⟩; simp at h)
  rw [if_neg e1]
  by_cases e2 : m.st = 2
  · rw [if_pos e2]; exact mach0_ok
  rw [if_neg e2]
  by_cases e3 : m.st = 3
  · rw [if_pos e3]; exact ⟨by simp, by simp, fun h => by simp at h, rfl, fun h => by simp at h⟩
  rw [if_neg e3]
  by_cases e4 : m.st = 4
  · rw [if_pos e4]
    split
    · exact ⟨by simp, h2, fun h => by simp at h, h3, fun h => by simp at h⟩
    · exact ⟨by simp, addB_len h2, fun h => by simp at h, addB_kind.trans h3, fun h => by simp at h⟩
  rw [if_neg e4]
  by_cases e5 : m.st = 5
  · rw [if_pos e5]
    repeat' split
    · exact ⟨by simp, addB_len h2, fun h => by simp at h, addB_kind.trans h3, fun h => by simp at h⟩
    · exact mach0_ok
    · exact mach0_ok
  rw [if_neg e5]
  have e0 : m.st = 0 := by omega
  have hn : m.tok = noTok := h.idle (by omega)
  split
  · exact ⟨by simp, h2, fun _ => hn, h3, fun _ => by simp [hn, noTok]⟩
  · exact mach0_ok
theorem runM_ok (l : List UInt8) : ∀ m, MachOk m → MachOk (runM m l).2 := by
  induction l with
  | nil => intro m h; exact h
  | cons c r ih => intro m h; exact ih _ (feed_ok h c)
theorem feed_body {m : Mach} (h : MachOk m) {c : UInt8} {t : Tok} (ht : (feed m c).2 = some t) : t.body.length ≤ 256 := by
  have h2 := h.body
  unfold feed at ht
  repeat' split at ht
  all_goals first | (cases ht; first | exact h2 | simp) | cases ht
theorem runM_body (l : List UInt8) : ∀ m, MachOk m → ∀ t ∈ (runM m l).1, t.body.length ≤ 256 := by
  induction l with
  | nil => intro m _ t ht; simp [runM] at ht
  | cons c r ih =>
    intro m h t ht
    simp only [runM, List.mem_append, Option.mem_toList] at ht
    rcases ht with ht | ht
    · exact feed_body h ht
    · exact ih _ (feed_ok h c) t ht
/-- A machine that stands between tokens is as at the beginning. -/
theorem idle_mach {m : Mach} (h : MachOk m) (h0 : m.st = 0) : m = mach0 := by
  obtain ⟨s, t⟩ := m
  have := h.idle (by simp at h0 ⊢; omega)
  simp at h0 this
  subst h0 this
  rfl

/-! ### The tokens cut off the front -/
def subGo (o : UInt8) : List UInt8 → Nat → List UInt8 → Tok × Nat
  | _, _, [] => (noTok, 0)
  | acc, n, [c] => if c = 255 then (noTok, 0) else subGo o (acc ++ [c]) (n + 1) []
  | acc, n, c :: d :: r =>
    if c = 255 then
      if d = 255 then subGo o (acc ++ [255]) (n + 2) r
      else if d = 240 then (⟨4, 0, o.toNat, acc.take 256, decide (256 < acc.length)⟩, n + 2)
      else (⟨5, d.toNat, o.toNat, [], false⟩, n + 2)
    else subGo o (acc ++ [c]) (n + 1) (d :: r)
def next : List UInt8 → Tok × Nat
  | [] => (noTok, 0)
  | [c] => if c ≠ 255 then (⟨1, c.toNat, 0, [], false⟩, 1) else (noTok, 0)
  | [c, d] =>
    if c ≠ 255 then (⟨1, c.toNat, 0, [], false⟩, 1)
    else if d = 255 then (⟨1, 255, 0, [], false⟩, 2)
    else if d.toNat < 250 then (⟨2, d.toNat, 0, [], false⟩, 2)
    else (noTok, 0)
  | c :: d :: o :: r =>
    if c ≠ 255 then (⟨1, c.toNat, 0, [], false⟩, 1)
    else if d = 255 then (⟨1, 255, 0, [], false⟩, 2)
    else if d.toNat < 250 then (⟨2, d.toNat, 0, [], false⟩, 2)
    else if 250 < d.toNat then (⟨3, d.toNat, o.toNat, [], false⟩, 3)
    else subGo o [] 3 r
def refAll : Nat → List UInt8 → List Tok × List UInt8
  | 0, s => ([], s)
  | f + 1, s => if (next s).2 = 0 then ([], s) else ((next s).1 :: (refAll f (s.drop (next s).2)).1, (refAll f (s.drop (next s).2)).2)

theorem subGo_step (o : UInt8) (acc : List UInt8) (n : Nat) (c : UInt8) (h : c ≠ 255) (r : List UInt8) : subGo o acc n (c :: r) = subGo o (acc ++ [c]) (n + 1) r := by
  cases r with
  | nil => simp [subGo, h]
  | cons d r => rw [subGo, if_neg h]

theorem subGo_le (o : UInt8) : ∀ (k : Nat) (l : List UInt8), l.length ≤ k → ∀ acc n, (subGo o acc n l).2 ≤ n + l.length := by
  intro k
  induction k with
  | zero => intro l hl acc n; rw [List.eq_nil_of_length_eq_zero (Nat.le_zero.1 hl)]; simp [subGo]
  | succ k ih =>
    intro l hl acc n
    match l, hl with
    | [], _ => simp [subGo]
    | [c], _ => simp [subGo]
    | c :: d :: r, hl =>
      have h1 := ih r (by simp at hl; omega) (acc ++ [255]) (n + 2)
      have h2 := ih (d :: r) (by simp at hl ⊢; omega) (acc ++ [c]) (n + 1)
      unfold subGo
      simp only [List.length_cons] at h2 ⊢
      repeat' split
      all_goals first | omega | (simp only; omega)
theorem next_le (l : List UInt8) : (next l).2 ≤ l.length := by
  match l with
  | [] => simp [next]
  | [c] => simp only [next]; split <;> simp
  | [c, d] =>
    simp only [next]
    repeat' split
    all_goals simp
  | c :: d :: o :: r =>
    have := subGo_le o _ r (Nat.le_refl _) [] 3
    simp only [next, List.length_cons]
    repeat' split
    all_goals first | omega | (simp only; omega)

/-- The machine stands behind the bytes p of a token that isn't whole. -/
inductive Pend : Mach → List UInt8 → Prop
  | none_ : Pend mach0 []
  | iac : Pend ⟨1, noTok⟩ [255]
  | verb (d : UInt8) : 250 < d.toNat → d ≠ 255 → Pend ⟨2, ⟨0, d.toNat, 0, [], false⟩⟩ [255, d]
  | sb : Pend ⟨3, noTok⟩ [255, 250]
  | body (o : UInt8) (bs acc : List UInt8) : (∀ rest, subGo o [] 3 (bs ++ rest) = subGo o acc (3 + bs.length) rest) → Pend ⟨4, ⟨0, 0, o.toNat, acc.take 256, decide (256 < acc.length)⟩⟩ (255 :: 250 :: o :: bs)
  | esc (o : UInt8) (bs acc : List UInt8) : (∀ rest, subGo o [] 3 (bs ++ rest) = subGo o acc (3 + bs.length) rest) → Pend ⟨5, ⟨0, 0, o.toNat, acc.take 256, decide (256 < acc.length)⟩⟩ (255 :: 250 :: o :: (bs ++ [255]))

theorem next_sub (o : UInt8) (r : List UInt8) : next (255 :: 250 :: o :: r) = subGo o [] 3 r := by
  simp [next]
theorem pend_next {m : Mach} {p : List UInt8} (h : Pend m p) : next p = (noTok, 0) := by
  cases h with
  | none_ => rfl
  | iac => rfl
  | verb d h h' => simp [next, h']; omega
  | sb => rfl
  | body o bs acc h => rw [next_sub]; have := h []; rw [List.append_nil] at this; rw [this, subGo]
  | esc o bs acc h => rw [next_sub, h [255]]; rfl
theorem pend_idle {m : Mach} {p : List UInt8} (h : Pend m p) : m.st = 0 ↔ p = [] := by
  cases h <;> simp [mach0]

theorem addB_take (o : Int) (acc : List UInt8) (c : UInt8) : addB ⟨0, 0, o, acc.take 256, decide (256 < acc.length)⟩ c = ⟨0, 0, o, (acc ++ [c]).take 256, decide (256 < (acc ++ [c]).length)⟩ := by
  unfold addB
  by_cases h : 256 ≤ acc.length
  · rw [if_pos (by simp; omega)]
    simp [List.take_append_of_le_length h]; omega
  · rw [if_neg (by simp; omega)]
    simp only [List.length_append, List.length_singleton]
    rw [List.take_of_length_le (by omega), List.take_of_length_le (by simp; omega)]
    simp; omega

theorem feed_next {m : Mach} {p : List UInt8} (h : Pend m p) (c : UInt8) :
    ((feed m c).2 = none ∧ Pend (feed m c).1 (p ++ [c])) ∨ (∃ t, (feed m c).2 = some t ∧ (feed m c).1 = mach0 ∧ ∀ rest, next (p ++ c :: rest) = (t, p.length + 1)) := by
  cases h with
  | none_ =>
    by_cases hc : c = 255
    · subst hc; left; exact ⟨rfl, .iac⟩
    · right
      refine ⟨⟨1, c.toNat, 0, [], false⟩, by simp [feed, mach0, hc], by simp [feed, mach0, hc], fun rest => ?_⟩
      match rest with
      | [] => simp [next, hc]
      | [d] => simp [next, hc]
      | d :: e :: r => simp [next, hc]
  | iac =>
    by_cases h1 : c = 255
    · subst h1
      right
      refine ⟨⟨1, 255, 0, [], false⟩, by simp [feed], by simp [feed], fun rest => ?_⟩
      cases rest <;> simp [next]
    · by_cases h2 : c = 250
      · subst h2; left; exact ⟨by simp [feed], by simpa [feed] using Pend.sb⟩
      · by_cases h3 : 250 < c.toNat
        · left; exact ⟨by simp [feed, h1, h2, h3], by simpa [feed, h1, h2, h3] using Pend.verb c h3 h1⟩
        · right
          have h4 : c.toNat < 250 := by
            have : c.toNat ≠ 250 := fun e => h2 (UInt8.toNat_inj.1 e)
            omega
          refine ⟨⟨2, c.toNat, 0, [], false⟩, by simp [feed, h1, h2, h3], by simp [feed, h1, h2, h3], fun rest => ?_⟩
          cases rest <;> simp [next, h1, h4]
  | verb d h h' =>
    right
    refine ⟨⟨3, d.toNat, c.toNat, [], false⟩, by simp [feed], by simp [feed], fun rest => ?_⟩
    simp [next, h, h']; omega
  | sb =>
    left
    refine ⟨by simp [feed], ?_⟩
    have := Pend.body c [] [] (fun rest => by simp)
    simpa [feed] using this
  | body o bs acc h =>
    by_cases hc : c = 255
    · subst hc; left; exact ⟨by simp [feed], by simpa [feed] using Pend.esc o bs acc h⟩
    · left
      refine ⟨by simp [feed, hc], ?_⟩
      have := Pend.body o (bs ++ [c]) (acc ++ [c]) (fun rest => by
        rw [List.append_assoc, h, List.singleton_append, subGo_step _ _ _ _ hc, List.length_append]; rfl)
      rw [← addB_take] at this
      simpa [feed, hc] using this
  | esc o bs acc h =>
    by_cases hc : c = 255
    · subst hc
      left
      refine ⟨by simp [feed], ?_⟩
      have := Pend.body o (bs ++ [255, 255]) (acc ++ [255]) (fun rest => by
        rw [List.append_assoc, h]; simp [subGo, Nat.add_assoc])
      rw [← addB_take] at this
      simpa [feed] using this
    · right
      have e : ∀ rest, next (255 :: 250 :: o :: (bs ++ [255]) ++ c :: rest) = subGo o acc (3 + bs.length) (255 :: c :: rest) := fun rest => by
        have := h ([255] ++ c :: rest)
        rw [← List.append_assoc] at this
        simp only [List.cons_append, next_sub, this]
        rfl
      by_cases h2 : c = 240
      · subst h2
        refine ⟨⟨4, 0, o.toNat, acc.take 256, decide (256 < acc.length)⟩, by simp [feed], by simp [feed], fun rest => ?_⟩
        rw [e]; simp [subGo]; omega
      · refine ⟨⟨5, c.toNat, o.toNat, [], false⟩, by simp [feed, hc, h2], by simp [feed, hc, h2], fun rest => ?_⟩
        rw [e]; simp [subGo, hc, h2]; omega

/-- All the tokens, by the machine and by the definition. -/
theorem refAll_run (l : List UInt8) : ∀ (m : Mach) (p : List UInt8) (f : Nat), Pend m p → p.length + l.length ≤ f → (refAll f (p ++ l)).1 = (runM m l).1 ∧ Pend (runM m l).2 (refAll f (p ++ l)).2 := by
  induction l with
  | nil =>
    intro m p f h hf
    rw [List.append_nil]
    have hn := pend_next h
    cases f with
    | zero => exact ⟨rfl, h⟩
    | succ f => simp [refAll, hn, runM, h]
  | cons c r ih =>
    intro m p f h hf
    rcases feed_next h c with ⟨h1, h2⟩ | ⟨t, h1, h2, h3⟩
    · have := ih _ (p ++ [c]) f h2 (by simp at hf ⊢; omega)
      rw [List.append_assoc, List.singleton_append] at this
      simp only [runM, h1, Option.toList_none, List.nil_append]
      exact this
    · cases f with
      | zero => simp at hf
      | succ f =>
        have := ih mach0 [] f .none_ (by simp at hf ⊢; omega)
        have hd : (p ++ c :: r).drop (p.length + 1) = r := by
          rw [List.append_cons, List.drop_append_of_le_length (by simp)]
          simp
        simp only [runM, refAll, h1, h2, h3, hd, Option.toList_some, List.singleton_append]
        rw [if_neg (by simp)]
        rw [List.nil_append] at this
        exact ⟨congrArg _ this.1, this.2⟩
/-- Behind whole tokens come those of what follows. -/
theorem run_join (a b : List UInt8) (h : (runM mach0 a).2.st = 0) : runM mach0 (a ++ b) = ((runM mach0 a).1 ++ (runM mach0 b).1, (runM mach0 b).2) := by
  rw [runM_append, idle_mach (runM_ok a _ mach0_ok) h]
end Go.Proofs.Ytbipkbpcjkgohaa
