/- Globs: plain texts and globs as trees; quoted texts. Plain. -/
import Derived.Test.YtlofdnefbgjmpaaDoorTgQ
import Derived.Test.YtlofdnefbgjmpaaDoorRxW
namespace Go.Proofs.YtlofdnefbgjmpaaDoor
open Go Go.RowKit

def rowT : List T → T
  | [t] => t
  | ts => .node 3 0 false noP ts
def byteT (c : UInt8) : T := .node 2 0 false (fun j => j == c.toNat) []
def allT : T := .node 2 0 false (fun _ => true) []
def sizeErr (l : List UInt8) : Nat := if 120 < l.length then 4 else if l = [] then 15 else 0
/-- A plain text's tree. -/
def plainG (l : List UInt8) : PR := if sizeErr l = 0 then .ok (rowT (l.map byteT)) 0 0 else .err (sizeErr l)
def stars : List UInt8 → Nat
  | [] => 0
  | c :: r => if c = 42 then stars r + 1 else 0
/-- The item with which a text begins: its tree, how many bytes, the error. -/
def itemG : List UInt8 → T × Nat × Nat
  | [] => (allT, 0, 0)
  | c :: r =>
    if c = 42 then (.node 5 0 false noP [allT], stars (c :: r), 0)
    else if c = 63 then (allT, 1, 0)
    else if c = 91 then (.node 2 0 false (parseS (c :: r)).1 [], (parseS (c :: r)).2.1, (parseS (c :: r)).2.2)
    else if c = 92 then (.node 2 0 false (escS (c :: r)).set [], (escS (c :: r)).size, (escS (c :: r)).err)
    else (byteT c, 1, 0)
def itemsG : Nat → List UInt8 → List T → PR
  | 0, _, _ => .out
  | f + 1, l, acc =>
    if l = [] then .ok (rowT acc) 0 0
    else if (itemG l).2.2 = 0 then itemsG f (l.drop (itemG l).2.1) (acc ++ [(itemG l).1]) else .err (itemG l).2.2
def parseG (l : List UInt8) : PR := if sizeErr l = 0 then itemsG (l.length + 1) l [] else .err (sizeErr l)
def ofG (kind : Int) (l : List UInt8) : PR :=
  match (if kind = 1 then plainG l else if kind = 2 then parseG l else if kind = 3 then parseR l else .err 9) with
  | .out => .out
  | .err k => .err k
  | .ok t i gr => if t.nullable then .err 15 else .ok t i gr
def plainB (c : UInt8) : Bool := (decide (97 ≤ c.toNat) && decide (c.toNat ≤ 122)) || (decide (65 ≤ c.toNat) && decide (c.toNat ≤ 90)) || (decide (48 ≤ c.toNat) && decide (c.toNat ≤ 57)) || c.toNat == 32 || c.toNat == 95
def quoteC (c : UInt8) : List UInt8 := if plainB c then [c] else [92, 120, hexC (c.toNat / 16), hexC (c.toNat % 16)]
def quoteG (l : List UInt8) : List UInt8 := l.flatMap quoteC

theorem stars_cons (c : UInt8) (r : List UInt8) : stars (c :: r) = if c = 42 then stars r + 1 else 0 := rfl
theorem itemG_cons (c : UInt8) (r : List UInt8) : itemG (c :: r) = if c = 42 then (.node 5 0 false noP [allT], stars (c :: r), 0)
    else if c = 63 then (allT, 1, 0)
    else if c = 91 then (.node 2 0 false (parseS (c :: r)).1 [], (parseS (c :: r)).2.1, (parseS (c :: r)).2.2)
    else if c = 92 then (.node 2 0 false (escS (c :: r)).set [], (escS (c :: r)).size, (escS (c :: r)).err)
    else (byteT c, 1, 0) := rfl
theorem stars_le (l : List UInt8) : stars l ≤ l.length := by
  induction l with
  | nil => simp [stars]
  | cons c r ih => rw [stars_cons, List.length_cons]; split <;> omega
theorem item_pos {l : List UInt8} (h : l ≠ []) (he : (itemG l).2.2 = 0) : 1 ≤ (itemG l).2.1 ∧ (itemG l).2.1 ≤ l.length := by
  cases l with
  | nil => exact absurd rfl h
  | cons c r =>
    rw [itemG_cons] at he ⊢
    by_cases h1 : c = 42
    · rw [if_pos h1]
      have := stars_le (c :: r)
      refine ⟨?_, this⟩
      dsimp only
      rw [stars_cons, if_pos h1]; omega
    rw [if_neg h1] at he ⊢
    by_cases h2 : c = 63
    · rw [if_pos h2]; exact ⟨Nat.le_refl _, by simp⟩
    rw [if_neg h2] at he ⊢
    by_cases h3 : c = 91
    · rw [if_pos h3] at he ⊢; exact parse_bound he
    rw [if_neg h3] at he ⊢
    by_cases h4 : c = 92
    · rw [if_pos h4] at he ⊢
      dsimp only at he ⊢
      have hb := esc_fits (c :: r)
      cases hs : escS (c :: r) with
      | bad k => rw [hs] at hb he; have hb : k = 3 ∨ k = 5 := hb; have he : k = 0 := he; omega
      | byte m n => rw [hs] at hb; exact hb.2
      | cls p n => rw [hs] at hb; exact hb
    · rw [if_neg h4]; exact ⟨Nat.le_refl _, by simp⟩

/-! ### Trees of globs are right -/
def Fine1 (t : T) : Prop := t.right 2 0 = (true, 0) ∧ t.right 1 0 = (true, 0)
theorem fine_set (p : Nat → Bool) : Fine1 (.node 2 0 false p []) := by
  constructor <;> (unfold T.right; simp [kidsOk, bareB, rightL])
theorem fine_star : Fine1 (.node 5 0 false noP [allT]) := by
  have hn : noneB noP = true := by unfold noneB noP; simp
  have h2 : allT.right 2 0 = (true, 0) := (fine_set _).1
  have h3 : allT.right 3 0 = (true, 0) := by unfold allT T.right; simp [kidsOk, bareB, rightL]
  have hh : headN [allT] = false := by simp [headN, allT, T.nullable]
  constructor
  · unfold T.right; simp [kidsOk, bareB, hn, rightL, h3, hh]
  · unfold T.right; simp [kidsOk, bareB, hn, rightL, h2, hh]
theorem fine_item (l : List UInt8) : Fine1 (itemG l).1 := by
  cases l with
  | nil => exact fine_set _
  | cons c r =>
    rw [itemG_cons]
    (repeat' split)
    · exact fine_star
    · exact fine_set _
    · exact fine_set _
    · exact fine_set _
    · exact fine_set _
theorem right_row {ts : List T} (h : ∀ t ∈ ts, Fine1 t) (hne : ts ≠ []) : (rowT ts).right 1 0 = (true, 0) := by
  have hn : noneB noP = true := by unfold noneB noP; simp
  have hL : ∀ ts : List T, (∀ t ∈ ts, Fine1 t) → rightL ts 2 0 = (true, 0) := by
    intro ts
    induction ts with
    | nil => intro _; rfl
    | cons t r ih =>
      intro h
      unfold rightL
      rw [(h t List.mem_cons_self).1]
      exact ih fun x hx => h x (List.mem_cons_of_mem _ hx)
  match ts, hne with
  | [t], _ => exact (h t List.mem_cons_self).2
  | a :: b :: r, _ =>
    have := hL (a :: b :: r) h
    show T.right (.node 3 0 false noP (a :: b :: r)) 1 0 = _
    unfold T.right
    simp [kidsOk, bareB, hn, this]
theorem items_right : ∀ f l acc t i gr, (∀ t ∈ acc, Fine1 t) → (l = [] → acc ≠ []) → itemsG f l acc = .ok t i gr → t.right 1 0 = (true, 0) := by
  intro f
  induction f with
  | zero => intro l acc t i gr _ _ h; rw [itemsG] at h; cases h
  | succ f ih =>
    intro l acc t i gr hacc hne h
    rw [itemsG] at h
    by_cases hl : l = []
    · rw [if_pos hl] at h
      cases h
      exact right_row hacc (hne hl)
    · rw [if_neg hl] at h
      by_cases he : (itemG l).2.2 = 0
      · rw [if_pos he] at h
        refine ih _ _ _ _ _ (fun x hx => ?_) (fun _ => by simp) h
        rcases List.mem_append.1 hx with hx | hx
        · exact hacc x hx
        · simp at hx; subst hx; exact fine_item l
      · rw [if_neg he] at h; cases h
theorem of_right {kind : Int} {l : List UInt8} {t : T} {i gr : Nat} (h : ofG kind l = .ok t i gr) : (t.right 1 0).1 = true ∧ t.nullable = false := by
  unfold ofG at h
  have key : ∀ r : PR, (∀ t i gr, r = .ok t i gr → (t.right 1 0).1 = true) → (match r with | .out => PR.out | .err k => .err k | .ok t i gr => if t.nullable then .err 15 else .ok t i gr) = .ok t i gr → (t.right 1 0).1 = true ∧ t.nullable = false := by
    intro r hr h
    cases r with
    | out => cases h
    | err k => cases h
    | ok t' i' gr' =>
      dsimp only at h
      cases hn : t'.nullable
      · rw [hn] at h
        simp at h
        obtain ⟨rfl, rfl, rfl⟩ := h
        exact ⟨hr _ _ _ rfl, hn⟩
      · rw [hn] at h; simp at h
  refine key _ (fun t i gr hr => ?_) h
  by_cases h1 : kind = 1
  · rw [if_pos h1] at hr
    unfold plainG at hr
    split at hr
    · rename_i hs
      cases hr
      have hl : l ≠ [] := by
        intro e
        subst e
        simp [sizeErr] at hs
      rw [right_row (fun t ht => by obtain ⟨c, _, rfl⟩ := List.mem_map.1 ht; exact fine_set _) (by simpa using hl)]
    · cases hr
  rw [if_neg h1] at hr
  by_cases h2 : kind = 2
  · rw [if_pos h2] at hr
    unfold parseG at hr
    split at hr
    · rename_i hs
      have hl : l ≠ [] := by
        intro e
        subst e
        simp [sizeErr] at hs
      rw [items_right _ _ _ _ _ _ (fun t ht => by cases ht) (fun e => absurd e hl) hr]
    · cases hr
  rw [if_neg h2] at hr
  by_cases h3 : kind = 3
  · rw [if_pos h3] at hr; exact (parsed_right hr).1
  · rw [if_neg h3] at hr; cases hr

/-! ### A quoted text's glob -/
theorem quote_sign {c : UInt8} (h : plainB c = false) : quoteC c = signT c.toNat ∧ (isLet c.toNat || isFig c.toNat) = false := by
  have hs : (isLet c.toNat || isFig c.toNat) = false := by
    unfold plainB at h
    unfold isLet isFig
    simp only [Bool.or_eq_false_iff] at h ⊢
    exact ⟨⟨h.1.1.1.1, h.1.1.1.2⟩, h.1.1.2⟩
  unfold quoteC signT
  rw [if_neg (by rw [h]; simp), if_neg (by rw [hs]; simp)]
  exact ⟨rfl, hs⟩
theorem item_quote (c : UInt8) (rest : List UInt8) : itemG (quoteC c ++ rest) = (byteT c, (quoteC c).length, 0) := by
  cases hp : plainB c
  · obtain ⟨e1, e2⟩ := quote_sign hp
    have h := esc_told c.toNat (UInt8.toNat_lt c) e2 rest
    have hq : quoteC c = [92, 120, hexC (c.toNat / 16), hexC (c.toNat % 16)] := by unfold quoteC; rw [if_neg (by rw [hp]; simp)]
    rw [← e1] at h
    rw [hq] at h ⊢
    simp only [List.cons_append, List.nil_append] at h ⊢
    rw [itemG_cons, if_neg (by decide), if_neg (by decide), if_neg (by decide), if_pos rfl, h]
    rfl
  · have hq : quoteC c = [c] := by unfold quoteC; rw [if_pos hp]
    rw [hq]
    show itemG (c :: rest) = _
    have hne : ∀ x : UInt8, (x = 42 ∨ x = 63 ∨ x = 91 ∨ x = 92) → c ≠ x := by
      intro x hx e
      subst e
      rcases hx with rfl | rfl | rfl | rfl <;> (revert hp; decide)
    rw [itemG_cons, if_neg (hne 42 (by simp)), if_neg (hne 63 (by simp)), if_neg (hne 91 (by simp)), if_neg (hne 92 (by simp))]
    rfl
theorem quote_len (c : UInt8) : 1 ≤ (quoteC c).length := by unfold quoteC; split <;> simp
theorem items_quote : ∀ (l : List UInt8) (f : Nat) (acc : List T), l.length < f → itemsG f (quoteG l) acc = .ok (rowT (acc ++ l.map byteT)) 0 0 := by
  intro l
  induction l with
  | nil =>
    intro f acc hf
    obtain ⟨f, rfl⟩ : ∃ g, f = g + 1 := ⟨f - 1, by simp at hf; omega⟩
    rw [itemsG]
    simp [quoteG]
  | cons c r ih =>
    intro f acc hf
    obtain ⟨f, rfl⟩ : ∃ g, f = g + 1 := ⟨f - 1, by simp at hf; omega⟩
    have e : quoteG (c :: r) = quoteC c ++ quoteG r := by unfold quoteG; rw [List.flatMap_cons]
    have hne : quoteC c ++ quoteG r ≠ [] := by
      intro h
      have := congrArg List.length h
      rw [List.length_append, List.length_nil] at this
      have := quote_len c
      omega
    rw [itemsG, e, if_neg hne, item_quote, if_pos rfl]
    dsimp only
    rw [List.drop_left, ih f _ (by simp at hf; omega)]
    simp
theorem quote_le (l : List UInt8) : l.length ≤ (quoteG l).length := by
  induction l with
  | nil => simp [quoteG]
  | cons c r ih =>
    have e : quoteG (c :: r) = quoteC c ++ quoteG r := by unfold quoteG; rw [List.flatMap_cons]
    have := quote_len c
    rw [e, List.length_append, List.length_cons]; omega
theorem quote_nil (l : List UInt8) : quoteG l = [] ↔ l = [] := by
  constructor
  · intro h
    have := quote_le l
    rw [h] at this
    exact List.eq_nil_of_length_eq_zero (by simpa using this)
  · rintro rfl; rfl
/-- The law: what a quoted text's glob is. -/
theorem quote_law (l : List UInt8) : (120 < (quoteG l).length → parseG (quoteG l) = .err 4) ∧ (l = [] → parseG (quoteG l) = .err 15 ∧ plainG l = .err 15) ∧
    (¬ 120 < (quoteG l).length → l ≠ [] → parseG (quoteG l) = .ok (rowT (l.map byteT)) 0 0 ∧ plainG l = .ok (rowT (l.map byteT)) 0 0) := by
  refine ⟨fun h => ?_, fun h => ?_, fun h hl => ?_⟩
  · unfold parseG sizeErr
    rw [if_pos h]; rfl
  · subst h; exact ⟨rfl, rfl⟩
  · have hq : sizeErr (quoteG l) = 0 := by unfold sizeErr; rw [if_neg h, if_neg (fun e => hl ((quote_nil l).1 e))]
    have hle := quote_le l
    have hs : sizeErr l = 0 := by unfold sizeErr; rw [if_neg (by omega), if_neg hl]
    unfold parseG plainG
    rw [if_pos hq, if_pos hs, items_quote l _ [] (by omega)]
    exact ⟨rfl, rfl⟩
end Go.Proofs.YtlofdnefbgjmpaaDoor
