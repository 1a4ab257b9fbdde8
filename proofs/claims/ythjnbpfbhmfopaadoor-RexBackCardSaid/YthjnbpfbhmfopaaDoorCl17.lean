/- Which class a text begins with. Plain. -/
import Derived.Test.YthjnbpfbhmfopaaDoorCl13
namespace Go.Proofs.YthjnbpfbhmfopaaDoor
open Go Go.RowKit

/-- What a sign of base 16 says. -/
def digO (c : Nat) : Option Nat := if isFig c then some (c - 48) else if decide (97 ≤ c) && decide (c ≤ 102) then some (c - 87) else if decide (65 ≤ c) && decide (c ≤ 70) then some (c - 55) else none
def digV (c : Nat) : Int := match digO c with
  | some d => d
  | none => -1
/-- What is read at a text's beginning. -/
inductive Sg where
  | bad (k : Nat)
  | byte (m n : Nat)
  | cls (p : Nat → Bool) (n : Nat)
def Sg.set : Sg → Nat → Bool
  | .bad _ => fun _ => false
  | .byte m _ => fun j => j == m
  | .cls p _ => p
def Sg.one : Sg → Bool
  | .byte _ _ => true
  | _ => false
def Sg.size : Sg → Nat
  | .bad _ => 0
  | .byte _ n => n
  | .cls _ n => n
def Sg.err : Sg → Nat
  | .bad k => k
  | _ => 0
def codedS (l : List UInt8) : Sg :=
  match l[2]? with
  | none => .bad 3
  | some a => match digO a.toNat with
    | none => .bad 5
    | some d => match l[3]? with
      | none => .bad 3
      | some b => match digO b.toNat with
        | none => .bad 5
        | some e => .byte (16 * d + e) 4
def wordP (j : Nat) : Bool := ((isFig j || (decide (97 ≤ j) && decide (j ≤ 122))) || (decide (65 ≤ j) && decide (j ≤ 90))) || j == 95
def spaceP (j : Nat) : Bool := ((j == 9 || j == 10) || j == 13) || j == 32
def escC (k : Nat) (l : List UInt8) : Sg :=
  if k = 110 then .byte 10 2 else if k = 114 then .byte 13 2 else if k = 116 then .byte 9 2 else if k = 120 then codedS l
  else if k = 100 then .cls isFig 2 else if k = 119 then .cls wordP 2 else if k = 115 then .cls spaceP 2
  else if isLet k || isFig k then .bad 5 else .byte k 2
def escS (l : List UInt8) : Sg :=
  match l with
  | [] => .bad 3
  | a :: t => if a.toNat = 92 then (match t with
      | [] => .bad 3
      | c :: _ => escC c.toNat l) else .bad 5
def signS (l : List UInt8) : Sg :=
  match l with
  | [] => .bad 3
  | c :: _ => if c.toNat = 93 ∨ c.toNat = 45 then .bad 5 else if c.toNat = 92 then escS l else .byte c.toNat 1
/-- An item: its bytes, how long it is, the error's number. -/
def itemS (l : List UInt8) : (Nat → Bool) × Nat × Nat :=
  match signS l with
  | .bad k => (fun _ => false, 0, k)
  | .cls p n => (p, n, 0)
  | .byte m n =>
    if l[n]? = some 45 then
      match signS (l.drop (n + 1)) with
      | .bad k => (fun _ => false, 0, k)
      | .cls _ _ => (fun _ => false, 0, 5)
      | .byte m' k => if m' < m then (fun _ => false, 0, 5) else (fun j => decide (m ≤ j) && decide (j ≤ m'), n + 1 + k, 0)
    else (fun j => j == m, n, 0)
/-- Items, one behind the other: all bytes, where it ends, the error's number. -/
def goS (l : List UInt8) (begun : Nat) : Nat → Nat → (Nat → Bool) → (Nat → Bool) × Nat × Nat
  | 0, _, _ => (fun _ => false, 0, 3)
  | f + 1, at', x =>
    if at' ≠ begun ∧ l[at']? = some 93 then (x, at' + 1, 0)
    else if (itemS (l.drop at')).2.2 ≠ 0 then (fun _ => false, 0, (itemS (l.drop at')).2.2)
    else goS l begun f (at' + (itemS (l.drop at')).2.1) (fun j => x j || (itemS (l.drop at')).1 j)
def notP (b : Bool) (p : Nat → Bool) (j : Nat) : Bool := if b then !p j else p j
def parseS (l : List UInt8) : (Nat → Bool) × Nat × Nat :=
  match l with
  | [] => (fun _ => false, 0, 3)
  | a :: _ => if a.toNat = 91 then
      (let b := decide (l[1]? = some 94)
       let r := goS l (if b then 2 else 1) (l.length + 1) (if b then 2 else 1) (fun _ => false)
       if r.2.2 = 0 then (notP b r.1, r.2) else r)
    else (fun _ => false, 0, 5)

theorem digO_lt {c d : Nat} (hc : c < 256) (h : digO c = some d) : d < 16 := by
  unfold digO at h
  unfold isFig at h
  split at h
  · rename_i h1; simp at h1 h; omega
  · split at h
    · rename_i h1; simp at h1 h; omega
    · split at h
      · rename_i h1; simp at h1 h; omega
      · cases h
/-- A sign that is right has bytes of the text, and at least one. -/
def Sg.fits (s : Sg) (l : List UInt8) : Prop := match s with
  | .bad k => k = 3 ∨ k = 5
  | .byte m n => m < 256 ∧ 1 ≤ n ∧ n ≤ l.length
  | .cls _ n => 1 ≤ n ∧ n ≤ l.length
theorem coded_fits (l : List UInt8) : (codedS l).fits l := by
  unfold codedS
  cases ha : l[2]? with
  | none => exact .inl rfl
  | some a =>
    cases hd : digO a.toNat with
    | none => simp only [hd]; exact .inr rfl
    | some d =>
      cases hb : l[3]? with
      | none => simp only [hd]; exact .inl rfl
      | some b =>
        cases he : digO b.toNat with
        | none => simp only [hd, he]; exact .inr rfl
        | some e =>
          simp only [hd, he]
          have h1 := digO_lt (UInt8.toNat_lt a) hd
          have h2 := digO_lt (UInt8.toNat_lt b) he
          have h3 := (List.getElem?_eq_some_iff.1 hb).1
          exact ⟨by omega, by omega, by omega⟩
theorem esc_fits (l : List UInt8) : (escS l).fits l := by
  unfold escS
  split
  · exact .inl rfl
  · rename_i a t
    split
    · split
      · exact .inl rfl
      · rename_i c r
        unfold escC
        have h2 : 2 ≤ (a :: c :: r).length := by simp
        (repeat' split) <;> first
          | exact coded_fits _
          | exact .inr rfl
          | exact ⟨UInt8.toNat_lt _, by omega, h2⟩
          | exact ⟨by omega, by omega, h2⟩
          | exact ⟨by omega, h2⟩
    · exact .inr rfl
theorem sign_fits (l : List UInt8) : (signS l).fits l := by
  unfold signS
  split
  · exact .inl rfl
  · split
    · exact .inr rfl
    · split
      · exact esc_fits _
      · exact ⟨UInt8.toNat_lt _, by omega, by simp⟩
theorem item_fits (l : List UInt8) : ((itemS l).2.2 = 0 → 1 ≤ (itemS l).2.1 ∧ (itemS l).2.1 ≤ l.length) ∧ ((itemS l).2.2 = 0 ∨ (itemS l).2.2 = 3 ∨ (itemS l).2.2 = 5) := by
  have h1 := sign_fits l
  unfold itemS
  split
  · rename_i k hk
    rw [hk] at h1
    have h1 : k = 3 ∨ k = 5 := h1
    exact ⟨fun h => (by simp at h; omega), .inr h1⟩
  · rename_i p n hk
    rw [hk] at h1
    have h1 : 1 ≤ n ∧ n ≤ l.length := h1
    exact ⟨fun _ => h1, .inl rfl⟩
  · rename_i m n hk
    rw [hk] at h1
    have h1 : m < 256 ∧ 1 ≤ n ∧ n ≤ l.length := h1
    split
    · rename_i h45
      have h3 := (List.getElem?_eq_some_iff.1 h45).1
      have h4 := sign_fits (l.drop (n + 1))
      split
      · rename_i k hk2
        rw [hk2] at h4
        have h4 : k = 3 ∨ k = 5 := h4
        exact ⟨fun h => (by simp at h; omega), .inr h4⟩
      · exact ⟨fun h => (by simp at h), .inr (.inr rfl)⟩
      · rename_i m' k hk2
        rw [hk2] at h4
        have h4 : m' < 256 ∧ 1 ≤ k ∧ k ≤ (l.drop (n + 1)).length := h4
        rw [List.length_drop] at h4
        split
        · exact ⟨fun h => (by simp at h), .inr (.inr rfl)⟩
        · exact ⟨fun _ => ⟨by show 1 ≤ n + 1 + k; omega, by show n + 1 + k ≤ l.length; omega⟩, .inl rfl⟩
    · exact ⟨fun _ => h1.2, .inl rfl⟩
end Go.Proofs.YthjnbpfbhmfopaaDoor
