/- layer 8: what the program and the references compute, as plain functions. -/
import Derived.Test.YtcdmjkhkgfegjaaBase
namespace Go.Proofs.Ytcdmjkhkgfegjaa

def enc1 : List UInt8 → List UInt8
  | [] => []
  | c :: r => (if c = 13 ∧ r.head? ≠ some 10 then [c, 0] else [c]) ++ enc1 r
def enc (raw : Bool) (l : List UInt8) : List UInt8 := if raw then l else enc1 l

theorem enc1_len (l : List UInt8) : (enc1 l).length ≤ 2 * l.length := by
  induction l with
  | nil => simp [enc1]
  | cons c r ih =>
    simp only [enc1]
    split <;> simp <;> omega
theorem enc_len (raw : Bool) (l : List UInt8) : (enc raw l).length ≤ 2 * l.length := by
  have := enc1_len l
  unfold enc; split <;> omega

theorem u8_eq (c : UInt8) (n : Nat) (hn : n < 256) : ((c.toNat : Int) = (n : Int)) ↔ c = UInt8.ofNat n := by
  constructor
  · intro h
    have h : c.toNat = n := by omega
    rw [← h]; simp
  · rintro rfl
    simp; omega
theorem u8_beq (c : UInt8) (n : Nat) (hn : n < 256) : ((c.toNat : Int) == (n : Int)) = (c == UInt8.ofNat n) := by
  rw [Bool.eq_iff_iff]; simp only [beq_iff_eq]; exact u8_eq c n hn
@[go_sem] theorem u8_beq13 (c : UInt8) : ((c.toNat : Int) == 13) = (c == 13) := u8_beq c 13 (by omega)
@[go_sem] theorem u8_beq10 (c : UInt8) : ((c.toNat : Int) == 10) = (c == 10) := u8_beq c 10 (by omega)
@[go_sem] theorem u8_beq0 (c : UInt8) : ((c.toNat : Int) == 0) = (c == 0) := u8_beq c 0 (by omega)
@[go_sem] theorem u8_bne10 (c : UInt8) : ((c.toNat : Int) != 10) = (c != 10) := by simp only [bne, u8_beq10]
@[go_sem] theorem u8_bne0 (c : UInt8) : ((c.toNat : Int) != 0) = (c != 0) := by simp only [bne, u8_beq0]

/-- Is a byte a carriage return that isn't raw; is a byte left out behind such a one? -/
def isCr (c : UInt8) (r : Bool) : Bool := c == 13 && !r
def isGone (c : UInt8) (r p : Bool) : Bool := c == 0 && !r && p
/-- The bytes, of which each is raw or not, that stay. -/
def decGo (p : Bool) : List (UInt8 × Bool) → List UInt8
  | [] => []
  | (c, r) :: t => (bif isGone c r p then [] else [c]) ++ decGo (isCr c r) t
/-- Whether the last byte was a carriage return that isn't raw. -/
def decSt (p : Bool) : List (UInt8 × Bool) → Bool
  | [] => p
  | (c, r) :: t => decSt (isCr c r) t
theorem decSt_snoc (p : Bool) (xs : List (UInt8 × Bool)) (c : UInt8) (r : Bool) : decSt p (xs ++ [(c, r)]) = isCr c r := by
  induction xs generalizing p with
  | nil => simp [decSt]
  | cons x xs ih => obtain ⟨d, s⟩ := x; simp [decSt, ih]
theorem decGo_snoc (p : Bool) (xs : List (UInt8 × Bool)) (c : UInt8) (r : Bool) :
    decGo p (xs ++ [(c, r)]) = decGo p xs ++ (bif isGone c r (decSt p xs) then [] else [c]) := by
  induction xs generalizing p with
  | nil => simp [decGo, decSt]
  | cons x xs ih => obtain ⟨d, s⟩ := x; simp [decGo, decSt, ih]
theorem decGo_len (p : Bool) (xs : List (UInt8 × Bool)) : (decGo p xs).length ≤ xs.length := by
  induction xs generalizing p with
  | nil => simp [decGo]
  | cons x xs ih =>
    obtain ⟨d, s⟩ := x
    have := ih (isCr d s)
    simp only [decGo]; cases isGone d s p <;> simp <;> omega

end Go.Proofs.Ytcdmjkhkgfegjaa
