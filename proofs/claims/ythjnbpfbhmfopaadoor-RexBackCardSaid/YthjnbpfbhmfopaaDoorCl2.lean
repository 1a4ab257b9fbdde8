/- The bits of a word, counted by the library; a word out of its bits. -/
import Derived.Test.YthjnbpfbhmfopaaDoorCl1
import Derived.Test.YthjnbpfbhmfopaaDoorElem
import Derived.Test.YthjnbpfbhmfopaaDoorOwn
import Derived.Test.YthjnbpfbhmfopaaDoorStrs
import Derived.Test.YthjnbpfbhmfopaaDoorSent
import Derived.Laws.BitsAllLaws
import Derived.Laws.Shifts
import Derived.Laws.Bits128
import Derived.RegionTactic
import Derived.ChangeAlike
import Derived.BigQuiet
import Derived.BigRegion
import Derived.Deep.QuietTactic
namespace Go.Proofs.YthjnbpfbhmfopaaDoor
open Go Go.RowKit

/-- The number of these bits. -/
def bnum : (Nat → Bool) → Nat → Nat
  | _, 0 => 0
  | p, n + 1 => (p 0).toNat + 2 * bnum (fun j => p (j + 1)) n
theorem bnum_bit : ∀ (n : Nat) (p : Nat → Bool) (j : Nat), (bnum p n).testBit j = (decide (j < n) && p j) := by
  intro n
  induction n with
  | zero => intro p j; simp [bnum]
  | succ n ih =>
    intro p j
    cases j with
    | zero =>
      rw [bnum, Nat.testBit_zero]
      cases h : p 0 <;> simp <;> omega
    | succ j =>
      have e : ((p 0).toNat + 2 * bnum (fun j => p (j + 1)) n) / 2 = bnum (fun j => p (j + 1)) n := by
        cases p 0 <;> simp <;> omega
      rw [bnum, Nat.testBit_succ, e, ih]
      simp
theorem bnum_lt : ∀ (n : Nat) (p : Nat → Bool), bnum p n < 2 ^ n := by
  intro n
  induction n with
  | zero => intro p; simp [bnum]
  | succ n ih =>
    intro p
    have := ih (fun j => p (j + 1))
    rw [bnum, Nat.pow_succ]
    cases p 0 <;> simp <;> omega
theorem bnum_of (x n : Nat) (h : x < 2 ^ n) : bnum (fun j => x.testBit j) n = x := by
  refine Nat.eq_of_testBit_eq fun j => ?_
  rw [bnum_bit]
  by_cases hj : j < n
  · simp [hj]
  · rw [Nat.testBit_lt_two_pow (Nat.lt_of_lt_of_le h (Nat.pow_le_pow_right (by omega) (by omega)))]
    simp [hj]
theorem bnum_eq {p : Nat → Bool} {n x : Nat} (h : ∀ j, x.testBit j = (decide (j < n) && p j)) : x = bnum p n :=
  Nat.eq_of_testBit_eq fun j => by rw [h, bnum_bit]
theorem bnum_congr {p q : Nat → Bool} {n : Nat} (h : ∀ j, j < n → p j = q j) : bnum p n = bnum q n :=
  bnum_eq fun j => by
    rw [bnum_bit]
    by_cases hj : j < n
    · rw [h j hj]
    · simp [hj]
theorem bnum_inj {p q : Nat → Bool} {n : Nat} (h : bnum p n = bnum q n) : ∀ j, j < n → p j = q j := fun j hj => by
  have := congrArg (fun x => x.testBit j) h
  simp only [bnum_bit] at this
  simpa [hj] using this

theorem mk85 : mk 85 8 = 6148914691236517205 := by decide
theorem mk51 : mk 51 8 = 3689348814741910323 := by decide
theorem mk15 : mk 15 8 = 1085102592571150095 := by decide
theorem bm_lt (g : Nat → Nat) (hg : ∀ y, y < 256 → g y < 256) (x : Nat) : bm g 8 x < 18446744073709551616 := by
  have h : ∀ k x, bm g k x < 256 ^ k := by
    intro k
    induction k with
    | zero => intro x; simp [bm]
    | succ k ih =>
      intro x
      have := ih (x / 256)
      have := hg (x % 256) (by omega)
      rw [bm, Nat.pow_succ]
      omega
  exact h 8 x
theorem bm68 (g : Nat → Nat) (hg : ∀ y, y < 256 → g y ≤ 68) (x : Nat) : bm g 8 x ≤ 18446744073709551615 / 3 := by
  have h : ∀ k x, 255 * bm g k x ≤ 68 * (256 ^ k - 1) := by
    intro k
    induction k with
    | zero => intro x; simp [bm]
    | succ k ih =>
      intro x
      have h1 := ih (x / 256)
      have h2 := hg (x % 256) (by omega)
      have h3 : 0 < 256 ^ k := Nat.pow_pos (by omega)
      rw [bm, Nat.pow_succ]
      generalize 256 ^ k = m at *
      omega
  have := h 8 x
  simp only [Nat.reducePow] at this
  omega
theorem wrap_id64 (z : Nat) (h : z < 18446744073709551616) : IntKind.u64.wrap (z : Int) = (z : Int) := by rw [IntKind.wrap_u64]; omega
theorem and64 (a m : Nat) (ha : a < 18446744073709551616) (hm : m < 18446744073709551616) : bits .and .u64 (a : Int) (m : Int) = ((a &&& m : Nat) : Int) := u64_and_nat a m ha hm
theorem div_up (x d : Nat) : (x : Int) / (d : Int) = ((x / d : Nat) : Int) := rfl
theorem wrap64_128 (z : Int) : wrap64 z % 128 = z % 128 := by unfold wrap64; omega
theorem ones (x : Nat) (hx : x < 18446744073709551616) (w : World) :
    Calls Tryd.prog 69 #[.int .u64 x] w fun e w' => e = .returned (.int .i64 (cnt (fun j => x.testBit j) 64 : Nat)) ∧ w' = w := by
  have s1 := step1 8 x
  have s2 := step2 8 (bm b1 8 x)
  have s3 := swar x 8
  rw [mk85] at s1
  rw [mk51] at s2
  rw [mk15] at s3
  have l1 : bm b1 8 x < 18446744073709551616 := bm_lt _ (fun y hy => by have := (byte_pop ⟨y, hy⟩).1; simp only at this; omega) _
  have l2 : bm b2 8 (bm b1 8 x) ≤ 18446744073709551615 / 3 := by
    rw [bm_comp b1 b2 (fun y hy => by have := (byte_pop ⟨y, hy⟩).1; simp only at this; omega)]
    exact bm68 _ (fun y hy => (byte_pop ⟨y, hy⟩).2.1) x
  obtain ⟨n, hn, hn6, q1, q2, q3, q4, q5⟩ := pop_end x _ rfl
  rw [hn]
  generalize bm (fun y => cnt (fun j => y.testBit j) 8) 8 x = y3 at *
  generalize bm b2 8 (bm b1 8 x) = y2 at *
  generalize bm b1 8 x = y1 at *
  have r1 : IntKind.u64.wrap (bits .and .u64 ((x : Int) / 2) 6148914691236517205 + bits .and .u64 (x : Int) 6148914691236517205) = (y1 : Int) := by
    have e1 := and64 (x / 2) 6148914691236517205 (by omega) (by decide)
    have e2 := and64 x 6148914691236517205 hx (by decide)
    rw [show (x : Int) / 2 = ((x / 2 : Nat) : Int) from rfl]
    erw [e1, e2]
    rw [← Int.natCast_add, s1, wrap_id64 _ l1]
  have r2 : IntKind.u64.wrap (bits .and .u64 ((y1 : Int) / 4) 3689348814741910323 + bits .and .u64 (y1 : Int) 3689348814741910323) = (y2 : Int) := by
    have e1 := and64 (y1 / 4) 3689348814741910323 (by omega) (by decide)
    have e2 := and64 y1 3689348814741910323 l1 (by decide)
    rw [show (y1 : Int) / 4 = ((y1 / 4 : Nat) : Int) from rfl]
    erw [e1, e2]
    rw [← Int.natCast_add, s2, wrap_id64 _ (by omega)]
  have r3 : bits .and .u64 (IntKind.u64.wrap ((y2 : Int) / 16 + (y2 : Int))) 1085102592571150095 = (y3 : Int) := by
    have e1 := and64 (y2 / 16 + y2) 1085102592571150095 (by omega) (by decide)
    rw [show (y2 : Int) / 16 + (y2 : Int) = ((y2 / 16 + y2 : Nat) : Int) from rfl, wrap_id64 _ (by omega)]
    erw [e1]
    rw [s3]
  have r4 : ∃ y4 : Nat, y4 = y3 + y3 / 256 ∧ IntKind.u64.wrap ((y3 : Int) + (y3 : Int) / 256) = (y4 : Int) := ⟨_, rfl, by rw [show (y3 : Int) + (y3 : Int) / 256 = ((y3 + y3 / 256 : Nat) : Int) from rfl, wrap_id64 _ q2]⟩
  obtain ⟨y4, h4, r4⟩ := r4
  rw [← h4] at q2 q3 q4 q5
  have r5 : ∃ y5 : Nat, y5 = y4 + y4 / 65536 ∧ IntKind.u64.wrap ((y4 : Int) + (y4 : Int) / 65536) = (y5 : Int) := ⟨_, rfl, by rw [show (y4 : Int) + (y4 : Int) / 65536 = ((y4 + y4 / 65536 : Nat) : Int) from rfl, wrap_id64 _ q3]⟩
  obtain ⟨y5, h5, r5⟩ := r5
  rw [← h5] at q3 q4 q5
  have r6 : ∃ y6 : Nat, y6 = y5 + y5 / 4294967296 ∧ IntKind.u64.wrap ((y5 : Int) + (y5 : Int) / 4294967296) = (y6 : Int) := ⟨_, rfl, by rw [show (y5 : Int) + (y5 : Int) / 4294967296 = ((y5 + y5 / 4294967296 : Nat) : Int) from rfl, wrap_id64 _ q4]⟩
  obtain ⟨y6, h6, r6⟩ := r6
  rw [← h6] at q4 q5
  have r7 : bits .and .i64 (wrap64 (y6 : Int)) 127 = (n : Int) := by
    rw [i64_and127, wrap64_128, ← q5]
    rfl
  clear h4 h5 h6 q1 q2 q3 q4 q5 hn hn6 l1 l2 s1 s2 s3 hx
  go_enter Tryd.func69, Tryd.ntmps69
  go_wp2
  go_ret
  exact ⟨by simp, rfl⟩
end Go.Proofs.YthjnbpfbhmfopaaDoor
