/- Bits counted; sets as four words. Plain. -/
import Derived.Test.YthjnbpfbhmfopaaDoorBase
namespace Go.Proofs.YthjnbpfbhmfopaaDoor
open Go Go.RowKit

/-- How many of the first ones are so. -/
def cnt (f : Nat → Bool) : Nat → Nat
  | 0 => 0
  | n + 1 => cnt f n + (if f n then 1 else 0)
theorem cnt_add (f : Nat → Bool) (m n : Nat) : cnt f (m + n) = cnt f m + cnt (fun j => f (m + j)) n := by
  induction n with
  | zero => simp [cnt]
  | succ n ih => rw [← Nat.add_assoc, cnt, ih, cnt]; omega
theorem cnt_congr {f g : Nat → Bool} {n : Nat} (h : ∀ j, j < n → f j = g j) : cnt f n = cnt g n := by
  induction n with
  | zero => rfl
  | succ n ih => rw [cnt, cnt, ih (fun j hj => h j (by omega)), h n (by omega)]
theorem cnt_le (f : Nat → Bool) (n : Nat) : cnt f n ≤ n := by
  induction n with
  | zero => exact Nat.le_refl _
  | succ n ih => rw [cnt]; split <;> omega

/-- One byte's bits, counted in place. -/
def b1 (y : Nat) : Nat := (y / 2 &&& 85) + (y &&& 85)
def b2 (y : Nat) : Nat := (y / 4 &&& 51) + (y &&& 51)
def b3 (y : Nat) : Nat := y / 16 + y % 16
set_option maxRecDepth 100000 in
theorem byte_pop : ∀ y : Fin 256, b1 y.1 ≤ 170 ∧ b2 (b1 y.1) ≤ 68 ∧ b2 (b1 y.1) % 16 ≤ 4 ∧ b3 (b2 (b1 y.1)) = cnt (fun j => y.1.testBit j) 8 := by decide +kernel
theorem and_split (x m : Nat) : x &&& m = (x % 256 &&& m % 256) + 256 * (x / 256 &&& m / 256) := by
  have h1 := Nat.and_mod_two_pow (a := x) (b := m) (n := 8)
  have h2 := Nat.and_div_two_pow (a := x) (b := m) (n := 8)
  simp only [Nat.reducePow] at h1 h2
  rw [← h1, ← h2]
  omega

/-- Byte by byte. -/
def bm (g : Nat → Nat) : Nat → Nat → Nat
  | 0, _ => 0
  | k + 1, x => g (x % 256) + 256 * bm g k (x / 256)
def mk (m : Nat) : Nat → Nat
  | 0 => 0
  | k + 1 => m + 256 * mk m k
theorem bm_div (g : Nat → Nat) (hg : ∀ y, y < 256 → g y < 256) (k x : Nat) : bm g (k + 1) x % 256 = g (x % 256) ∧ bm g (k + 1) x / 256 = bm g k (x / 256) := by
  have := hg (x % 256) (by omega)
  simp only [bm]
  omega
theorem bm_comp (f g : Nat → Nat) (hf : ∀ y, y < 256 → f y < 256) : ∀ k x, bm g k (bm f k x) = bm (fun y => g (f y)) k x := by
  intro k
  induction k with
  | zero => intro x; rfl
  | succ k ih =>
    intro x
    obtain ⟨h1, h2⟩ := bm_div f hf k x
    rw [bm, h1, h2, ih]
    rfl
set_option maxRecDepth 100000 in
theorem and85 : ∀ y : Fin 128, ∀ c : Fin 2, (y.1 + 128 * c.1) &&& 85 = y.1 &&& 85 := by decide +kernel
set_option maxRecDepth 100000 in
theorem and51 : ∀ y : Fin 64, ∀ c : Fin 4, (y.1 + 64 * c.1) &&& 51 = y.1 &&& 51 := by decide +kernel
theorem step1 : ∀ k x, (x / 2 &&& mk 85 k) + (x &&& mk 85 k) = bm b1 k x := by
  intro k
  induction k with
  | zero => intro x; simp [mk, bm]
  | succ k ih =>
    intro x
    rw [and_split (x / 2), and_split x]
    have e1 : mk 85 (k + 1) % 256 = 85 := by simp only [mk]; omega
    have e2 : mk 85 (k + 1) / 256 = mk 85 k := by simp only [mk]; omega
    have e3 : x / 2 / 256 = x / 256 / 2 := by omega
    have e4 : x / 2 % 256 = x % 256 / 2 + 128 * (x / 256 % 2) := by omega
    have := and85 ⟨x % 256 / 2, by omega⟩ ⟨x / 256 % 2, by omega⟩
    simp only at this
    rw [e1, e2, e3, e4, this, bm, ← ih, b1]
    omega
theorem step2 : ∀ k x, (x / 4 &&& mk 51 k) + (x &&& mk 51 k) = bm b2 k x := by
  intro k
  induction k with
  | zero => intro x; simp [mk, bm]
  | succ k ih =>
    intro x
    rw [and_split (x / 4), and_split x]
    have e1 : mk 51 (k + 1) % 256 = 51 := by simp only [mk]; omega
    have e2 : mk 51 (k + 1) / 256 = mk 51 k := by simp only [mk]; omega
    have e3 : x / 4 / 256 = x / 256 / 4 := by omega
    have e4 : x / 4 % 256 = x % 256 / 4 + 64 * (x / 256 % 4) := by omega
    have := and51 ⟨x % 256 / 4, by omega⟩ ⟨x / 256 % 4, by omega⟩
    simp only at this
    rw [e1, e2, e3, e4, this, bm, ← ih, b2]
    omega
theorem step3 (g : Nat → Nat) (hg : ∀ y, y < 256 → g y ≤ 68 ∧ g y % 16 ≤ 4) : ∀ k x, (bm g k x / 16 + bm g k x) &&& mk 15 k = bm (fun y => b3 (g y)) k x := by
  intro k
  induction k with
  | zero => intro x; simp [mk, bm]
  | succ k ih =>
    intro x
    have h1 := hg (x % 256) (by omega)
    rw [and_split]
    have e1 : mk 15 (k + 1) % 256 = 15 := by simp only [mk]; omega
    have e2 : mk 15 (k + 1) / 256 = mk 15 k := by simp only [mk]; omega
    have hlow : bm g k (x / 256) % 16 ≤ 4 := by
      cases k with
      | zero => simp [bm]
      | succ k =>
        have h2 := hg (x / 256 % 256) (by omega)
        simp only [bm]
        omega
    obtain ⟨r, hr⟩ : ∃ r, bm g k (x / 256) = r := ⟨_, rfl⟩
    obtain ⟨z, hz⟩ : ∃ z, g (x % 256) = z := ⟨_, rfl⟩
    rw [hr] at hlow
    rw [hz] at h1
    have e5 : bm g (k + 1) x = z + 256 * r := by rw [bm, hr, hz]
    have e3 : (bm g (k + 1) x / 16 + bm g (k + 1) x) / 256 = r / 16 + r := by rw [e5]; omega
    have e4 : (bm g (k + 1) x / 16 + bm g (k + 1) x) % 256 = z + z / 16 + 16 * (r % 16) := by rw [e5]; omega
    have e6 := Nat.and_two_pow_sub_one_eq_mod (z + z / 16 + 16 * (r % 16)) 4
    simp only [Nat.reducePow, Nat.reduceSub] at e6
    rw [e1, e2, e3, e4, e6, bm, ← ih, hr]
    simp only [b3, hz]
    omega
theorem bm_pop : ∀ k x, (bm (fun y => cnt (fun j => y.testBit j) 8) k x) = bm (fun y => b3 (b2 (b1 y))) k x := by
  intro k
  induction k with
  | zero => intro x; rfl
  | succ k ih =>
    intro x
    rw [bm, bm, ih, (byte_pop ⟨x % 256, by omega⟩).2.2.2]
theorem swar (x : Nat) (k : Nat) : ((bm b2 k (bm b1 k x) / 16 + bm b2 k (bm b1 k x)) &&& mk 15 k) = bm (fun y => cnt (fun j => y.testBit j) 8) k x := by
  rw [bm_comp b1 b2 (fun y hy => by have := (byte_pop ⟨y, hy⟩).1; simp only at this; omega), step3 _ (fun y hy => ⟨(byte_pop ⟨y, hy⟩).2.1, (byte_pop ⟨y, hy⟩).2.2.1⟩), bm_pop]
theorem cnt_byte (x k : Nat) : cnt (fun j => x.testBit j) (8 + k) = cnt (fun j => (x % 256).testBit j) 8 + cnt (fun j => (x / 256).testBit j) k := by
  rw [cnt_add]
  congr 1
  · refine cnt_congr fun j hj => ?_
    have := Nat.testBit_mod_two_pow x 8 j
    simp only [Nat.reducePow] at this
    rw [this]
    simp [hj]
  · refine cnt_congr fun j _ => ?_
    have := Nat.testBit_div_two_pow (n := 8) x j
    simp only [Nat.reducePow] at this
    rw [this, Nat.add_comm]
def pb (x : Nat) : Nat := cnt (fun j => (x % 256).testBit j) 8
theorem pb_le (x : Nat) : pb x ≤ 8 := cnt_le _ 8
theorem cnt_pb (x k : Nat) : cnt (fun j => x.testBit j) (8 + k) = pb x + cnt (fun j => (x / 256).testBit j) k := cnt_byte x k
theorem pop64 (x : Nat) : ∃ c0 c1 c2 c3 c4 c5 c6 c7 : Nat, c0 ≤ 8 ∧ c1 ≤ 8 ∧ c2 ≤ 8 ∧ c3 ≤ 8 ∧ c4 ≤ 8 ∧ c5 ≤ 8 ∧ c6 ≤ 8 ∧ c7 ≤ 8 ∧ cnt (fun j => x.testBit j) 64 = c0 + c1 + c2 + c3 + c4 + c5 + c6 + c7 ∧
    bm (fun y => cnt (fun j => y.testBit j) 8) 8 x = c0 + 256 * c1 + 65536 * c2 + 16777216 * c3 + 4294967296 * c4 + 1099511627776 * c5 + 281474976710656 * c6 + 72057594037927936 * c7 := by
  refine ⟨pb x, pb (x / 256), pb (x / 256 / 256), pb (x / 256 / 256 / 256), pb (x / 256 / 256 / 256 / 256), pb (x / 256 / 256 / 256 / 256 / 256), pb (x / 256 / 256 / 256 / 256 / 256 / 256), pb (x / 256 / 256 / 256 / 256 / 256 / 256 / 256), pb_le _, pb_le _, pb_le _, pb_le _, pb_le _, pb_le _, pb_le _, pb_le _, ?_, ?_⟩
  · rw [show 64 = 8 + 56 from rfl, cnt_pb, show 56 = 8 + 48 from rfl, cnt_pb, show 48 = 8 + 40 from rfl, cnt_pb, show 40 = 8 + 32 from rfl, cnt_pb, show 32 = 8 + 24 from rfl, cnt_pb, show 24 = 8 + 16 from rfl, cnt_pb, show 16 = 8 + 8 from rfl, cnt_pb]
    have e : ∀ y, cnt (fun j => y.testBit j) 8 = pb y := fun y => by
      have := cnt_pb y 0
      simpa [cnt] using this
    rw [e]
    omega
  · simp only [bm]
    simp only [pb]
    omega

theorem dv (m r q x : Nat) (h : r < m) (e : x = r + m * q) : x / m = q := by
  subst e
  rw [Nat.add_mul_div_left _ _ (by omega), Nat.div_eq_of_lt h]
  omega
theorem md (m r q x : Nat) (h : r < m) (e : x = r + m * q) : x % m = r := by
  subst e
  rw [Nat.add_mul_mod_self_left, Nat.mod_eq_of_lt h]
theorem horner_end (c0 c1 c2 c3 c4 c5 c6 c7 A1 A2 A3 A4 A5 A6 X : Nat) (hs : c0 + c1 + c2 + c3 + c4 + c5 + c6 + c7 ≤ 64) (h0 : c0 ≤ 8) (h1 : c1 ≤ 8) (h2 : c2 ≤ 8) (h3 : c3 ≤ 8) (h4 : c4 ≤ 8) (h5 : c5 ≤ 8) (h6 : c6 ≤ 8) (h7 : c7 ≤ 8)
    (hX : X = c0 + 256 * A1) (a1 : A1 = c1 + 256 * A2) (a2 : A2 = c2 + 256 * A3) (a3 : A3 = c3 + 256 * A4) (a4 : A4 = c4 + 256 * A5) (a5 : A5 = c5 + 256 * A6) (a6 : A6 = c6 + 256 * c7) :
    X < 18446744073709551616 ∧ X + X / 256 < 18446744073709551616 ∧ X + X / 256 + (X + X / 256) / 65536 < 18446744073709551616 ∧
    (X + X / 256 + (X + X / 256) / 65536) + (X + X / 256 + (X + X / 256) / 65536) / 4294967296 < 18446744073709551616 ∧ ((X + X / 256 + (X + X / 256) / 65536) + (X + X / 256 + (X + X / 256) / 65536) / 4294967296) % 128 = c0 + c1 + c2 + c3 + c4 + c5 + c6 + c7 := by
  have b6 : A6 ≤ 2056 := by clear a5 a4 a3 a2 a1 hX; omega
  have b5 : A5 ≤ 526344 := by clear a4 a3 a2 a1 hX a6; omega
  have b4 : A4 ≤ 134744072 := by clear a3 a2 a1 hX a6 a5 b6; omega
  have b3 : A3 ≤ 34494482440 := by clear a2 a1 hX a6 a5 b6 a4 b5; omega
  have b2 : A2 ≤ 8830587504648 := by clear a1 hX a6 a5 b6 a4 b5 a3 b4; omega
  have b1 : A1 ≤ 2260630401189896 := by clear hX a6 a5 b6 a4 b5 a3 b4 a2 b3; omega
  have b0 : X ≤ 578721382704613384 := by clear a6 a5 b6 a4 b5 a3 b4 a2 b3 a1 b2; omega
  have e1 : X / 256 = A1 := dv 256 c0 A1 X (Nat.lt_of_le_of_lt h0 (by decide)) hX
  rw [e1]
  have e3 : (X + A1) / 65536 = A2 + A3 := by
    refine dv 65536 (c0 + c1 + 256 * (c1 + c2)) (A2 + A3) _ ?_ ?_
    · clear hX a1 a2 a3 a4 a5 a6 b0 b1 b2 b3 b4 b5 b6 e1; omega
    · clear a3 a4 a5 a6 b0 b1 b2 b3 b4 b5 b6 e1 h0 h1 h2 h3 h4 h5 h6 h7 hs; omega
  rw [e3]
  have e5 : (X + A1 + (A2 + A3)) / 4294967296 = A4 + A5 + A6 + c7 := by
    refine dv 4294967296 (c0 + c1 + c2 + c3 + 256 * (c1 + c2 + c3 + c4) + 65536 * (c2 + c3 + c4 + c5) + 16777216 * (c3 + c4 + c5 + c6)) _ _ ?_ ?_
    · clear hX a1 a2 a3 a4 a5 a6 b0 b1 b2 b3 b4 b5 b6 e1 e3; omega
    · clear b0 b1 b2 b3 b4 b5 b6 e1 e3 h0 h1 h2 h3 h4 h5 h6 h7 hs; omega
  rw [e5]
  refine ⟨by clear hX a1 a2 a3 a4 a5 a6 e1 e3 e5; omega, by clear hX a1 a2 a3 a4 a5 a6 e1 e3 e5; omega, by clear hX a1 a2 a3 a4 a5 a6 e1 e3 e5; omega, by clear hX a1 a2 a3 a4 a5 a6 e1 e3 e5; omega, ?_⟩
  refine md 128 _ (2 * (A1 + A2 + A3 + A4 + A5 + A6 + c7)) _ ?_ ?_
  · exact Nat.lt_of_le_of_lt hs (by decide)
  · clear b0 b1 b2 b3 b4 b5 b6 e1 e3 e5 h0 h1 h2 h3 h4 h5 h6 h7 hs; omega
/-- The counting's last steps. -/
theorem pop_end (x X : Nat) (hX : bm (fun y => cnt (fun j => y.testBit j) 8) 8 x = X) : ∃ n : Nat, cnt (fun j => x.testBit j) 64 = n ∧ n ≤ 64 ∧ X < 18446744073709551616 ∧ X + X / 256 < 18446744073709551616 ∧ X + X / 256 + (X + X / 256) / 65536 < 18446744073709551616 ∧
    (X + X / 256 + (X + X / 256) / 65536) + (X + X / 256 + (X + X / 256) / 65536) / 4294967296 < 18446744073709551616 ∧ ((X + X / 256 + (X + X / 256) / 65536) + (X + X / 256 + (X + X / 256) / 65536) / 4294967296) % 128 = n := by
  obtain ⟨c0, c1, c2, c3, c4, c5, c6, c7, h0, h1, h2, h3, h4, h5, h6, h7, hc, hb⟩ := pop64 x
  have hs : c0 + c1 + c2 + c3 + c4 + c5 + c6 + c7 ≤ 64 := by rw [← hc]; exact cnt_le _ 64
  have hx : X = c0 + 256 * (c1 + 256 * (c2 + 256 * (c3 + 256 * (c4 + 256 * (c5 + 256 * (c6 + 256 * c7)))))) := by rw [← hX, hb]; clear hX hb hc hs h0 h1 h2 h3 h4 h5 h6 h7; omega
  have hq := horner_end c0 c1 c2 c3 c4 c5 c6 c7 (c1 + 256 * (c2 + 256 * (c3 + 256 * (c4 + 256 * (c5 + 256 * (c6 + 256 * c7)))))) (c2 + 256 * (c3 + 256 * (c4 + 256 * (c5 + 256 * (c6 + 256 * c7))))) (c3 + 256 * (c4 + 256 * (c5 + 256 * (c6 + 256 * c7)))) (c4 + 256 * (c5 + 256 * (c6 + 256 * c7))) (c5 + 256 * (c6 + 256 * c7)) (c6 + 256 * c7) X hs h0 h1 h2 h3 h4 h5 h6 h7 hx rfl rfl rfl rfl rfl rfl
  exact ⟨_, hc, hs, hq.1, hq.2.1, hq.2.2.1, hq.2.2.2.1, hq.2.2.2.2⟩
end Go.Proofs.YthjnbpfbhmfopaaDoor
