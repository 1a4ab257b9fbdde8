/- The least byte; letters, figures, signs. -/
import Derived.Test.YthjnbpfbhmfopaaDoorCl9
import Derived.Shelf.Spec.TrailingZeros
namespace Go.Proofs.YthjnbpfbhmfopaaDoor
open Go Go.RowKit
attribute [local irreducible] wd

/-- The library's table, where it lies. -/
def Tab (w : World) : Prop := TabAt 16 Lib.deBruijn64tab w
theorem Tab.keep {w w' : World} (h : Tab w) (hx : Ext w w') : Tab w' := fun j hj => by
  have h1 := h j hj
  exact (hx.cell (p := ⟨_, j, none⟩) (block_lt_of_cell h1)).trans h1

theorem tz_core (x k idx : Nat) (w : World) (hx0 : ((x : Int) == 0) = false)
    (key : IntKind.u64.wrap (bits BinOp.and IntKind.u64 (x : Int) (IntKind.u64.wrap (-(x : Int))) * 285870213051353865) / 288230376151711744 = (idx : Int))
    (hi : idx < 64) (hk : k < 64) (hcell : w.cell? ⟨16, idx, none⟩ = some (.int .u8 k)) :
    Calls Tryd.prog 76 #[.int .u64 x] w fun e w' => e = .returned (.int .i64 (k : Nat)) ∧ w' = w := by
  go_enter Tryd.func76, Tryd.ntmps76
  go_wp2_with (simp only [key])
  go_ret
  exact ⟨by simp, rfl⟩
theorem tz (x : Nat) (hx : x < 18446744073709551616) (hx0 : x ≠ 0) (w : World) (hT : Tab w) :
    Calls Tryd.prog 76 #[.int .u64 x] w fun e w' => e = .returned (.int .i64 (Lib.ctz 64 x : Nat)) ∧ w' = w := by
  obtain ⟨hlow, hk⟩ := Lib.lowest_bit 64 x hx0 hx
  obtain ⟨hi, htab⟩ := Lib.deBruijn64_at _ hk
  have hcell := hT _ hi
  rw [htab] at hcell
  exact tz_core x _ _ w (by simp; omega) (tz64_key x _ hx hx0 hlow) hi hk hcell

theorem ctz_pow (j : Nat) (hj : j < 64) : Lib.ctz 64 (2 ^ j) = j := by
  have h : ∀ j : Fin 64, Lib.ctz 64 (2 ^ j.1) = j.1 := by decide +kernel
  exact h ⟨j, hj⟩
/-- Only m is in. -/
def Sole (p : Nat → Bool) (m : Nat) : Prop := m < 256 ∧ ∀ j, j < 256 → p j = (j == m)
theorem Sole.word {p : Nat → Bool} {m : Nat} (h : Sole p m) (k : Nat) (hk : k < 4) : wd p k = if k = m / 64 then 2 ^ (m % 64) else 0 := by
  have e : wd p k = wd (fun j => j == m) k := wd_congr fun j hj => h.2 _ (by omega)
  rw [e]
  split
  · rename_i h1
    exact (one_wd m k (m % 64) (by omega) (by omega)).symm
  · rename_i h1
    exact one_wd' m (m / 64) (m % 64) k (by omega) (by omega) h1

theorem ne_zero64 (y : Nat) (h : 0 < y) : ((y : Int) != 0) = true := by simp; omega

set_option maxHeartbeats 1000000 in
set_option maxRecDepth 20000 in
theorem setLeast (p : Nat → Bool) (m : Nat) (hm : Sole p m) (w : World) (hT : Tab w) :
    Calls Tryd.prog 67 #[sp p] w fun e w' => e = .returned (.int .u8 (m : Nat)) ∧ Ext w w' := by
  have ix : ∀ (i : Nat) (w : World), i < 4 → (Instr.index 25 (sp p) (.int .i64 (i : Nat))).run Tryd.prog w = .ok (.int .u64 (wd p i : Nat)) w :=
    fun i w hi => run_index_arr _ _ 4 _ i _ Tryd.underlying25 (by kernel_rfl) (fun w => by kernel_rfl) hi (by
      have h4 : i = 0 ∨ i = 1 ∨ i = 2 ∨ i = 3 := by omega
      rcases h4 with rfl | rfl | rfl | rfl <;> rfl) w
  have IX := Lib.hid ix
  have HT := Lib.hid hT
  have HM := Lib.hid hm
  have hm6 := hm.1
  clear ix hT hm
  unfold sp at IX ⊢
  go_enter Tryd.func67, Tryd.ntmps67
  go_wp2
  go_loopw [6] (fun i wr => ∃ (k : Nat), k ≤ m / 64 ∧ i = .int .i64 k ∧ Ext w wr) (fun i _ => 4 - (intOf i).toNat)
  case atStart => exact ⟨0, by omega, rfl, by (first | exact Ext.refl _ | (unfold Ext; repeat (first | exact Below.refl _ _ | assumption | refine Below.alloc ?_ (by first | (simp; done) | (simp; omega) | omega) _ | refine Below.setCell ?_ (by first | (simp; done) | (simp; omega) | omega) _ | refine Below.drew ?_)))⟩
  case round =>
    obtain ⟨k, hk, rfl, hx⟩ := hrel
    have hk4 : (k : Int) < 4 := by omega
    have i0 := fun w => IX.out k w (by omega)
    have hw := HM.out.word k (by omega)
    by_cases hlt : k = m / 64
    · rw [if_pos hlt] at hw
      have hj : m % 64 < 64 := by omega
      have h2 : 2 ^ (m % 64) < 18446744073709551616 := Nat.pow_lt_pow_of_lt (a := 2) (m := 64) (by omega) hj
      have h0 : 0 < 2 ^ (m % 64) := Nat.pow_pos (by omega)
      have hz := tz (2 ^ (m % 64)) h2 (by omega) wr (HT.out.keep hx)
      rw [ctz_pow _ hj] at hz
      rw [hw] at i0
      have hne := ne_zero64 _ h0
      have hmm : IntKind.u8.wrap ((k : Int) * 64 + ((m % 64 : Nat) : Int)) = (m : Int) := by
        have h3 : ((k : Int) * 64 + ((m % 64 : Nat) : Int)) = (m : Int) := by clear h0 h2 hne hz i0 hw; subst hlt; omega
        rw [h3, IntKind.wrap_u8]
        clear h0 h2 hne hz i0 hw
        omega
      generalize 2 ^ (m % 64) = y at *
      generalize m % 64 = j at *
      have HZ := Lib.hid hz
      clear hz hw hlt
      go_wp2_with (go_at_call 76; refine HZ.out.mono ?_; rintro e w1 ⟨rfl, rfl⟩)
      go_ret
      exact ⟨by simp, hx⟩
    · rw [if_neg hlt] at hw
      rw [hw] at i0
      have i1 : ∀ w, (Instr.index 25 (.agg #[.int .u64 (wd p 0 : Nat), .int .u64 (wd p 1 : Nat), .int .u64 (wd p 2 : Nat), .int .u64 (wd p 3 : Nat)]) (.int .i64 (k : Nat))).run Tryd.prog w = .ok (.int .u64 0) w := i0
      clear i0 hw
      go_wp2
      go_roundw
      case rel => exact ⟨k + 1, by omega, by go_num, hx⟩
      case measure => simp [intOf]; omega
end Go.Proofs.YthjnbpfbhmfopaaDoor
