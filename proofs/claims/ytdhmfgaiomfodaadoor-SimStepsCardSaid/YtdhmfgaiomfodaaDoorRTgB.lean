/- Put together: Cl1, Cl2, Cl3, Cl4, Cl5. -/
import Derived.Test.YtdhmfgaiomfodaaDoorRTgA
import Derived.Laws.BitsAllLaws
import Derived.Laws.Shifts
import Derived.Laws.Bits128
import Derived.RegionTactic
import Derived.ChangeAlike
import Derived.BigQuiet
import Derived.BigRegion
import Derived.Deep.QuietTactic
namespace Go.Proofs.YtdhmfgaiomfodaaDoor
open Go Go.RowKit

/-- How many of the first ones are so. -/
def cnt (f : Nat → Bool) : Nat → Nat
  | 0 => 0
  | n + 1 => cnt f n + (if f n then 1 else 0)
/-- One byte's bits, counted in place. -/
def b1 (y : Nat) : Nat := (y / 2 &&& 85) + (y &&& 85)
def b2 (y : Nat) : Nat := (y / 4 &&& 51) + (y &&& 51)
def b3 (y : Nat) : Nat := y / 16 + y % 16
def mk (m : Nat) : Nat → Nat
  | 0 => 0
  | k + 1 => m + 256 * mk m k
end Go.Proofs.YtdhmfgaiomfodaaDoor
namespace Go.Proofs.YtdhmfgaiomfodaaDoor
open Go Go.RowKit

/-- The number of these bits. -/
def bnum : (Nat → Bool) → Nat → Nat
  | _, 0 => 0
  | p, n + 1 => (p 0).toNat + 2 * bnum (fun j => p (j + 1)) n
theorem bnum_bit : ∀ (n : Nat) (p : Nat → Bool) (j : Nat), (bnum p n).testBit j = (decide (j < n) && p j) := by
  intro n
  induction n with
  | zero => intro p j; simp [bnum]
  | succ n ih =>
    intro p j
    cases j with
    | zero =>
      rw [bnum, Nat.testBit_zero]
      cases h : p 0 <;> simp <;> omega
    | succ j =>
      have e : ((p 0).toNat + 2 * bnum (fun j => p (j + 1)) n) / 2 = bnum (fun j => p (j + 1)) n := by
        cases p 0 <;> simp <;> omega
      rw [bnum, Nat.testBit_succ, e, ih]
      simp
theorem bnum_lt : ∀ (n : Nat) (p : Nat → Bool), bnum p n < 2 ^ n := by
  intro n
  induction n with
  | zero => intro p; simp [bnum]
  | succ n ih =>
    intro p
    have := ih (fun j => p (j + 1))
    rw [bnum, Nat.pow_succ]
    cases p 0 <;> simp <;> omega
theorem bnum_of (x n : Nat) (h : x < 2 ^ n) : bnum (fun j => x.testBit j) n = x := by
  refine Nat.eq_of_testBit_eq fun j => ?_
  rw [bnum_bit]
  by_cases hj : j < n
  · simp [hj]
  · rw [Nat.testBit_lt_two_pow (Nat.lt_of_lt_of_le h (Nat.pow_le_pow_right (by omega) (by omega)))]
    simp [hj]
theorem bnum_eq {p : Nat → Bool} {n x : Nat} (h : ∀ j, x.testBit j = (decide (j < n) && p j)) : x = bnum p n :=
  Nat.eq_of_testBit_eq fun j => by rw [h, bnum_bit]
theorem bnum_congr {p q : Nat → Bool} {n : Nat} (h : ∀ j, j < n → p j = q j) : bnum p n = bnum q n :=
  bnum_eq fun j => by
    rw [bnum_bit]
    by_cases hj : j < n
    · rw [h j hj]
    · simp [hj]
theorem bnum_inj {p q : Nat → Bool} {n : Nat} (h : bnum p n = bnum q n) : ∀ j, j < n → p j = q j := fun j hj => by
  have := congrArg (fun x => x.testBit j) h
  simp only [bnum_bit] at this
  simpa [hj] using this

theorem wrap_id64 (z : Nat) (h : z < 18446744073709551616) : IntKind.u64.wrap (z : Int) = (z : Int) := by rw [IntKind.wrap_u64]; omega
end Go.Proofs.YtdhmfgaiomfodaaDoor
namespace Go.Proofs.YtdhmfgaiomfodaaDoor
open Go Go.RowKit

def wd (p : Nat → Bool) (k : Nat) : Nat := bnum (fun j => p (64 * k + j)) 64
theorem wd_lt (p : Nat → Bool) (k : Nat) : wd p k < 18446744073709551616 := bnum_lt 64 _
theorem wd_bit (p : Nat → Bool) (k j : Nat) : (wd p k).testBit j = (decide (j < 64) && p (64 * k + j)) := bnum_bit 64 _ j
theorem wd_inj {p q : Nat → Bool} {k : Nat} (h : wd p k = wd q k) : ∀ j, j < 64 → p (64 * k + j) = q (64 * k + j) := fun j hj => bnum_inj h j hj
theorem wd_congr {p q : Nat → Bool} {k : Nat} (h : ∀ j, j < 64 → p (64 * k + j) = q (64 * k + j)) : wd p k = wd q k := bnum_congr h
/-- The set of these bytes, as the code has it. -/
def sp (p : Nat → Bool) : Value := .agg #[.int .u64 (wd p 0 : Nat), .int .u64 (wd p 1 : Nat), .int .u64 (wd p 2 : Nat), .int .u64 (wd p 3 : Nat)]
theorem results_cell1 {fn : Func} {p : Tmp} {ty : TypeId} (h : fn.results = #[.cell p ty]) (tmps : Array Value) (P : Program) (w : World) :
    (results fn tmps).run P w = ((asAddr (tmps.getD p undef)).run P w).andThen fun a w₁ => (loadVar ty a).run P w₁ := by
  simp only [results, h]
  simp [Sem.run_bind, Result.andThen]

theorem and_pow (x j : Nat) : x &&& 2 ^ j = (x.testBit j).toNat * 2 ^ j := by
  refine Nat.eq_of_testBit_eq fun k => ?_
  rw [Nat.testBit_and, Nat.testBit_two_pow]
  cases h : x.testBit j
  · by_cases hk : j = k
    · subst hk; simp [h]
    · simp [hk]
  · by_cases hk : j = k
    · subst hk; simp [h]
    · simp [hk]
theorem and_bit (x j : Nat) (hx : x < 18446744073709551616) (hj : j < 64) : (bits BinOp.and IntKind.u64 (x : Int) (IntKind.u64.wrap (2 ^ j)) != 0) = x.testBit j := by
  have h2 : 2 ^ j < 18446744073709551616 := Nat.pow_lt_pow_of_lt (a := 2) (m := 64) (by omega) hj
  have e : ((2 : Int) ^ j) = ((2 ^ j : Nat) : Int) := by simp
  rw [e, wrap_id64 _ h2, u64_and_nat _ _ hx h2, and_pow]
  have : 0 < 2 ^ j := Nat.pow_pos (by omega)
  generalize 2 ^ j = m at *
  cases x.testBit j
  · simp
  · simp; omega

theorem setHas (p : Nat → Bool) (c : Nat) (hc : c < 256) (w : World) :
    Calls Tryd.prog 30 #[sp p, .int .u8 (c : Nat)] w fun e w' => e = .returned (.bool (p c)) ∧ Ext w w' := by
  obtain ⟨k, hk⟩ : ∃ k, c / 64 = k := ⟨_, rfl⟩
  obtain ⟨j, hj⟩ : ∃ j, c % 64 = j := ⟨_, rfl⟩
  have hck : c = 64 * k + j := by omega
  have hj6 : j < 64 := by omega
  have hb : (bits BinOp.and IntKind.u64 (wd p k : Nat) (IntKind.u64.wrap (2 ^ j)) != 0) = p c := by rw [and_bit _ _ (wd_lt p k) hj6, wd_bit, hck]; simp [hj6]
  have hk4 : k = 0 ∨ k = 1 ∨ k = 2 ∨ k = 3 := by omega
  have e1 : (c : Int).tdiv 64 = (k : Int) := by rw [← hk]; rfl
  have e2 : (c : Int).tmod 64 = (j : Int) := by rw [← hj]; rfl
  unfold sp
  clear hk hj hck
  rcases hk4 with rfl | rfl | rfl | rfl
  all_goals
    go_enter Tryd.func30, Tryd.ntmps30
    go_wp2
    go_ret
    exact ⟨by simp, by (first | exact Ext.refl _ | (unfold Ext; repeat (first | exact Below.refl _ _ | assumption | refine Below.alloc ?_ (by first | (simp; done) | (simp; omega) | omega) _ | refine Below.setCell ?_ (by first | (simp; done) | (simp; omega) | omega) _ | refine Below.drew ?_)))⟩

theorem wd_or (p q : Nat → Bool) (k : Nat) : wd p k ||| wd q k = wd (fun j => p j || q j) k := by
  refine bnum_eq fun j => ?_
  rw [Nat.testBit_or, wd_bit, wd_bit]
  cases decide (j < 64) <;> simp
theorem or_wd (p q : Nat → Bool) (k : Nat) : bits BinOp.or IntKind.u64 (wd p k : Nat) (wd q k : Nat) = (wd (fun j => p j || q j) k : Nat) :=
  (u64_or_nat _ _ (wd_lt _ _) (wd_lt _ _)).trans (by rw [wd_or])
theorem Blk.newA {w : World} {g : Nat} (h : w.heap.size = g) (e : TypeId) (cs : List Value) : Blk (w.alloc (.cells cs.toArray e)) g e cs := by subst h; exact Blk.newL w e cs
def mix (X Y : Nat → Nat) : Nat → List Value
  | 0 => [.int .u64 (X 0), .int .u64 (X 1), .int .u64 (X 2), .int .u64 (X 3)]
  | 1 => [.int .u64 (Y 0), .int .u64 (X 1), .int .u64 (X 2), .int .u64 (X 3)]
  | 2 => [.int .u64 (Y 0), .int .u64 (Y 1), .int .u64 (X 2), .int .u64 (X 3)]
  | 3 => [.int .u64 (Y 0), .int .u64 (Y 1), .int .u64 (Y 2), .int .u64 (X 3)]
  | _ => [.int .u64 (Y 0), .int .u64 (Y 1), .int .u64 (Y 2), .int .u64 (Y 3)]

set_option maxHeartbeats 1000000 in
set_option maxRecDepth 20000 in
theorem setOr (p q : Nat → Bool) (w : World) :
    Calls Tryd.prog 132 #[sp p, sp q] w fun e w' => e = .returned (sp fun j => p j || q j) ∧ Ext w w' := by
  have r0 := or_wd p q 0
  have r1 := or_wd p q 1
  have r2 := or_wd p q 2
  have r3 := or_wd p q 3
  unfold sp
  go_enter Tryd.func132, Tryd.ntmps132
  go_wp2
  go_loopw [6] (fun iv wr => ∃ i : Nat, i ≤ 4 ∧ iv = .int .i64 i ∧ Blk wr w.heap.size 24 (mix (wd p) (wd fun j => p j || q j) i) ∧ Blk wr (w.heap.size + 1) 24 (mix (wd q) (wd q) 0) ∧ Blk wr (w.heap.size + 2) 24 (mix (fun _ => 0) (fun _ => 0) 0) ∧ Ext w wr) (fun iv _ => 4 - (intOf iv).toNat)
  case atStart => exact ⟨0, by omega, rfl, ((Blk.newA rfl _ _).alloc _).alloc _, (Blk.newA (by simp) _ _).alloc _, Blk.newA (by simp) _ _, by (first | exact Ext.refl _ | (unfold Ext; repeat (first | exact Below.refl _ _ | assumption | refine Below.alloc ?_ (by first | (simp; done) | (simp; omega) | omega) _ | refine Below.setCell ?_ (by first | (simp; done) | (simp; omega) | omega) _ | refine Below.drew ?_)))⟩
  case round =>
    obtain ⟨i, hi, rfl, hB, hC, hD, hx⟩ := hrel
    have hi4 : i = 0 ∨ i = 1 ∨ i = 2 ∨ i = 3 ∨ i = 4 := by omega
    rcases hi4 with rfl | rfl | rfl | rfl | rfl
    focus
      have b0 := hB.cell 0
      have c0 := hC.cell 0
      have f0 := hB.frozen 0
      simp only [mix, List.getElem?_cons_zero] at b0 c0
      have HB := Lib.hid hB
      have HC := Lib.hid hC
      have HD := Lib.hid hD
      clear hB hC hD
      go_wp2
      go_region
      all_goals go_wp2
      all_goals go_roundw
      case rel => exact ⟨1, by omega, by go_num, HB.out.set_ 0 _, HC.out.far (by simp) _, HD.out.far (by simp) _, by (first | exact Ext.refl _ | (unfold Ext; repeat (first | exact Below.refl _ _ | assumption | refine Below.alloc ?_ (by first | (simp; done) | (simp; omega) | omega) _ | refine Below.setCell ?_ (by first | (simp; done) | (simp; omega) | omega) _ | refine Below.drew ?_)))⟩
      case measure => simp [intOf]
    focus
      have b0 := hB.cell 1
      have c0 := hC.cell 1
      have f0 := hB.frozen 1
      simp only [mix, List.getElem?_cons_zero, List.getElem?_cons_succ] at b0 c0
      have HB := Lib.hid hB
      have HC := Lib.hid hC
      have HD := Lib.hid hD
      clear hB hC hD
      go_wp2
      go_region
      all_goals go_wp2
      all_goals go_roundw
      case rel => exact ⟨2, by omega, by go_num, HB.out.set_ 1 _, HC.out.far (by simp) _, HD.out.far (by simp) _, by (first | exact Ext.refl _ | (unfold Ext; repeat (first | exact Below.refl _ _ | assumption | refine Below.alloc ?_ (by first | (simp; done) | (simp; omega) | omega) _ | refine Below.setCell ?_ (by first | (simp; done) | (simp; omega) | omega) _ | refine Below.drew ?_)))⟩
      case measure => simp [intOf]
    focus
      have b0 := hB.cell 2
      have c0 := hC.cell 2
      have f0 := hB.frozen 2
      simp only [mix, List.getElem?_cons_zero, List.getElem?_cons_succ] at b0 c0
      have HB := Lib.hid hB
      have HC := Lib.hid hC
      have HD := Lib.hid hD
      clear hB hC hD
      go_wp2
      go_region
      all_goals go_wp2
      all_goals go_roundw
      case rel => exact ⟨3, by omega, by go_num, HB.out.set_ 2 _, HC.out.far (by simp) _, HD.out.far (by simp) _, by (first | exact Ext.refl _ | (unfold Ext; repeat (first | exact Below.refl _ _ | assumption | refine Below.alloc ?_ (by first | (simp; done) | (simp; omega) | omega) _ | refine Below.setCell ?_ (by first | (simp; done) | (simp; omega) | omega) _ | refine Below.drew ?_)))⟩
      case measure => simp [intOf]
    focus
      have b0 := hB.cell 3
      have c0 := hC.cell 3
      have f0 := hB.frozen 3
      simp only [mix, List.getElem?_cons_zero, List.getElem?_cons_succ] at b0 c0
      have HB := Lib.hid hB
      have HC := Lib.hid hC
      have HD := Lib.hid hD
      clear hB hC hD
      go_wp2
      go_region
      all_goals go_wp2
      all_goals go_roundw
      case rel => exact ⟨4, by omega, by go_num, HB.out.set_ 3 _, HC.out.far (by simp) _, HD.out.far (by simp) _, by (first | exact Ext.refl _ | (unfold Ext; repeat (first | exact Below.refl _ _ | assumption | refine Below.alloc ?_ (by first | (simp; done) | (simp; omega) | omega) _ | refine Below.setCell ?_ (by first | (simp; done) | (simp; omega) | omega) _ | refine Below.drew ?_)))⟩
      case measure => simp [intOf]
    focus
      have b0 := hB.cell 0
      have b1 := hB.cell 1
      have b2 := hB.cell 2
      have b3 := hB.cell 3
      have d0 := hD.cell 0
      have d1 := hD.cell 1
      have d2 := hD.cell 2
      have d3 := hD.cell 3
      have f0 := hD.frozen 0
      have f1 := hD.frozen 1
      have f2 := hD.frozen 2
      have f3 := hD.frozen 3
      simp only [mix, List.getElem?_cons_zero, List.getElem?_cons_succ] at b0 b1 b2 b3 d0 d1 d2 d3
      have HB := Lib.hid hB
      have HC := Lib.hid hC
      have HD := Lib.hid hD
      clear hB hC hD
      go_wp2
      refine bodyPost_ret (v := sp fun j => p j || q j) ?_ rfl ⟨rfl, ?_⟩
      · rw [results_cell1 rfl]
        unfold sp
        go_simp
        trace_state
      · (first | exact Ext.refl _ | (unfold Ext; repeat (first | exact Below.refl _ _ | assumption | refine Below.alloc ?_ (by first | (simp; done) | (simp; omega) | omega) _ | refine Below.setCell ?_ (by first | (simp; done) | (simp; omega) | omega) _ | refine Below.drew ?_)))
end Go.Proofs.YtdhmfgaiomfodaaDoor
namespace Go.Proofs.YtdhmfgaiomfodaaDoor
open Go Go.RowKit

theorem ones_bit (j : Nat) : Nat.testBit 18446744073709551615 j = decide (j < 64) := Nat.testBit_two_pow_sub_one 64 j
theorem wd_not (p : Nat → Bool) (k : Nat) : 18446744073709551615 ^^^ wd p k = wd (fun j => !p j) k := by
  refine bnum_eq fun j => ?_
  rw [Nat.testBit_xor, wd_bit, ones_bit]
  cases decide (j < 64) <;> simp
theorem not_wd (p : Nat → Bool) (k : Nat) : bits BinOp.xor IntKind.u64 (if IntKind.u64.signed = true then -1 else IntKind.u64.max) (wd p k : Nat) = (wd (fun j => !p j) k : Nat) := by
  have e : (if IntKind.u64.signed = true then -1 else IntKind.u64.max) = ((18446744073709551615 : Nat) : Int) := rfl
  rw [e]
  exact (u64_xor_nat _ _ (by decide) (wd_lt _ _)).trans (by rw [wd_not])
theorem one_wd (c k j : Nat) (hck : c = 64 * k + j) (hj : j < 64) : 2 ^ j = wd (fun i => i == c) k := by
  refine bnum_eq fun i => ?_
  rw [Nat.testBit_two_pow]
  by_cases h : j = i
  · subst h; simp [hj, hck]
  · simp [h, hck]; omega
theorem one_wd' (c k j n : Nat) (hck : c = 64 * k + j) (hj : j < 64) (hn : n ≠ k) : wd (fun i => i == c) n = 0 := by
  refine Eq.symm (bnum_eq fun i => ?_)
  simp
  omega

set_option maxHeartbeats 1000000 in
set_option maxRecDepth 20000 in
theorem setNot (p : Nat → Bool) (w : World) :
    Calls Tryd.prog 110 #[sp p] w fun e w' => e = .returned (sp fun j => !p j) ∧ Ext w w' := by
  unfold sp
  go_enter Tryd.func110, Tryd.ntmps110
  go_wp2
  go_loopw [4] (fun iv wr => ∃ i : Nat, i ≤ 4 ∧ iv = .int .i64 i ∧ Blk wr w.heap.size 24 (mix (wd p) (wd fun j => !p j) i) ∧ Blk wr (w.heap.size + 1) 24 (mix (fun _ => 0) (fun _ => 0) 0) ∧ Ext w wr) (fun iv _ => 4 - (intOf iv).toNat)
  case atStart => exact ⟨0, by omega, rfl, ((Blk.newA rfl _ _).alloc _), Blk.newA (by simp) _ _, by (first | exact Ext.refl _ | (unfold Ext; repeat (first | exact Below.refl _ _ | assumption | refine Below.alloc ?_ (by first | (simp; done) | (simp; omega) | omega) _ | refine Below.setCell ?_ (by first | (simp; done) | (simp; omega) | omega) _ | refine Below.drew ?_)))⟩
  case round =>
    obtain ⟨i, hi, rfl, hB, hD, hx⟩ := hrel
    have hi4 : i = 0 ∨ i = 1 ∨ i = 2 ∨ i = 3 ∨ i = 4 := by omega
    rcases hi4 with rfl | rfl | rfl | rfl | rfl
    focus
      have b0 := hB.cell 0
      have f0 := hB.frozen 0
      have r0 := not_wd p 0
      simp only [mix, List.getElem?_cons_zero] at b0
      have HB := Lib.hid hB
      have HD := Lib.hid hD
      clear hB hD
      go_wp2
      go_roundw
      case rel => exact ⟨1, by omega, by go_num, HB.out.set_ 0 _, HD.out.far (by simp) _, by (first | exact Ext.refl _ | (unfold Ext; repeat (first | exact Below.refl _ _ | assumption | refine Below.alloc ?_ (by first | (simp; done) | (simp; omega) | omega) _ | refine Below.setCell ?_ (by first | (simp; done) | (simp; omega) | omega) _ | refine Below.drew ?_)))⟩
      case measure => simp [intOf]
    focus
      have b0 := hB.cell 1
      have f0 := hB.frozen 1
      have r0 := not_wd p 1
      simp only [mix, List.getElem?_cons_zero, List.getElem?_cons_succ] at b0
      have HB := Lib.hid hB
      have HD := Lib.hid hD
      clear hB hD
      go_wp2
      go_roundw
      case rel => exact ⟨2, by omega, by go_num, HB.out.set_ 1 _, HD.out.far (by simp) _, by (first | exact Ext.refl _ | (unfold Ext; repeat (first | exact Below.refl _ _ | assumption | refine Below.alloc ?_ (by first | (simp; done) | (simp; omega) | omega) _ | refine Below.setCell ?_ (by first | (simp; done) | (simp; omega) | omega) _ | refine Below.drew ?_)))⟩
      case measure => simp [intOf]
    focus
      have b0 := hB.cell 2
      have f0 := hB.frozen 2
      have r0 := not_wd p 2
      simp only [mix, List.getElem?_cons_zero, List.getElem?_cons_succ] at b0
      have HB := Lib.hid hB
      have HD := Lib.hid hD
      clear hB hD
      go_wp2
      go_roundw
      case rel => exact ⟨3, by omega, by go_num, HB.out.set_ 2 _, HD.out.far (by simp) _, by (first | exact Ext.refl _ | (unfold Ext; repeat (first | exact Below.refl _ _ | assumption | refine Below.alloc ?_ (by first | (simp; done) | (simp; omega) | omega) _ | refine Below.setCell ?_ (by first | (simp; done) | (simp; omega) | omega) _ | refine Below.drew ?_)))⟩
      case measure => simp [intOf]
    focus
      have b0 := hB.cell 3
      have f0 := hB.frozen 3
      have r0 := not_wd p 3
      simp only [mix, List.getElem?_cons_zero, List.getElem?_cons_succ] at b0
      have HB := Lib.hid hB
      have HD := Lib.hid hD
      clear hB hD
      go_wp2
      go_roundw
      case rel => exact ⟨4, by omega, by go_num, HB.out.set_ 3 _, HD.out.far (by simp) _, by (first | exact Ext.refl _ | (unfold Ext; repeat (first | exact Below.refl _ _ | assumption | refine Below.alloc ?_ (by first | (simp; done) | (simp; omega) | omega) _ | refine Below.setCell ?_ (by first | (simp; done) | (simp; omega) | omega) _ | refine Below.drew ?_)))⟩
      case measure => simp [intOf]
    focus
      have b0 := hB.cell 0
      have b1 := hB.cell 1
      have b2 := hB.cell 2
      have b3 := hB.cell 3
      have d0 := hD.cell 0
      have d1 := hD.cell 1
      have d2 := hD.cell 2
      have d3 := hD.cell 3
      have f0 := hD.frozen 0
      have f1 := hD.frozen 1
      have f2 := hD.frozen 2
      have f3 := hD.frozen 3
      simp only [mix, List.getElem?_cons_zero, List.getElem?_cons_succ] at b0 b1 b2 b3 d0 d1 d2 d3
      have HB := Lib.hid hB
      have HD := Lib.hid hD
      clear hB hD
      go_wp2
      refine bodyPost_ret (v := sp fun j => !p j) ?_ rfl ⟨rfl, ?_⟩
      · rw [results_cell1 rfl]
        unfold sp
        go_simp
      · (first | exact Ext.refl _ | (unfold Ext; repeat (first | exact Below.refl _ _ | assumption | refine Below.alloc ?_ (by first | (simp; done) | (simp; omega) | omega) _ | refine Below.setCell ?_ (by first | (simp; done) | (simp; omega) | omega) _ | refine Below.drew ?_)))

set_option maxHeartbeats 1000000 in
set_option maxRecDepth 20000 in
theorem setOne (c : Nat) (hc : c < 256) (w : World) :
    Calls Tryd.prog 127 #[.int .u8 (c : Nat)] w fun e w' => e = .returned (sp fun j => j == c) ∧ Ext w w' := by
  obtain ⟨k, hk⟩ : ∃ k, c / 64 = k := ⟨_, rfl⟩
  obtain ⟨j, hj⟩ : ∃ j, c % 64 = j := ⟨_, rfl⟩
  have hck : c = 64 * k + j := by omega
  have hj6 : j < 64 := by omega
  have hk4 : k = 0 ∨ k = 1 ∨ k = 2 ∨ k = 3 := by omega
  have e1 : (c : Int).tdiv 64 = (k : Int) := by rw [← hk]; rfl
  have e2 : (c : Int).tmod 64 = (j : Int) := by rw [← hj]; rfl
  have e3 : IntKind.u64.wrap (2 ^ j) = (wd (fun j => j == c) k : Nat) := by
    rw [show ((2 : Int) ^ j) = ((2 ^ j : Nat) : Int) by simp, wrap_id64 _ (Nat.pow_lt_pow_of_lt (a := 2) (m := 64) (by omega) hj6), one_wd c k j hck hj6]
  have e4 : ∀ n, n ≠ k → wd (fun j => j == c) n = 0 := fun n hnk => one_wd' c k j n hck hj6 hnk
  unfold sp
  clear hk hj hck
  rcases hk4 with rfl | rfl | rfl | rfl
  all_goals
    go_enter Tryd.func127, Tryd.ntmps127
    go_wp2
    refine bodyPost_ret (v := sp fun j => j == c) ?_ rfl ⟨rfl, by (first | exact Ext.refl _ | (unfold Ext; repeat (first | exact Below.refl _ _ | assumption | refine Below.alloc ?_ (by first | (simp; done) | (simp; omega) | omega) _ | refine Below.setCell ?_ (by first | (simp; done) | (simp; omega) | omega) _ | refine Below.drew ?_)))⟩
    rw [results_cell1 rfl]
    unfold sp
    (try rw [e4 0 (by omega)])
    (try rw [e4 1 (by omega)])
    (try rw [e4 2 (by omega)])
    (try rw [e4 3 (by omega)])
    go_simp
end Go.Proofs.YtdhmfgaiomfodaaDoor
namespace Go.Proofs.YtdhmfgaiomfodaaDoor
open Go Go.RowKit

/-- 'a[i]' of an array of one-cell elements, by value. -/
theorem run_index_arr {P : Program} (t e : TypeId) (n : Nat) (cs : Array Value) (i : Nat) (v : Value) (h : P.underlying t = some (.array n e)) (he : (P.info? e).map (·.size) = some 1) (ha : ∀ w, (isAgg e).run P w = .ok false w) (hi : i < n) (hv : cs[i]? = some v) (w : World) :
    (Instr.index t (.agg cs) (.int .i64 (i : Nat))).run P w = .ok v w := by
  cases hq : P.info? e with
  | none => simp [hq] at he
  | some d =>
    simp [hq] at he
    simp [Instr.index, run_underlying h, asIntOf, go_sem, part, sizeOf, typeInfo, hq, he, ha, hv]
    omega

theorem sp_empty : sp (fun _ => false) = .agg #[.int .u64 0, .int .u64 0, .int .u64 0, .int .u64 0] := by
  have e : ∀ k, wd (fun _ => false) k = 0 := fun k => Eq.symm (bnum_eq fun i => by simp)
  unfold sp
  rw [e, e, e, e]
  rfl
set_option maxHeartbeats 1000000 in
set_option maxRecDepth 20000 in
theorem setAll (w : World) :
    Calls Tryd.prog 94 #[] w fun e w' => e = .returned (sp fun _ => true) ∧ Ext w w' := by
  go_enter Tryd.func94, Tryd.ntmps94
  go_wp2_with (go_at_call 110; have h := setNot (fun _ => false) (w.alloc (.cells #[.int .u64 0, .int .u64 0, .int .u64 0, .int .u64 0] 24)); rw [sp_empty] at h; refine h.mono ?_; rintro e w1 ⟨rfl, hx1⟩; simp only [Bool.not_false]; unfold sp; have hD := (Blk.newA (w := w) rfl 24 (mix (fun _ => 0) (fun _ => 0) 0)).keep hx1; have d0 := hD.cell 0; have d1 := hD.cell 1; have d2 := hD.cell 2; have d3 := hD.cell 3; have f0 := hD.frozen 0; have f1 := hD.frozen 1; have f2 := hD.frozen 2; have f3 := hD.frozen 3; simp only [mix, List.getElem?_cons_zero, List.getElem?_cons_succ] at d0 d1 d2 d3; have hx := (Ext.new1 _ _).trans hx1; have HD := Lib.hid hD; have HX1 := Lib.hid hx1; clear hD hx1)
  all_goals
    refine bodyPost_ret (v := sp fun _ => true) ?_ rfl ⟨rfl, by (first | exact Ext.refl _ | (unfold Ext; repeat (first | exact Below.refl _ _ | assumption | refine Below.alloc ?_ (by first | (simp; done) | (simp; omega) | omega) _ | refine Below.setCell ?_ (by first | (simp; done) | (simp; omega) | omega) _ | refine Below.drew ?_)))⟩
    rw [results_cell1 rfl]
    unfold sp
    go_simp
end Go.Proofs.YtdhmfgaiomfodaaDoor
