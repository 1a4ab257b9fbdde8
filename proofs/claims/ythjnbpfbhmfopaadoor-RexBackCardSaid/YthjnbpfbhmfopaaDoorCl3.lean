/- Sets of bytes as four words: the code's methods. -/
import Derived.Test.YthjnbpfbhmfopaaDoorCl2
namespace Go.Proofs.YthjnbpfbhmfopaaDoor
open Go Go.RowKit

def wd (p : Nat → Bool) (k : Nat) : Nat := bnum (fun j => p (64 * k + j)) 64
theorem wd_lt (p : Nat → Bool) (k : Nat) : wd p k < 18446744073709551616 := bnum_lt 64 _
theorem wd_bit (p : Nat → Bool) (k j : Nat) : (wd p k).testBit j = (decide (j < 64) && p (64 * k + j)) := bnum_bit 64 _ j
theorem wd_inj {p q : Nat → Bool} {k : Nat} (h : wd p k = wd q k) : ∀ j, j < 64 → p (64 * k + j) = q (64 * k + j) := fun j hj => bnum_inj h j hj
theorem wd_congr {p q : Nat → Bool} {k : Nat} (h : ∀ j, j < 64 → p (64 * k + j) = q (64 * k + j)) : wd p k = wd q k := bnum_congr h
def wcell (p : Nat → Bool) (k : Nat) : Value := .int .u64 (wd p k : Nat)
/-- The set of these bytes, as the code has it. -/
def sp (p : Nat → Bool) : Value := .agg #[.int .u64 (wd p 0 : Nat), .int .u64 (wd p 1 : Nat), .int .u64 (wd p 2 : Nat), .int .u64 (wd p 3 : Nat)]
theorem sp_congr {p q : Nat → Bool} (h : ∀ c, c < 256 → p c = q c) : sp p = sp q := by
  have e : ∀ k, k < 4 → wd p k = wd q k := fun k hk => bnum_congr fun j hj => h _ (by omega)
  unfold sp
  rw [e 0 (by omega), e 1 (by omega), e 2 (by omega), e 3 (by omega)]

theorem results_cell1 {fn : Func} {p : Tmp} {ty : TypeId} (h : fn.results = #[.cell p ty]) (tmps : Array Value) (P : Program) (w : World) :
    (results fn tmps).run P w = ((asAddr (tmps.getD p undef)).run P w).andThen fun a w₁ => (loadVar ty a).run P w₁ := by
  simp only [results, h]
  simp [Sem.run_bind, Result.andThen]

theorem and_pow (x j : Nat) : x &&& 2 ^ j = (x.testBit j).toNat * 2 ^ j := by
  refine Nat.eq_of_testBit_eq fun k => ?_
  rw [Nat.testBit_and, Nat.testBit_two_pow]
  cases h : x.testBit j
  · by_cases hk : j = k
    · subst hk; simp [h]
    · simp [hk]
  · by_cases hk : j = k
    · subst hk; simp [h]
    · simp [hk]
theorem and_bit (x j : Nat) (hx : x < 18446744073709551616) (hj : j < 64) : (bits BinOp.and IntKind.u64 (x : Int) (IntKind.u64.wrap (2 ^ j)) != 0) = x.testBit j := by
  have h2 : 2 ^ j < 18446744073709551616 := Nat.pow_lt_pow_of_lt (a := 2) (m := 64) (by omega) hj
  have e : ((2 : Int) ^ j) = ((2 ^ j : Nat) : Int) := by simp
  rw [e, wrap_id64 _ h2, u64_and_nat _ _ hx h2, and_pow]
  have : 0 < 2 ^ j := Nat.pow_pos (by omega)
  generalize 2 ^ j = m at *
  cases x.testBit j
  · simp
  · simp; omega

theorem setHas (p : Nat → Bool) (c : Nat) (hc : c < 256) (w : World) :
    Calls Tryd.prog 70 #[sp p, .int .u8 (c : Nat)] w fun e w' => e = .returned (.bool (p c)) ∧ Ext w w' := by
  obtain ⟨k, hk⟩ : ∃ k, c / 64 = k := ⟨_, rfl⟩
  obtain ⟨j, hj⟩ : ∃ j, c % 64 = j := ⟨_, rfl⟩
  have hck : c = 64 * k + j := by omega
  have hj6 : j < 64 := by omega
  have hb : (bits BinOp.and IntKind.u64 (wd p k : Nat) (IntKind.u64.wrap (2 ^ j)) != 0) = p c := by rw [and_bit _ _ (wd_lt p k) hj6, wd_bit, hck]; simp [hj6]
  have hk4 : k = 0 ∨ k = 1 ∨ k = 2 ∨ k = 3 := by omega
  have e1 : (c : Int).tdiv 64 = (k : Int) := by rw [← hk]; rfl
  have e2 : (c : Int).tmod 64 = (j : Int) := by rw [← hj]; rfl
  unfold sp
  clear hk hj hck
  rcases hk4 with rfl | rfl | rfl | rfl
  all_goals
    go_enter Tryd.func70, Tryd.ntmps70
    go_wp2
    go_ret
    exact ⟨by simp, by (first | exact Ext.refl _ | (unfold Ext; repeat (first | exact Below.refl _ _ | assumption | refine Below.alloc ?_ (by first | (simp; done) | (simp; omega) | omega) _ | refine Below.setCell ?_ (by first | (simp; done) | (simp; omega) | omega) _ | refine Below.drew ?_)))⟩

theorem wd_or (p q : Nat → Bool) (k : Nat) : wd p k ||| wd q k = wd (fun j => p j || q j) k := by
  refine bnum_eq fun j => ?_
  rw [Nat.testBit_or, wd_bit, wd_bit]
  cases decide (j < 64) <;> simp
theorem or_wd (p q : Nat → Bool) (k : Nat) : bits BinOp.or IntKind.u64 (wd p k : Nat) (wd q k : Nat) = (wd (fun j => p j || q j) k : Nat) :=
  (u64_or_nat _ _ (wd_lt _ _) (wd_lt _ _)).trans (by rw [wd_or])
theorem Blk.newA {w : World} {g : Nat} (h : w.heap.size = g) (e : TypeId) (cs : List Value) : Blk (w.alloc (.cells cs.toArray e)) g e cs := by subst h; exact Blk.newL w e cs
def mix (X Y : Nat → Nat) : Nat → List Value
  | 0 => [.int .u64 (X 0), .int .u64 (X 1), .int .u64 (X 2), .int .u64 (X 3)]
  | 1 => [.int .u64 (Y 0), .int .u64 (X 1), .int .u64 (X 2), .int .u64 (X 3)]
  | 2 => [.int .u64 (Y 0), .int .u64 (Y 1), .int .u64 (X 2), .int .u64 (X 3)]
  | 3 => [.int .u64 (Y 0), .int .u64 (Y 1), .int .u64 (Y 2), .int .u64 (X 3)]
  | _ => [.int .u64 (Y 0), .int .u64 (Y 1), .int .u64 (Y 2), .int .u64 (Y 3)]

set_option maxHeartbeats 1000000 in
set_option maxRecDepth 20000 in
theorem setOr (p q : Nat → Bool) (w : World) :
    Calls Tryd.prog 85 #[sp p, sp q] w fun e w' => e = .returned (sp fun j => p j || q j) ∧ Ext w w' := by
  have r0 := or_wd p q 0
  have r1 := or_wd p q 1
  have r2 := or_wd p q 2
  have r3 := or_wd p q 3
  unfold sp
  go_enter Tryd.func85, Tryd.ntmps85
  go_wp2
  go_loopw [6] (fun iv wr => ∃ i : Nat, i ≤ 4 ∧ iv = .int .i64 i ∧ Blk wr w.heap.size 25 (mix (wd p) (wd fun j => p j || q j) i) ∧ Blk wr (w.heap.size + 1) 25 (mix (wd q) (wd q) 0) ∧ Blk wr (w.heap.size + 2) 25 (mix (fun _ => 0) (fun _ => 0) 0) ∧ Ext w wr) (fun iv _ => 4 - (intOf iv).toNat)
  case atStart => exact ⟨0, by omega, rfl, ((Blk.newA rfl _ _).alloc _).alloc _, (Blk.newA (by simp) _ _).alloc _, Blk.newA (by simp) _ _, by (first | exact Ext.refl _ | (unfold Ext; repeat (first | exact Below.refl _ _ | assumption | refine Below.alloc ?_ (by first | (simp; done) | (simp; omega) | omega) _ | refine Below.setCell ?_ (by first | (simp; done) | (simp; omega) | omega) _ | refine Below.drew ?_)))⟩
  case round =>
    obtain ⟨i, hi, rfl, hB, hC, hD, hx⟩ := hrel
    have hi4 : i = 0 ∨ i = 1 ∨ i = 2 ∨ i = 3 ∨ i = 4 := by omega
    rcases hi4 with rfl | rfl | rfl | rfl | rfl
    focus
      have b0 := hB.cell 0
      have c0 := hC.cell 0
      have f0 := hB.frozen 0
      simp only [mix, List.getElem?_cons_zero] at b0 c0
      have HB := Lib.hid hB
      have HC := Lib.hid hC
      have HD := Lib.hid hD
      clear hB hC hD
      go_wp2
      go_region
      all_goals go_wp2
      all_goals go_roundw
      case rel => exact ⟨1, by omega, by go_num, HB.out.set_ 0 _, HC.out.far (by simp) _, HD.out.far (by simp) _, by (first | exact Ext.refl _ | (unfold Ext; repeat (first | exact Below.refl _ _ | assumption | refine Below.alloc ?_ (by first | (simp; done) | (simp; omega) | omega) _ | refine Below.setCell ?_ (by first | (simp; done) | (simp; omega) | omega) _ | refine Below.drew ?_)))⟩
      case measure => simp [intOf]
    focus
      have b0 := hB.cell 1
      have c0 := hC.cell 1
      have f0 := hB.frozen 1
      simp only [mix, List.getElem?_cons_zero, List.getElem?_cons_succ] at b0 c0
      have HB := Lib.hid hB
      have HC := Lib.hid hC
      have HD := Lib.hid hD
      clear hB hC hD
      go_wp2
      go_region
      all_goals go_wp2
      all_goals go_roundw
      case rel => exact ⟨2, by omega, by go_num, HB.out.set_ 1 _, HC.out.far (by simp) _, HD.out.far (by simp) _, by (first | exact Ext.refl _ | (unfold Ext; repeat (first | exact Below.refl _ _ | assumption | refine Below.alloc ?_ (by first | (simp; done) | (simp; omega) | omega) _ | refine Below.setCell ?_ (by first | (simp; done) | (simp; omega) | omega) _ | refine Below.drew ?_)))⟩
      case measure => simp [intOf]
    focus
      have b0 := hB.cell 2
      have c0 := hC.cell 2
      have f0 := hB.frozen 2
      simp only [mix, List.getElem?_cons_zero, List.getElem?_cons_succ] at b0 c0
      have HB := Lib.hid hB
      have HC := Lib.hid hC
      have HD := Lib.hid hD
      clear hB hC hD
      go_wp2
      go_region
      all_goals go_wp2
      all_goals go_roundw
      case rel => exact ⟨3, by omega, by go_num, HB.out.set_ 2 _, HC.out.far (by simp) _, HD.out.far (by simp) _, by (first | exact Ext.refl _ | (unfold Ext; repeat (first | exact Below.refl _ _ | assumption | refine Below.alloc ?_ (by first | (simp; done) | (simp; omega) | omega) _ | refine Below.setCell ?_ (by first | (simp; done) | (simp; omega) | omega) _ | refine Below.drew ?_)))⟩
      case measure => simp [intOf]
    focus
      have b0 := hB.cell 3
      have c0 := hC.cell 3
      have f0 := hB.frozen 3
      simp only [mix, List.getElem?_cons_zero, List.getElem?_cons_succ] at b0 c0
      have HB := Lib.hid hB
      have HC := Lib.hid hC
      have HD := Lib.hid hD
      clear hB hC hD
      go_wp2
      go_region
      all_goals go_wp2
      all_goals go_roundw
      case rel => exact ⟨4, by omega, by go_num, HB.out.set_ 3 _, HC.out.far (by simp) _, HD.out.far (by simp) _, by (first | exact Ext.refl _ | (unfold Ext; repeat (first | exact Below.refl _ _ | assumption | refine Below.alloc ?_ (by first | (simp; done) | (simp; omega) | omega) _ | refine Below.setCell ?_ (by first | (simp; done) | (simp; omega) | omega) _ | refine Below.drew ?_)))⟩
      case measure => simp [intOf]
    focus
      have b0 := hB.cell 0
      have b1 := hB.cell 1
      have b2 := hB.cell 2
      have b3 := hB.cell 3
      have d0 := hD.cell 0
      have d1 := hD.cell 1
      have d2 := hD.cell 2
      have d3 := hD.cell 3
      have f0 := hD.frozen 0
      have f1 := hD.frozen 1
      have f2 := hD.frozen 2
      have f3 := hD.frozen 3
      simp only [mix, List.getElem?_cons_zero, List.getElem?_cons_succ] at b0 b1 b2 b3 d0 d1 d2 d3
      have HB := Lib.hid hB
      have HC := Lib.hid hC
      have HD := Lib.hid hD
      clear hB hC hD
      go_wp2
      refine bodyPost_ret (v := sp fun j => p j || q j) ?_ rfl ⟨rfl, ?_⟩
      · rw [results_cell1 rfl]
        unfold sp
        go_simp
        trace_state
      · (first | exact Ext.refl _ | (unfold Ext; repeat (first | exact Below.refl _ _ | assumption | refine Below.alloc ?_ (by first | (simp; done) | (simp; omega) | omega) _ | refine Below.setCell ?_ (by first | (simp; done) | (simp; omega) | omega) _ | refine Below.drew ?_)))
end Go.Proofs.YthjnbpfbhmfopaaDoor
