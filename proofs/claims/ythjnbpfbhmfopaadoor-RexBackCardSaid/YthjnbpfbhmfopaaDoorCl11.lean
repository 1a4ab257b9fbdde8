/- Letters, figures, signs. -/
import Derived.Test.YthjnbpfbhmfopaaDoorCl10
namespace Go.Proofs.YthjnbpfbhmfopaaDoor
open Go Go.RowKit

def isLet (c : Nat) : Bool := (decide (97 ≤ c) && decide (c ≤ 122)) || (decide (65 ≤ c) && decide (c ≤ 90))
def isFig (c : Nat) : Bool := decide (48 ≤ c) && decide (c ≤ 57)
def hexL : List UInt8 := [48, 49, 50, 51, 52, 53, 54, 55, 56, 57, 97, 98, 99, 100, 101, 102]
def hexC (d : Nat) : UInt8 := hexL.getD d 0
/-- A byte, told. -/
def signT (c : Nat) : List UInt8 := if isLet c || isFig c then [UInt8.ofNat c] else [92, 120, hexC (c / 16), hexC (c % 16)]
theorem byte_cases (c : Nat) (hc : c < 256) : (c < 65 ∧ ¬ 97 ≤ c ∧ ¬ 65 ≤ c ∧ c ≤ 90 ∧ c ≤ 122) ∨ (65 ≤ c ∧ c ≤ 90 ∧ ¬ 97 ≤ c ∧ c ≤ 122) ∨ (65 ≤ c ∧ ¬ c ≤ 90 ∧ ¬ 97 ≤ c ∧ c ≤ 122) ∨ (97 ≤ c ∧ c ≤ 122 ∧ 65 ≤ c ∧ ¬ c ≤ 90) ∨ (97 ≤ c ∧ ¬ c ≤ 122 ∧ 65 ≤ c ∧ ¬ c ≤ 90) := by omega

set_option linter.unusedSimpArgs false in
set_option maxRecDepth 20000 in
theorem clLetter (c : Nat) (hc : c < 256) (w : World) :
    Calls Tryd.prog 74 #[.int .u8 (c : Nat)] w fun e w' => e = .returned (.bool (isLet c)) ∧ w' = w := by
  by_cases h1 : 97 ≤ c <;> by_cases h2 : c ≤ 122 <;> by_cases h3 : 65 ≤ c <;> by_cases h4 : c ≤ 90
  all_goals try omega
  all_goals
    have e1 : isLet c = ((decide (97 ≤ c) && decide (c ≤ 122)) || (decide (65 ≤ c) && decide (c ≤ 90))) := rfl
    simp only [h1, h2, h3, h4, decide_true, decide_false, Bool.and_true, Bool.and_false, Bool.or_true, Bool.or_false, Bool.true_or, Bool.false_or] at e1
    rw [e1]
    clear e1
    (try have g1 : (97 : Int) ≤ (c : Int) := by omega)
    (try have g1 : ¬ (97 : Int) ≤ (c : Int) := by omega)
    (try have g2 : (c : Int) ≤ (122 : Int) := by omega)
    (try have g2 : ¬ (c : Int) ≤ (122 : Int) := by omega)
    (try have g3 : (65 : Int) ≤ (c : Int) := by omega)
    (try have g3 : ¬ (65 : Int) ≤ (c : Int) := by omega)
    (try have g4 : (c : Int) ≤ (90 : Int) := by omega)
    (try have g4 : ¬ (c : Int) ≤ (90 : Int) := by omega)
    clear h1 h2 h3 h4
    go_enter Tryd.func74, Tryd.ntmps74
    go_wp2
    go_ret
    exact ⟨by simp, rfl⟩

set_option maxRecDepth 20000 in
theorem clFigure (c : Nat) (hc : c < 256) (w : World) :
    Calls Tryd.prog 75 #[.int .u8 (c : Nat)] w fun e w' => e = .returned (.bool (isFig c)) ∧ w' = w := by
  by_cases h1 : 48 ≤ c <;> by_cases h2 : c ≤ 57
  all_goals try omega
  all_goals
    have e1 : isFig c = (decide (48 ≤ c) && decide (c ≤ 57)) := rfl
    simp only [h1, h2, decide_true, decide_false, Bool.and_true, Bool.and_false] at e1
    rw [e1]
    clear e1
    (try have g1 : (48 : Int) ≤ (c : Int) := by omega)
    (try have g1 : ¬ (48 : Int) ≤ (c : Int) := by omega)
    (try have g2 : (c : Int) ≤ (57 : Int) := by omega)
    (try have g2 : ¬ (c : Int) ≤ (57 : Int) := by omega)
    clear h1 h2
    go_enter Tryd.func75, Tryd.ntmps75
    go_wp2
    go_ret
    exact ⟨by simp, rfl⟩

/-- 's[i]' of a string. -/
theorem ix_str {P : Program} {t : TypeId} (ht : P.underlying t = some .string) (l : List UInt8) (k : IntKind) (i : Nat) (x : UInt8) (h : l[i]? = some x) (w : World) :
    (Instr.index t (.string ⟨l.toArray⟩) (.int k (i : Nat))).run P w = .ok (.int .u8 x.toNat) w := by
  obtain ⟨hi, hx⟩ := List.getElem?_eq_some_iff.1 h
  rw [run_index_string w t _ k _ ht, dif_pos ⟨by omega, (by rw [bs_size]; omega)⟩]
  congr 2
  simp only [Int.toNat_natCast]
  rw [bs_get, hx]
theorem hexL_at (d : Nat) (hd : d < 16) : hexL[d]? = some (hexC d) := by
  unfold hexC
  rw [List.getD_eq_getElem?_getD, List.getElem?_eq_getElem (by exact hd)]
  rfl
theorem ofNat_byte (c : Nat) (hc : c < 256) : (UInt8.ofNat c).toNat = c := by simp; omega

set_option maxHeartbeats 1000000 in
set_option maxRecDepth 20000 in
theorem clSign (c : Nat) (hc : c < 256) (w : World) :
    Calls Tryd.prog 66 #[.int .u8 (c : Nat)] w fun e w' => e = .returned (.string ⟨(signT c).toArray⟩) ∧ Ext w w' := by
  by_cases hs : (isLet c || isFig c) = true
  · have hr : signT c = [UInt8.ofNat c] := by unfold signT; rw [if_pos hs]
    have hcv := conv_str (P := Tryd.prog) (c := 1) (l := [UInt8.ofNat c]) Tryd.underlying99 Tryd.underlying5 Tryd.underlying9 (rd_one w (U8 (UInt8.ofNat c)) 5)
    have e1 : U8 (UInt8.ofNat c) = .int .u8 (c : Nat) := by unfold U8; rw [ofNat_byte c hc]
    rw [e1] at hcv
    rw [hr]
    cases hl : isLet c
    · have hf : isFig c = true := by simpa [hl] using hs
      clear hs hr e1
      go_enter Tryd.func66, Tryd.ntmps66
      go_wp2_with (first | (go_at_call 75; refine (clFigure c hc _).mono ?_; rintro e w1 ⟨rfl, rfl⟩) | (go_at_call 74; refine (clLetter c hc _).mono ?_; rintro e w1 ⟨rfl, rfl⟩))
      go_ret
      exact ⟨by simp, by (first | exact Ext.refl _ | (unfold Ext; repeat (first | exact Below.refl _ _ | assumption | refine Below.alloc ?_ (by first | (simp; done) | (simp; omega) | omega) _ | refine Below.setCell ?_ (by first | (simp; done) | (simp; omega) | omega) _ | refine Below.drew ?_)))⟩
    · clear hs hr e1
      go_enter Tryd.func66, Tryd.ntmps66
      go_wp2_with (first | (go_at_call 75; refine (clFigure c hc _).mono ?_; rintro e w1 ⟨rfl, rfl⟩) | (go_at_call 74; refine (clLetter c hc _).mono ?_; rintro e w1 ⟨rfl, rfl⟩))
      go_ret
      exact ⟨by simp, by (first | exact Ext.refl _ | (unfold Ext; repeat (first | exact Below.refl _ _ | assumption | refine Below.alloc ?_ (by first | (simp; done) | (simp; omega) | omega) _ | refine Below.setCell ?_ (by first | (simp; done) | (simp; omega) | omega) _ | refine Below.drew ?_)))⟩
  · have hl : isLet c = false := by
      cases h : isLet c
      · rfl
      · simp [h] at hs
    have hf : isFig c = false := by
      cases h : isFig c
      · rfl
      · simp [h] at hs
    have hr : signT c = [92, 120, hexC (c / 16), hexC (c % 16)] := by unfold signT; rw [if_neg hs]
    have hx0 : ∀ w, (Instr.index 9 (.string ⟨hexL.toArray⟩) (.int .u8 ((c : Int) / 16))).run Tryd.prog w = .ok (.int .u8 (hexC (c / 16)).toNat) w := fun w => ix_str (t := 9) Tryd.underlying9 hexL .u8 (c / 16) _ (hexL_at _ (by omega)) w
    have hx1 : ∀ w, (Instr.index 9 (.string ⟨hexL.toArray⟩) (.int .u8 ((c : Int) % 16))).run Tryd.prog w = .ok (.int .u8 (hexC (c % 16)).toNat) w := fun w => ix_str (t := 9) Tryd.underlying9 hexL .u8 (c % 16) _ (hexL_at _ (by omega)) w
    have hm : bits BinOp.and IntKind.u8 (c : Int) 15 = (c : Int) % 16 := (u8_and_nat c 15 hc (by omega)).trans (by rw [Nat.and_two_pow_sub_one_eq_mod c 4]; rfl)
    rw [hr]
    unfold hexL at hx0 hx1
    clear hs hr
    generalize hexC (c / 16) = x at *
    generalize hexC (c % 16) = y at *
    have hcv := conv_str (P := Tryd.prog) (c := 2) (l := [x, y]) Tryd.underlying99 Tryd.underlying5 Tryd.underlying9 ((rd_newS w 1 2 [U8 x, U8 y] 5 rfl).keep ((Below.refl _ _).drew))
    unfold U8 at hcv
    go_enter Tryd.func66, Tryd.ntmps66
    go_wp2_with (first | (go_at_call 75; refine (clFigure c hc _).mono ?_; rintro e w1 ⟨rfl, rfl⟩) | (go_at_call 74; refine (clLetter c hc _).mono ?_; rintro e w1 ⟨rfl, rfl⟩))
    go_region
    all_goals go_wp2
    all_goals go_ret
    all_goals exact ⟨by simp, by (first | exact Ext.refl _ | (unfold Ext; repeat (first | exact Below.refl _ _ | assumption | refine Below.alloc ?_ (by first | (simp; done) | (simp; omega) | omega) _ | refine Below.setCell ?_ (by first | (simp; done) | (simp; omega) | omega) _ | refine Below.drew ?_)))⟩
end Go.Proofs.YthjnbpfbhmfopaaDoor
