/- Signs of base 16, as the document reads them. -/
import Derived.Test.YtkknhocehladdaaDoorCl12
import Derived.Test.YtkknhocehladdaaDoorCl18
namespace Go.Proofs.YtkknhocehladdaaDoor
open Go Go.RowKit

set_option maxRecDepth 100000 in
theorem dig_found : ∀ i : Fin 22, digV (digL.getD i.1 0).toNat = (if 15 < i.1 then (i.1 : Int) - 6 else (i.1 : Int)) := by decide +kernel
set_option maxRecDepth 100000 in
theorem dig_none : ∀ c : Fin 256, (∀ i : Fin 22, (digL.getD i.1 0).toNat ≠ c.1) → digV c.1 = -1 := by decide +kernel

set_option maxHeartbeats 2000000 in
set_option maxRecDepth 20000 in
theorem refDigit (c : Nat) (hc : c < 256) (w : World) :
    Calls Tryd.prog 41 #[.int .u8 (c : Nat)] w fun e w' => e = .returned (.int .i64 (digV c)) ∧ w' = w := by
  go_enter Tryd.func41, Tryd.ntmps41
  go_wp2
  go_loopw [3] (fun iv wr => ∃ i : Nat, i ≤ 22 ∧ iv = .int .i64 i ∧ (∀ j, j < i → (digL.getD j 0).toNat ≠ c) ∧ wr = w) (fun iv _ => 22 - (intOf iv).toNat)
  case atStart => exact ⟨0, by omega, rfl, fun j hj => by omega, by trivial⟩
  case round =>
    obtain ⟨i, hi, rfl, hno, rfl⟩ := hrel
    have HNO := Lib.hid hno
    clear hno
    by_cases hlt : i < 22
    · have hlt' : (i : Int) < 22 := by omega
      obtain ⟨x, hx⟩ : ∃ x, digL.getD i 0 = x := ⟨_, rfl⟩
      have hxi : digL[i]? = some x := by rw [← hx, List.getD_eq_getElem?_getD, List.getElem?_eq_getElem (by exact hlt)]; rfl
      have h0 : ∀ w, (Instr.index 9 (.string ⟨digL.toArray⟩) (.int .i64 (i : Nat))).run Tryd.prog w = .ok (.int .u8 x.toNat) w := ix_str (t := 9) Tryd.underlying9 digL .i64 i x hxi
      have hf := dig_found ⟨i, hlt⟩
      simp only [hx] at hf
      have HX := Lib.hid hx
      clear hx hxi
      by_cases hxc : x.toNat = c
      · rw [hxc] at hf h0
        have hcc : ((c : Int) == (c : Int)) = true := by simp
        by_cases h15 : 15 < i
        · have h15' : (15 : Int) < (i : Int) := by omega
          rw [if_pos h15] at hf
          have HF := Lib.hid hf
          have hw6 : IntKind.i64.wrap ((i : Int) - 6) = (i : Int) - 6 := wrap_id (by omega) (by omega)
          clear hf
          go_wp2_with (go_at_call 45; refine (refDigits _).mono ?_; rintro e w1 ⟨rfl, rfl⟩)
          go_ret
          exact ⟨by rw [HF.out]; simp, by trivial⟩
        · have h15' : ¬ (15 : Int) < (i : Int) := by omega
          rw [if_neg h15] at hf
          have HF := Lib.hid hf
          clear hf
          go_wp2_with (go_at_call 45; refine (refDigits _).mono ?_; rintro e w1 ⟨rfl, rfl⟩)
          go_ret
          exact ⟨by rw [HF.out]; simp, by trivial⟩
      · have hcc : ((x.toNat : Int) == (c : Int)) = false := by simp; omega
        clear hf
        go_wp2_with (go_at_call 45; refine (refDigits _).mono ?_; rintro e w1 ⟨rfl, rfl⟩)
        go_roundw
        case rel => exact ⟨i + 1, by omega, by go_num, fun j hj => (by by_cases e : j = i; (rw [e, HX.out]; exact hxc); exact HNO.out j (by omega)), by trivial⟩
        case measure => simp [intOf]; omega
    · obtain rfl : i = 22 := by omega
      have hv := dig_none ⟨c, hc⟩ (fun i => HNO.out i.1 i.2)
      have HV := Lib.hid hv
      clear hv
      go_wp2
      go_ret
      exact ⟨by rw [show digV c = -1 from HV.out]; simp, by trivial⟩
end Go.Proofs.YtkknhocehladdaaDoor
