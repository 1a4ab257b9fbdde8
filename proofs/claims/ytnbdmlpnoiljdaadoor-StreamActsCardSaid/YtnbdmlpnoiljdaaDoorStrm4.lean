/- The stream's Deliver. -/
import Derived.Test.YtnbdmlpnoiljdaaDoorStrm3
import Derived.Test.YtnbdmlpnoiljdaaDoorRis
namespace Go.Proofs.YtnbdmlpnoiljdaaDoor
open Go Go.RowKit

set_option maxHeartbeats 2000000 in
set_option maxRecDepth 20000 in
theorem strmRising (L : List Int) (A : Option Addr) (n c many : Nat) (w : World) (hr : Rd w 1 A n (intsV L)) (_ : many ≤ 1000000) (hn : n ≤ 9223372036854775807) (r : Bool) (hrb : risA (-1) many L = r) :
    Calls Tryd.prog 58 #[.slice A n c, .int .i64 many] w fun e w' => e = .returned (.bool r) ∧ w = w' := by
  have hl := hr.len_ints
  have HR := Lib.hid hrb
  have HL := Lib.hid hl
  clear hrb hl
  go_enter Tryd.func58, Tryd.ntmps58
  go_wp2
  go_loop [9] (fun i => ∃ (k : Nat) (last : Int), k ≤ n ∧ i = .int .i64 k ∧ risA last many (L.drop k) = r ∧ -1 ≤ last ∧ (k = 0 ∧ last = -1 ∨ ∃ j, k = j + 1 ∧ L[j]? = some last)) (fun i => n - (intOf i).toNat)
  case atStart => exact ⟨0, -1, Nat.zero_le _, rfl, HR.out, by omega, .inl ⟨rfl, rfl⟩⟩
  case round =>
    obtain ⟨k, last, hk, rfl, hris, hl1, hlast⟩ := hrel
    by_cases hlt : k < n
    · have hkL : k < L.length := by rw [HL.out]; exact hlt
      obtain ⟨b, o, rfl, hb, hc⟩ := hr.2 (by simp [intsV]; omega)
      obtain ⟨x, hx⟩ : ∃ x, L[k]? = some x := ⟨_, List.getElem?_eq_getElem hkL⟩
      have hxe : L[k] = x := by rw [List.getElem?_eq_getElem hkL] at hx; exact Option.some.inj hx
      have hcx : w.cell? ⟨b, o + k, none⟩ = some (.int .i64 x) := hc k _ (by simp [intsV, hx])
      rw [List.drop_eq_getElem_cons hkL, hxe] at hris
      simp only [risA] at hris
      have hcell : ∀ j, L[j]? = some last → w.cell? ⟨b, o + j, none⟩ = some (.int .i64 last) := fun j hj => hc j _ (by simp [intsV, hj])
      have HX := Lib.hid hx
      have HRS := Lib.hid hris
      have HC := Lib.hid hcell
      clear hx hxe hris hc hcell hr
      by_cases hbad : x < 0 ∨ (many : Int) ≤ x ∨ x ≤ last
      · have hf : r = false := by
          rw [← HRS.out]
          by_cases h1 : last < x
          · rw [decide_eq_false (p := x < (many : Int)) (by omega)]; simp
          · rw [decide_eq_false h1]; rfl
        subst hf
        by_cases h1 : x < 0
        · clear hlast
          go_wp2
          go_ret
          exact ⟨rfl, rfl⟩
        · by_cases h2 : (many : Int) ≤ x
          · clear hlast
            go_wp2
            go_ret
            exact ⟨rfl, rfl⟩
          · have h3 : x ≤ last := by omega
            have h4 : x < (many : Int) := by omega
            rcases hlast with ⟨rfl, rfl⟩ | ⟨j, rfl, hj⟩
            · omega
            · have hcj := HC.out j hj
              clear hj hbad
              go_wp2
              go_ret
              exact ⟨rfl, rfl⟩
      · have h1 : ¬ x < 0 := by omega
        have h2 : x < (many : Int) := by omega
        have h3 : last < x := by omega
        have hn : risA x many (L.drop (k + 1)) = r := by
          have := HRS.out
          rw [decide_eq_true h3, decide_eq_true h2] at this
          exact this
        have HN := Lib.hid hn
        clear hn hbad
        rcases hlast with ⟨rfl, rfl⟩ | ⟨j, rfl, hj⟩
        · simp only [Nat.add_zero] at hcx
          go_wp2
          go_round
          case rel => exact ⟨1, x, by omega, by go_num, HN.out, by omega, .inr ⟨0, rfl, HX.out⟩⟩
          case measure => simp [intOf]; omega
        · have hcj := HC.out j hj
          clear hj
          go_wp2
          go_round
          case rel => exact ⟨j + 1 + 1, x, by omega, by go_num, HN.out, by omega, .inr ⟨j + 1, rfl, HX.out⟩⟩
          case measure => simp [intOf]; omega
    · obtain rfl : k = n := by omega
      have ht : r = true := by rw [← hris, List.drop_of_length_le (by rw [HL.out]; exact Nat.le_refl _)]; rfl
      subst ht
      clear hris hlast
      go_wp2
      go_ret
      exact ⟨rfl, rfl⟩

/-- Why a Deliver is refused. -/
def DelErr (S : St) (nb : Nat) (r : Bool) (i : Nat) : Prop := (S.closed = true ∧ i = 13) ∨ (S.closed = false ∧ r = false ∧ i = 0) ∨ (S.closed = false ∧ r = true ∧ 4096 < S.inn.length + nb ∧ i = 1)

set_option maxHeartbeats 2000000 in
set_option maxRecDepth 20000 in
theorem strmDeliverErr {w : World} {B : Nat} {m : Mem} {S : St} {E : Nat → Addr} (hS : StrmAt w B m S) (hE : ErrC [0, 1, 13] w E) (Ab Am : Option Addr) (nb cb nm cm : Nat) (L : List Int) (hnb : nb ≤ 1000000) (hnm : nm ≤ 1000000)
    (hr : Rd w 1 Am nm (intsV L)) (r : Bool) (hrb : risA (-1) nb L = r) (i : Nat) (hi : DelErr S nb r i) :
    Calls Tryd.prog 24 #[.pointer (some ⟨m.a, 0, none⟩), .slice Ab nb cb, .slice Am nm cm] w fun e w' => e = .returned (errV E i) ∧ w = w' := by
  have e3 : w.cell? ⟨m.a, 3, none⟩ = some (.bool S.closed) := hS.blk.cell 3
  obtain ⟨A, c, hv, _, _, _⟩ := hS.inn.rd
  have e0 : w.cell? ⟨m.a, 0, none⟩ = some m.vi := hS.blk.cell 0
  rw [hv] at e0
  have g0 := hE.cell (i := 0) (by decide) rfl
  have g1 := hE.cell (i := 1) (by decide) rfl
  have g13 := hE.cell (i := 13) (by decide) rfl
  have hsm := hS.small
  unfold errV at *
  have HR := Lib.hid hrb
  have HRD := Lib.hid hr
  clear hrb hv hr
  rcases hi with ⟨h1, rfl⟩ | ⟨h1, h2, rfl⟩ | ⟨h1, h2, h3, rfl⟩
  all_goals rw [h1] at e3; clear h1
  · go_enter Tryd.func24, Tryd.ntmps24
    go_wp2
    go_ret
    exact ⟨rfl, rfl⟩
  · subst h2
    go_enter Tryd.func24, Tryd.ntmps24
    go_wp2_with (go_at_call 58; refine (strmRising L Am nm cm nb _ HRD.out (by omega) (by omega) false HR.out).mono ?_; rintro e w1 ⟨rfl, rfl⟩)
    go_ret
    exact ⟨rfl, rfl⟩
  · subst h2
    have h4 : (4096 : Int) - S.inn.length < nb := by omega
    go_enter Tryd.func24, Tryd.ntmps24
    go_wp2_with (go_at_call 58; refine (strmRising L Am nm cm nb _ HRD.out (by omega) (by omega) true HR.out).mono ?_; rintro e w1 ⟨rfl, rfl⟩)
    go_ret
    exact ⟨rfl, rfl⟩
end Go.Proofs.YtnbdmlpnoiljdaaDoor
