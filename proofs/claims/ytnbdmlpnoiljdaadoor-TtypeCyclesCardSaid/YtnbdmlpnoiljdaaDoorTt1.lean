/- layer 13: which texts are types; what bodies say. -/
import Derived.Test.YtnbdmlpnoiljdaaDoorStrs
import Derived.Test.YtnbdmlpnoiljdaaDoorNumErr
import Derived.BigQuiet
import Derived.Deep.QuietTactic
namespace Go.Proofs.YtnbdmlpnoiljdaaDoor
open Go Go.RowKit

def okB (c : UInt8) : Bool := decide (33 ≤ c.toNat ∧ c.toNat ≤ 126)
/-- Is a text a type? -/
def rightB (l : List UInt8) : Bool := decide (1 ≤ l.length) && (decide (l.length ≤ 24) && l.all okB)

theorem all_take_succ (l : List UInt8) (k : Nat) (h : k < l.length) : (l.take (k + 1)).all okB = ((l.take k).all okB && okB l[k]) := by
  rw [List.take_succ_eq_append_getElem h, List.all_append]; simp

/-- The bytes of a text, laid anew ([]byte(s)). -/
theorem right_false {l : List UInt8} {k : Nat} (h : k < l.length) (hc : okB l[k] = false) : rightB l = false := by
  unfold rightB
  have : l.all okB = false := by
    rw [List.all_eq_false]
    exact ⟨l[k], List.getElem_mem h, by simp [hc]⟩
  rw [this]; simp

set_option maxHeartbeats 1000000 in
theorem refRight (l : List UInt8) (hl : l.length ≤ 100000) (w : World) :
    Calls Tryd.prog 17 #[.string ⟨l.toArray⟩] w fun e w' => e = .returned (.bool (rightB l)) ∧ w = w' := by
  obtain ⟨r, hr⟩ : ∃ r, rightB l = r := ⟨_, rfl⟩
  rw [hr]
  have HR := Lib.hid hr
  clear hr
  by_cases h0 : l.length < 1 ∨ 24 < l.length
  · have h0' : l.length < 1 ∨ (¬ l.length < 1 ∧ 24 < l.length) := by omega
    have hf : r = false := by
      rw [← HR.out]; unfold rightB
      rcases h0 with h | h
      · rw [decide_eq_false (by omega)]; rfl
      · rw [decide_eq_false (p := l.length ≤ 24) (by omega)]; simp
    have HF := Lib.hid hf
    clear hf h0
    rcases h0' with h | ⟨h1, h⟩
    all_goals
      go_enter Tryd.func17, Tryd.ntmps17
      go_wp2
      go_ret
      exact ⟨by rw [HF.out]; simp, rfl⟩
  have h1 : ¬ l.length < 1 := by omega
  have h2 : ¬ 24 < l.length := by omega
  clear h0
  go_enter Tryd.func17, Tryd.ntmps17
  go_wp2
  go_loop [3] (fun i => ∃ k : Nat, k ≤ l.length ∧ i = .int .i64 k ∧ (l.take k).all okB = true) (fun i => l.length - (intOf i).toNat)
  case atStart => exact ⟨0, Nat.zero_le _, rfl, by simp⟩
  case round =>
    obtain ⟨k, hk, rfl, hall⟩ := hrel
    have HALL := Lib.hid hall
    clear hall
    by_cases hlt : k < l.length
    · have hc256 : (l[k].toNat : Int) < 256 := by have := l[k].toNat_lt; omega
      by_cases hbad : (l[k].toNat : Int) ≤ 32 ∨ 127 ≤ (l[k].toNat : Int)
      · have hf : r = false := by rw [← HR.out]; exact right_false hlt (by unfold okB; simp; omega)
        have HF := Lib.hid hf
        have hbad' : (l[k].toNat : Int) ≤ 32 ∨ (¬ (l[k].toNat : Int) ≤ 32 ∧ 127 ≤ (l[k].toNat : Int)) := by omega
        clear hf hbad
        rcases hbad' with hb | ⟨hb1, hb⟩
        all_goals
          go_wp2
          go_ret
          exact ⟨by rw [HF.out]; simp, rfl⟩
      · have hb1 : ¬ (l[k].toNat : Int) ≤ 32 := by omega
        have hb2 : ¬ 127 ≤ (l[k].toNat : Int) := by omega
        clear hbad
        go_wp2
        go_round
        case rel => exact ⟨k + 1, by omega, by go_num, by rw [all_take_succ l k hlt, HALL.out]; unfold okB; simp; omega⟩
        case measure => simp [intOf]; omega
    · obtain rfl : k = l.length := by omega
      have ht : r = true := by
        rw [← HR.out]; unfold rightB
        have := HALL.out
        rw [List.take_length] at this
        rw [this]; simp; omega
      have HT := Lib.hid ht
      clear ht
      go_wp2
      go_ret
      exact ⟨by rw [HT.out]; simp, rfl⟩

set_option maxHeartbeats 1000000 in
theorem ttRight (l : List UInt8) (hl : l.length ≤ 100000) (w : World) :
    Calls Tryd.prog 52 #[.string ⟨l.toArray⟩] w fun e w' => e = .returned (.bool (rightB l)) ∧ Ext w w' := by
  obtain ⟨r, hr⟩ : ∃ r, rightB l = r := ⟨_, rfl⟩
  rw [hr]
  have HR := Lib.hid hr
  clear hr
  obtain ⟨cap, w1, hconv, hrd, hb1, _, _⟩ := conv_bytes (P := Tryd.prog) w Tryd.underlying9 Tryd.underlying42 Tryd.underlying5 l (by omega)
  have HRD := Lib.hid hrd
  clear hrd
  go_enter Tryd.func52, Tryd.ntmps52
  go_wp2
  clear hconv
  go_loop [8] (fun i => ∃ k : Nat, k ≤ l.length ∧ i = .int .i64 k ∧ (l.take k).all okB = true) (fun i => l.length - (intOf i).toNat)
  case atStart => exact ⟨0, Nat.zero_le _, rfl, by simp⟩
  case round =>
    obtain ⟨k, hk, rfl, hall⟩ := hrel
    have HALL := Lib.hid hall
    clear hall
    by_cases hlt : k < l.length
    · have hc256 : (l[k].toNat : Int) < 256 := by have := l[k].toNat_lt; omega
      have hcell : w1.cell? ⟨w.heap.size, k, none⟩ = some (.int .u8 (l[k].toNat : Int)) := by
        obtain ⟨b, o, e, _, hc⟩ := HRD.out.2 (by simp [bytesV]; omega)
        cases e
        have := hc k _ (List.getElem?_eq_getElem (by simp [bytesV]; omega))
        simpa [bytesV, U8] using this
      by_cases hbad : (l[k].toNat : Int) < 33 ∨ 126 < (l[k].toNat : Int)
      · have hf : r = false := by rw [← HR.out]; exact right_false hlt (by unfold okB; simp; omega)
        have HF := Lib.hid hf
        have hbad' : (l[k].toNat : Int) < 33 ∨ (¬ (l[k].toNat : Int) < 33 ∧ 126 < (l[k].toNat : Int)) := by omega
        clear hf hbad
        rcases hbad' with hb | ⟨hb1', hb⟩
        all_goals
          go_wp2
          go_ret
          exact ⟨by rw [HF.out]; simp, hb1⟩
      · have hb1' : ¬ (l[k].toNat : Int) < 33 := by omega
        have hb2' : ¬ 126 < (l[k].toNat : Int) := by omega
        clear hbad
        go_wp2
        go_round
        case rel => exact ⟨k + 1, by omega, by go_num, by rw [all_take_succ l k hlt, HALL.out]; unfold okB; simp; omega⟩
        case measure => simp [intOf]; omega
    · obtain rfl : k = l.length := by omega
      have hall := HALL.out
      rw [List.take_length] at hall
      by_cases h24 : (l.length : Int) ≤ 24
      · by_cases h0 : l = []
        · have ht : r = false := by rw [← HR.out, h0]; rfl
          have HT := Lib.hid ht
          subst h0
          clear ht hall
          go_wp2
          go_ret
          exact ⟨by rw [HT.out]; simp, hb1⟩
        · have hl0 : 0 < l.length := List.length_pos_iff.2 h0
          have ht : r = true := by rw [← HR.out]; unfold rightB; rw [hall]; simp; omega
          have he : l.isEmpty = false := by simpa using h0
          have HT := Lib.hid ht
          clear ht hall h0
          go_wp2
          go_ret
          exact ⟨by rw [HT.out]; simp, hb1⟩
      · have h0 : l ≠ [] := fun e => by rw [e] at h24; simp at h24
        have ht : r = false := by rw [← HR.out]; unfold rightB; rw [decide_eq_false (p := l.length ≤ 24) (by omega)]; simp
        have he : l.isEmpty = false := by simpa using h0
        have HT := Lib.hid ht
        clear ht hall h0
        go_wp2
        go_ret
        exact ⟨by rw [HT.out]; simp, hb1⟩
end Go.Proofs.YtnbdmlpnoiljdaaDoor
