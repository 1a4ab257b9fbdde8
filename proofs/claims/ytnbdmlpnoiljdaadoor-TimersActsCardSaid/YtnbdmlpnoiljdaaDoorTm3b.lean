/- Timers: where a key stands. -/
import Derived.Test.YtnbdmlpnoiljdaaDoorTm2
import Derived.Shelf.Abstract
import Derived.Test.YtnbdmlpnoiljdaaDoorDag
import Derived.Test.YtnbdmlpnoiljdaaDoorActOf
namespace Go.Proofs.YtnbdmlpnoiljdaaDoor
open Go Go.RowKit

/-- Where a key stands. -/
def KeyAt (L : List (Int × Int)) (key r : Int) : Prop := (∃ (k : Nat) (x : Int × Int), r = k ∧ L[k]? = some x ∧ x.2 = key) ∨ (r = -1 ∧ ∀ y ∈ L, y.2 ≠ key)

set_option maxHeartbeats 400000 in
theorem tmKey {w : World} (x : Int × Int) (key : Int) (kb : Nat) (hk : w.cell? ⟨kb, 0, none⟩ = some (.int .i64 key)) (hkl : kb < w.heap.size) :
    Calls Tryd.prog 84 #[.agg #[.int .i64 x.1, .int .i64 x.2], .pointer (some ⟨kb, 0, none⟩)] w fun e w' => e = .returned (.bool (decide (x.2 = key))) ∧ Ext w w' := by
  go_enter Tryd.func84, Tryd.ntmps84
  go_wp2
  go_ret
  exact ⟨by by_cases h : x.2 = key <;> simp [h], Ext.new1 _ _⟩


set_option maxHeartbeats 1000000 in
set_option maxRecDepth 20000 in
theorem tmIndex {w : World} {A : Option Addr} {n c : Nat} {L : List (Int × Int)} (hr : Rd w 2 A n (tmC L)) (hn : n ≤ 1000000) (key : Int) (kb : Nat) (hk : w.cell? ⟨kb, 0, none⟩ = some (.int .i64 key)) (hkl : kb < w.heap.size) :
    Calls Tryd.prog 83 #[.slice A n c, .func (.func 84) #[] #[.pointer (some ⟨kb, 0, none⟩)]] w fun e w' => ∃ r : Int, e = .returned (.int .i64 r) ∧ KeyAt L key r ∧ Ext w w' := by
  have hl : L.length = n := by have := hr.1; rw [tmC_len] at this; omega
  have HL := Lib.hid hl
  have HR := Lib.hid hr
  clear hr hl
  go_enter Tryd.func83, Tryd.ntmps83
  go_wp2
  go_loopw [8] (fun i wr => ∃ k : Nat, k ≤ n ∧ i = .int .i64 k ∧ (∀ y ∈ L.take k, y.2 ≠ key) ∧ Ext w wr) (fun i _ => n - (intOf i).toNat)
  case atStart => exact ⟨0, Nat.zero_le _, rfl, by simp, Ext.refl _⟩
  case round =>
    obtain ⟨k, hkn, rfl, hno, hx⟩ := hrel
    have HNO := Lib.hid hno
    clear hno
    by_cases hlt : k < n
    · obtain ⟨y, hy⟩ : ∃ y, L[k]? = some y := ⟨_, List.getElem?_eq_getElem (by rw [HL.out]; omega)⟩
      obtain ⟨bA, oA, rfl, hbA1, hcA⟩ := HR.out.2 (by rw [tmC_len, HL.out]; omega)
      obtain ⟨g0, g1⟩ := tmC_get hy
      have z0 : wr.cell? ⟨bA, oA + k * 2, none⟩ = some (.int .i64 y.1) := (hx.cell (p := ⟨bA, _, none⟩) hbA1).trans (hcA _ _ g0)
      have z1 : wr.cell? ⟨bA, oA + k * 2 + 1, none⟩ = some (.int .i64 y.2) := (hx.cell (p := ⟨bA, _, none⟩) hbA1).trans (hcA _ _ g1)
      have HY := Lib.hid hy
      clear hcA g0 g1 hy
      have hbA : bA < wr.heap.size := Nat.lt_of_lt_of_le hbA1 hx.size
      have hkr : kb < wr.heap.size := Nat.lt_of_lt_of_le hkl hx.size
      have hk8 := (hx.cell (p := ⟨kb, 0, none⟩) hkl).trans hk
      clear hk
      have hxx : Ext w (wr.alloc (.cells #[.int .i64 y.1, .int .i64 y.2] 115)) := hx.trans (Ext.new1 _ _)
      by_cases hyk : y.2 = key
      · have hyb : (y.2 == key) = true := by simp [hyk]
        go_wp2
        go_ret
        exact ⟨k, rfl, .inl ⟨k, y, rfl, HY.out, hyk⟩, hx.trans (Ext.new1 _ _)⟩
      · have hno2 : ∀ z ∈ L.take (k + 1), z.2 ≠ key := by
          rw [List.take_add_one, HY.out]
          intro z hz
          rcases List.mem_append.1 hz with h | h
          · exact HNO.out z h
          · simp at h; subst h; exact hyk
        have HN2 := Lib.hid hno2
        have hyb : (y.2 == key) = false := by simp [hyk]
        clear hno2 hyk
        go_wp2
        go_roundw
        case rel => exact ⟨k + 1, hlt, by go_num, HN2.out, hxx⟩
        case measure => simp [intOf]; omega
    · obtain rfl : k = n := by omega
      have hno2 := HNO.out
      rw [List.take_of_length_le (by rw [HL.out]; exact Nat.le_refl _)] at hno2
      have HN2 := Lib.hid hno2
      clear hno2
      go_wp2
      go_ret
      exact ⟨-1, rfl, .inr ⟨rfl, HN2.out⟩, hx⟩
end Go.Proofs.YtnbdmlpnoiljdaaDoor
