/- Lists of ints, compared and searched. -/
import Derived.Test.YtnbdmlpnoiljdaaDoorInts
namespace Go.Proofs.YtnbdmlpnoiljdaaDoor
open Go Go.RowKit

set_option maxHeartbeats 1000000 in
set_option maxRecDepth 20000 in
theorem sameInts (l k : List Int) (A B : Option Addr) (n c m d : Nat) (w : World) (hl : Rd w 1 A n (intsV l)) (hk : Rd w 1 B m (intsV k)) (hn : n ≤ 100000000) (hm : m ≤ 100000000) (r : Bool) (hr : decide (l = k) = r) :
    Calls Tryd.prog 48 #[.slice A n c, .slice B m d] w fun e w' => e = .returned (.bool r) ∧ Ext w w' := by
  have hln := hl.len_ints
  have hkn := hk.len_ints
  have HR := Lib.hid hr
  have HL := Lib.hid hl
  have HK := Lib.hid hk
  have HLN := Lib.hid hln
  have HKN := Lib.hid hkn
  clear hr hl hk hln hkn
  by_cases hnm : n = m
  · subst hnm
    go_enter Tryd.func48, Tryd.ntmps48
    go_wp2
    go_loopw [14] (fun i wr => ∃ j : Nat, j ≤ n ∧ i = .int .i64 j ∧ Ext w wr ∧ l.take j = k.take j) (fun i _ => n - (intOf i).toNat)
    case atStart => exact ⟨0, Nat.zero_le _, rfl, Ext.refl _, by simp⟩
    case round =>
      obtain ⟨j, hj, rfl, hx, ht⟩ := hrel
      by_cases hlt : j < n
      · obtain ⟨x, hxl⟩ : ∃ x, l[j]? = some x := ⟨_, List.getElem?_eq_getElem (by rw [HLN.out]; exact hlt)⟩
        obtain ⟨y, hyk⟩ : ∃ y, k[j]? = some y := ⟨_, List.getElem?_eq_getElem (by rw [HKN.out]; exact hlt)⟩
        obtain ⟨b1, o1, rfl, _, hc1⟩ := (HL.out.keep hx).2 (by have := HLN.out; simp [intsV]; omega)
        obtain ⟨b2, o2, rfl, _, hc2⟩ := (HK.out.keep hx).2 (by have := HKN.out; simp [intsV]; omega)
        have p1 : wr.cell? ⟨b1, o1 + j, none⟩ = some (.int .i64 x) := hc1 j _ (by simp [intsV, hxl])
        have p2 : wr.cell? ⟨b2, o2 + j, none⟩ = some (.int .i64 y) := hc2 j _ (by simp [intsV, hyk])
        have HXL := Lib.hid hxl
        have HYK := Lib.hid hyk
        have HT := Lib.hid ht
        clear hc1 hc2 hxl hyk ht
        by_cases hxy : x = y
        · subst hxy
          have ht2 : l.take (j + 1) = k.take (j + 1) := by rw [List.take_add_one, List.take_add_one, HT.out, HXL.out, HYK.out]
          have HT2 := Lib.hid ht2
          clear ht2
          go_wp2
          go_roundw
          case rel => exact ⟨j + 1, hlt, by go_num, hx, HT2.out⟩
          case measure => simp [intOf]; omega
        · have hf : r = false := by
            rw [← HR.out, decide_eq_false]
            intro e
            have := HXL.out
            rw [e, HYK.out] at this
            exact hxy (Option.some.inj this).symm
          have hb : (x == y) = false := by simpa using hxy
          have HF := Lib.hid hf
          clear hf hxy
          go_wp2
          go_ret
          exact ⟨by rw [HF.out]; simp, hx⟩
      · obtain rfl : j = n := by omega
        have ht' : r = true := by
          rw [← HR.out, decide_eq_true]
          rw [List.take_of_length_le (by rw [HLN.out]; exact Nat.le_refl _), List.take_of_length_le (by rw [HKN.out]; exact Nat.le_refl _)] at ht
          exact ht
        have HT := Lib.hid ht'
        clear ht' ht
        go_wp2
        go_ret
        exact ⟨by rw [HT.out]; simp, hx⟩
  · have hf : r = false := by
      rw [← HR.out, decide_eq_false]
      intro e; rw [e] at HLN; have := HLN.out; have := HKN.out; omega
    have hb : ((n : Int) == (m : Int)) = false := by simp; omega
    have HF := Lib.hid hf
    clear hf hnm
    go_enter Tryd.func48, Tryd.ntmps48
    go_wp2
    go_ret
    exact ⟨by rw [HF.out]; simp, Ext.refl _⟩

set_option maxHeartbeats 1000000 in
set_option maxRecDepth 20000 in
theorem hasInts (l : List Int) (x : Int) (A : Option Addr) (n c : Nat) (w : World) (hl : Rd w 1 A n (intsV l)) (hn : n ≤ 100000000) (hno : x ∉ l) :
    Calls Tryd.prog 43 #[.slice A n c, .int .i64 x] w fun e w' => e = .returned (.bool false) ∧ Ext w w' := by
  have hln := hl.len_ints
  have HL := Lib.hid hl
  have HLN := Lib.hid hln
  have HNO := Lib.hid hno
  clear hl hln hno
  go_enter Tryd.func43, Tryd.ntmps43
  go_wp2
  go_loopw [9] (fun i wr => ∃ j : Nat, j ≤ n ∧ i = .int .i64 j ∧ Ext w wr) (fun i _ => n - (intOf i).toNat)
  case atStart => exact ⟨0, Nat.zero_le _, rfl, Ext.refl _⟩
  case round =>
    obtain ⟨j, hj, rfl, hx⟩ := hrel
    by_cases hlt : j < n
    · obtain ⟨y, hyl⟩ : ∃ y, l[j]? = some y := ⟨_, List.getElem?_eq_getElem (by rw [HLN.out]; exact hlt)⟩
      obtain ⟨b1, o1, rfl, _, hc1⟩ := (HL.out.keep hx).2 (by have := HLN.out; simp [intsV]; omega)
      have p1 : wr.cell? ⟨b1, o1 + j, none⟩ = some (.int .i64 y) := hc1 j _ (by simp [intsV, hyl])
      have hyx : (y == x) = false := by
        have : y ≠ x := fun h => HNO.out (h ▸ List.mem_of_getElem? hyl)
        simpa using this
      clear hc1 hyl
      go_wp2
      go_roundw
      case rel => exact ⟨j + 1, hlt, by go_num, hx⟩
      case measure => simp [intOf]; omega
    · obtain rfl : j = n := by omega
      go_wp2
      go_ret
      exact ⟨rfl, hx⟩
end Go.Proofs.YtnbdmlpnoiljdaaDoor
