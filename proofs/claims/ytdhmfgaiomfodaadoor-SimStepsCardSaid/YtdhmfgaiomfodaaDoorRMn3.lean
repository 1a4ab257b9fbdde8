/- Places in memory: slices of bool. Clone, Equal of them; Contains, SameInts of ints. -/
import Derived.Test.YtdhmfgaiomfodaaDoorRTgA
import Derived.BigQuiet
import Derived.BigRegion
namespace Go.Proofs.YtdhmfgaiomfodaaDoor
open Go Go.RowKit

/-- A slice that holds these. -/
def PlV (w : World) (v : Value) (p : List Bool) : Prop := ∃ A c, v = .slice A p.length c ∧ p.length ≤ c ∧ c ≤ maxLen ∧ Rd w 1 A p.length (boolsV p)
theorem PlV.keep {w w' : World} {v : Value} {p : List Bool} (h : PlV w v p) (hx : Ext w w') : PlV w' v p := by
  obtain ⟨A, c, h1, h2, h3, h4⟩ := h
  exact ⟨A, c, h1, h2, h3, h4.keep hx⟩
set_option maxHeartbeats 1000000 in
set_option maxRecDepth 20000 in
theorem sameInts (l k : List Int) (A B : Option Addr) (n c m d : Nat) (w : World) (hl : Rd w 1 A n (intsV l)) (hk : Rd w 1 B m (intsV k)) (hn : n ≤ 100000000) (hm : m ≤ 100000000) (r : Bool) (hr : decide (l = k) = r) :
    Calls Tryd.prog 28 #[.slice A n c, .slice B m d] w fun e w' => e = .returned (.bool r) ∧ Ext w w' := by
  have hln := hl.len_ints
  have hkn := hk.len_ints
  have HR := Lib.hid hr
  have HL := Lib.hid hl
  have HK := Lib.hid hk
  have HLN := Lib.hid hln
  have HKN := Lib.hid hkn
  clear hr hl hk hln hkn
  by_cases hnm : n = m
  · subst hnm
    go_enter Tryd.func28, Tryd.ntmps28
    go_wp2
    go_loopw [14] (fun i wr => ∃ j : Nat, j ≤ n ∧ i = .int .i64 j ∧ Ext w wr ∧ l.take j = k.take j) (fun i _ => n - (intOf i).toNat)
    case atStart => exact ⟨0, Nat.zero_le _, rfl, Ext.refl _, by simp⟩
    case round =>
      obtain ⟨j, hj, rfl, hx, ht⟩ := hrel
      by_cases hlt : j < n
      · obtain ⟨x, hxl⟩ : ∃ x, l[j]? = some x := ⟨_, List.getElem?_eq_getElem (by rw [HLN.out]; exact hlt)⟩
        obtain ⟨y, hyk⟩ : ∃ y, k[j]? = some y := ⟨_, List.getElem?_eq_getElem (by rw [HKN.out]; exact hlt)⟩
        obtain ⟨b1, o1, rfl, _, hc1⟩ := (HL.out.keep hx).2 (by have := HLN.out; simp [intsV]; omega)
        obtain ⟨b2, o2, rfl, _, hc2⟩ := (HK.out.keep hx).2 (by have := HKN.out; simp [intsV]; omega)
        have p1 : wr.cell? ⟨b1, o1 + j, none⟩ = some (.int .i64 x) := hc1 j _ (by simp [intsV, hxl])
        have p2 : wr.cell? ⟨b2, o2 + j, none⟩ = some (.int .i64 y) := hc2 j _ (by simp [intsV, hyk])
        have HXL := Lib.hid hxl
        have HYK := Lib.hid hyk
        have HT := Lib.hid ht
        clear hc1 hc2 hxl hyk ht
        by_cases hxy : x = y
        · subst hxy
          have ht2 : l.take (j + 1) = k.take (j + 1) := by rw [List.take_add_one, List.take_add_one, HT.out, HXL.out, HYK.out]
          have HT2 := Lib.hid ht2
          clear ht2
          go_wp2
          go_roundw
          case rel => exact ⟨j + 1, hlt, by go_num, hx, HT2.out⟩
          case measure => simp [intOf]; omega
        · have hf : r = false := by
            rw [← HR.out, decide_eq_false]
            intro e
            have := HXL.out
            rw [e, HYK.out] at this
            exact hxy (Option.some.inj this).symm
          have hb : (x == y) = false := by simpa using hxy
          have HF := Lib.hid hf
          clear hf hxy
          go_wp2
          go_ret
          exact ⟨by rw [HF.out]; simp, hx⟩
      · obtain rfl : j = n := by omega
        have ht' : r = true := by
          rw [← HR.out, decide_eq_true]
          rw [List.take_of_length_le (by rw [HLN.out]; exact Nat.le_refl _), List.take_of_length_le (by rw [HKN.out]; exact Nat.le_refl _)] at ht
          exact ht
        have HT := Lib.hid ht'
        clear ht' ht
        go_wp2
        go_ret
        exact ⟨by rw [HT.out]; simp, hx⟩
  · have hf : r = false := by
      rw [← HR.out, decide_eq_false]
      intro e; rw [e] at HLN; have := HLN.out; have := HKN.out; omega
    have hb : ((n : Int) == (m : Int)) = false := by simp; omega
    have HF := Lib.hid hf
    clear hf hnm
    go_enter Tryd.func28, Tryd.ntmps28
    go_wp2
    go_ret
    exact ⟨by rw [HF.out]; simp, Ext.refl _⟩
end Go.Proofs.YtdhmfgaiomfodaaDoor
