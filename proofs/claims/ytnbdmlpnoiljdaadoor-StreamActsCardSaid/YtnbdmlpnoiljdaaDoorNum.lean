/- truchmannum: a copy with room behind it; is it as it was? -/
import Derived.Test.YtnbdmlpnoiljdaaDoorElem
namespace Go.Proofs.YtnbdmlpnoiljdaaDoor
open Go.RowKit

set_option maxHeartbeats 400000 in
theorem numBytes (l : List UInt8) (A : Option Addr) (n c : Nat) (w : World) (hn : n ≤ 1000000) (hr : Rd w 1 A n (bytesV l)) :
    Calls Tryd.prog 64 #[.slice A n c] w fun e w' => e = .returned (.slice (some ⟨w.heap.size, 0, none⟩) n (n + 5)) ∧ Blk w' w.heap.size 5 (bytesV l ++ List.replicate 5 (U8 90)) ∧ Below w.heap.size w w' := by
  go_enter Tryd.func64, Tryd.ntmps64
  go_wp2_with (first
    | (at_make; refine wpList_mk1 Tryd.elemB rfl rfl (.tmp 6) (.tmp 9) rfl (n := n) (cap := n + 5) rfl rfl rfl rfl (by omega) (by omega) (by unfold maxLen; omega) ?_; intro w1 hB0 hb0)
    | (with_reducible refine wpList_cp (o := ⟨some 13, _, _, _, _, _⟩) (dp := some ⟨w.heap.size, 0, none⟩) (dLen := n) (dCap := n + 5) (off := 0) Tryd.elemB rfl (.tmp 11) (.tmp 12) rfl rfl hB0 (fun _ => rfl) (by simp) rfl (hr.keep hb0) (one_bytesV l) hb0 (Nat.le_refl _) ?_; intro w2 hB1 hb1; have HB1 := Lib.hid hB1; clear hB0 hb0 hB1))
  have hB1 := HB1.out
  have hcs : splice (List.replicate (n + 5) (Value.int .u8 0)) 0 ((bytesV l).take n) = bytesV l ++ (List.replicate 0 (U8 90) ++ List.replicate (5 - 0) (U8 0)) := by
    have hl : l.length = n := by simpa [bytesV] using hr.1
    subst hl
    rw [List.take_of_length_le (by simp [bytesV])]
    simp [splice, bytesV, U8]
  rw [hcs] at hB1
  clear HB1 hcs
  go_loopw [22] (fun i wr => ∃ k : Nat, k ≤ 5 ∧ i = .int .i64 k ∧ Blk wr w.heap.size 5 (bytesV l ++ (List.replicate k (U8 90) ++ List.replicate (5 - k) (U8 0))) ∧ Below w.heap.size w wr) (fun i _ => 5 - (intOf i).toNat)
  case atStart => exact ⟨0, by omega, rfl, hB1, hb1⟩
  case round =>
    obtain ⟨k, hk, rfl, hB, hb⟩ := hrel
    by_cases hlt : k < 5
    · have hl : l.length = n := by simpa [bytesV] using hr.1
      obtain ⟨x, hc⟩ := hB.some_ (i := n + k) (by simp [bytesV]; omega)
      have hf := hB.frozen (n + k)
      have hset := hB.set_ (n + k) (.int .u8 90)
      rw [List.set_append_right _ _ (by simp [bytesV]; omega), show n + k - (bytesV l).length = k by simp [bytesV]; omega, show Value.int .u8 90 = U8 90 from rfl, rep_set 5 k _ _ hlt] at hset
      have HB := Lib.hid hset
      have HL := Lib.hid hl
      clear hset hB hB1 hl
      go_wp2
      go_roundw
      case rel => exact ⟨k + 1, by omega, by go_num, HB.out, hb.setCell (Nat.le_refl _) _⟩
      case measure => simp [intOf]; omega
    · obtain rfl : k = 5 := by omega
      go_wp2
      go_ret
      exact ⟨rfl, by simpa using hB, hb⟩

set_option maxHeartbeats 400000 in
theorem numKept (l : List UInt8) (A : Option Addr) (n c g : Nat) (w : World) (hn : n ≤ 1000000) (hr : Rd w 1 A n (bytesV l)) (hB : Blk w g 5 (bytesV l ++ List.replicate 5 (U8 90))) :
    Calls Tryd.prog 66 #[.slice (some ⟨g, 0, none⟩) n (n + 5), .slice A n c] w fun e w' => e = .returned (.bool true) ∧ w = w' := by
  have hl : l.length = n := by simpa [bytesV] using hr.1
  go_enter Tryd.func66, Tryd.ntmps66
  go_wp2
  go_loop [18] (fun i => ∃ k : Nat, k ≤ n + 5 ∧ i = .int .i64 k) (fun i => n + 5 - (intOf i).toNat)
  case atStart => exact ⟨0, by omega, rfl⟩
  case round =>
    obtain ⟨k, hk, rfl⟩ := hrel
    by_cases hlt : k < n
    · obtain ⟨b, o, rfl, _, hcell⟩ := hr.2 (by simp [bytesV]; omega)
      obtain ⟨x, h1, h2⟩ : ∃ x : UInt8, w.cell? ⟨b, o + k, none⟩ = some (U8 x) ∧ w.cell? ⟨g, k, none⟩ = some (U8 x) := by
        refine ⟨l[k]'(by omega), hcell k _ (by simp [bytesV, show k < l.length by omega]), ?_⟩
        rw [hB.cell, List.getElem?_append_left (by simp [bytesV]; omega)]; simp [bytesV, show k < l.length by omega]
      unfold U8 at h1 h2
      have HL := Lib.hid hl
      clear hl
      go_wp2
      go_round
      case rel => exact ⟨k + 1, by omega, by go_num⟩
      case measure => simp [intOf]; omega
    · by_cases hlt5 : k < n + 5
      · have h2 : w.cell? ⟨g, k, none⟩ = some (.int .u8 90) := by
          rw [hB.cell, List.getElem?_append_right (by simp [bytesV]; omega), List.getElem?_replicate, if_pos (by simp [bytesV]; omega)]; rfl
        have HL := Lib.hid hl
        clear hl
        go_wp2
        go_round
        case rel => exact ⟨k + 1, by omega, by go_num⟩
        case measure => simp [intOf]; omega
      · obtain rfl : k = n + 5 := by omega
        go_wp2
        go_ret
        exact ⟨rfl, rfl⟩
end Go.Proofs.YtnbdmlpnoiljdaaDoor
