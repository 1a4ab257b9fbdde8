/- layer 8: Decode of the program, and Behind. -/
import Derived.Test.YtcdmjkhkgfegjaaNvt4
namespace Go.Proofs.Ytcdmjkhkgfegjaa
open Go.RowKit

set_option maxHeartbeats 400000 in
theorem nvtBehind (b : Nat) (w : World) (beh : Bool) (hc : w.cell? ⟨b, 0, none⟩ = some (.bool beh)) :
    Calls Try.prog 15 #[.pointer (some ⟨b, 0, none⟩)] w fun e w' => e = .returned (.bool beh) ∧ w = w' := by
  go_enter Try.func15, Try.ntmps15
  go_wp2
  go_ret
  exact ⟨rfl, rfl⟩

/-- All bytes raw, or none. -/
def sameRaw (l : List UInt8) (raw : Bool) : List (UInt8 × Bool) := l.map fun c => (c, raw)
def dTo (l : List UInt8) (raw : Bool) (k : Nat) : List UInt8 := decGo false (sameRaw (l.take k) raw)
def dSt (l : List UInt8) (raw : Bool) (k : Nat) : Bool := decSt false (sameRaw (l.take k) raw)
theorem sameRaw_succ (l : List UInt8) (raw : Bool) (k : Nat) (hk : k < l.length) : sameRaw (l.take (k + 1)) raw = sameRaw (l.take k) raw ++ [(l[k], raw)] := by
  rw [List.take_succ_eq_append_getElem hk]; unfold sameRaw; rw [List.map_append]; rfl
theorem dTo_succ (l : List UInt8) (raw : Bool) (k : Nat) (hk : k < l.length) : dTo l raw (k + 1) = dTo l raw k ++ (bif isGone l[k] raw (dSt l raw k) then [] else [l[k]]) := by
  unfold dTo dSt; rw [sameRaw_succ l raw k hk, decGo_snoc]
theorem dSt_succ (l : List UInt8) (raw : Bool) (k : Nat) (hk : k < l.length) : dSt l raw (k + 1) = isCr l[k] raw := by
  unfold dSt; rw [sameRaw_succ l raw k hk, decSt_snoc]
theorem dTo_len (l : List UInt8) (raw : Bool) (k : Nat) : (dTo l raw k).length ≤ k := by
  have := decGo_len false (sameRaw (l.take k) raw)
  have h2 : (sameRaw (l.take k) raw).length ≤ k := by unfold sameRaw; rw [List.length_map, List.length_take]; omega
  unfold dTo; omega
theorem dTo_all (l : List UInt8) (raw : Bool) : dTo l raw l.length = dec l (List.replicate l.length raw) := by
  unfold dTo dec
  rw [List.take_length]
  congr 1
  unfold sameRaw
  apply List.ext_getElem? 
  intro i
  by_cases h : i < l.length
  · simp [h]
  · simp [h]

set_option maxHeartbeats 1000000 in
theorem nvtDecode (l : List UInt8) (raw : Bool) (A : Option Addr) (n c : Nat) (w : World) (hn : n ≤ 2000000) (hr : Rd w 1 A n (bytesV l)) :
    Calls Try.prog 9 #[.slice A n c, .bool raw] w fun e w' => ∃ v, e = .returned v ∧ w'.ownsRow w.heap.size 5 1 v (dec l (List.replicate l.length raw)).length (bytesV (dec l (List.replicate l.length raw))) ∧ Below w.heap.size w w' := by
  have hl := hr.len_bytes
  go_enter Try.func9, Try.ntmps9
  go_wp2
  go_loopw [6, 13] (fun v i wr => ∃ k : Nat, k ≤ n ∧ i = .int .i64 k ∧ wr.ownsRow (w.heap.size + 1) 5 1 v (dTo l raw k).length (bytesV (dTo l raw k)) ∧ Below w.heap.size w wr ∧ w.heap.size + 1 ≤ wr.heap.size ∧
      wr.cell? ⟨w.heap.size, 0, none⟩ = some (.bool (dSt l raw k)) ∧ wr.frozen? ⟨w.heap.size, 0, none⟩ = false)
    (fun _ i _ => n - (intOf i).toNat)
  case atStart => 
    have hB := Blk.new w 36 #[.bool false]
    exact ⟨0, Nat.zero_le _, rfl, World.ownsRow_nil _ _ _ _, (Below.refl _ _).alloc (Nat.le_refl _) _, by simp, by simp [dSt, decSt, sameRaw], hB.frozen 0⟩
  case round =>
    obtain ⟨k, hk, rfl, hown, hb, hs, hcell, hfr⟩ := hrel
    by_cases hlt : k < n
    · obtain ⟨b, o, rfl, HC⟩ := hr.bytes (by omega)
      have hD := dTo_len l raw k
      have hkl : k < l.length := by omega
      have hc1 := HC.out wr hb k hkl
      have DS := Lib.hid (dTo_succ l raw k hkl)
      have DT := Lib.hid (dSt_succ l raw k hkl)
      have HL := Lib.hid hl
      have HR := Lib.hid hr
      clear hr hl
      cases hg : isGone l[k] raw (dSt l raw k)
      all_goals
        have HG := Lib.hid hg
        clear hg
        go_wp2_with (first | (go_at_call 14; refine (nvtNext _ wr _ raw _ hcell hfr).mono ?_; rintro e w1 ⟨rfl, rfl⟩; rw [HG.out]) | (at_builtin; refine wpList_app Try.elemB rfl (.tmp 21) (.tmp 23) rfl (v := u6) rfl ((ownsRow_setCell_below hown (by simp) _).alloc _) (by simp; omega) rfl (rd_at (by simp)) (one_one rfl) (by omega) (by unfold maxLen; omega) ?_; intro v1 w1 hown1 hg1 hk1))
        have hc2 : (wr.setCell ⟨w.heap.size, 0, none⟩ (.bool (isCr l[k] raw))).cell? ⟨w.heap.size, 0, none⟩ = some (.bool (isCr l[k] raw)) := World.cell?_setCell_same _ _ _ hcell
        have hf2 : (wr.setCell ⟨w.heap.size, 0, none⟩ (.bool (isCr l[k] raw))).frozen? ⟨w.heap.size, 0, none⟩ = false := by simpa using hfr
        have hs2 : (wr.setCell ⟨w.heap.size, 0, none⟩ (.bool (isCr l[k] raw))).heap.size = wr.heap.size := by simp
        have hb2 := hb.setCell (p := ⟨w.heap.size, 0, none⟩) (Nat.le_refl _) (.bool (isCr l[k] raw))
        go_roundw
        case rel =>
          first
            | (refine ⟨k + 1, by omega, by go_num, ?_, hg1.below (hb2.alloc (by omega) _) (by omega) (by simp; omega), ?_, ?_, ?_⟩
               · rw [DS.out, HG.out]; simpa [bytesV, U8] using hown1
               · have := hg1.size2; omega
               · rw [DT.out]; exact hg1.cell2 hc2 (by simp) (by omega)
               · exact hg1.frozen2 hf2 (by simp) (by omega))
            | (refine ⟨k + 1, by omega, by go_num, ?_, hb2, ?_, ?_, ?_⟩
               · rw [DS.out, HG.out]; simpa using ownsRow_setCell_below hown (by simp) _
               · omega
               · rw [DT.out]; exact hc2
               · exact hf2)
        case measure => simp [intOf]; omega
    · obtain rfl : k = n := by omega
      go_wp2
      go_ret
      refine ⟨_, rfl, ?_, hb⟩
      rw [← dTo_all, hl]
      exact own_mono hown (Nat.le_succ _)
end Go.Proofs.Ytcdmjkhkgfegjaa
