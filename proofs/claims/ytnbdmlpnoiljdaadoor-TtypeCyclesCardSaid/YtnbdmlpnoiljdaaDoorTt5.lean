/- layer 13: few texts, the same texts, lists that are gathered. -/
import Derived.Test.YtnbdmlpnoiljdaaDoorTt3
import Derived.Shelf.Slices.Clone
namespace Go.Proofs.YtnbdmlpnoiljdaaDoor
open Go Go.RowKit

/-- Few texts, none of them long. -/
def fewB (T : List (List UInt8)) (many most : Nat) : Bool := decide (T.length ≤ many) && T.all fun t => decide (t.length ≤ most)
theorem few_succ (T : List (List UInt8)) (most k : Nat) (h : k < T.length) : (T.take (k + 1)).all (fun t => decide (t.length ≤ most)) = ((T.take k).all (fun t => decide (t.length ≤ most)) && decide (T[k].length ≤ most)) := by
  rw [List.take_succ_eq_append_getElem h, List.all_append]; simp
theorem rd_at_strs {w : World} {b o n : Nat} {T : List (List UInt8)} (h : Rd w 1 (some ⟨b, o, none⟩) n (strsV T)) {k : Nat} {t : List UInt8} (ht : T[k]? = some t) : w.cell? ⟨b, o + k, none⟩ = some (.string ⟨t.toArray⟩) := by
  have hk : k < T.length := (List.getElem?_eq_some_iff.1 ht).1
  obtain ⟨b', o', e, _, hc⟩ := h.2 (by simp [strsV]; omega)
  cases e
  exact hc k _ (by simp [strsV, ht, strV])

set_option maxHeartbeats 1000000 in
theorem numFew (T : List (List UInt8)) (many most : Nat) (hmany : many ≤ 1000000) (_hmost : most ≤ 1000000) (A : Option Addr) (n c : Nat) (w : World) (hr : Rd w 1 A n (strsV T)) (hn : n ≤ maxLen) (hl : ∀ t ∈ T, t.length ≤ maxLen) (r : Bool) (hrb : fewB T many most = r) :
    Calls Tryd.prog 10 #[.slice A n c, .int .i64 many, .int .i64 most] w fun e w' => e = .returned (.bool r) ∧ w = w' := by
  have hlen := hr.len_strs
  unfold maxLen at hn
  by_cases hm : many < n
  · have hf : r = false := by
      rw [← hrb]; unfold fewB; rw [decide_eq_false (by omega)]; rfl
    have HF := Lib.hid hf
    clear hf hrb hr hlen
    go_enter Tryd.func10, Tryd.ntmps10
    go_wp2
    go_ret
    exact ⟨by rw [HF.out]; simp, rfl⟩
  have hR := Lib.hid hr
  have HR := Lib.hid hrb
  have HL := Lib.hid hl
  have HLN := Lib.hid hlen
  clear hr hrb hl hlen
  go_enter Tryd.func10, Tryd.ntmps10
  go_wp2
  go_loop [15] (fun i => ∃ k : Nat, k ≤ n ∧ i = .int .i64 k ∧ (T.take k).all (fun t => decide (t.length ≤ most)) = true) (fun i => n - (intOf i).toNat)
  case atStart => exact ⟨0, Nat.zero_le _, rfl, by simp⟩
  case round =>
    obtain ⟨k, hk, rfl, hall⟩ := hrel
    have HALL := Lib.hid hall
    clear hall
    by_cases hlt : k < n
    · have hkT : k < T.length := by rw [HLN.out]; exact hlt
      obtain ⟨t, ht⟩ : ∃ t, T[k] = t := ⟨_, rfl⟩
      have ht? : T[k]? = some t := by rw [List.getElem?_eq_getElem hkT, ht]
      obtain ⟨b, o, rfl, _, _⟩ := hR.out.2 (by simp [strsV]; omega)
      have hcell := rd_at_strs hR.out ht?
      have htl : t.length ≤ maxLen := HL.out t (ht ▸ List.getElem_mem hkT)
      unfold maxLen at htl
      have hsuc := few_succ T most k hkT
      rw [HALL.out, ht, Bool.true_and] at hsuc
      have HSU := Lib.hid hsuc
      clear hsuc ht ht?
      by_cases hbig : most < t.length
      · have hf : r = false := by
          have h2 := HSU.out
          rw [decide_eq_false (by omega), List.all_eq_false] at h2
          obtain ⟨x, hx, h3⟩ := h2
          rw [← HR.out]; unfold fewB
          have : (T.all fun t => decide (t.length ≤ most)) = false := List.all_eq_false.2 ⟨x, List.mem_of_mem_take hx, h3⟩
          rw [this]; simp
        have HF := Lib.hid hf
        clear hf
        go_wp2
        go_ret
        exact ⟨by rw [HF.out]; simp, rfl⟩
      · go_wp2
        go_round
        case rel => exact ⟨k + 1, hlt, by go_num, by rw [HSU.out]; simp; omega⟩
        case measure => simp [intOf]; omega
    · obtain rfl : k = n := by omega
      have ht : r = true := by
        have := HALL.out
        rw [List.take_of_length_le (by rw [HLN.out]; exact Nat.le_refl _)] at this
        rw [← HR.out]; unfold fewB; rw [this, HLN.out]; simp; omega
      have HT := Lib.hid ht
      clear ht
      go_wp2
      go_ret
      exact ⟨by rw [HT.out]; simp, rfl⟩

set_option maxHeartbeats 1000000 in
theorem numSame (X Y : List (List UInt8)) (A B : Option Addr) (n c m d : Nat) (w : World) (hx : Rd w 1 A n (strsV X)) (hy : Rd w 1 B m (strsV Y)) (hn : n ≤ 1000000) (hm : m ≤ 1000000) (hXY : X = Y) :
    Calls Tryd.prog 14 #[.slice A n c, .slice B m d] w fun e w' => e = .returned (.bool true) ∧ w = w' := by
  subst hXY
  have hnm : n = m := hx.len_strs.symm.trans hy.len_strs
  subst hnm
  have HX := Lib.hid hx
  have HY := Lib.hid hy
  clear hx hy
  go_enter Tryd.func14, Tryd.ntmps14
  go_wp2
  go_loop [14] (fun i => ∃ k : Nat, k ≤ n ∧ i = .int .i64 k) (fun i => n - (intOf i).toNat)
  case atStart => exact ⟨0, Nat.zero_le _, rfl⟩
  case round =>
    obtain ⟨k, hk, rfl⟩ := hrel
    by_cases hlt : k < n
    · have hkT : k < X.length := by rw [HX.out.len_strs]; exact hlt
      obtain ⟨t, ht⟩ : ∃ t, X[k]? = some t := ⟨_, List.getElem?_eq_getElem hkT⟩
      obtain ⟨b, o, rfl, _, _⟩ := HX.out.2 (by simp [strsV]; omega)
      obtain ⟨b2, o2, rfl, _, _⟩ := HY.out.2 (by simp [strsV]; omega)
      have c1 := rd_at_strs HX.out ht
      have c2 := rd_at_strs HY.out ht
      clear ht hkT
      go_wp2
      go_round
      case rel => exact ⟨k + 1, hlt, by go_num⟩
      case measure => simp [intOf]; omega
    · obtain rfl : k = n := by omega
      go_wp2
      go_ret
      exact ⟨rfl, rfl⟩

set_option maxHeartbeats 400000 in
theorem strsClone (l : List (List UInt8)) (A : Option Addr) (n c : Nat) (w : World) (hr : Rd w 1 A n (strsV l)) (hn : n ≤ 1000000) :
    Calls Tryd.prog 53 #[.slice A n c] w fun e w' => ∃ v, e = .returned v ∧ w'.ownsRow w.heap.size 9 1 v l.length (strsV l) ∧ Ext w w' := by
  have hl := hr.len_strs
  cases A with
  | none =>
    have h0 : l = [] := by
      by_cases h : 0 < l.length
      · obtain ⟨b, o, e, _⟩ := hr.2 (by simpa [strsV] using h); cases e
      · exact List.eq_nil_of_length_eq_zero (by omega)
    subst h0
    simp at hl
    subst hl
    have hne := fun w => Lib.run_eql_slice_nil (P := Tryd.prog) w 22 9 none 0 c 0 0 Tryd.underlying22
    go_enter Tryd.func53, Tryd.ntmps53
    go_wp2
    go_ret
    exact ⟨_, rfl, World.ownsRow_nil _ _ _ _, Ext.refl _⟩
  | some a =>
    have hne := fun w => Lib.run_eql_slice_nil (P := Tryd.prog) w 22 9 (some a) n c 0 0 Tryd.underlying22
    have HL := Lib.hid hl
    clear hl
    go_enter Tryd.func53, Tryd.ntmps53
    go_wp2_with (at_builtin; refine wpList_app2 Tryd.elemS rfl (.tmp 5) (.tmp 6) rfl (v := .slice (some ⟨w.heap.size, 0, none⟩) 0 0) (n := 0) rfl (own_empty w 9 1) (by simp) rfl (hr.keep (Ext.new1 _ _)) (one_strsV _) (by omega) (by unfold maxLen; omega) ?_; intro v1 w1 hown1 hg1 _ _; have hb1 := hg1.below ((Below.refl w.heap.size w).alloc (Nat.le_refl _) _) (Nat.le_refl _) (by simp); clear hg1)
    go_ret
    refine ⟨_, rfl, ?_, hb1⟩
    rw [HL.out]
    simpa using hown1
end Go.Proofs.YtnbdmlpnoiljdaaDoor
