/- Places in memory: slices of bool. Clone, Equal of them; Contains, SameInts of ints. -/
import Derived.Test.YtmfdnjddggaeaaaDoorTgA
import Derived.BigQuiet
import Derived.BigRegion
namespace Go.Proofs.YtmfdnjddggaeaaaDoor
open Go Go.RowKit

theorem Tryd.elemPl : Elem Tryd.prog 133 4 (.bool false) 1 1 := ⟨Tryd.underlying133, by kernel_rfl, rfl, by omega⟩
theorem one_boolsV (l : List Bool) : ∀ u ∈ boolsV l, u.oneCell' = true := by
  intro u hu; obtain ⟨_, _, rfl⟩ := List.mem_map.1 hu; rfl
theorem boolsV_len (l : List Bool) : (boolsV l).length = l.length := by simp [boolsV]
theorem boolsV_get (l : List Bool) (i : Nat) : (boolsV l)[i]? = (l[i]?).map Value.bool := by simp [boolsV]
theorem boolsV_set (l : List Bool) (i : Nat) (b : Bool) : (boolsV l).set i (.bool b) = boolsV (l.set i b) := by simp [boolsV, List.map_set]
/-- A slice that holds these. -/
def PlV (w : World) (v : Value) (p : List Bool) : Prop := ∃ A c, v = .slice A p.length c ∧ p.length ≤ c ∧ c ≤ maxLen ∧ Rd w 1 A p.length (boolsV p)
theorem PlV.keep {w w' : World} {v : Value} {p : List Bool} (h : PlV w v p) (hx : Ext w w') : PlV w' v p := by
  obtain ⟨A, c, h1, h2, h3, h4⟩ := h
  exact ⟨A, c, h1, h2, h3, h4.keep hx⟩
theorem plv_blk {w : World} {g : Nat} {p : List Bool} {rest : List Value} {c : Nat} (h : Blk w g 4 (boolsV p ++ rest)) (hc : p.length ≤ c) (hm : c ≤ maxLen) : PlV w (.slice (some ⟨g, 0, none⟩) p.length c) p := by
  refine ⟨_, c, rfl, hc, hm, ?_⟩
  have := h.rd (n := p.length) (size := 1) 0 (by simp [boolsV])
  simpa [boolsV] using this
/-- An own row is a block that begins so. -/
theorem own_blk {w : World} {base : Nat} {v : Value} {p : List Bool} (h : w.ownsRow base 4 1 v p.length (boolsV p)) (hp : 0 < p.length) : ∃ g c rest, v = .slice (some ⟨g, 0, none⟩) p.length c ∧ base ≤ g ∧ p.length ≤ c ∧ c ≤ maxLen ∧ Blk w g 4 (boolsV p ++ rest) := by
  obtain ⟨hl, h⟩ := h
  rcases h with ⟨rfl, h0⟩ | ⟨g, cap, cur, rfl, hb, hg, hnc, hcm, hcs, ht⟩
  · omega
  · refine ⟨g, cap, cur.toList.drop (p.length * 1), rfl, hb, hnc, hcm, ?_⟩
    unfold Blk
    rw [hg, ← ht, List.take_append_drop]

set_option maxHeartbeats 400000 in
theorem plClone (p : List Bool) (A : Option Addr) (n c : Nat) (w : World) (hr : Rd w 1 A n (boolsV p)) (hn : n ≤ 10000000) :
    Calls Tryd.prog 103 #[.slice A n c] w fun e w' => ∃ v, e = .returned v ∧ w'.ownsRow w.heap.size 4 1 v p.length (boolsV p) ∧ Ext w w' := by
  have hl := hr.len_bools
  cases A with
  | none =>
    have h0 : p = [] := by
      by_cases h : 0 < p.length
      · obtain ⟨b, o, e, _⟩ := hr.2 (by simpa [boolsV] using h); cases e
      · exact List.eq_nil_of_length_eq_zero (by omega)
    subst h0
    simp at hl
    subst hl
    have hne := fun w => Lib.run_eql_slice_nil (P := Tryd.prog) w 133 4 none 0 c 0 0 Tryd.underlying133
    go_enter Tryd.func103, Tryd.ntmps103
    go_wp2
    go_ret
    exact ⟨_, rfl, World.ownsRow_nil _ _ _ _, Ext.refl _⟩
  | some a =>
    have hne := fun w => Lib.run_eql_slice_nil (P := Tryd.prog) w 133 4 (some a) n c 0 0 Tryd.underlying133
    have HL := Lib.hid hl
    clear hl
    go_enter Tryd.func103, Tryd.ntmps103
    go_wp2_with (at_builtin; refine wpList_app2 Tryd.elemPl rfl (.tmp 5) (.tmp 6) rfl (v := .slice (some ⟨w.heap.size, 0, none⟩) 0 0) (n := 0) rfl (own_empty w 4 1) (by simp) rfl (hr.keep (Ext.new1 _ _)) (one_boolsV _) (by omega) (by unfold maxLen; omega) ?_; intro v1 w1 hown1 hg1 _ _; have hb1 := hg1.below ((Below.refl w.heap.size w).alloc (Nat.le_refl _) _) (Nat.le_refl _) (by simp); clear hg1)
    go_ret
    refine ⟨_, rfl, ?_, hb1⟩
    rw [HL.out]
    simpa using hown1

set_option maxHeartbeats 1000000 in
set_option maxRecDepth 20000 in
theorem plEqual (l k : List Bool) (A B : Option Addr) (n c m d : Nat) (w : World) (hl : Rd w 1 A n (boolsV l)) (hk : Rd w 1 B m (boolsV k)) (hn : n ≤ 100000000) (hm : m ≤ 100000000) (r : Bool) (hr : decide (l = k) = r) :
    Calls Tryd.prog 104 #[.slice A n c, .slice B m d] w fun e w' => e = .returned (.bool r) ∧ Ext w w' := by
  have hln := hl.len_bools
  have hkn := hk.len_bools
  have HR := Lib.hid hr
  have HL := Lib.hid hl
  have HK := Lib.hid hk
  have HLN := Lib.hid hln
  have HKN := Lib.hid hkn
  clear hr hl hk hln hkn
  by_cases hnm : n = m
  · subst hnm
    go_enter Tryd.func104, Tryd.ntmps104
    go_wp2
    go_loopw [13] (fun i wr => ∃ j : Nat, j ≤ n ∧ i = .int .i64 j ∧ Ext w wr ∧ l.take j = k.take j) (fun i _ => n - (intOf i).toNat)
    case atStart => exact ⟨0, Nat.zero_le _, rfl, Ext.refl _, by simp⟩
    case round =>
      obtain ⟨j, hj, rfl, hx, ht⟩ := hrel
      by_cases hlt : j < n
      · obtain ⟨x, hxl⟩ : ∃ x, l[j]? = some x := ⟨_, List.getElem?_eq_getElem (by rw [HLN.out]; exact hlt)⟩
        obtain ⟨y, hyk⟩ : ∃ y, k[j]? = some y := ⟨_, List.getElem?_eq_getElem (by rw [HKN.out]; exact hlt)⟩
        obtain ⟨b1, o1, rfl, _, hc1⟩ := (HL.out.keep hx).2 (by have := HLN.out; simp [boolsV]; omega)
        obtain ⟨b2, o2, rfl, _, hc2⟩ := (HK.out.keep hx).2 (by have := HKN.out; simp [boolsV]; omega)
        have p1 : wr.cell? ⟨b1, o1 + j, none⟩ = some (.bool x) := hc1 j _ (by simp [boolsV, hxl])
        have p2 : wr.cell? ⟨b2, o2 + j, none⟩ = some (.bool y) := hc2 j _ (by simp [boolsV, hyk])
        have HXL := Lib.hid hxl
        have HYK := Lib.hid hyk
        have HT := Lib.hid ht
        clear hc1 hc2 hxl hyk ht
        by_cases hxy : x = y
        · subst hxy
          have ht2 : l.take (j + 1) = k.take (j + 1) := by rw [List.take_add_one, List.take_add_one, HT.out, HXL.out, HYK.out]
          have HT2 := Lib.hid ht2
          clear ht2
          go_wp2
          go_quiet (fail)
          go_wp2
          go_roundw
          case rel => exact ⟨j + 1, hlt, by go_num, hx.trans (Ext.drawn _ _), HT2.out⟩
          case measure => simp [intOf]; omega
        · have hf : r = false := by
            rw [← HR.out, decide_eq_false]
            intro e
            have := HXL.out
            rw [e, HYK.out] at this
            exact hxy (Option.some.inj this).symm
          have hb : (x == y) = false := by simpa using hxy
          have HF := Lib.hid hf
          clear hf hxy
          go_wp2
          go_quiet (fail)
          go_wp2
          go_ret
          exact ⟨by rw [HF.out]; simp, hx.trans (Ext.drawn _ _)⟩
      · obtain rfl : j = n := by omega
        have ht' : r = true := by
          rw [← HR.out, decide_eq_true]
          rw [List.take_of_length_le (by rw [HLN.out]; exact Nat.le_refl _), List.take_of_length_le (by rw [HKN.out]; exact Nat.le_refl _)] at ht
          exact ht
        have HT := Lib.hid ht'
        clear ht' ht
        go_wp2
        go_ret
        exact ⟨by rw [HT.out]; rfl, hx⟩
  · have hf : r = false := by
      rw [← HR.out, decide_eq_false]
      intro e; rw [e] at HLN; have := HLN.out; have := HKN.out; omega
    have hb : ((n : Int) == (m : Int)) = false := by simp; omega
    have HF := Lib.hid hf
    clear hf hnm
    go_enter Tryd.func104, Tryd.ntmps104
    go_wp2
    go_ret
    exact ⟨by rw [HF.out]; rfl, Ext.refl _⟩

set_option maxHeartbeats 1000000 in
set_option maxRecDepth 20000 in
theorem intsIndex (l : List Int) (x : Int) (A : Option Addr) (n c : Nat) (w : World) (hl : Rd w 1 A n (intsV l)) (hn : n ≤ 100000000) :
    Calls Tryd.prog 92 #[.slice A n c, .int .i64 x] w fun e w' => ∃ r : Int, e = .returned (.int .i64 r) ∧ decide (r ≥ 0) = decide (x ∈ l) ∧ Ext w w' := by
  have hln := hl.len_ints
  have HL := Lib.hid hl
  have HLN := Lib.hid hln
  clear hl hln
  go_enter Tryd.func92, Tryd.ntmps92
  go_wp2
  go_loopw [8] (fun i wr => ∃ j : Nat, j ≤ n ∧ i = .int .i64 j ∧ Ext w wr ∧ x ∉ l.take j) (fun i _ => n - (intOf i).toNat)
  case atStart => exact ⟨0, Nat.zero_le _, rfl, Ext.refl _, by simp⟩
  case round =>
    obtain ⟨j, hj, rfl, hx, ht⟩ := hrel
    by_cases hlt : j < n
    · obtain ⟨y, hyl⟩ : ∃ y, l[j]? = some y := ⟨_, List.getElem?_eq_getElem (by rw [HLN.out]; exact hlt)⟩
      obtain ⟨b1, o1, rfl, _, hc1⟩ := (HL.out.keep hx).2 (by have := HLN.out; simp [intsV]; omega)
      have p1 : wr.cell? ⟨b1, o1 + j, none⟩ = some (.int .i64 y) := hc1 j _ (by simp [intsV, hyl])
      have HYL := Lib.hid hyl
      have HT := Lib.hid ht
      clear hc1 hyl ht
      by_cases hxy : x = y
      · subst hxy
        have hm := Lib.hid (show x ∈ l from List.mem_of_getElem? HYL.out)
        go_wp2
        go_ret
        exact ⟨_, rfl, by rw [decide_eq_true hm.out]; simp, hx⟩
      · have hb : (x == y) = false := by simpa using hxy
        have ht2 : x ∉ l.take (j + 1) := by
          rw [List.take_add_one, HYL.out]
          intro h
          rcases List.mem_append.1 h with h | h
          · exact HT.out h
          · simp at h; exact hxy h
        have HT2 := Lib.hid ht2
        clear ht2 hxy
        go_wp2
        go_roundw
        case rel => exact ⟨j + 1, hlt, by go_num, hx, HT2.out⟩
        case measure => simp [intOf]; omega
    · obtain rfl : j = n := by omega
      have hm := Lib.hid (show x ∉ l by rw [List.take_of_length_le (by rw [HLN.out]; exact Nat.le_refl _)] at ht; exact ht)
      clear ht
      go_wp2
      go_ret
      exact ⟨_, rfl, by rw [decide_eq_false hm.out]; simp, hx⟩

set_option maxHeartbeats 1000000 in
theorem intsContains (l : List Int) (x : Int) (A : Option Addr) (n c : Nat) (w : World) (hl : Rd w 1 A n (intsV l)) (hn : n ≤ 100000000) :
    Calls Tryd.prog 79 #[.slice A n c, .int .i64 x] w fun e w' => e = .returned (.bool (decide (x ∈ l))) ∧ Ext w w' := by
  go_enter Tryd.func79, Tryd.ntmps79
  go_wp2_with (go_at_call 92; refine (intsIndex l x A n c _ hl hn).mono ?_; rintro e w1 ⟨r, rfl, hrd, hx1⟩; have HRD := Lib.hid hrd; clear hrd)
  go_ret
  exact ⟨by rw [← HRD.out]; rfl, hx1⟩

set_option maxHeartbeats 1000000 in
set_option maxRecDepth 20000 in
theorem sameInts (l k : List Int) (A B : Option Addr) (n c m d : Nat) (w : World) (hl : Rd w 1 A n (intsV l)) (hk : Rd w 1 B m (intsV k)) (hn : n ≤ 100000000) (hm : m ≤ 100000000) (r : Bool) (hr : decide (l = k) = r) :
    Calls Tryd.prog 24 #[.slice A n c, .slice B m d] w fun e w' => e = .returned (.bool r) ∧ Ext w w' := by
  have hln := hl.len_ints
  have hkn := hk.len_ints
  have HR := Lib.hid hr
  have HL := Lib.hid hl
  have HK := Lib.hid hk
  have HLN := Lib.hid hln
  have HKN := Lib.hid hkn
  clear hr hl hk hln hkn
  by_cases hnm : n = m
  · subst hnm
    go_enter Tryd.func24, Tryd.ntmps24
    go_wp2
    go_loopw [14] (fun i wr => ∃ j : Nat, j ≤ n ∧ i = .int .i64 j ∧ Ext w wr ∧ l.take j = k.take j) (fun i _ => n - (intOf i).toNat)
    case atStart => exact ⟨0, Nat.zero_le _, rfl, Ext.refl _, by simp⟩
    case round =>
      obtain ⟨j, hj, rfl, hx, ht⟩ := hrel
      by_cases hlt : j < n
      · obtain ⟨x, hxl⟩ : ∃ x, l[j]? = some x := ⟨_, List.getElem?_eq_getElem (by rw [HLN.out]; exact hlt)⟩
        obtain ⟨y, hyk⟩ : ∃ y, k[j]? = some y := ⟨_, List.getElem?_eq_getElem (by rw [HKN.out]; exact hlt)⟩
        obtain ⟨b1, o1, rfl, _, hc1⟩ := (HL.out.keep hx).2 (by have := HLN.out; simp [intsV]; omega)
        obtain ⟨b2, o2, rfl, _, hc2⟩ := (HK.out.keep hx).2 (by have := HKN.out; simp [intsV]; omega)
        have p1 : wr.cell? ⟨b1, o1 + j, none⟩ = some (.int .i64 x) := hc1 j _ (by simp [intsV, hxl])
        have p2 : wr.cell? ⟨b2, o2 + j, none⟩ = some (.int .i64 y) := hc2 j _ (by simp [intsV, hyk])
        have HXL := Lib.hid hxl
        have HYK := Lib.hid hyk
        have HT := Lib.hid ht
        clear hc1 hc2 hxl hyk ht
        by_cases hxy : x = y
        · subst hxy
          have ht2 : l.take (j + 1) = k.take (j + 1) := by rw [List.take_add_one, List.take_add_one, HT.out, HXL.out, HYK.out]
          have HT2 := Lib.hid ht2
          clear ht2
          go_wp2
          go_roundw
          case rel => exact ⟨j + 1, hlt, by go_num, hx, HT2.out⟩
          case measure => simp [intOf]; omega
        · have hf : r = false := by
            rw [← HR.out, decide_eq_false]
            intro e
            have := HXL.out
            rw [e, HYK.out] at this
            exact hxy (Option.some.inj this).symm
          have hb : (x == y) = false := by simpa using hxy
          have HF := Lib.hid hf
          clear hf hxy
          go_wp2
          go_ret
          exact ⟨by rw [HF.out]; simp, hx⟩
      · obtain rfl : j = n := by omega
        have ht' : r = true := by
          rw [← HR.out, decide_eq_true]
          rw [List.take_of_length_le (by rw [HLN.out]; exact Nat.le_refl _), List.take_of_length_le (by rw [HKN.out]; exact Nat.le_refl _)] at ht
          exact ht
        have HT := Lib.hid ht'
        clear ht' ht
        go_wp2
        go_ret
        exact ⟨by rw [HT.out]; simp, hx⟩
  · have hf : r = false := by
      rw [← HR.out, decide_eq_false]
      intro e; rw [e] at HLN; have := HLN.out; have := HKN.out; omega
    have hb : ((n : Int) == (m : Int)) = false := by simp; omega
    have HF := Lib.hid hf
    clear hf hnm
    go_enter Tryd.func24, Tryd.ntmps24
    go_wp2
    go_ret
    exact ⟨by rw [HF.out]; simp, Ext.refl _⟩
end Go.Proofs.YtmfdnjddggaeaaaDoor
