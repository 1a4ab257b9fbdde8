/- layer 39: what the statements ask first. -/
import Derived.Test.YtnbdmlpnoiljdaaCut12
namespace Go.Proofs.Ytnbdmlpnoiljdaa
open Go Go.RowKit

set_option maxHeartbeats 1000000 in
set_option maxRecDepth 20000 in
theorem sameInts (l k : List Int) (A B : Option Addr) (n c m d : Nat) (w : World) (hl : Rd w 1 A n (intsV l)) (hk : Rd w 1 B m (intsV k)) (hn : n ≤ 100000000) (hm : m ≤ 100000000) (r : Bool) (hr : decide (l = k) = r) :
    Calls Try.prog 16 #[.slice A n c, .slice B m d] w fun e w' => e = .returned (.bool r) ∧ Ext w w' := by
  have hln := hl.len_ints
  have hkn := hk.len_ints
  have HR := Lib.hid hr
  have HL := Lib.hid hl
  have HK := Lib.hid hk
  have HLN := Lib.hid hln
  have HKN := Lib.hid hkn
  clear hr hl hk hln hkn
  by_cases hnm : n = m
  · subst hnm
    go_enter Try.func16, Try.ntmps16
    go_wp2
    go_loopw [14] (fun i wr => ∃ j : Nat, j ≤ n ∧ i = .int .i64 j ∧ Ext w wr ∧ l.take j = k.take j) (fun i _ => n - (intOf i).toNat)
    case atStart => exact ⟨0, Nat.zero_le _, rfl, Ext.refl _, by simp⟩
    case round =>
      obtain ⟨j, hj, rfl, hx, ht⟩ := hrel
      by_cases hlt : j < n
      · obtain ⟨x, hxl⟩ : ∃ x, l[j]? = some x := ⟨_, List.getElem?_eq_getElem (by rw [HLN.out]; exact hlt)⟩
        obtain ⟨y, hyk⟩ : ∃ y, k[j]? = some y := ⟨_, List.getElem?_eq_getElem (by rw [HKN.out]; exact hlt)⟩
        obtain ⟨b1, o1, rfl, _, hc1⟩ := (HL.out.keep hx).2 (by have := HLN.out; simp [intsV]; omega)
        obtain ⟨b2, o2, rfl, _, hc2⟩ := (HK.out.keep hx).2 (by have := HKN.out; simp [intsV]; omega)
        have p1 : wr.cell? ⟨b1, o1 + j, none⟩ = some (.int .i64 x) := hc1 j _ (by simp [intsV, hxl])
        have p2 : wr.cell? ⟨b2, o2 + j, none⟩ = some (.int .i64 y) := hc2 j _ (by simp [intsV, hyk])
        have HXL := Lib.hid hxl
        have HYK := Lib.hid hyk
        have HT := Lib.hid ht
        clear hc1 hc2 hxl hyk ht
        by_cases hxy : x = y
        · subst hxy
          have ht2 : l.take (j + 1) = k.take (j + 1) := by rw [List.take_add_one, List.take_add_one, HT.out, HXL.out, HYK.out]
          have HT2 := Lib.hid ht2
          clear ht2
          go_wp2
          go_roundw
          case rel => exact ⟨j + 1, hlt, by go_num, hx, HT2.out⟩
          case measure => simp [intOf]; omega
        · have hf : r = false := by
            rw [← HR.out, decide_eq_false]
            intro e
            have := HXL.out
            rw [e, HYK.out] at this
            exact hxy (Option.some.inj this).symm
          have hb : (x == y) = false := by simpa using hxy
          have HF := Lib.hid hf
          clear hf hxy
          go_wp2
          go_ret
          exact ⟨by rw [HF.out]; simp, hx⟩
      · obtain rfl : j = n := by omega
        have ht' : r = true := by
          rw [← HR.out, decide_eq_true]
          rw [List.take_of_length_le (by rw [HLN.out]; exact Nat.le_refl _), List.take_of_length_le (by rw [HKN.out]; exact Nat.le_refl _)] at ht
          exact ht
        have HT := Lib.hid ht'
        clear ht' ht
        go_wp2
        go_ret
        exact ⟨by rw [HT.out]; simp, hx⟩
  · have hf : r = false := by
      rw [← HR.out, decide_eq_false]
      intro e; rw [e] at HLN; have := HLN.out; have := HKN.out; omega
    have hb : ((n : Int) == (m : Int)) = false := by simp; omega
    have HF := Lib.hid hf
    clear hf hnm
    go_enter Try.func16, Try.ntmps16
    go_wp2
    go_ret
    exact ⟨by rw [HF.out]; simp, Ext.refl _⟩

/-- What 'long' counts. -/
def wt (e : Ev) : Int := e.b.length + max e.n 0 / 4
def sumW (l : List Ev) : Int := (l.map wt).sum
theorem sumW_snoc (l : List Ev) (e : Ev) : sumW (l ++ [e]) = sumW l + wt e := by simp [sumW]
/-- What 'long' tells of a list. -/
def Long39 (es : List Ev) (n : Nat) (w w' : World) (e : Ending) : Prop :=
  ∃ r : Bool, e = .returned (.bool r) ∧ Ext w w' ∧ (r = false → n ≤ 20 ∧ sumW es ≤ 4000 ∧ ∀ e ∈ es, e.b.length ≤ 1100 ∧ e.m.length ≤ 100 ∧ e.n ≤ 10000)

set_option maxHeartbeats 1000000 in
set_option maxRecDepth 20000 in
/-- Is there more than is asked? -/
theorem long39 {w : World} {es : List Ev} {A : Option Addr} {n c : Nat} (hr : EvsRd w [] A n es) (hnc : n ≤ c) :
    Calls Try.prog 6 #[.slice A n c] w fun e w' => Long39 es n w w' e := by
  have hl : es.length = n := by obtain ⟨vs, _, h, _⟩ := hr; exact h
  have HR := Lib.hid hr
  have HL := Lib.hid hl
  clear hr hl
  go_enter Try.func6, Try.ntmps6
  by_cases h20 : n ≤ 20
  · go_wp2
    go_loopw [3, 11] (fun a i wr => ∃ (k : Nat) (m : Int), k ≤ n ∧ i = .int .i64 k ∧ a = .int .i64 m ∧ 0 ≤ m ∧ m ≤ 4000 * k ∧ Ext w wr ∧ sumW (es.take k) = m ∧ ∀ e ∈ es.take k, e.b.length ≤ 1100 ∧ e.m.length ≤ 100 ∧ e.n ≤ 10000) (fun _ i _ => n - (intOf i).toNat)
    case atStart => exact ⟨0, 0, Nat.zero_le _, rfl, rfl, by omega, by omega, Ext.refl _, rfl, by simp⟩
    case round =>
      obtain ⟨k, m, hk, rfl, rfl, hm0, hm1, hx, hsw, hall⟩ := hrel
      have HSW := Lib.hid hsw
      clear hsw
      by_cases hlt : k < n
      · obtain ⟨e, he⟩ : ∃ e, es[k]? = some e := ⟨_, List.getElem?_eq_getElem (by rw [HL.out]; exact hlt)⟩
        obtain ⟨b, o, A1, c1, B1, d1, rfl, hbl, p0', p1', p2', p3', hev', _, _, _, _, hrb, hrm⟩ := HR.out.at4 he
        have p0 : wr.cell? ⟨b, o + k * 4, none⟩ = some (.int .i64 e.kind) := (hx.cell (p := ⟨b, _, none⟩) hbl).trans p0'
        have p1 : wr.cell? ⟨b, o + k * 4 + 1, none⟩ = some (.int .i64 e.n) := (hx.cell (p := ⟨b, _, none⟩) hbl).trans p1'
        have p2 : wr.cell? ⟨b, o + k * 4 + 2, none⟩ = some (.slice A1 e.b.length c1) := (hx.cell (p := ⟨b, _, none⟩) hbl).trans p2'
        have p3 : wr.cell? ⟨b, o + k * 4 + 3, none⟩ = some (.slice B1 e.m.length d1) := (hx.cell (p := ⟨b, _, none⟩) hbl).trans p3'
        have htk := take_snoc he
        have hx1 := Ext.new1 wr (.cells #[.int .i64 e.kind, .int .i64 e.n, .slice A1 e.b.length c1, .slice B1 e.m.length d1] 43)
        have HTK := Lib.hid htk
        have HALL := Lib.hid hall
        clear p0' p1' p2' p3' hev' htk he hall
        by_cases hb1 : e.b.length ≤ 1100
        · by_cases hb2 : e.m.length ≤ 100
          · by_cases hb3 : e.n ≤ 10000
            · have hall2 : ∀ e' ∈ es.take (k + 1), e'.b.length ≤ 1100 ∧ e'.m.length ≤ 100 ∧ e'.n ≤ 10000 := by
                rw [HTK.out]
                intro e' he'
                rcases List.mem_append.1 he' with h | h
                · exact HALL.out e' h
                · simp at h; subst h; exact ⟨hb1, hb2, hb3⟩
              have HALL2 := Lib.hid hall2
              have hsn := sumW_snoc (es.take k) e
              rw [← HTK.out, HSW.out] at hsn
              have HSN := Lib.hid hsn
              clear hall2 hsn
              by_cases hp : 0 < e.n
              · go_wp2
                exact ⟨⟨k + 1, m + e.b.length + e.n / 4, hlt, by go_num, rfl, by omega, by omega, hx.trans hx1, by rw [HSN.out]; unfold wt; omega, HALL2.out⟩, by simp [intOf]; omega⟩
              · go_wp2
                go_roundw
                case rel => exact ⟨k + 1, m + e.b.length, hlt, by go_num, rfl, by omega, by omega, hx.trans hx1, by rw [HSN.out]; unfold wt; omega, HALL2.out⟩
                case measure => simp [intOf]; omega
            · go_wp2
              go_ret
              exact ⟨true, rfl, hx.trans hx1, fun h => by cases h⟩
          · go_wp2
            go_ret
            exact ⟨true, rfl, hx.trans hx1, fun h => by cases h⟩
        · go_wp2
          go_ret
          exact ⟨true, rfl, hx.trans hx1, fun h => by cases h⟩
      · obtain rfl : k = n := by omega
        have hsw := HSW.out
        rw [List.take_of_length_le (by rw [HL.out]; exact Nat.le_refl _)] at hall hsw
        have HALL := Lib.hid hall
        have HSW2 := Lib.hid hsw
        clear hall hsw
        go_wp2
        go_ret
        exact ⟨_, rfl, hx, fun h => ⟨h20, by rw [HSW2.out]; simpa using h, HALL.out⟩⟩
  · go_wp2
    go_ret
    exact ⟨true, rfl, Ext.refl _, fun h => by cases h⟩

theorem evs_one {w : World} {X : List Nat} (e : Ev) (vb vm : Value) (h : EvOk w X e vb vm) : EvsRd (w.alloc (.cells (evV e vb vm).toArray 43)) X (some ⟨w.heap.size, 0, none⟩) 1 [e] := by
  refine ⟨[(vb, vm)], rfl, rfl, ?_, fun j e' v he hv => ?_⟩
  · have := rd_newS w 4 1 (evV e vb vm) 43 rfl
    simpa [evCells] using this
  · match j, he, hv with
    | 0, he, hv =>
      simp at he hv
      subst he hv
      exact h.keep (Ext.new1 _ _)
    | j + 1, he, _ => simp at he

theorem EvsRd.nAt {w : World} {X : List Nat} {g n : Nat} {es : List Ev} (h : EvsRd w X (some ⟨g, 0, none⟩) n es) {k : Nat} {e : Ev} (hk : es[k]? = some e) : w.cell? ⟨g, k * 4 + 1, none⟩ = some (.int .i64 e.n) := by
  obtain ⟨b, o, vb, vm, h1, _, _, h2, _⟩ := h.get hk
  cases h1
  rwa [Nat.zero_add] at h2
theorem alive_split : (splitL (szOf [2]) [⟨3, 5, [], []⟩] 0).1 = [⟨3, 2, [], []⟩, ⟨3, 2, [], []⟩, ⟨3, 1, [], []⟩] := by decide +kernel
theorem alive_same : decide (atoms [⟨3, 2, [], []⟩, ⟨3, 2, [], []⟩, ⟨3, 1, [], []⟩] = atoms [⟨3, 5, [], []⟩]) = true := by decide +kernel

set_option maxHeartbeats 1000000 in
set_option maxRecDepth 20000 in
/-- The chapter's example. -/
theorem alive39 (w : World) : Calls Try.prog 5 #[] w fun e w' => e = .returned (.bool true) ∧ Ext w w' := by
  have hE0 : EvsRd ((w.alloc (.cells #[.int .i64 3, .int .i64 5, .slice none 0 0, .slice none 0 0] 43)).alloc (.cells #[.int .i64 2] 3)) [] (some ⟨w.heap.size, 0, none⟩) 1 [⟨3, 5, [], []⟩] := (evs_one (w := w) (X := []) ⟨3, 5, [], []⟩ (.slice none 0 0) (.slice none 0 0) ⟨RdG.nil, RdG.nil⟩).keep (Ext.new1 _ (.cells #[.int .i64 2] 3))
  have hS0 : Rd ((w.alloc (.cells #[.int .i64 3, .int .i64 5, .slice none 0 0, .slice none 0 0] 43)).alloc (.cells #[.int .i64 2] 3)) 1 (some ⟨w.heap.size + 1, 0, none⟩) 1 (intsV [2]) := rd_at (by simp)
  have hx0 : Ext w ((w.alloc (.cells #[.int .i64 3, .int .i64 5, .slice none 0 0, .slice none 0 0] 43)).alloc (.cells #[.int .i64 2] 3)) := (Ext.new1 w _).trans (Ext.new1 _ _)
  have HE0 := Lib.hid hE0
  have HS0 := Lib.hid hS0
  have HX0 := Lib.hid hx0
  clear hE0 hS0 hx0
  go_enter Try.func5, Try.ntmps5
  go_wp2_with (first
    | (go_at_call 18; go_loud (refine (cutSame (hE1.keep (Ext.new1 w1 _)) (evs_one (w := w1) (X := []) ⟨3, 5, [], []⟩ (.slice none 0 0) (.slice none 0 0) ⟨RdG.nil, RdG.nil⟩) (by simp) hc1 (by omega) (by omega) true alive_same).mono ?_); rintro e w2 ⟨rfl, hx2⟩)
    | (go_at_call 13; refine (cutSplit (l := [2]) HE0.out (by omega) (by omega) HS0.out (by omega) (by simp)).mono ?_; rw [alive_split]; rintro e w1 ⟨v1, rfl, ho1, hx1⟩; obtain ⟨g, c1, rfl, _, hgw, _, hc1, hm1⟩ := ho1.form (by simp); have hE1 := ho1.rd2.sub (X' := []) (by simp); have p1 : w1.cell? ⟨g, 1, none⟩ = some (.int .i64 2) := hE1.nAt (k := 0) rfl; have p9 : w1.cell? ⟨g, 9, none⟩ = some (.int .i64 1) := hE1.nAt (k := 2) rfl))
  go_ret
  exact ⟨rfl, HX0.out.trans (hx1.trans ((Ext.new1 _ _).trans hx2))⟩
end Go.Proofs.Ytnbdmlpnoiljdaa
