/- Put together: Sm17, Sm18. -/
import Derived.Test.YtdhmfgaiomfodaaDoorRNsF
import Derived.Test.YtdhmfgaiomfodaaDoorRNsE
import Derived.Test.YtdhmfgaiomfodaaDoorRNgR
namespace Go.Proofs.YtdhmfgaiomfodaaDoor
open Go Go.RowKit
attribute [local irreducible] wd

theorem good_bare {i : Ins} {a lo hi : Int} (h : i.good a lo hi) : i.bareOK := by
  rcases h with ⟨a, b, d, e⟩ | ⟨a, _, _, d, e, f⟩ | ⟨a, _, _, _, _, e, f⟩ | ⟨a, b, d, _, _, f⟩
  · exact .inl ⟨a, b, d, e⟩
  · exact .inr (.inl ⟨a, d, e, f⟩)
  · exact .inr (.inr (.inl ⟨a, e, f⟩))
  · exact .inr (.inr (.inr (.inl ⟨a, b, d, f⟩)))
theorem progT_ok {t : T} (hr : (t.right 1 0).1 = true) (h : lenT t ≤ 399) (hg : t.groups ≤ 9) : ProgOK (progT t) t.groups := by
  have hR := progT_right hr h hg
  refine ⟨hR, fun i hi => ?_, ?_⟩
  · obtain ⟨pc, hpc⟩ := List.mem_iff_getElem?.1 hi
    have h1 := hR.op pc i hpc
    refine ⟨h1.1, h1.2.1, h1.2.2.1, h1.2.2.2.2.1, h1.2.2.2.1, h1.2.2.2.2.2.1, h1.2.2.2.2.2.2, ?_⟩
    rcases progT_get hr hpc with ⟨_, h2⟩ | ⟨_, rfl⟩
    · exact good_bare h2
    · exact .inr (.inr (.inr (.inr ⟨rfl, rfl, rfl, rfl, rfl⟩)))
  · have hl := progT_len t
    rw [hl, Nat.add_sub_cancel]
    unfold progT
    rw [List.getElem?_append_right (by rw [codeT_len]; omega), codeT_len, Nat.sub_self]
    rfl
/-- May a tree be compiled? -/
def compB (t : T) : Bool := (t.right 1 0).1 && decide (t.groups ≤ 9)
/-- What Compile answers. -/
def CompR (E : Nat → Addr) (t : T) (w : World) (e : Ending) (w' : World) : Prop :=
  Ext w w' ∧ if compB t = true then ∃ A c, e = .returned (.tuple #[.agg #[.slice A (progT t).length c, .int .i64 (t.groups : Nat)], .nilIface]) ∧ Rd w' 8 A (progT t).length (codeV (progT t)) ∧ ProgOK (progT t) t.groups
    else e = .returned (.tuple #[.agg #[.slice none 0 0, .int .i64 0], errV E (if (t.right 1 0).1 = true then 1 else 4)])
theorem nfCompileAny (E : Nat → Addr) (t : T) (hs : t.size ≤ 100) (S : Nat → Prop) (w : World) (nv : List Value) (hv : NodeV S w t nv) (hE : Env E w) :
    Calls Tryd.prog 12 #[.agg nv.toArray] w fun e w' => CompR E t w e w' := by
  cases hc : compB t
  · refine (nfCompileBad E t ?_ hs S w nv hv hE).mono fun e w' h => ⟨h.2, ?_⟩
    · unfold compB at hc
      rcases Bool.and_eq_false_iff.1 hc with h | h
      · exact .inl h
      · cases hr : (t.right 1 0).1
        · exact .inl rfl
        · exact .inr ⟨rfl, by have := of_decide_eq_false h; omega⟩
    · rw [hc]
      exact h.1
  · unfold compB at hc
    obtain ⟨hr, hg⟩ := Bool.and_eq_true_iff.1 hc
    have hg' := of_decide_eq_true hg
    have hlt := lenT_le t (right_good t 1 0 hr)
    refine (nfCompile t hr hg' hs S w nv hv).mono fun e w' h => ⟨h.1, ?_⟩
    rw [if_pos (show compB t = true by unfold compB; exact hc)]
    obtain ⟨A, c, h1, h2, _, _, _⟩ := h.2
    exact ⟨A, c, h1, h2, progT_ok hr (by omega) hg'⟩

def simExL : List UInt8 := [97, 43, 98]
def simEx : T := .node 3 0 false noP [.node 6 0 false noP [oneT 97], oneT 98]
theorem simEx_parse : parseR simExL = .ok simEx 3 0 := by kernel_rfl
theorem simEx_comp : compB simEx = true := by kernel_rfl
theorem simEx_find : findP (progT simEx) (noneK simEx.groups) [120, 97, 97, 98] = some (4, 1, []) := by kernel_rfl
end Go.Proofs.YtdhmfgaiomfodaaDoor
namespace Go.Proofs.YtdhmfgaiomfodaaDoor
open Go Go.RowKit
attribute [local irreducible] wd

/-- What Compile and Find answer of a tree that may be compiled. -/
theorem compR_pos {E : Nat → Addr} {t : T} {w w' : World} {e : Ending} (h : CompR E t w e w') (hc : compB t = true) : Ext w w' ∧ ∃ A c, e = .returned (.tuple #[.agg #[.slice A (progT t).length c, .int .i64 (t.groups : Nat)], .nilIface]) ∧ Rd w' 8 A (progT t).length (codeV (progT t)) ∧ ProgOK (progT t) t.groups := by
  have := h.2
  rw [if_pos hc] at this
  exact ⟨h.1, this⟩
set_option maxHeartbeats 4000000 in
set_option maxRecDepth 20000 in
theorem alive26 (E : Nat → Addr) (w : World) (hE : Env E w) :
    Calls Tryd.prog 24 #[] w fun e w' => e = .returned (.bool true) ∧ Ext w w' := by
  have HE := Lib.hid hE
  clear hE
  go_enter Tryd.func24, Tryd.ntmps24
  go_wp2_with fail
  go_at_call 39
  refine (rxParse E simExL w HE.out).mono ?_
  rintro e w1 hP
  rw [simEx_parse] at hP
  obtain ⟨hx1, v, rfl, hv⟩ := hP
  obtain ⟨k, m, z, s, A, n, c, rfl⟩ := nodeV_form hv
  have hxn := Ext.new1 w1 (.cells (nodeC k m z s A n c).toArray 27)
  have hx2 := Lib.hid (Ext.trans hx1 hxn)
  have HV := Lib.hid (hv.keep hxn)
  have HB := Lib.hid (NodeB.new w1 k m z s A n c)
  have HE2 := Lib.hid (HE.out.keep hx2.out)
  clear hv hx1 hxn
  unfold nodeC at hx2 HV HE2 ⊢
  go_upto_region 2 with fail
  generalize w1.alloc (.cells #[.int .i64 k, .int .i64 m, .bool z, .int .u64 (wd s 0 : Nat), .int .u64 (wd s 1 : Nat), .int .u64 (wd s 2 : Nat), .int .u64 (wd s 3 : Nat), .slice A n c] 27) = wq at *
  generalize w1.heap.size = gq at *
  obtain ⟨q0, q1, q2, q3, q4, q5, q6, q7⟩ := HB.out.cells
  go_upto_region 3 with (first
    | (have := hx3; refine store_pg rfl (.tmp 3) (.tmp 15) rfl (g := w3.heap.size) (old := [.slice none 0 0, .int .i64 0]) [.slice AP (progT simEx).length cP, .int .i64 (simEx.groups : Nat)] rfl rfl (Blk.newL w3 32 [.slice none 0 0, .int .i64 0]) rfl rfl rfl ?_)
    | (go_at_call 12; refine (nfCompileAny E simEx (by decide) _ wq (nodeC k m z s A n c) HV.out HE2.out).mono ?_; intro e w3 hres; obtain ⟨hx3, AP, cP, rfl, hrd, hok⟩ := compR_pos hres simEx_comp))
  have hxp : Ext w3 ((w3.alloc (.cells #[.slice none 0 0, .int .i64 0] 32)).setRow w3.heap.size #[.slice AP (progT simEx).length cP, .int .i64 (simEx.groups : Nat)]) := (Ext.new1 _ _).rowX _ _ (Nat.le_refl _)
  have HXP := Lib.hid (Ext.trans hx2.out (Ext.trans hx3 hxp))
  have HPB := Lib.hid (show Blk ((w3.alloc (.cells #[.slice none 0 0, .int .i64 0] 32)).setRow w3.heap.size #[.slice AP (progT simEx).length cP, .int .i64 (simEx.groups : Nat)]) w3.heap.size 32 [.slice AP (progT simEx).length cP, .int .i64 (simEx.groups : Nat)] from Blk.row (Blk.newL w3 32 [.slice none 0 0, .int .i64 0]) _)
  have HRD := Lib.hid (hrd.keep hxp)
  have HOK := Lib.hid hok
  clear hxp hx3 hrd hok hres this q0 q1 q2 q3 q4 q5 q6 q7 HV HB HE2 hx2
  generalize (w3.alloc (.cells #[.slice none 0 0, .int .i64 0] 32)).setRow w3.heap.size #[.slice AP (progT simEx).length cP, .int .i64 (simEx.groups : Nat)] = wp at *
  generalize w3.heap.size = gp at *
  have p0 : wp.cell? ⟨gp, 0, none⟩ = some (.slice AP (progT simEx).length cP) := HPB.out.cell 0
  have p1 : wp.cell? ⟨gp, 1, none⟩ = some (.int .i64 (simEx.groups : Nat)) := HPB.out.cell 1
  go_upto_region 4 with (first
    | (have := hx4; refine store_hit rfl (.tmp 5) (.tmp 20) rfl (g := w4.heap.size) (old := [.int .i64 0, .slice none 0 0]) [.int .i64 1, .slice AH 0 cH] rfl rfl (Blk.newL w4 54 [.int .i64 0, .slice none 0 0]) rfl rfl rfl ?_)
    | (go_at_call 25; refine (smFind (progT simEx) simEx.groups HOK.out AP cP [120, 97, 97, 98] (by simp) wp HRD.out).mono ?_; intro e w4 hans; unfold FindR at hans; rw [simEx_find] at hans; obtain ⟨AH, cH, rfl, hown, hx4⟩ := hans))
  have hB4 := Blk.row (Blk.newL w4 54 [.int .i64 0, .slice none 0 0]) [Value.int .i64 1, .slice AH 0 cH]
  have hxh : Ext w4 ((w4.alloc (.cells #[.int .i64 0, .slice none 0 0] 54)).setRow w4.heap.size #[.int .i64 1, .slice AH 0 cH]) := (Ext.new1 _ _).rowX _ _ (Nat.le_refl _)
  have HB4 := Lib.hid hB4
  have HX4 := Lib.hid (Ext.trans HXP.out (Ext.trans hx4 hxh))
  clear hB4 hxh hown hx4 this p0 p1
  generalize (w4.alloc (.cells #[.int .i64 0, .slice none 0 0] 54)).setRow w4.heap.size #[.int .i64 1, .slice AH 0 cH] = w5 at *
  generalize w4.heap.size = gh at *
  have h0 : w5.cell? ⟨gh, 0, none⟩ = some (.int .i64 1) := HB4.out.cell 0
  have h1 : w5.cell? ⟨gh, 1, none⟩ = some (.slice AH 0 cH) := HB4.out.cell 1
  go_wp2
  go_ret
  exact ⟨rfl, HX4.out⟩
end Go.Proofs.YtdhmfgaiomfodaaDoor
