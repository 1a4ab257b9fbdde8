/- What trees say: the chapter's example; which trees are too great, which are fine: walked. -/
import Derived.Test.YtnkhiohopcadmaaDoorMn7
import Derived.Test.YtnkhiohopcadmaaDoorTgO
import Derived.Test.YtnkhiohopcadmaaDoorTgR
import Derived.Test.YtnkhiohopcadmaaDoorTgS
namespace Go.Proofs.YtnkhiohopcadmaaDoor
open Go Go.RowKit
attribute [local irreducible] wd

def mnExL : List UInt8 := [97, 43]
def mnEx : T := .node 6 0 false noP [oneT 97]
theorem mnEx_parse : parseR mnExL = .ok mnEx 2 0 := by kernel_rfl
theorem mnEx_size : mnEx.size = 2 := by rfl
theorem mnEx_ends : endsA mnEx [97, 97, 98] 0 = [1, 2] := by decide +kernel
theorem mnEx_aa : saysA mnEx [97, 97] = true := by rw [← says_endsA]; decide +kernel
theorem mnEx_ab : saysA mnEx [97, 98] = false := by rw [← says_endsA]; decide +kernel
theorem rd_two (w : World) (x y : Value) (e : TypeId) : Rd (w.alloc (.cells #[x, y] e)) 1 (some ⟨w.heap.size, 0, none⟩) 2 [x, y] := by
  have := Blk.rd (n := 2) (size := 1) (Blk.newA (w := w) rfl e [x, y]) 0 (by simp)
  simpa using this

set_option maxHeartbeats 4000000 in
set_option maxRecDepth 20000 in
theorem alive27 (E : Nat → Addr) (w : World) (hE : Env E w) :
    Calls Tryd.prog 26 #[] w fun e w' => e = .returned (.bool true) ∧ Ext w w' := by
  have HE := Lib.hid hE
  clear hE
  go_enter Tryd.func26, Tryd.ntmps26
  go_wp2_with fail
  go_at_call 23
  refine (rxParse E mnExL w HE.out).mono ?_
  rintro e w1 hP
  rw [mnEx_parse] at hP
  obtain ⟨hx1, v, rfl, hv⟩ := hP
  obtain ⟨k, m, z, s, A, n, c, rfl⟩ := nodeV_form hv
  have hx2 := Lib.hid (Ext.trans hx1 (Ext.new1 w1 (.cells (nodeC k m z s A n c).toArray 27)))
  have HV := Lib.hid (hv.keep (Ext.new1 w1 (.cells (nodeC k m z s A n c).toArray 27)))
  have HB := Lib.hid (NodeB.new w1 k m z s A n c)
  clear hv hx1
  unfold nodeC at hx2 HV ⊢
  go_upto_region 2 with fail
  generalize w1.alloc (.cells #[.int .i64 k, .int .i64 m, .bool z, .int .u64 (wd s 0 : Nat), .int .u64 (wd s 1 : Nat), .int .u64 (wd s 2 : Nat), .int .u64 (wd s 3 : Nat), .slice A n c] 27) = wq at *
  generalize w1.heap.size = gq at *
  obtain ⟨q0, q1, q2, q3, q4, q5, q6, q7⟩ := HB.out.cells
  go_wp2_with (first
    | (have := hx6; go_at_call 29; refine (mnSays mnEx (by rw [mnEx_size]; omega) [97, 98] (by simp) _ _ (nodeC k m z s A n c) (HV.out.keep (Ext.trans hx3 (Ext.trans (Ext.new1 _ _) (Ext.trans hx5 hx6))))).mono ?_; rintro e w7 ⟨rfl, hx7⟩; rw [mnEx_ab])
    | (have := hx5; go_at_call 29; refine (mnSays mnEx (by rw [mnEx_size]; omega) [97, 97] (by simp) _ _ (nodeC k m z s A n c) (HV.out.keep (Ext.trans hx3 (Ext.trans (Ext.new1 _ _) hx5)))).mono ?_; rintro e w6 ⟨rfl, hx6⟩; rw [mnEx_aa]; obtain ⟨q0, q1, q2, q3, q4, q5, q6, q7⟩ := (HB.out.keep (Ext.trans hx3 (Ext.trans (Ext.new1 _ _) (Ext.trans hx5 hx6)))).cells)
    | (have := hx3; go_at_call 31; refine (sameInts [1, 2] [1, 2] A1 _ _ c1 _ _ _ (hr1.keep (Ext.new1 _ _)) (rd_two w3 (.int .i64 1) (.int .i64 2) 3) (by simp) (by simp) true rfl).mono ?_; rintro e w5 ⟨rfl, hx5⟩; obtain ⟨q0, q1, q2, q3, q4, q5, q6, q7⟩ := (HB.out.keep (Ext.trans hx3 (Ext.trans (Ext.new1 _ _) hx5))).cells)
    | (go_at_call 28; refine (mnEnds mnEx (by rw [mnEx_size]; omega) [97, 97, 98] (by simp) 0 _ _ (nodeC k m z s A n c) HV.out).mono ?_; rintro e w3 ⟨r, rfl, hr, hx3⟩; rw [mnEx_ends] at hr; obtain ⟨A1, c1, rfl, -, -, hr1⟩ := hr; unfold natsI at *; simp only [List.map_cons, List.map_nil, List.length_cons, List.length_nil] at *))
  go_ret
  exact ⟨rfl, Ext.trans hx2.out (Ext.trans hx3 (Ext.trans (Ext.new1 _ _) (Ext.trans hx5 (Ext.trans hx6 hx7))))⟩

def T.great27 (t : T) : Bool := t.great || decide (24 < t.size)
theorem great27_size {t : T} (h : t.great27 = false) : t.size ≤ 24 := by
  unfold T.great27 at h
  simp only [Bool.or_eq_false_iff, decide_eq_false_iff_not] at h
  omega

set_option maxHeartbeats 4000000 in
set_option maxRecDepth 20000 in
theorem lawGreat27 (t : T) (S : Nat → Prop) (w : World) (v : List Value) (h : NodeV S w t v) :
    Calls Tryd.prog 27 #[.agg v.toArray] w fun e w' => e = .returned (.bool t.great27) ∧ Ext w w' := by
  obtain ⟨k, m, z, s, A, n, c, rfl⟩ := nodeV_form h
  have hx0 := Lib.hid (Ext.new1 w (.cells (nodeC k m z s A n c).toArray 27))
  have HV := Lib.hid (h.keep hx0.out)
  have HB := Lib.hid (NodeB.new w k m z s A n c)
  clear h
  unfold nodeC at hx0 HV ⊢
  obtain ⟨R, hR⟩ : ∃ R, t.great27 = R := ⟨_, rfl⟩
  have HR := Lib.hid hR
  rw [hR]
  clear hR
  cases hg : t.great
  · have HG := Lib.hid hg
    have HS := Lib.hid (great_size hg)
    have HRR := Lib.hid (show decide ((24 : Int) < (t.size : Nat)) = R by rw [← HR.out]; unfold T.great27; rw [hg, Bool.false_or]; exact decide_eq_decide.2 (by omega))
    clear hg
    go_enter Tryd.func27, Tryd.ntmps27
    go_upto_region 1 with fail
    generalize w.alloc (.cells #[.int .i64 k, .int .i64 m, .bool z, .int .u64 (wd s 0 : Nat), .int .u64 (wd s 1 : Nat), .int .u64 (wd s 2 : Nat), .int .u64 (wd s 3 : Nat), .slice A n c] 27) = wq at *
    generalize w.heap.size = gq at *
    obtain ⟨q0, q1, q2, q3, q4, q5, q6, q7⟩ := HB.out.cells
    go_wp2_with (first
      | (have := hx2; go_at_call 14; refine (refCount _ t (Nat.le_refl _) (by have := HS.out; omega) _ _ _ HD.out).mono ?_; rintro e w3 ⟨rfl, hx3⟩)
      | (have := hx1; go_at_call 11; refine (lawOf _ t (Nat.le_refl _) (by have := HS.out; omega) _ _ (nodeC k m z s A n c) (HV.out.keep hx1)).mono ?_; rintro e w2 ⟨l2, rfl, hd, hx2⟩; have HD := Lib.hid hd; clear hd)
      | (go_at_call 10; refine (lawGreat t S _ (nodeC k m z s A n c) HV.out).mono ?_; rintro e w1 ⟨rfl, hx1⟩; rw [HG.out]; obtain ⟨q0, q1, q2, q3, q4, q5, q6, q7⟩ := (HB.out.keep hx1).cells))
    go_ret
    exact ⟨by rw [← HRR.out]; rfl, Ext.trans hx0.out (Ext.trans hx1 (Ext.trans hx2 hx3))⟩
  · have HG := Lib.hid hg
    have HRR := Lib.hid (show R = true by rw [← HR.out]; unfold T.great27; rw [hg, Bool.true_or])
    clear hg
    go_enter Tryd.func27, Tryd.ntmps27
    go_wp2_with (go_at_call 10; refine (lawGreat t S _ (nodeC k m z s A n c) HV.out).mono ?_; rintro e w1 ⟨rfl, hx1⟩; rw [HG.out])
    go_ret
    exact ⟨by rw [HRR.out]; rfl, Ext.trans hx0.out hx1⟩

def T.fine27 (t : T) : Bool := !t.great27 && (t.right 1 0).1 && (t.groups == 0)
theorem fine27_is {t : T} (h : t.fine27 = true) : t.size ≤ 24 ∧ (t.right 1 0).1 = true ∧ t.groups = 0 := by
  unfold T.fine27 at h
  simp only [Bool.and_eq_true, beq_iff_eq, Bool.not_eq_true'] at h
  exact ⟨great27_size h.1.1, h.1.2, h.2⟩

set_option maxHeartbeats 4000000 in
set_option maxRecDepth 20000 in
theorem lawFine27 (t : T) (S : Nat → Prop) (w : World) (v : List Value) (h : NodeV S w t v) :
    Calls Tryd.prog 32 #[.agg v.toArray] w fun e w' => e = .returned (.bool t.fine27) ∧ Ext w w' := by
  obtain ⟨k, m, z, s, A, n, c, rfl⟩ := nodeV_form h
  have hx0 := Lib.hid (Ext.new1 w (.cells (nodeC k m z s A n c).toArray 27))
  have HV := Lib.hid (h.keep hx0.out)
  have HB := Lib.hid (NodeB.new w k m z s A n c)
  clear h
  unfold nodeC at hx0 HV ⊢
  obtain ⟨R, hR⟩ : ∃ R, t.fine27 = R := ⟨_, rfl⟩
  have HR := Lib.hid hR
  rw [hR]
  clear hR
  cases hg : t.great27
  · have HG := Lib.hid hg
    have HS := Lib.hid (great27_size hg)
    cases hr : (t.right 1 0).1
    · have HRT := Lib.hid hr
      have HRR := Lib.hid (show R = false by rw [← HR.out]; unfold T.fine27; rw [hr, hg]; rfl)
      clear hg hr
      go_enter Tryd.func32, Tryd.ntmps32
      go_upto_region 1 with fail
      generalize w.alloc (.cells #[.int .i64 k, .int .i64 m, .bool z, .int .u64 (wd s 0 : Nat), .int .u64 (wd s 1 : Nat), .int .u64 (wd s 2 : Nat), .int .u64 (wd s 3 : Nat), .slice A n c] 27) = wq at *
      generalize w.heap.size = gq at *
      obtain ⟨q0, q1, q2, q3, q4, q5, q6, q7⟩ := HB.out.cells
      go_wp2_with (first
        | (have := hx1; go_at_call 15; refine (rxRight t (by have := HS.out; omega) S _ (nodeC k m z s A n c) (HV.out.keep hx1)).mono ?_; rintro e w2 ⟨rfl, hx2⟩; rw [HRT.out])
        | (go_at_call 27; refine (lawGreat27 t S _ (nodeC k m z s A n c) HV.out).mono ?_; rintro e w1 ⟨rfl, hx1⟩; rw [HG.out]; obtain ⟨q0, q1, q2, q3, q4, q5, q6, q7⟩ := (HB.out.keep hx1).cells))
      go_ret
      exact ⟨by rw [HRR.out]; rfl, Ext.trans hx0.out (Ext.trans hx1 hx2)⟩
    · have HRT := Lib.hid hr
      have HRR := Lib.hid (show ((t.groups : Int) == 0) = R by rw [← HR.out]; unfold T.fine27; rw [hr, hg]; simp only [Bool.not_false, Bool.true_and]; exact Bool.eq_iff_iff.2 (by simp only [beq_iff_eq]; omega))
      clear hg hr
      go_enter Tryd.func32, Tryd.ntmps32
      go_upto_region 1 with fail
      generalize w.alloc (.cells #[.int .i64 k, .int .i64 m, .bool z, .int .u64 (wd s 0 : Nat), .int .u64 (wd s 1 : Nat), .int .u64 (wd s 2 : Nat), .int .u64 (wd s 3 : Nat), .slice A n c] 27) = wq at *
      generalize w.heap.size = gq at *
      obtain ⟨q0, q1, q2, q3, q4, q5, q6, q7⟩ := HB.out.cells
      obtain ⟨gr, hgr⟩ : ∃ gr, t.groups = gr := ⟨_, rfl⟩
      have HGR := Lib.hid hgr
      rw [hgr] at HRR
      clear hgr
      go_wp2_with (first
        | (have := hx2; go_at_call 22; refine (rxGroups _ t (Nat.le_refl _) (by have := HS.out; omega) _ _ (nodeC k m z s A n c) (HV.out.keep (Ext.trans hx1 hx2))).mono ?_; rintro e w3 ⟨rfl, hx3⟩; rw [HGR.out])
        | (have := hx1; go_at_call 15; refine (rxRight t (by have := HS.out; omega) S _ (nodeC k m z s A n c) (HV.out.keep hx1)).mono ?_; rintro e w2 ⟨rfl, hx2⟩; rw [HRT.out]; obtain ⟨q0, q1, q2, q3, q4, q5, q6, q7⟩ := (HB.out.keep (Ext.trans hx1 hx2)).cells)
        | (go_at_call 27; refine (lawGreat27 t S _ (nodeC k m z s A n c) HV.out).mono ?_; rintro e w1 ⟨rfl, hx1⟩; rw [HG.out]; obtain ⟨q0, q1, q2, q3, q4, q5, q6, q7⟩ := (HB.out.keep hx1).cells))
      go_ret
      exact ⟨by rw [← HRR.out]; rfl, Ext.trans hx0.out (Ext.trans hx1 (Ext.trans hx2 hx3))⟩
  · have HG := Lib.hid hg
    have HRR := Lib.hid (show R = false by rw [← HR.out]; unfold T.fine27; rw [hg]; rfl)
    clear hg
    go_enter Tryd.func32, Tryd.ntmps32
    go_wp2_with (go_at_call 27; refine (lawGreat27 t S _ (nodeC k m z s A n c) HV.out).mono ?_; rintro e w1 ⟨rfl, hx1⟩; rw [HG.out])
    go_ret
    exact ⟨by rw [HRR.out]; rfl, Ext.trans hx0.out hx1⟩
end Go.Proofs.YtnkhiohopcadmaaDoor
