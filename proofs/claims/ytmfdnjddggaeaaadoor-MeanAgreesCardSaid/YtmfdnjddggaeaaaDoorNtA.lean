/- Put together: Sm19. -/
import Derived.Test.YtmfdnjddggaeaaaDoorNsG
import Derived.Test.YtmfdnjddggaeaaaDoorMn8a
namespace Go.Proofs.YtmfdnjddggaeaaaDoor
open Go Go.RowKit
attribute [local irreducible] wd
set_option maxHeartbeats 8000000 in
set_option maxRecDepth 20000 in
theorem lawAgrees (E : Nat → Addr) (t : T) (l : List UInt8) (S : Nat → Prop) (v : List Value) (w : World) (h : NodeV S w t v) (hE : Env E w) :
    Calls Tryd.prog 8 #[.agg v.toArray, .string ⟨l.toArray⟩] w fun e w' => e = .returned (.bool true) ∧ Ext w w' := by
  obtain ⟨k, m, z, s, A, n, c, rfl⟩ := nodeV_form h
  have hx0 := Lib.hid (Ext.new1 w (.cells (nodeC k m z s A n c).toArray 27))
  have HV := Lib.hid (h.keep hx0.out)
  have HB := Lib.hid (NodeB.new w k m z s A n c)
  have HE := Lib.hid (hE.keep hx0.out)
  clear h hE
  unfold nodeC at hx0 HV HE ⊢
  cases hg : t.great
  rotate_left
  · have HG := Lib.hid hg
    clear hg
    go_enter Tryd.func8, Tryd.ntmps8
    go_wp2_with (first
      | (have := hx1; go_at_call 11; refine (lawGreat t S _ (nodeC k m z s A n c) (HV.out.keep hx1)).mono ?_; rintro e w2 ⟨rfl, hx2⟩; rw [HG.out]; obtain ⟨x0, x1, x2, x3, x4, x5, x6, x7⟩ := (HB.out.keep (Ext.trans hx1 hx2)).cells)
      | (go_at_call 34; refine (alive27 E _ HE.out).mono ?_; rintro e w1 ⟨rfl, hx1⟩; obtain ⟨q0, q1, q2, q3, q4, q5, q6, q7⟩ := (HB.out.keep hx1).cells))
    go_ret
    exact ⟨rfl, Ext.trans hx0.out (Ext.trans hx1 hx2)⟩
  have HS := Lib.hid (great_size hg)
  have HG := Lib.hid hg
  clear hg
  by_cases hl : (40 : Int) < (l.length : Int)
  · go_enter Tryd.func8, Tryd.ntmps8
    go_wp2_with (first
      | (have := hx1; go_at_call 11; refine (lawGreat t S _ (nodeC k m z s A n c) (HV.out.keep hx1)).mono ?_; rintro e w2 ⟨rfl, hx2⟩; rw [HG.out]; obtain ⟨x0, x1, x2, x3, x4, x5, x6, x7⟩ := (HB.out.keep (Ext.trans hx1 hx2)).cells)
      | (go_at_call 34; refine (alive27 E _ HE.out).mono ?_; rintro e w1 ⟨rfl, hx1⟩; obtain ⟨q0, q1, q2, q3, q4, q5, q6, q7⟩ := (HB.out.keep hx1).cells))
    go_ret
    exact ⟨rfl, Ext.trans hx0.out (Ext.trans hx1 hx2)⟩
  have HL := Lib.hid (show l.length ≤ 40 by omega)
  cases hc : compB t
  · have HC := Lib.hid hc
    clear hc
    go_enter Tryd.func8, Tryd.ntmps8
    go_wp2_with (first
      | (have := hx3; refine store_pg rfl (.tmp 5) (.tmp 26) rfl (g := w3.heap.size) (old := [.slice none 0 0, .int .i64 0]) [.slice none 0 0, .int .i64 0] rfl rfl (Blk.newL w3 32 [.slice none 0 0, .int .i64 0]) rfl rfl rfl ?_; unfold errV)
      | (have := hx2; go_at_call 12; refine (nfCompileAny E t (by have := HS.out; omega) S _ (nodeC k m z s A n c) (HV.out.keep (Ext.trans hx1 hx2)) (HE.out.keep (Ext.trans hx1 hx2))).mono ?_; intro e w3 hres; obtain ⟨hx3, K, rfl, -⟩ := compR_neg hres HC.out)
      | (have := hx1; go_at_call 11; refine (lawGreat t S _ (nodeC k m z s A n c) (HV.out.keep hx1)).mono ?_; rintro e w2 ⟨rfl, hx2⟩; rw [HG.out]; obtain ⟨x0, x1, x2, x3, x4, x5, x6, x7⟩ := (HB.out.keep (Ext.trans hx1 hx2)).cells)
      | (go_at_call 34; refine (alive27 E _ HE.out).mono ?_; rintro e w1 ⟨rfl, hx1⟩; obtain ⟨q0, q1, q2, q3, q4, q5, q6, q7⟩ := (HB.out.keep hx1).cells))
    go_ret
    exact ⟨rfl, Ext.trans hx0.out (Ext.trans hx1 (Ext.trans hx2 (Ext.trans hx3 ((Ext.new1 _ _).rowX _ _ (Nat.le_refl _)))))⟩
  have HC := Lib.hid hc
  clear hc
  go_enter Tryd.func8, Tryd.ntmps8
  go_upto_region 8 with (first
    | (have := hx3; refine store_pg rfl (.tmp 5) (.tmp 26) rfl (g := w3.heap.size) (old := [.slice none 0 0, .int .i64 0]) [.slice AP (progT t).length cP, .int .i64 (t.groups : Nat)] rfl rfl (Blk.newL w3 32 [.slice none 0 0, .int .i64 0]) rfl rfl rfl ?_)
    | (have := hx2; go_at_call 12; refine (nfCompileAny E t (by have := HS.out; omega) S _ (nodeC k m z s A n c) (HV.out.keep (Ext.trans hx1 hx2)) (HE.out.keep (Ext.trans hx1 hx2))).mono ?_; intro e w3 hres; obtain ⟨hx3, AP, cP, rfl, hrd, hok⟩ := compR_pos hres HC.out)
    | (have := hx1; go_at_call 11; refine (lawGreat t S _ (nodeC k m z s A n c) (HV.out.keep hx1)).mono ?_; rintro e w2 ⟨rfl, hx2⟩; rw [HG.out]; obtain ⟨x0, x1, x2, x3, x4, x5, x6, x7⟩ := (HB.out.keep (Ext.trans hx1 hx2)).cells)
    | (go_at_call 34; refine (alive27 E _ HE.out).mono ?_; rintro e w1 ⟨rfl, hx1⟩; obtain ⟨q0, q1, q2, q3, q4, q5, q6, q7⟩ := (HB.out.keep hx1).cells))
  have hxp : Ext w3 ((w3.alloc (.cells #[.slice none 0 0, .int .i64 0] 32)).setRow w3.heap.size #[.slice AP (progT t).length cP, .int .i64 (t.groups : Nat)]) := (Ext.new1 _ _).rowX _ _ (Nat.le_refl _)
  have hx123 := Ext.trans hx1 (Ext.trans hx2 (Ext.trans hx3 hxp))
  have HXP := Lib.hid (Ext.trans hx0.out hx123)
  have HPB := Lib.hid (show Blk ((w3.alloc (.cells #[.slice none 0 0, .int .i64 0] 32)).setRow w3.heap.size #[.slice AP (progT t).length cP, .int .i64 (t.groups : Nat)]) w3.heap.size 32 [.slice AP (progT t).length cP, .int .i64 (t.groups : Nat)] from Blk.row (Blk.newL w3 32 [.slice none 0 0, .int .i64 0]) _)
  have HRD := Lib.hid (hrd.keep hxp)
  have HOK := Lib.hid hok
  have HVP := Lib.hid (HV.out.keep hx123)
  have HBP := Lib.hid (HB.out.keep hx123)
  have HEP := Lib.hid (HE.out.keep hx123)
  clear hxp hx1 hx2 hx3 hx123 hrd hok hres this q0 q1 q2 q3 q4 q5 q6 q7 x0 x1 x2 x3 x4 x5 x6 x7 HV HB HE hx0 hl
  generalize (w3.alloc (.cells #[.slice none 0 0, .int .i64 0] 32)).setRow w3.heap.size #[.slice AP (progT t).length cP, .int .i64 (t.groups : Nat)] = wp at *
  generalize w3.heap.size = gp at *
  generalize w.heap.size = gn at *
  have hr : (t.right 1 0).1 = true := by have h := HC.out; unfold compB at h; exact (Bool.and_eq_true_iff.1 h).1
  have HR := Lib.hid hr
  have hB1 := Blk.newL wp 27 [.int .i64 k, .int .i64 m, .bool z, .int .u64 (wd s 0 : Nat), .int .u64 (wd s 1 : Nat), .int .u64 (wd s 2 : Nat), .int .u64 (wd s 3 : Nat), .slice A n c]
  have HRN := Lib.hid (show Rd (wp.alloc (.cells #[.int .i64 k, .int .i64 m, .bool z, .int .u64 (wd s 0 : Nat), .int .u64 (wd s 1 : Nat), .int .u64 (wd s 2 : Nat), .int .u64 (wd s 3 : Nat), .slice A n c] 27)) 8 (some ⟨wp.heap.size, 0, none⟩) 1 [.int .i64 k, .int .i64 m, .bool z, .int .u64 (wd s 0 : Nat), .int .u64 (wd s 1 : Nat), .int .u64 (wd s 2 : Nat), .int .u64 (wd s 3 : Nat), .slice A n c] from by
    have := Blk.rd (n := 1) (size := 8) hB1 0 (by simp)
    simpa using this)
  have hxn := Ext.new1 wp (.cells #[.int .i64 k, .int .i64 m, .bool z, .int .u64 (wd s 0 : Nat), .int .u64 (wd s 1 : Nat), .int .u64 (wd s 2 : Nat), .int .u64 (wd s 3 : Nat), .slice A n c] 27)
  have HXN := Lib.hid hxn
  have HKN := Lib.hid (kidsV_one (HVP.out.keep hxn))
  clear hr hB1 hxn
  obtain ⟨q0, q1, q2, q3, q4, q5, q6, q7⟩ := HBP.out.cells
  go_upto_region 9 with (go_at_call 35; refine (mnFirst [t] (by intro t' ht'; simp at ht'; subst ht'; have := HS.out; omega) l (by have := HL.out; omega) (some ⟨wp.heap.size, 0, none⟩) 1 [.int .i64 k, .int .i64 m, .bool z, .int .u64 (wd s 0 : Nat), .int .u64 (wd s 1 : Nat), .int .u64 (wd s 2 : Nat), .int .u64 (wd s 3 : Nat), .slice A n c] S _ (by simp [maxLen]) HRN.out HKN.out).mono ?_; rintro e w4 ⟨kq, fq, bq, is, rfl, hbest, hx4⟩)
  have hx4 := Ext.trans HXN.out hx4
  have HX4 := Lib.hid (Ext.trans HXP.out hx4)
  have hp4 := HPB.out.keep hx4
  have HR4 := Lib.hid (HRD.out.keep hx4)
  have hag := agrees_law HR.out hbest (noneK t.groups)
  have HL2 := Lib.hid (show l.length ≤ 1000 by have := HL.out; omega)
  have p0 : w4.cell? ⟨gp, 0, none⟩ = some (.slice AP (progT t).length cP) := hp4.cell 0
  have p1 : w4.cell? ⟨gp, 1, none⟩ = some (.int .i64 (t.groups : Nat)) := hp4.cell 1
  clear hp4 hx4 hbest q0 q1 q2 q3 q4 q5 q6 q7
  cases hf : findP (progT t) (noneK t.groups) l with
  | none =>
    rw [hf] at hag
    obtain ⟨rfl, rfl, rfl⟩ := hag
    have HF := Lib.hid hf
    clear hf
    go_upto_region 10 with (first
      | (have := hx5; refine store_hit rfl (.tmp 11) (.tmp 43) rfl (g := w5.heap.size) (old := [.int .i64 0, .slice none 0 0]) [.int .i64 0, .slice none 0 0] rfl rfl (Blk.newL w5 43 [.int .i64 0, .slice none 0 0]) rfl rfl rfl ?_)
      | (go_at_call 20; refine (smFind (progT t) t.groups HOK.out AP cP l HL2.out w4 HR4.out).mono ?_; intro e w5 hans; unfold FindR at hans; rw [HF.out] at hans; obtain ⟨rfl, hx5⟩ := hans))
    have hB5 := Blk.row (Blk.newL w5 43 [.int .i64 0, .slice none 0 0]) [Value.int .i64 0, .slice none 0 0]
    have h0 : ((w5.alloc (.cells #[.int .i64 0, .slice none 0 0] 43)).setRow w5.heap.size #[.int .i64 0, .slice none 0 0]).cell? ⟨w5.heap.size, 0, none⟩ = some (.int .i64 0) := hB5.cell 0
    have HX5 := Lib.hid (Ext.trans HX4.out (Ext.trans hx5 (show Ext w5 ((w5.alloc (.cells #[.int .i64 0, .slice none 0 0] 43)).setRow w5.heap.size #[.int .i64 0, .slice none 0 0]) from (Ext.new1 _ _).rowX _ _ (Nat.le_refl _))))
    clear hB5 p0 p1
    generalize (w5.alloc (.cells #[.int .i64 0, .slice none 0 0] 43)).setRow w5.heap.size #[.int .i64 0, .slice none 0 0] = w6 at *
    go_wp2
    go_ret
    exact ⟨rfl, HX5.out⟩
  | some x =>
    obtain ⟨j, f, q⟩ := x
    rw [hf] at hag
    obtain ⟨rfl, hfg, rfl⟩ := hag
    subst hfg
    have HF := Lib.hid hf
    clear hf
    go_upto_region 10 with (first
      | (have := hx5; refine store_hit rfl (.tmp 11) (.tmp 43) rfl (g := w5.heap.size) (old := [.int .i64 0, .slice none 0 0]) [.int .i64 (fq : Nat), .slice AH q.length cH] rfl rfl (Blk.newL w5 43 [.int .i64 0, .slice none 0 0]) rfl rfl rfl ?_)
      | (go_at_call 20; refine (smFind (progT t) t.groups HOK.out AP cP l HL2.out w4 HR4.out).mono ?_; intro e w5 hans; unfold FindR at hans; rw [HF.out] at hans; obtain ⟨AH, cH, rfl, _, hx5⟩ := hans))
    have hB5 := Blk.row (Blk.newL w5 43 [.int .i64 0, .slice none 0 0]) [Value.int .i64 (fq : Nat), .slice AH q.length cH]
    have h0 : ((w5.alloc (.cells #[.int .i64 0, .slice none 0 0] 43)).setRow w5.heap.size #[.int .i64 (fq : Nat), .slice AH q.length cH]).cell? ⟨w5.heap.size, 0, none⟩ = some (.int .i64 (fq : Nat)) := hB5.cell 0
    have HX5 := Lib.hid (Ext.trans HX4.out (Ext.trans hx5 (show Ext w5 ((w5.alloc (.cells #[.int .i64 0, .slice none 0 0] 43)).setRow w5.heap.size #[.int .i64 (fq : Nat), .slice AH q.length cH]) from (Ext.new1 _ _).rowX _ _ (Nat.le_refl _))))
    clear hB5 p0 p1
    generalize (w5.alloc (.cells #[.int .i64 0, .slice none 0 0] 43)).setRow w5.heap.size #[.int .i64 (fq : Nat), .slice AH q.length cH] = w6 at *
    go_wp2
    go_ret
    exact ⟨by simp, HX5.out⟩
end Go.Proofs.YtmfdnjddggaeaaaDoor
