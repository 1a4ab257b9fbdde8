/- Globs: the law GlobQuotes. -/
import Derived.Test.YtlofdnefbgjmpaaDoorGl8
namespace Go.Proofs.YtlofdnefbgjmpaaDoor
open Go Go.RowKit
attribute [local irreducible] wd

set_option maxHeartbeats 8000000 in
set_option maxRecDepth 20000 in
theorem lawQuotes (E : Nat → Addr) (l : List UInt8) (kind : Int) (w : World) (HE0 : Errs w E) (HT0 : Tab w) (HW0 : w.cell? ⟨5, 2, none⟩ = some (.string ⟨#[103, 108, 111, 98]⟩)) :
    Calls Tryd.prog 3 #[.string ⟨l.toArray⟩, .int .i64 kind] w fun e w' => e = .returned (.bool true) ∧ Ext w w' := by
  have HEW := Lib.hid (show Env E w from ⟨HE0.some _, HT0⟩)
  have HKW := Lib.hid (HE0.some [8])
  have HES := Lib.hid HE0
  have HA := Lib.hid (alive24 E w HEW.out HW0)
  clear HE0 HT0 HW0
  by_cases h200 : 200 < l.length
  focus
    have h1 : (200 : Int) < (l.length : Int) := by omega
    clear h200
    go_enter Tryd.func3, Tryd.ntmps3
    go_wp2_with (go_at_call 11; refine HA.out.mono ?_; rintro e w1 ⟨rfl, hx1⟩)
    go_ret
    exact ⟨rfl, hx1⟩
  have h1 : ¬ (200 : Int) < (l.length : Int) := by omega
  have HL := Lib.hid (show l.length ≤ 10000 by omega)
  have HO := Lib.hid (fun w h h' => glOf E kind l (by omega) w h h')
  have HQ := Lib.hid (fun w => glQuote l (by omega) w)
  have HPL := Lib.hid (fun w h => glPlain E l (by omega) w h)
  have HQL := Lib.hid (show (quoteG l).length ≤ 10000 by have := quote_len4 l; omega)
  have HLAW := Lib.hid (quote_law l)
  have HOR := Lib.hid (fun t i gr (h : ofG kind l = .ok t i gr) => And.intro (of_right h) (of_size h))
  clear h200
  generalize ofG kind l = r0 at *
  generalize quoteG l = q at *
  cases r0 with
  | out =>
    go_enter Tryd.func3, Tryd.ntmps3
    go_upto_region 5 with (go_at_call 11; refine HA.out.mono ?_; rintro e w1 ⟨rfl, hx1⟩)
    go_wp2_with fail
    go_at_call 12
    refine (HO.out _ (HEW.out.keep hx1) (HKW.out.keep hx1)).mono ?_
    rintro e w2 ⟨_, hR⟩
    exact hR.elim
  | err k =>
    clear HOR
    by_cases hq : 120 < q.length
    focus
      have HPQ := Lib.hid (HLAW.out.1 hq)
      have hq1 : (120 : Int) < (q.length : Int) := by omega
      have hq2 : decide ((q.length : Int) > 120) = true := decide_eq_true hq1
      clear hq
      go_enter Tryd.func3, Tryd.ntmps3
      go_upto_region 5 with (go_at_call 11; refine HA.out.mono ?_; rintro e w1 ⟨rfl, hx1⟩)
      go_wp2_with fail
      go_at_call 12
      refine (HO.out _ (HEW.out.keep hx1) (HKW.out.keep hx1)).mono ?_
      rintro e w2 ⟨hx2, k', rfl, rfl⟩
      have hn := fun w => run_eql_iface_nil (P := Tryd.prog) (w := w) 30 (by kernel_rfl) 233 (.pointer (some (E k')))
      have HXK := Lib.hid (Ext.trans (Ext.trans hx1 hx2) (Ext.new1 w2 (.cells #[.int .i64 0, .int .i64 0, .bool false, .int .u64 0, .int .u64 0, .int .u64 0, .int .u64 0, .slice none 0 0] 28)))
      clear hx1 hx2
      unfold ev errV zN
      go_upto_region 8 with fail
      generalize w2.alloc (.cells #[.int .i64 0, .int .i64 0, .bool false, .int .u64 0, .int .u64 0, .int .u64 0, .int .u64 0, .slice none 0 0] 28) = wk at *
      generalize w2.heap.size = g5 at *
      clear hn
      go_upto_region 9 with (go_at_call 15; refine (HQ.out _).mono ?_; rintro e w6 ⟨rfl, hx6⟩)
      have HX6 := Lib.hid (Ext.trans HXK.out hx6)
      clear hx6
      go_wp2_with fail
      go_at_call 16
      refine (glParse E q HQL.out _ (HEW.out.keep HX6.out)).mono ?_
      rintro e w7 hR
      rw [HPQ.out] at hR
      obtain ⟨hx7, k7, hk7, rfl⟩ := hR
      obtain rfl : k7 = 3 := by omega
      have HX8 := Lib.hid (Ext.trans (Ext.trans HX6.out hx7) (Ext.new1 w7 (.cells #[.int .i64 0, .int .i64 0, .bool false, .int .u64 0, .int .u64 0, .int .u64 0, .int .u64 0, .slice none 0 0] 28)))
      clear hx7 hk7
      unfold zN
      go_upto_region 10 with fail
      generalize w7.alloc (.cells #[.int .i64 0, .int .i64 0, .bool false, .int .u64 0, .int .u64 0, .int .u64 0, .int .u64 0, .slice none 0 0] 28) = w8 at *
      generalize w7.heap.size = g8 at *
      go_wp2_with fail
      go_at_call 17
      refine (HPL.out _ (HEW.out.keep HX8.out)).mono ?_
      rintro e w9 hR
      obtain ⟨hx9, k3, m3, z3, q3, B3, n3, c3, v3, rfl⟩ := RRes.any hR
      have HX10 := Lib.hid (Ext.trans (Ext.trans HX8.out hx9) (Ext.new1 w9 (.cells (nodeC k3 m3 z3 q3 B3 n3 c3).toArray 28)))
      clear hx9 hR
      unfold nodeC at HX10 ⊢
      go_upto_region 11 with fail
      generalize w9.alloc (.cells #[.int .i64 k3, .int .i64 m3, .bool z3, .int .u64 (wd q3 0 : Nat), .int .u64 (wd q3 1 : Nat), .int .u64 (wd q3 2 : Nat), .int .u64 (wd q3 3 : Nat), .slice B3 n3 c3] 28) = w10 at *
      generalize w9.heap.size = g10 at *
      go_wp2_with (go_at_call 18; refine (numErr E 3 _ (HES.out.keep HX10.out) (by omega)).mono ?_; rintro e w11 ⟨rfl, hx11⟩)
      go_ret
      exact ⟨rfl, Ext.trans HX10.out hx11⟩
    have hq1 : ¬ (120 : Int) < (q.length : Int) := by omega
    have hq2 : decide ((q.length : Int) > 120) = false := decide_eq_false hq1
    by_cases hl0 : l = []
    focus
      have HPQ := Lib.hid (HLAW.out.2.1 hl0).1
      have HPE := Lib.hid (HLAW.out.2.1 hl0).2
      have hll : ((l.length : Int) == 0) = true := by subst hl0; rfl
      clear hq hl0
      go_enter Tryd.func3, Tryd.ntmps3
      go_upto_region 5 with (go_at_call 11; refine HA.out.mono ?_; rintro e w1 ⟨rfl, hx1⟩)
      go_wp2_with fail
      go_at_call 12
      refine (HO.out _ (HEW.out.keep hx1) (HKW.out.keep hx1)).mono ?_
      rintro e w2 ⟨hx2, k', rfl, rfl⟩
      have hn := fun w => run_eql_iface_nil (P := Tryd.prog) (w := w) 30 (by kernel_rfl) 233 (.pointer (some (E k')))
      have HXK := Lib.hid (Ext.trans (Ext.trans hx1 hx2) (Ext.new1 w2 (.cells #[.int .i64 0, .int .i64 0, .bool false, .int .u64 0, .int .u64 0, .int .u64 0, .int .u64 0, .slice none 0 0] 28)))
      clear hx1 hx2
      unfold ev errV zN
      go_upto_region 8 with fail
      generalize w2.alloc (.cells #[.int .i64 0, .int .i64 0, .bool false, .int .u64 0, .int .u64 0, .int .u64 0, .int .u64 0, .slice none 0 0] 28) = wk at *
      generalize w2.heap.size = g5 at *
      clear hn
      go_upto_region 9 with (go_at_call 15; refine (HQ.out _).mono ?_; rintro e w6 ⟨rfl, hx6⟩)
      have HX6 := Lib.hid (Ext.trans HXK.out hx6)
      clear hx6
      go_wp2_with fail
      go_at_call 16
      refine (glParse E q HQL.out _ (HEW.out.keep HX6.out)).mono ?_
      rintro e w7 hR
      rw [HPQ.out] at hR
      obtain ⟨hx7, k7, hk7, rfl⟩ := hR
      obtain rfl : k7 = 14 := by omega
      have HX8 := Lib.hid (Ext.trans (Ext.trans HX6.out hx7) (Ext.new1 w7 (.cells #[.int .i64 0, .int .i64 0, .bool false, .int .u64 0, .int .u64 0, .int .u64 0, .int .u64 0, .slice none 0 0] 28)))
      clear hx7 hk7
      unfold zN
      go_upto_region 10 with fail
      generalize w7.alloc (.cells #[.int .i64 0, .int .i64 0, .bool false, .int .u64 0, .int .u64 0, .int .u64 0, .int .u64 0, .slice none 0 0] 28) = w8 at *
      generalize w7.heap.size = g8 at *
      go_wp2_with fail
      go_at_call 17
      refine (HPL.out _ (HEW.out.keep HX8.out)).mono ?_
      rintro e w9 hR
      rw [HPE.out] at hR
      obtain ⟨hx9, k9, hk9, rfl⟩ := hR
      obtain rfl : k9 = 14 := by omega
      have HX10 := Lib.hid (Ext.trans (Ext.trans HX8.out hx9) (Ext.new1 w9 (.cells #[.int .i64 0, .int .i64 0, .bool false, .int .u64 0, .int .u64 0, .int .u64 0, .int .u64 0, .slice none 0 0] 28)))
      clear hx9 hk9
      unfold zN
      go_upto_region 11 with fail
      generalize w9.alloc (.cells #[.int .i64 0, .int .i64 0, .bool false, .int .u64 0, .int .u64 0, .int .u64 0, .int .u64 0, .slice none 0 0] 28) = w10 at *
      generalize w9.heap.size = g10 at *
      go_wp2_with (first
        | (have := hx11; go_at_call 18; refine (numErr E 14 _ (HES.out.keep (Ext.trans HX10.out hx11)) (by omega)).mono ?_; rintro e w12 ⟨rfl, hx12⟩)
        | (go_at_call 18; refine (numErr E 14 _ (HES.out.keep HX10.out) (by omega)).mono ?_; rintro e w11 ⟨rfl, hx11⟩))
      go_ret
      exact ⟨rfl, Ext.trans (Ext.trans HX10.out hx11) hx12⟩
    focus
      have HPQ := Lib.hid (HLAW.out.2.2 hq hl0).1
      have HPE := Lib.hid (HLAW.out.2.2 hq hl0).2
      have hll : ((l.length : Int) == 0) = false := by rw [beq_eq_false_iff_ne]; have := List.length_pos_iff.2 hl0; omega
      clear hq hl0
      go_enter Tryd.func3, Tryd.ntmps3
      go_upto_region 5 with (go_at_call 11; refine HA.out.mono ?_; rintro e w1 ⟨rfl, hx1⟩)
      go_wp2_with fail
      go_at_call 12
      refine (HO.out _ (HEW.out.keep hx1) (HKW.out.keep hx1)).mono ?_
      rintro e w2 ⟨hx2, k', rfl, rfl⟩
      have hn := fun w => run_eql_iface_nil (P := Tryd.prog) (w := w) 30 (by kernel_rfl) 233 (.pointer (some (E k')))
      have HXK := Lib.hid (Ext.trans (Ext.trans hx1 hx2) (Ext.new1 w2 (.cells #[.int .i64 0, .int .i64 0, .bool false, .int .u64 0, .int .u64 0, .int .u64 0, .int .u64 0, .slice none 0 0] 28)))
      clear hx1 hx2
      unfold ev errV zN
      go_upto_region 8 with fail
      generalize w2.alloc (.cells #[.int .i64 0, .int .i64 0, .bool false, .int .u64 0, .int .u64 0, .int .u64 0, .int .u64 0, .slice none 0 0] 28) = wk at *
      generalize w2.heap.size = g5 at *
      clear hn
      go_upto_region 9 with (go_at_call 15; refine (HQ.out _).mono ?_; rintro e w6 ⟨rfl, hx6⟩)
      have HX6 := Lib.hid (Ext.trans HXK.out hx6)
      clear hx6
      go_wp2_with fail
      go_at_call 16
      refine (glParse E q HQL.out _ (HEW.out.keep HX6.out)).mono ?_
      rintro e w7 hR
      rw [HPQ.out] at hR
      obtain ⟨hx7, v2, rfl, hv2⟩ := hR
      obtain ⟨k2, m2, z2, q2, B2, n2, c2, rfl⟩ := nodeV_form hv2
      have HB2 := Lib.hid (NodeB.new w7 k2 m2 z2 q2 B2 n2 c2)
      have HV2 := Lib.hid (hv2.keep (Ext.new1 w7 (.cells (nodeC k2 m2 z2 q2 B2 n2 c2).toArray 28)))
      have HX8 := Lib.hid (Ext.trans (Ext.trans HX6.out hx7) (Ext.new1 w7 (.cells (nodeC k2 m2 z2 q2 B2 n2 c2).toArray 28)))
      clear hx7 hv2
      unfold nodeC at HB2 HV2 HX8 ⊢
      go_upto_region 10 with fail
      generalize w7.alloc (.cells #[.int .i64 k2, .int .i64 m2, .bool z2, .int .u64 (wd q2 0 : Nat), .int .u64 (wd q2 1 : Nat), .int .u64 (wd q2 2 : Nat), .int .u64 (wd q2 3 : Nat), .slice B2 n2 c2] 28) = w8 at *
      generalize w7.heap.size = g8 at *
      go_wp2_with fail
      go_at_call 17
      refine (HPL.out _ (HEW.out.keep HX8.out)).mono ?_
      rintro e w9 hR
      rw [HPE.out] at hR
      obtain ⟨hx9, v3, rfl, hv3⟩ := hR
      obtain ⟨k3, m3, z3, q3, B3, n3, c3, rfl⟩ := nodeV_form hv3
      have HB3 := Lib.hid (NodeB.new w9 k3 m3 z3 q3 B3 n3 c3)
      have HV3 := Lib.hid (hv3.keep (Ext.new1 w9 (.cells (nodeC k3 m3 z3 q3 B3 n3 c3).toArray 28)))
      have HXR := Ext.trans hx9 (Ext.new1 w9 (.cells (nodeC k3 m3 z3 q3 B3 n3 c3).toArray 28))
      have HX10 := Lib.hid (Ext.trans HX8.out HXR)
      have HB2' := Lib.hid (HB2.out.keep HXR)
      have HV2' := Lib.hid (HV2.out.keep HXR)
      clear hx9 hv3 HXR HB2 HV2
      unfold nodeC at HB3 HV3 HX10 HB2' HV2' ⊢
      go_upto_region 11 with fail
      generalize w9.alloc (.cells #[.int .i64 k3, .int .i64 m3, .bool z3, .int .u64 (wd q3 0 : Nat), .int .u64 (wd q3 1 : Nat), .int .u64 (wd q3 2 : Nat), .int .u64 (wd q3 3 : Nat), .slice B3 n3 c3] 28) = w10 at *
      generalize w9.heap.size = g10 at *
      obtain ⟨b0, b1, b2, b3, b4, b5, b6, b7⟩ := HB2'.out.cells
      obtain ⟨d0, d1, d2, d3, d4, d5, d6, d7⟩ := HB3.out.cells
      go_wp2_with (go_at_call 19; refine (rxSame (rowT (l.map byteT)).size (rowT (l.map byteT)) (Nat.le_refl _) (rowT (l.map byteT)) _ _ _ _ _ HV2'.out HV3.out).mono ?_; rintro e w11 ⟨rfl, hx11⟩; rw [same_self])
      go_ret
      exact ⟨rfl, Ext.trans HX10.out hx11⟩
  | ok t i gr =>
    have HRT := Lib.hid (HOR.out t i gr rfl)
    clear HOR
    by_cases hq : 120 < q.length
    focus
      have HPQ := Lib.hid (HLAW.out.1 hq)
      have hq1 : (120 : Int) < (q.length : Int) := by omega
      have hq2 : decide ((q.length : Int) > 120) = true := decide_eq_true hq1
      clear hq
      go_enter Tryd.func3, Tryd.ntmps3
      go_upto_region 5 with (go_at_call 11; refine HA.out.mono ?_; rintro e w1 ⟨rfl, hx1⟩)
      go_wp2_with fail
      go_at_call 12
      refine (HO.out _ (HEW.out.keep hx1) (HKW.out.keep hx1)).mono ?_
      rintro e w2 ⟨hx2, v, rfl, hv⟩
      obtain ⟨k1, m1, z1, q1, B1, n1, c1, rfl⟩ := nodeV_form hv
      have HB := Lib.hid (NodeB.new w2 k1 m1 z1 q1 B1 n1 c1)
      have HV := Lib.hid (hv.keep (Ext.new1 w2 (.cells (nodeC k1 m1 z1 q1 B1 n1 c1).toArray 28)))
      have HX3 := Lib.hid (Ext.trans (Ext.trans hx1 hx2) (Ext.new1 w2 (.cells (nodeC k1 m1 z1 q1 B1 n1 c1).toArray 28)))
      clear hx1 hx2 hv
      unfold nodeC at HB HV HX3 ⊢
      go_upto_region 6 with fail
      generalize w2.alloc (.cells #[.int .i64 k1, .int .i64 m1, .bool z1, .int .u64 (wd q1 0 : Nat), .int .u64 (wd q1 1 : Nat), .int .u64 (wd q1 2 : Nat), .int .u64 (wd q1 3 : Nat), .slice B1 n1 c1] 28) = w3 at *
      generalize w2.heap.size = g5 at *
      obtain ⟨b0, b1, b2, b3, b4, b5, b6, b7⟩ := HB.out.cells
      go_upto_region 8 with (first
        | (have := hx4; go_at_call 14; refine (rxNullableN t.size t (Nat.le_refl _) _ _ _ (HV.out.keep hx4)).mono ?_; rintro e wk ⟨rfl, hx5⟩; rw [HRT.out.1.2]; have HXK := Lib.hid (Ext.trans (Ext.trans HX3.out hx4) hx5); clear d0 d1 d2 d3 d4 d5 d6 d7 b0 b1 b2 b3 b4 b5 b6 b7)
        | (go_at_call 13; refine (rxRight t HRT.out.2 _ _ _ HV.out).mono ?_; rintro e w4 ⟨rfl, hx4⟩; rw [HRT.out.1.1]; obtain ⟨d0, d1, d2, d3, d4, d5, d6, d7⟩ := (HB.out.keep hx4).cells))
      clear HB HV HX3
      go_upto_region 9 with (go_at_call 15; refine (HQ.out _).mono ?_; rintro e w6 ⟨rfl, hx6⟩)
      have HX6 := Lib.hid (Ext.trans HXK.out hx6)
      clear hx6
      go_wp2_with fail
      go_at_call 16
      refine (glParse E q HQL.out _ (HEW.out.keep HX6.out)).mono ?_
      rintro e w7 hR
      rw [HPQ.out] at hR
      obtain ⟨hx7, k7, hk7, rfl⟩ := hR
      obtain rfl : k7 = 3 := by omega
      have HX8 := Lib.hid (Ext.trans (Ext.trans HX6.out hx7) (Ext.new1 w7 (.cells #[.int .i64 0, .int .i64 0, .bool false, .int .u64 0, .int .u64 0, .int .u64 0, .int .u64 0, .slice none 0 0] 28)))
      clear hx7 hk7
      unfold zN
      go_upto_region 10 with fail
      generalize w7.alloc (.cells #[.int .i64 0, .int .i64 0, .bool false, .int .u64 0, .int .u64 0, .int .u64 0, .int .u64 0, .slice none 0 0] 28) = w8 at *
      generalize w7.heap.size = g8 at *
      go_wp2_with fail
      go_at_call 17
      refine (HPL.out _ (HEW.out.keep HX8.out)).mono ?_
      rintro e w9 hR
      obtain ⟨hx9, k3, m3, z3, q3, B3, n3, c3, v3, rfl⟩ := RRes.any hR
      have HX10 := Lib.hid (Ext.trans (Ext.trans HX8.out hx9) (Ext.new1 w9 (.cells (nodeC k3 m3 z3 q3 B3 n3 c3).toArray 28)))
      clear hx9 hR
      unfold nodeC at HX10 ⊢
      go_upto_region 11 with fail
      generalize w9.alloc (.cells #[.int .i64 k3, .int .i64 m3, .bool z3, .int .u64 (wd q3 0 : Nat), .int .u64 (wd q3 1 : Nat), .int .u64 (wd q3 2 : Nat), .int .u64 (wd q3 3 : Nat), .slice B3 n3 c3] 28) = w10 at *
      generalize w9.heap.size = g10 at *
      go_wp2_with (go_at_call 18; refine (numErr E 3 _ (HES.out.keep HX10.out) (by omega)).mono ?_; rintro e w11 ⟨rfl, hx11⟩)
      go_ret
      exact ⟨rfl, Ext.trans HX10.out hx11⟩
    have hq1 : ¬ (120 : Int) < (q.length : Int) := by omega
    have hq2 : decide ((q.length : Int) > 120) = false := decide_eq_false hq1
    by_cases hl0 : l = []
    focus
      have HPQ := Lib.hid (HLAW.out.2.1 hl0).1
      have HPE := Lib.hid (HLAW.out.2.1 hl0).2
      have hll : ((l.length : Int) == 0) = true := by subst hl0; rfl
      clear hq hl0
      go_enter Tryd.func3, Tryd.ntmps3
      go_upto_region 5 with (go_at_call 11; refine HA.out.mono ?_; rintro e w1 ⟨rfl, hx1⟩)
      go_wp2_with fail
      go_at_call 12
      refine (HO.out _ (HEW.out.keep hx1) (HKW.out.keep hx1)).mono ?_
      rintro e w2 ⟨hx2, v, rfl, hv⟩
      obtain ⟨k1, m1, z1, q1, B1, n1, c1, rfl⟩ := nodeV_form hv
      have HB := Lib.hid (NodeB.new w2 k1 m1 z1 q1 B1 n1 c1)
      have HV := Lib.hid (hv.keep (Ext.new1 w2 (.cells (nodeC k1 m1 z1 q1 B1 n1 c1).toArray 28)))
      have HX3 := Lib.hid (Ext.trans (Ext.trans hx1 hx2) (Ext.new1 w2 (.cells (nodeC k1 m1 z1 q1 B1 n1 c1).toArray 28)))
      clear hx1 hx2 hv
      unfold nodeC at HB HV HX3 ⊢
      go_upto_region 6 with fail
      generalize w2.alloc (.cells #[.int .i64 k1, .int .i64 m1, .bool z1, .int .u64 (wd q1 0 : Nat), .int .u64 (wd q1 1 : Nat), .int .u64 (wd q1 2 : Nat), .int .u64 (wd q1 3 : Nat), .slice B1 n1 c1] 28) = w3 at *
      generalize w2.heap.size = g5 at *
      obtain ⟨b0, b1, b2, b3, b4, b5, b6, b7⟩ := HB.out.cells
      go_upto_region 8 with (first
        | (have := hx4; go_at_call 14; refine (rxNullableN t.size t (Nat.le_refl _) _ _ _ (HV.out.keep hx4)).mono ?_; rintro e wk ⟨rfl, hx5⟩; rw [HRT.out.1.2]; have HXK := Lib.hid (Ext.trans (Ext.trans HX3.out hx4) hx5); clear d0 d1 d2 d3 d4 d5 d6 d7 b0 b1 b2 b3 b4 b5 b6 b7)
        | (go_at_call 13; refine (rxRight t HRT.out.2 _ _ _ HV.out).mono ?_; rintro e w4 ⟨rfl, hx4⟩; rw [HRT.out.1.1]; obtain ⟨d0, d1, d2, d3, d4, d5, d6, d7⟩ := (HB.out.keep hx4).cells))
      clear HB HV HX3
      go_upto_region 9 with (go_at_call 15; refine (HQ.out _).mono ?_; rintro e w6 ⟨rfl, hx6⟩)
      have HX6 := Lib.hid (Ext.trans HXK.out hx6)
      clear hx6
      go_wp2_with fail
      go_at_call 16
      refine (glParse E q HQL.out _ (HEW.out.keep HX6.out)).mono ?_
      rintro e w7 hR
      rw [HPQ.out] at hR
      obtain ⟨hx7, k7, hk7, rfl⟩ := hR
      obtain rfl : k7 = 14 := by omega
      have HX8 := Lib.hid (Ext.trans (Ext.trans HX6.out hx7) (Ext.new1 w7 (.cells #[.int .i64 0, .int .i64 0, .bool false, .int .u64 0, .int .u64 0, .int .u64 0, .int .u64 0, .slice none 0 0] 28)))
      clear hx7 hk7
      unfold zN
      go_upto_region 10 with fail
      generalize w7.alloc (.cells #[.int .i64 0, .int .i64 0, .bool false, .int .u64 0, .int .u64 0, .int .u64 0, .int .u64 0, .slice none 0 0] 28) = w8 at *
      generalize w7.heap.size = g8 at *
      go_wp2_with fail
      go_at_call 17
      refine (HPL.out _ (HEW.out.keep HX8.out)).mono ?_
      rintro e w9 hR
      rw [HPE.out] at hR
      obtain ⟨hx9, k9, hk9, rfl⟩ := hR
      obtain rfl : k9 = 14 := by omega
      have HX10 := Lib.hid (Ext.trans (Ext.trans HX8.out hx9) (Ext.new1 w9 (.cells #[.int .i64 0, .int .i64 0, .bool false, .int .u64 0, .int .u64 0, .int .u64 0, .int .u64 0, .slice none 0 0] 28)))
      clear hx9 hk9
      unfold zN
      go_upto_region 11 with fail
      generalize w9.alloc (.cells #[.int .i64 0, .int .i64 0, .bool false, .int .u64 0, .int .u64 0, .int .u64 0, .int .u64 0, .slice none 0 0] 28) = w10 at *
      generalize w9.heap.size = g10 at *
      go_wp2_with (first
        | (have := hx11; go_at_call 18; refine (numErr E 14 _ (HES.out.keep (Ext.trans HX10.out hx11)) (by omega)).mono ?_; rintro e w12 ⟨rfl, hx12⟩)
        | (go_at_call 18; refine (numErr E 14 _ (HES.out.keep HX10.out) (by omega)).mono ?_; rintro e w11 ⟨rfl, hx11⟩))
      go_ret
      exact ⟨rfl, Ext.trans (Ext.trans HX10.out hx11) hx12⟩
    focus
      have HPQ := Lib.hid (HLAW.out.2.2 hq hl0).1
      have HPE := Lib.hid (HLAW.out.2.2 hq hl0).2
      have hll : ((l.length : Int) == 0) = false := by rw [beq_eq_false_iff_ne]; have := List.length_pos_iff.2 hl0; omega
      clear hq hl0
      go_enter Tryd.func3, Tryd.ntmps3
      go_upto_region 5 with (go_at_call 11; refine HA.out.mono ?_; rintro e w1 ⟨rfl, hx1⟩)
      go_wp2_with fail
      go_at_call 12
      refine (HO.out _ (HEW.out.keep hx1) (HKW.out.keep hx1)).mono ?_
      rintro e w2 ⟨hx2, v, rfl, hv⟩
      obtain ⟨k1, m1, z1, q1, B1, n1, c1, rfl⟩ := nodeV_form hv
      have HB := Lib.hid (NodeB.new w2 k1 m1 z1 q1 B1 n1 c1)
      have HV := Lib.hid (hv.keep (Ext.new1 w2 (.cells (nodeC k1 m1 z1 q1 B1 n1 c1).toArray 28)))
      have HX3 := Lib.hid (Ext.trans (Ext.trans hx1 hx2) (Ext.new1 w2 (.cells (nodeC k1 m1 z1 q1 B1 n1 c1).toArray 28)))
      clear hx1 hx2 hv
      unfold nodeC at HB HV HX3 ⊢
      go_upto_region 6 with fail
      generalize w2.alloc (.cells #[.int .i64 k1, .int .i64 m1, .bool z1, .int .u64 (wd q1 0 : Nat), .int .u64 (wd q1 1 : Nat), .int .u64 (wd q1 2 : Nat), .int .u64 (wd q1 3 : Nat), .slice B1 n1 c1] 28) = w3 at *
      generalize w2.heap.size = g5 at *
      obtain ⟨b0, b1, b2, b3, b4, b5, b6, b7⟩ := HB.out.cells
      go_upto_region 8 with (first
        | (have := hx4; go_at_call 14; refine (rxNullableN t.size t (Nat.le_refl _) _ _ _ (HV.out.keep hx4)).mono ?_; rintro e wk ⟨rfl, hx5⟩; rw [HRT.out.1.2]; have HXK := Lib.hid (Ext.trans (Ext.trans HX3.out hx4) hx5); clear d0 d1 d2 d3 d4 d5 d6 d7 b0 b1 b2 b3 b4 b5 b6 b7)
        | (go_at_call 13; refine (rxRight t HRT.out.2 _ _ _ HV.out).mono ?_; rintro e w4 ⟨rfl, hx4⟩; rw [HRT.out.1.1]; obtain ⟨d0, d1, d2, d3, d4, d5, d6, d7⟩ := (HB.out.keep hx4).cells))
      clear HB HV HX3
      go_upto_region 9 with (go_at_call 15; refine (HQ.out _).mono ?_; rintro e w6 ⟨rfl, hx6⟩)
      have HX6 := Lib.hid (Ext.trans HXK.out hx6)
      clear hx6
      go_wp2_with fail
      go_at_call 16
      refine (glParse E q HQL.out _ (HEW.out.keep HX6.out)).mono ?_
      rintro e w7 hR
      rw [HPQ.out] at hR
      obtain ⟨hx7, v2, rfl, hv2⟩ := hR
      obtain ⟨k2, m2, z2, q2, B2, n2, c2, rfl⟩ := nodeV_form hv2
      have HB2 := Lib.hid (NodeB.new w7 k2 m2 z2 q2 B2 n2 c2)
      have HV2 := Lib.hid (hv2.keep (Ext.new1 w7 (.cells (nodeC k2 m2 z2 q2 B2 n2 c2).toArray 28)))
      have HX8 := Lib.hid (Ext.trans (Ext.trans HX6.out hx7) (Ext.new1 w7 (.cells (nodeC k2 m2 z2 q2 B2 n2 c2).toArray 28)))
      clear hx7 hv2
      unfold nodeC at HB2 HV2 HX8 ⊢
      go_upto_region 10 with fail
      generalize w7.alloc (.cells #[.int .i64 k2, .int .i64 m2, .bool z2, .int .u64 (wd q2 0 : Nat), .int .u64 (wd q2 1 : Nat), .int .u64 (wd q2 2 : Nat), .int .u64 (wd q2 3 : Nat), .slice B2 n2 c2] 28) = w8 at *
      generalize w7.heap.size = g8 at *
      go_wp2_with fail
      go_at_call 17
      refine (HPL.out _ (HEW.out.keep HX8.out)).mono ?_
      rintro e w9 hR
      rw [HPE.out] at hR
      obtain ⟨hx9, v3, rfl, hv3⟩ := hR
      obtain ⟨k3, m3, z3, q3, B3, n3, c3, rfl⟩ := nodeV_form hv3
      have HB3 := Lib.hid (NodeB.new w9 k3 m3 z3 q3 B3 n3 c3)
      have HV3 := Lib.hid (hv3.keep (Ext.new1 w9 (.cells (nodeC k3 m3 z3 q3 B3 n3 c3).toArray 28)))
      have HXR := Ext.trans hx9 (Ext.new1 w9 (.cells (nodeC k3 m3 z3 q3 B3 n3 c3).toArray 28))
      have HX10 := Lib.hid (Ext.trans HX8.out HXR)
      have HB2' := Lib.hid (HB2.out.keep HXR)
      have HV2' := Lib.hid (HV2.out.keep HXR)
      clear hx9 hv3 HXR HB2 HV2
      unfold nodeC at HB3 HV3 HX10 HB2' HV2' ⊢
      go_upto_region 11 with fail
      generalize w9.alloc (.cells #[.int .i64 k3, .int .i64 m3, .bool z3, .int .u64 (wd q3 0 : Nat), .int .u64 (wd q3 1 : Nat), .int .u64 (wd q3 2 : Nat), .int .u64 (wd q3 3 : Nat), .slice B3 n3 c3] 28) = w10 at *
      generalize w9.heap.size = g10 at *
      obtain ⟨b0, b1, b2, b3, b4, b5, b6, b7⟩ := HB2'.out.cells
      obtain ⟨d0, d1, d2, d3, d4, d5, d6, d7⟩ := HB3.out.cells
      go_wp2_with (go_at_call 19; refine (rxSame (rowT (l.map byteT)).size (rowT (l.map byteT)) (Nat.le_refl _) (rowT (l.map byteT)) _ _ _ _ _ HV2'.out HV3.out).mono ?_; rintro e w11 ⟨rfl, hx11⟩; rw [same_self])
      go_ret
      exact ⟨rfl, Ext.trans HX10.out hx11⟩
end Go.Proofs.YtlofdnefbgjmpaaDoor
