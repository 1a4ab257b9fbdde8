/- A Star says the empty text, and what its kid says and then the Star; a Plus is its kid and then the Star: walked. -/
import Derived.Test.YtnkhiohopcadmaaDoorMn13
namespace Go.Proofs.YtnkhiohopcadmaaDoor
open Go Go.RowKit
attribute [local irreducible] wd

theorem right_kid3 {t : T} (h : t.fine27 = true) : t.right 3 0 = (true, 0) := by
  obtain ⟨h1, h2, h3⟩ := fine27_is h
  obtain ⟨a1, a2⟩ := right_move t 1 0 3 0 h2 h3 (by omega)
  exact Prod.ext a1 a2
section
variable {t : T} (h : t.fine27 = true) (hn : t.nullable = false)
include h hn
theorem right_star : ((T.node 5 0 false noP [t]).right 1 0).1 = true := right_two rfl (.inl rfl) ⟨by decide, fun _ => hn⟩ (rightL_one h)
theorem right_plus : ((T.node 6 0 false noP [t]).right 1 0).1 = true := right_two rfl (.inl rfl) ⟨by decide, fun _ => hn⟩ (rightL_one h)
theorem right_both : ((T.node 3 0 false noP [t, T.node 5 0 false noP [t]]).right 1 0).1 = true := by
  refine right_two rfl (.inl rfl) ⟨by decide, by intro e; rcases e with e | e <;> cases e⟩ ?_
  have h2 := right_kid h
  have h3 := right_kid3 h
  have h5 : T.right (.node 5 0 false noP [t]) 2 0 = (true, 0) := by
    unfold T.right
    have hb : bareB 5 0 false noP = true := by unfold bareB; rw [none_noP']; rfl
    rw [if_neg (by simp only [not_or]; exact ⟨by omega, by simp [kidsOk], by simp [hb]⟩), if_neg (fun e => by cases e.1)]
    simp [rightL, h3, headN, hn]
  simp [rightL, h2, h5]
theorem says_star_nil : saysA (T.node 5 0 false noP [t]) [] = true := by
  unfold saysA; rw [right_star h hn, Bool.true_and, saysB_iff, lang_star]; exact .inl rfl
theorem says_plus_nil : saysA (T.node 6 0 false noP [t]) [] = false := by
  unfold saysA
  rw [right_plus h hn, Bool.true_and]
  have h1 : ¬ Lang (T.node 6 0 false noP [t]) [] := by
    rw [lang_plus, plus_nil, lang_nil t (right_good t 1 0 (fine27_is h).2.1), hn]
    simp
  cases h9 : saysB (T.node 6 0 false noP [t]) []
  · rfl
  · exact absurd (saysB_iff.1 h9) h1
theorem says_both (l : List UInt8) : saysA (T.node 3 0 false noP [t, T.node 5 0 false noP [t]]) l = saysA (T.node 6 0 false noP [t]) l := by
  unfold saysA
  rw [right_both h hn, right_plus h hn, Bool.true_and, Bool.true_and]
  exact saysB_eq lang_both
theorem says_star (l : List UInt8) : saysA (T.node 5 0 false noP [t]) l = (((l.length : Int) == 0) || saysA (T.node 6 0 false noP [t]) l) := by
  unfold saysA
  rw [right_star h hn, right_plus h hn, Bool.true_and, Bool.true_and, Bool.eq_iff_iff, saysB_iff, lang_star, Bool.or_eq_true, saysB_iff, lang_plus, beq_iff_eq]
  constructor
  · rintro (h | h)
    · exact .inl (by rw [h]; rfl)
    · exact .inr h
  · rintro (h | h)
    · exact .inl (List.eq_nil_of_length_eq_zero (by omega))
    · exact .inr h
theorem ends_both (l : List UInt8) (j : Int) : endsA (T.node 3 0 false noP [t, T.node 5 0 false noP [t]]) l j = endsA (T.node 6 0 false noP [t]) l j := by
  unfold endsA endsR
  split
  · rfl
  · rw [right_both h hn, right_plus h hn, if_pos rfl, if_pos rfl]
    exact ends_ext (fun s => lang_both) l (by omega)
end
theorem lit_cells {w : World} {g : Nat} {e : TypeId} {a0 a1 a2 a3 a4 a5 a6 a7 : Value} (h : Blk w g e [a0, a1, a2, a3, a4, a5, a6, a7]) :
    w.cell? ⟨g, 0, none⟩ = some a0 ∧ w.cell? ⟨g, 1, none⟩ = some a1 ∧ w.cell? ⟨g, 2, none⟩ = some a2 ∧ w.cell? ⟨g, 3, none⟩ = some a3 ∧ w.cell? ⟨g, 4, none⟩ = some a4 ∧ w.cell? ⟨g, 5, none⟩ = some a5 ∧ w.cell? ⟨g, 6, none⟩ = some a6 ∧ w.cell? ⟨g, 7, none⟩ = some a7 :=
  ⟨Blk.cell h 0, Blk.cell h 1, Blk.cell h 2, Blk.cell h 3, Blk.cell h 4, Blk.cell h 5, Blk.cell h 6, Blk.cell h 7⟩
/-- A node over its kids, both made just now. -/
structure Made (w : World) (t : T) (g s : Nat) (kd : Int) (n : Nat) : Prop where
  nv : NodeV (fun _ => True) w t [.int .i64 kd, .int .i64 0, .bool false, .int .u64 0, .int .u64 0, .int .u64 0, .int .u64 0, .slice (some ⟨s, 0, none⟩) n n]
  bl : Blk w g 27 [.int .i64 kd, .int .i64 0, .bool false, .int .u64 0, .int .u64 0, .int .u64 0, .int .u64 0, .slice (some ⟨s, 0, none⟩) n n]
theorem Made.keep {w w' : World} {t : T} {g s : Nat} {kd : Int} {n : Nat} (h : Made w t g s kd n) (hx : Ext w w') : Made w' t g s kd n := ⟨h.nv.keep hx, Blk.keep h.bl hx⟩
theorem made_one {S : Nat → Prop} {w : World} {t : T} {cs : List Value} (h : NodeV S w t cs) (kd : Int) :
    Made ((w.alloc (.cells cs.toArray 27)).alloc (.cells #[.int .i64 kd, .int .i64 0, .bool false, .int .u64 0, .int .u64 0, .int .u64 0, .int .u64 0, .slice (some ⟨w.heap.size, 0, none⟩) 1 1] 27)) (.node kd 0 false noP [t]) (w.heap.size + 1) w.heap.size kd 1 := by
  refine ⟨(one_kid h kd 0 false (S' := fun _ => True) (fun _ _ _ => trivial) trivial).keep (Ext.new1 _ _), ?_⟩
  have := Blk.newL (w.alloc (.cells cs.toArray 27)) 27 [.int .i64 kd, .int .i64 0, .bool false, .int .u64 0, .int .u64 0, .int .u64 0, .int .u64 0, .slice (some ⟨w.heap.size, 0, none⟩) 1 1]
  rw [show (w.alloc (.cells cs.toArray 27)).heap.size = w.heap.size + 1 by simp] at this
  exact this
theorem made_two {S S' : Nat → Prop} {w : World} {ta tb : T} {ca cb : List Value} (ha : NodeV S w ta ca) (hb : NodeV S' w tb cb) (kd : Int) :
    Made ((w.alloc (.cells (ca ++ cb).toArray 27)).alloc (.cells #[.int .i64 kd, .int .i64 0, .bool false, .int .u64 0, .int .u64 0, .int .u64 0, .int .u64 0, .slice (some ⟨w.heap.size, 0, none⟩) 2 2] 27)) (.node kd 0 false noP [ta, tb]) (w.heap.size + 1) w.heap.size kd 2 := by
  refine ⟨(two_kids ha hb kd false).1.keep (Ext.new1 _ _), ?_⟩
  have := Blk.newL (w.alloc (.cells (ca ++ cb).toArray 27)) 27 [.int .i64 kd, .int .i64 0, .bool false, .int .u64 0, .int .u64 0, .int .u64 0, .int .u64 0, .slice (some ⟨w.heap.size, 0, none⟩) 2 2]
  rw [show (w.alloc (.cells (ca ++ cb).toArray 27)).heap.size = w.heap.size + 1 by simp] at this
  exact this

set_option maxHeartbeats 6000000 in
set_option maxRecDepth 20000 in
theorem lawStar (E : Nat → Addr) (t : T) (l : List UInt8) (S : Nat → Prop) (v : List Value) (w : World) (h : NodeV S w t v) (hE : Env E w) :
    Calls Tryd.prog 7 #[.agg v.toArray, .string ⟨l.toArray⟩] w fun e w' => e = .returned (.bool true) ∧ Ext w w' := by
  obtain ⟨k, m, z, p, B, n, c, rfl⟩ := nodeV_form h
  have hx0 := Lib.hid (Ext.new1 w (.cells (nodeC k m z p B n c).toArray 27))
  have HV := Lib.hid (h.keep hx0.out)
  have HB := Lib.hid (NodeB.new w k m z p B n c)
  have HE := Lib.hid (hE.keep hx0.out)
  clear h hE
  unfold nodeC at hx0 HV HE ⊢
  by_cases hl : (12 : Int) < (l.length : Int)
  · go_enter Tryd.func7, Tryd.ntmps7
    go_wp2_with (go_at_call 26; refine (alive27 E _ HE.out).mono ?_; rintro e w1 ⟨rfl, hx1⟩; obtain ⟨q0, q1, q2, q3, q4, q5, q6, q7⟩ := (HB.out.keep hx1).cells)
    go_ret
    exact ⟨rfl, Ext.trans hx0.out hx1⟩
  cases hf : t.fine27
  · have HF := Lib.hid hf
    clear hf
    go_enter Tryd.func7, Tryd.ntmps7
    go_wp2_with (first
      | (have := hx1; go_at_call 32; refine (lawFine27 t S _ (nodeC k m z p B n c) (HV.out.keep hx1)).mono ?_; rintro e w2 ⟨rfl, hx2⟩; rw [HF.out]; obtain ⟨q0, q1, q2, q3, q4, q5, q6, q7⟩ := (HB.out.keep (Ext.trans hx1 hx2)).cells)
      | (go_at_call 26; refine (alive27 E _ HE.out).mono ?_; rintro e w1 ⟨rfl, hx1⟩; obtain ⟨q0, q1, q2, q3, q4, q5, q6, q7⟩ := (HB.out.keep hx1).cells))
    go_ret
    exact ⟨rfl, Ext.trans hx0.out (Ext.trans hx1 hx2)⟩
  have HSZ := Lib.hid (fine27_is hf).1
  cases hnu : t.nullable
  rotate_left
  · have HF := Lib.hid hf
    have HNU := Lib.hid hnu
    clear hf hnu
    go_enter Tryd.func7, Tryd.ntmps7
    go_wp2_with (first
      | (have := hx2; go_at_call 19; refine (rxNullable _ t (Nat.le_refl _) (by have := HSZ.out; omega) _ _ (nodeC k m z p B n c) (HV.out.keep (Ext.trans hx1 hx2))).mono ?_; rintro e w3 ⟨rfl, hx3⟩; rw [HNU.out])
      | (have := hx1; go_at_call 32; refine (lawFine27 t S _ (nodeC k m z p B n c) (HV.out.keep hx1)).mono ?_; rintro e w2 ⟨rfl, hx2⟩; rw [HF.out]; obtain ⟨q0, q1, q2, q3, q4, q5, q6, q7⟩ := (HB.out.keep (Ext.trans hx1 hx2)).cells)
      | (go_at_call 26; refine (alive27 E _ HE.out).mono ?_; rintro e w1 ⟨rfl, hx1⟩; obtain ⟨q0, q1, q2, q3, q4, q5, q6, q7⟩ := (HB.out.keep hx1).cells))
    go_ret
    exact ⟨rfl, Ext.trans hx0.out (Ext.trans hx1 (Ext.trans hx2 hx3))⟩
  have HF := Lib.hid hf
  have HNU := Lib.hid hnu
  have HN := Lib.hid (show l.length ≤ 12 by omega)
  clear hf hnu
  go_enter Tryd.func7, Tryd.ntmps7
  go_upto_region 5 with (first
    | (have := hx2; go_at_call 19; refine (rxNullable _ t (Nat.le_refl _) (by have := HSZ.out; omega) _ _ (nodeC k m z p B n c) (HV.out.keep (Ext.trans hx1 hx2))).mono ?_; rintro e w3 ⟨rfl, hx3⟩; rw [HNU.out])
    | (have := hx1; go_at_call 32; refine (lawFine27 t S _ (nodeC k m z p B n c) (HV.out.keep hx1)).mono ?_; rintro e w2 ⟨rfl, hx2⟩; rw [HF.out]; obtain ⟨q0, q1, q2, q3, q4, q5, q6, q7⟩ := (HB.out.keep (Ext.trans hx1 hx2)).cells)
    | (go_at_call 26; refine (alive27 E _ HE.out).mono ?_; rintro e w1 ⟨rfl, hx1⟩; obtain ⟨q0, q1, q2, q3, q4, q5, q6, q7⟩ := (HB.out.keep hx1).cells))
  have hxw := Ext.trans hx1 (Ext.trans hx2 hx3)
  have HV1 := Lib.hid (HV.out.keep hxw)
  have HB1 := Lib.hid (HB.out.keep hxw)
  have HX1 := Lib.hid (Ext.trans hx0.out hxw)
  clear hx1 hx2 hx3 hxw HV HB HE hx0 q0 q1 q2 q3 q4 q5 q6 q7
  generalize w.heap.size = gA at *
  generalize w3 = wk at *
  obtain ⟨q0, q1, q2, q3, q4, q5, q6, q7⟩ := HB1.out.cells
  go_upto_region 6 with fail
  clear q0 q1 q2 q3 q4 q5 q6 q7
  have hm := made_one HV1.out 5
  have hx := Ext.trans (Ext.new1 wk (.cells (nodeC k m z p B n c).toArray 27)) (Ext.new1 _ (.cells #[.int .i64 5, .int .i64 0, .bool false, .int .u64 0, .int .u64 0, .int .u64 0, .int .u64 0, .slice (some ⟨wk.heap.size, 0, none⟩) 1 1] 27))
  have HM2 := Lib.hid hm
  have HV2 := Lib.hid (HV1.out.keep hx)
  have HB2 := Lib.hid (HB1.out.keep hx)
  have HX2 := Lib.hid (Ext.trans HX1.out hx)
  clear hm hx HV1 HB1 HX1
  simp only [nodeC] at HV2 HB2 HX2 HM2
  generalize World.alloc (World.alloc wk _) _ = wa at *
  have HB2 := Lib.hid (show NodeB wa gA k m z p B n c from HB2.out)
  obtain ⟨gn2, hgn⟩ : ∃ gn, wk.heap.size + 1 = gn := ⟨_, rfl⟩
  try rw [hgn]
  rw [hgn] at HM2
  clear hgn
  generalize wk.heap.size = ga1 at *
  obtain ⟨q0, q1, q2, q3, q4, q5, q6, q7⟩ := HB2.out.cells
  go_upto_region 7 with fail
  clear q0 q1 q2 q3 q4 q5 q6 q7
  have hm := made_one HV2.out 6
  have hx := Ext.trans (Ext.new1 wa (.cells (nodeC k m z p B n c).toArray 27)) (Ext.new1 _ (.cells #[.int .i64 6, .int .i64 0, .bool false, .int .u64 0, .int .u64 0, .int .u64 0, .int .u64 0, .slice (some ⟨wa.heap.size, 0, none⟩) 1 1] 27))
  have HM3 := Lib.hid hm
  have HV3 := Lib.hid (HV2.out.keep hx)
  have HB3 := Lib.hid (HB2.out.keep hx)
  have HX3 := Lib.hid (Ext.trans HX2.out hx)
  replace HM2 := Lib.hid (HM2.out.keep hx)
  clear hm hx HV2 HB2 HX2
  simp only [nodeC] at HV3 HB3 HX3 HM2 HM3
  generalize World.alloc (World.alloc wa _) _ = wb at *
  have HB3 := Lib.hid (show NodeB wb gA k m z p B n c from HB3.out)
  obtain ⟨gn3, hgn⟩ : ∃ gn, wa.heap.size + 1 = gn := ⟨_, rfl⟩
  try rw [hgn]
  rw [hgn] at HM3
  clear hgn
  generalize wa.heap.size = ga2 at *
  obtain ⟨q0, q1, q2, q3, q4, q5, q6, q7⟩ := HB3.out.cells
  obtain ⟨x0, x1, x2, x3, x4, x5, x6, x7⟩ := lit_cells HM2.out.bl
  go_upto_region 8 with fail
  clear q0 q1 q2 q3 q4 q5 q6 q7 x0 x1 x2 x3 x4 x5 x6 x7
  have hm := made_two HV3.out HM2.out.nv 3
  have hx := Ext.trans (Ext.new1 wb (.cells ((nodeC k m z p B n c) ++ ([.int .i64 5, .int .i64 0, .bool false, .int .u64 0, .int .u64 0, .int .u64 0, .int .u64 0, .slice (some ⟨ga1, 0, none⟩) 1 1] : List Value)).toArray 27)) (Ext.new1 _ (.cells #[.int .i64 3, .int .i64 0, .bool false, .int .u64 0, .int .u64 0, .int .u64 0, .int .u64 0, .slice (some ⟨wb.heap.size, 0, none⟩) 2 2] 27))
  have HM4 := Lib.hid hm
  have HV4 := Lib.hid (HV3.out.keep hx)
  have HB4 := Lib.hid (HB3.out.keep hx)
  have HX4 := Lib.hid (Ext.trans HX3.out hx)
  replace HM2 := Lib.hid (HM2.out.keep hx)
  replace HM3 := Lib.hid (HM3.out.keep hx)
  clear hm hx HV3 HB3 HX3
  simp only [nodeC, List.cons_append, List.nil_append] at HV4 HB4 HX4 HM2 HM3 HM4
  generalize World.alloc (World.alloc wb _) _ = wc at *
  have HB4 := Lib.hid (show NodeB wc gA k m z p B n c from HB4.out)
  obtain ⟨gn4, hgn⟩ : ∃ gn, wb.heap.size + 1 = gn := ⟨_, rfl⟩
  try rw [hgn]
  rw [hgn] at HM4
  clear hgn
  generalize wb.heap.size = ga3 at *
  have HEB := Lib.hid (ends_both HF.out HNU.out l)
  have HSB := Lib.hid (says_both HF.out HNU.out l)
  have HSS := Lib.hid (says_star HF.out HNU.out l)
  have HSN := Lib.hid (says_star_nil HF.out HNU.out)
  have HPN := Lib.hid (says_plus_nil HF.out HNU.out)
  obtain ⟨q, hq⟩ : ∃ q, saysA (T.node 6 0 false noP [t]) l = q := ⟨_, rfl⟩
  have HQ := Lib.hid hq
  rw [hq] at HSB HSS
  clear hq
  by_cases h3 : (3 : Int) < (l.length : Int)
  · have hl0 : ((l.length : Int) == 0) = false := by rw [beq_eq_false_iff_ne]; omega
    have HSR := Lib.hid (show saysA (T.node 5 0 false noP [t]) l = q by rw [HSS.out, hl0]; rfl)
    have HL0 := Lib.hid hl0
    obtain ⟨W, hW⟩ : ∃ W, natsI (endsA (T.node 6 0 false noP [t]) l 2) = W := ⟨_, rfl⟩
    have HW := Lib.hid hW
    have HWL := Lib.hid (show W.length ≤ 13 by rw [← hW]; have := endsA_le (T.node 6 0 false noP [t]) l 2; have := HN.out; unfold natsI; rw [List.length_map]; omega)
    clear hW hl0
    go_upto_region 11 with fail
    refine wp_region_dag (E := Ext) (w0 := wc) (Φ := fun i v w => match i with | 0 => (v = .agg #[.int .i64 5, .int .i64 0, .bool false, .int .u64 0, .int .u64 0, .int .u64 0, .int .u64 0, .slice (some ⟨ga1, 0, none⟩) 1 1]) | 1 => (v = .bool true) | 2 => (v = .bool true) | 3 => (v = .agg #[.int .i64 6, .int .i64 0, .bool false, .int .u64 0, .int .u64 0, .int .u64 0, .int .u64 0, .slice (some ⟨ga2, 0, none⟩) 1 1]) | 4 => (v = .bool false) | 5 => (v = .bool true) | 6 => (v = .bool true) | 7 => (v = .bool true) | 8 => (v = .agg #[.int .i64 6, .int .i64 0, .bool false, .int .u64 0, .int .u64 0, .int .u64 0, .int .u64 0, .slice (some ⟨ga2, 0, none⟩) 1 1]) | 9 => (v = .string ⟨l.toArray⟩) | 10 => (v = .bool q) | 11 => (v = .agg #[.int .i64 3, .int .i64 0, .bool false, .int .u64 0, .int .u64 0, .int .u64 0, .int .u64 0, .slice (some ⟨ga3, 0, none⟩) 2 2]) | 12 => (v = .string ⟨l.toArray⟩) | 13 => (v = .bool q) | 14 => (v = .bool true) | 15 => (v = .bool true) | 16 => (v = .bool true) | 17 => (v = .agg #[.int .i64 5, .int .i64 0, .bool false, .int .u64 0, .int .u64 0, .int .u64 0, .int .u64 0, .slice (some ⟨ga1, 0, none⟩) 1 1]) | 18 => (v = .string ⟨l.toArray⟩) | 19 => (v = .bool q) | 20 => (v = .string ⟨l.toArray⟩) | 21 => (v = .int .i64 (l.length : Nat)) | 22 => (v = .bool false) | 23 => (v = .bool false) | 24 => (v = .agg #[.int .i64 6, .int .i64 0, .bool false, .int .u64 0, .int .u64 0, .int .u64 0, .int .u64 0, .slice (some ⟨ga2, 0, none⟩) 1 1]) | 25 => (v = .string ⟨l.toArray⟩) | 26 => (v = .bool q) | 27 => (v = .bool q) | 28 => (v = .bool true) | 29 => (v = .bool true) | 30 => (v = .bool true) | 31 => (v = .agg #[.int .i64 6, .int .i64 0, .bool false, .int .u64 0, .int .u64 0, .int .u64 0, .int .u64 0, .slice (some ⟨ga2, 0, none⟩) 1 1]) | 32 => (v = .string ⟨l.toArray⟩) | 33 => (v = .int .i64 2) | 34 => (IlV w v W) | 35 => (v = .agg #[.int .i64 3, .int .i64 0, .bool false, .int .u64 0, .int .u64 0, .int .u64 0, .int .u64 0, .slice (some ⟨ga3, 0, none⟩) 2 2]) | 36 => (v = .string ⟨l.toArray⟩) | 37 => (v = .int .i64 2) | 38 => (IlV w v W) | 39 => (v = .bool true) | 40 => (v = .bool true) | 41 => (v = .bool true) | _ => True) (show Tryd.prog.follows .mixedOrders = true from Checked.mixed Tryd.checked) 77 rfl (by decide +kernel) ?_ ((Below.refl _ _).drew) ?_ ⟨?_, ?_, ?_, ?_, ?_, ?_, ?_, ?_, ?_, ?_, ?_, ?_, ?_, ?_, ?_, ?_, ?_, ?_, ?_, ?_, ?_, ?_, ?_, ?_, ?_, ?_, ?_, ?_, ?_, ?_, ?_, ?_, ?_, ?_, ?_, ?_, ?_, ?_, ?_, ?_, ?_, ?_, trivial⟩ ?_
    · intro i v w w' h hE
      match i, h with
      | 0, h => exact h
      | 1, h => exact h
      | 2, h => exact h
      | 3, h => exact h
      | 4, h => exact h
      | 5, h => exact h
      | 6, h => exact h
      | 7, h => exact h
      | 8, h => exact h
      | 9, h => exact h
      | 10, h => exact h
      | 11, h => exact h
      | 12, h => exact h
      | 13, h => exact h
      | 14, h => exact h
      | 15, h => exact h
      | 16, h => exact h
      | 17, h => exact h
      | 18, h => exact h
      | 19, h => exact h
      | 20, h => exact h
      | 21, h => exact h
      | 22, h => exact h
      | 23, h => exact h
      | 24, h => exact h
      | 25, h => exact h
      | 26, h => exact h
      | 27, h => exact h
      | 28, h => exact h
      | 29, h => exact h
      | 30, h => exact h
      | 31, h => exact h
      | 32, h => exact h
      | 33, h => exact h
      | 34, h => exact IlV.keep h hE
      | 35, h => exact h
      | 36, h => exact h
      | 37, h => exact h
      | 38, h => exact IlV.keep h hE
      | 39, h => exact h
      | 40, h => exact h
      | 41, h => exact h
      | _ + 42, _ => trivial
    · exact fun w w' h h' => h.trans h'
    · -- 0: t36 := load 27 t5
      intro ac wx hE hsz hdf h
      have e5 : ac.tmps[5]? = some (.pointer (some ⟨gn2, 0, none⟩)) := by obtain ⟨v, h1, h2⟩ := h 5 (by decide +kernel); exact h1.trans (h2.symm.trans rfl)
      clear h hsz hdf
      obtain ⟨y0, y1, y2, y3, y4, y5, y6, y7⟩ := lit_cells (HM2.out.keep hE).bl
      go_wp2
      exact ⟨_, rfl, rfl, Ext.refl _⟩
    · -- 1: t37 := call { value (Operand.func 29), args := #[t36, const (Value.string { data := #[] })], argTypes := #[27, 9] }
      intro ac wx hE hsz hdf h
      have e36 : ac.tmps[36]? = some (.agg #[.int .i64 5, .int .i64 0, .bool false, .int .u64 0, .int .u64 0, .int .u64 0, .int .u64 0, .slice (some ⟨ga1, 0, none⟩) 1 1]) := by obtain ⟨v, h1, h2⟩ := h 36 (by decide +kernel); rw [h1]; exact congrArg some h2
      clear h hsz hdf
      go_wp2_with ((go_at_call 29; refine (mnSays (T.node 5 0 false noP [t]) (by have := HSZ.out; simp only [size_node, sizeL]; omega) [] (by simp) _ _ [.int .i64 5, .int .i64 0, .bool false, .int .u64 0, .int .u64 0, .int .u64 0, .int .u64 0, .slice (some ⟨ga1, 0, none⟩) 1 1] (HM2.out.nv.keep hE)).mono ?_; rintro e w9 ⟨rfl, hb9⟩; rw [HSN.out]))
      exact ⟨_, rfl, rfl, hb9⟩
    · -- 2: t38 := move t37
      intro ac wx hE hsz hdf h
      have e37 : ac.tmps[37]? = some (.bool true) := by obtain ⟨v, h1, h2⟩ := h 37 (by decide +kernel); rw [h1]; exact congrArg some h2
      clear h hsz hdf
      go_wp2
      exact ⟨_, rfl, rfl, Ext.refl _⟩
    · -- 3: t39 := load 27 t6 (2, True)
      intro ac wx hE hsz hdf h
      have e6 : ac.tmps[6]? = some (.pointer (some ⟨gn3, 0, none⟩)) := by obtain ⟨v, h1, h2⟩ := h 6 (by decide +kernel); exact h1.trans (h2.symm.trans rfl)
      have e38 : ac.tmps[38]? = some (.bool true) := by obtain ⟨v, h1, h2⟩ := h 38 (by decide +kernel); rw [h1]; exact congrArg some h2
      clear h hsz hdf
      obtain ⟨y0, y1, y2, y3, y4, y5, y6, y7⟩ := lit_cells (HM3.out.keep hE).bl
      go_wp2
      exact ⟨_, rfl, rfl, Ext.refl _⟩
    · -- 4: t40 := call { value (Operand.func 29), args := #[t39, const (Value.string { data := #[] })], argTypes := #[27, 9] } (2, True)
      intro ac wx hE hsz hdf h
      have e39 : ac.tmps[39]? = some (.agg #[.int .i64 6, .int .i64 0, .bool false, .int .u64 0, .int .u64 0, .int .u64 0, .int .u64 0, .slice (some ⟨ga2, 0, none⟩) 1 1]) := by obtain ⟨v, h1, h2⟩ := h 39 (by decide +kernel); rw [h1]; exact congrArg some h2
      have e38 : ac.tmps[38]? = some (.bool true) := by obtain ⟨v, h1, h2⟩ := h 38 (by decide +kernel); rw [h1]; exact congrArg some h2
      clear h hsz hdf
      go_wp2_with ((go_at_call 29; refine (mnSays (T.node 6 0 false noP [t]) (by have := HSZ.out; simp only [size_node, sizeL]; omega) [] (by simp) _ _ [.int .i64 6, .int .i64 0, .bool false, .int .u64 0, .int .u64 0, .int .u64 0, .int .u64 0, .slice (some ⟨ga2, 0, none⟩) 1 1] (HM3.out.nv.keep hE)).mono ?_; rintro e w9 ⟨rfl, hb9⟩; rw [HPN.out]))
      exact ⟨_, rfl, rfl, hb9⟩
    · -- 5: t41 := unOp UnOp.not 4 t40 (2, True)
      intro ac wx hE hsz hdf h
      have e40 : ac.tmps[40]? = some (.bool false) := by obtain ⟨v, h1, h2⟩ := h 40 (by decide +kernel); rw [h1]; exact congrArg some h2
      have e38 : ac.tmps[38]? = some (.bool true) := by obtain ⟨v, h1, h2⟩ := h 38 (by decide +kernel); rw [h1]; exact congrArg some h2
      clear h hsz hdf
      go_wp2
      exact ⟨_, rfl, by simp, Ext.refl _⟩
    · -- 6: t42 := pick t38 t41 (const (Value.bool false))
      intro ac wx hE hsz hdf h
      have e38 : ac.tmps[38]? = some (.bool true) := by obtain ⟨v, h1, h2⟩ := h 38 (by decide +kernel); rw [h1]; exact congrArg some h2
      have e41 : ac.tmps[41]? = some (.bool true) := by obtain ⟨v, h1, h2⟩ := h 41 (by decide +kernel); rw [h1]; exact congrArg some h2
      clear h hsz hdf
      go_wp2
      exact ⟨_, rfl, by simp, Ext.refl _⟩
    · -- 7: t43 := move t42
      intro ac wx hE hsz hdf h
      have e42 : ac.tmps[42]? = some (.bool true) := by obtain ⟨v, h1, h2⟩ := h 42 (by decide +kernel); rw [h1]; exact congrArg some h2
      clear h hsz hdf
      go_wp2
      exact ⟨_, rfl, rfl, Ext.refl _⟩
    · -- 8: t44 := load 27 t6 (7, True)
      intro ac wx hE hsz hdf h
      have e6 : ac.tmps[6]? = some (.pointer (some ⟨gn3, 0, none⟩)) := by obtain ⟨v, h1, h2⟩ := h 6 (by decide +kernel); exact h1.trans (h2.symm.trans rfl)
      have e43 : ac.tmps[43]? = some (.bool true) := by obtain ⟨v, h1, h2⟩ := h 43 (by decide +kernel); rw [h1]; exact congrArg some h2
      clear h hsz hdf
      obtain ⟨y0, y1, y2, y3, y4, y5, y6, y7⟩ := lit_cells (HM3.out.keep hE).bl
      go_wp2
      exact ⟨_, rfl, rfl, Ext.refl _⟩
    · -- 9: t45 := move t1 (7, True)
      intro ac wx hE hsz hdf h
      have e1 : ac.tmps[1]? = some (.string ⟨l.toArray⟩) := by obtain ⟨v, h1, h2⟩ := h 1 (by decide +kernel); exact h1.trans (h2.symm.trans rfl)
      have e43 : ac.tmps[43]? = some (.bool true) := by obtain ⟨v, h1, h2⟩ := h 43 (by decide +kernel); rw [h1]; exact congrArg some h2
      clear h hsz hdf
      go_wp2
      exact ⟨_, rfl, rfl, Ext.refl _⟩
    · -- 10: t46 := call { value (Operand.func 29), args := #[t44, t45], argTypes := #[27, 9] } (7, True)
      intro ac wx hE hsz hdf h
      have e44 : ac.tmps[44]? = some (.agg #[.int .i64 6, .int .i64 0, .bool false, .int .u64 0, .int .u64 0, .int .u64 0, .int .u64 0, .slice (some ⟨ga2, 0, none⟩) 1 1]) := by obtain ⟨v, h1, h2⟩ := h 44 (by decide +kernel); rw [h1]; exact congrArg some h2
      have e45 : ac.tmps[45]? = some (.string ⟨l.toArray⟩) := by obtain ⟨v, h1, h2⟩ := h 45 (by decide +kernel); rw [h1]; exact congrArg some h2
      have e43 : ac.tmps[43]? = some (.bool true) := by obtain ⟨v, h1, h2⟩ := h 43 (by decide +kernel); rw [h1]; exact congrArg some h2
      clear h hsz hdf
      go_wp2_with ((go_at_call 29; refine (mnSays (T.node 6 0 false noP [t]) (by have := HSZ.out; simp only [size_node, sizeL]; omega) l (by have := HN.out; omega) _ _ [.int .i64 6, .int .i64 0, .bool false, .int .u64 0, .int .u64 0, .int .u64 0, .int .u64 0, .slice (some ⟨ga2, 0, none⟩) 1 1] (HM3.out.nv.keep hE)).mono ?_; rintro e w9 ⟨rfl, hb9⟩; rw [HQ.out]))
      exact ⟨_, rfl, rfl, hb9⟩
    · -- 11: t47 := load 27 t7 (7, True)
      intro ac wx hE hsz hdf h
      have e7 : ac.tmps[7]? = some (.pointer (some ⟨gn4, 0, none⟩)) := by obtain ⟨v, h1, h2⟩ := h 7 (by decide +kernel); exact h1.trans (h2.symm.trans rfl)
      have e43 : ac.tmps[43]? = some (.bool true) := by obtain ⟨v, h1, h2⟩ := h 43 (by decide +kernel); rw [h1]; exact congrArg some h2
      clear h hsz hdf
      obtain ⟨y0, y1, y2, y3, y4, y5, y6, y7⟩ := lit_cells (HM4.out.keep hE).bl
      go_wp2
      exact ⟨_, rfl, rfl, Ext.refl _⟩
    · -- 12: t48 := move t1 (7, True)
      intro ac wx hE hsz hdf h
      have e1 : ac.tmps[1]? = some (.string ⟨l.toArray⟩) := by obtain ⟨v, h1, h2⟩ := h 1 (by decide +kernel); exact h1.trans (h2.symm.trans rfl)
      have e43 : ac.tmps[43]? = some (.bool true) := by obtain ⟨v, h1, h2⟩ := h 43 (by decide +kernel); rw [h1]; exact congrArg some h2
      clear h hsz hdf
      go_wp2
      exact ⟨_, rfl, rfl, Ext.refl _⟩
    · -- 13: t49 := call { value (Operand.func 29), args := #[t47, t48], argTypes := #[27, 9] } (7, True)
      intro ac wx hE hsz hdf h
      have e47 : ac.tmps[47]? = some (.agg #[.int .i64 3, .int .i64 0, .bool false, .int .u64 0, .int .u64 0, .int .u64 0, .int .u64 0, .slice (some ⟨ga3, 0, none⟩) 2 2]) := by obtain ⟨v, h1, h2⟩ := h 47 (by decide +kernel); rw [h1]; exact congrArg some h2
      have e48 : ac.tmps[48]? = some (.string ⟨l.toArray⟩) := by obtain ⟨v, h1, h2⟩ := h 48 (by decide +kernel); rw [h1]; exact congrArg some h2
      have e43 : ac.tmps[43]? = some (.bool true) := by obtain ⟨v, h1, h2⟩ := h 43 (by decide +kernel); rw [h1]; exact congrArg some h2
      clear h hsz hdf
      go_wp2_with ((go_at_call 29; refine (mnSays (T.node 3 0 false noP [t, T.node 5 0 false noP [t]]) (by have := HSZ.out; simp only [size_node, sizeL]; omega) l (by have := HN.out; omega) _ _ [.int .i64 3, .int .i64 0, .bool false, .int .u64 0, .int .u64 0, .int .u64 0, .int .u64 0, .slice (some ⟨ga3, 0, none⟩) 2 2] (HM4.out.nv.keep hE)).mono ?_; rintro e w9 ⟨rfl, hb9⟩; rw [HSB.out]))
      exact ⟨_, rfl, rfl, hb9⟩
    · -- 14: t50 := binOp BinOp.eql 4 t46 t49 4 (7, True)
      intro ac wx hE hsz hdf h
      have e46 : ac.tmps[46]? = some (.bool q) := by obtain ⟨v, h1, h2⟩ := h 46 (by decide +kernel); rw [h1]; exact congrArg some h2
      have e49 : ac.tmps[49]? = some (.bool q) := by obtain ⟨v, h1, h2⟩ := h 49 (by decide +kernel); rw [h1]; exact congrArg some h2
      have e43 : ac.tmps[43]? = some (.bool true) := by obtain ⟨v, h1, h2⟩ := h 43 (by decide +kernel); rw [h1]; exact congrArg some h2
      clear h hsz hdf
      go_wp2
      exact ⟨_, rfl, by simp, Ext.refl _⟩
    · -- 15: t51 := pick t43 t50 (const (Value.bool false))
      intro ac wx hE hsz hdf h
      have e43 : ac.tmps[43]? = some (.bool true) := by obtain ⟨v, h1, h2⟩ := h 43 (by decide +kernel); rw [h1]; exact congrArg some h2
      have e50 : ac.tmps[50]? = some (.bool true) := by obtain ⟨v, h1, h2⟩ := h 50 (by decide +kernel); rw [h1]; exact congrArg some h2
      clear h hsz hdf
      go_wp2
      exact ⟨_, rfl, by simp, Ext.refl _⟩
    · -- 16: t52 := move t51
      intro ac wx hE hsz hdf h
      have e51 : ac.tmps[51]? = some (.bool true) := by obtain ⟨v, h1, h2⟩ := h 51 (by decide +kernel); rw [h1]; exact congrArg some h2
      clear h hsz hdf
      go_wp2
      exact ⟨_, rfl, rfl, Ext.refl _⟩
    · -- 17: t53 := load 27 t5 (16, True)
      intro ac wx hE hsz hdf h
      have e5 : ac.tmps[5]? = some (.pointer (some ⟨gn2, 0, none⟩)) := by obtain ⟨v, h1, h2⟩ := h 5 (by decide +kernel); exact h1.trans (h2.symm.trans rfl)
      have e52 : ac.tmps[52]? = some (.bool true) := by obtain ⟨v, h1, h2⟩ := h 52 (by decide +kernel); rw [h1]; exact congrArg some h2
      clear h hsz hdf
      obtain ⟨y0, y1, y2, y3, y4, y5, y6, y7⟩ := lit_cells (HM2.out.keep hE).bl
      go_wp2
      exact ⟨_, rfl, rfl, Ext.refl _⟩
    · -- 18: t54 := move t1 (16, True)
      intro ac wx hE hsz hdf h
      have e1 : ac.tmps[1]? = some (.string ⟨l.toArray⟩) := by obtain ⟨v, h1, h2⟩ := h 1 (by decide +kernel); exact h1.trans (h2.symm.trans rfl)
      have e52 : ac.tmps[52]? = some (.bool true) := by obtain ⟨v, h1, h2⟩ := h 52 (by decide +kernel); rw [h1]; exact congrArg some h2
      clear h hsz hdf
      go_wp2
      exact ⟨_, rfl, rfl, Ext.refl _⟩
    · -- 19: t55 := call { value (Operand.func 29), args := #[t53, t54], argTypes := #[27, 9] } (16, True)
      intro ac wx hE hsz hdf h
      have e53 : ac.tmps[53]? = some (.agg #[.int .i64 5, .int .i64 0, .bool false, .int .u64 0, .int .u64 0, .int .u64 0, .int .u64 0, .slice (some ⟨ga1, 0, none⟩) 1 1]) := by obtain ⟨v, h1, h2⟩ := h 53 (by decide +kernel); rw [h1]; exact congrArg some h2
      have e54 : ac.tmps[54]? = some (.string ⟨l.toArray⟩) := by obtain ⟨v, h1, h2⟩ := h 54 (by decide +kernel); rw [h1]; exact congrArg some h2
      have e52 : ac.tmps[52]? = some (.bool true) := by obtain ⟨v, h1, h2⟩ := h 52 (by decide +kernel); rw [h1]; exact congrArg some h2
      clear h hsz hdf
      go_wp2_with ((go_at_call 29; refine (mnSays (T.node 5 0 false noP [t]) (by have := HSZ.out; simp only [size_node, sizeL]; omega) l (by have := HN.out; omega) _ _ [.int .i64 5, .int .i64 0, .bool false, .int .u64 0, .int .u64 0, .int .u64 0, .int .u64 0, .slice (some ⟨ga1, 0, none⟩) 1 1] (HM2.out.nv.keep hE)).mono ?_; rintro e w9 ⟨rfl, hb9⟩; rw [HSR.out]))
      exact ⟨_, rfl, rfl, hb9⟩
    · -- 20: t56 := move t1 (16, True)
      intro ac wx hE hsz hdf h
      have e1 : ac.tmps[1]? = some (.string ⟨l.toArray⟩) := by obtain ⟨v, h1, h2⟩ := h 1 (by decide +kernel); exact h1.trans (h2.symm.trans rfl)
      have e52 : ac.tmps[52]? = some (.bool true) := by obtain ⟨v, h1, h2⟩ := h 52 (by decide +kernel); rw [h1]; exact congrArg some h2
      clear h hsz hdf
      go_wp2
      exact ⟨_, rfl, rfl, Ext.refl _⟩
    · -- 21: t57 := call { builtin len, args := #[t56], argTypes := #[9] } (16, True)
      intro ac wx hE hsz hdf h
      have e56 : ac.tmps[56]? = some (.string ⟨l.toArray⟩) := by obtain ⟨v, h1, h2⟩ := h 56 (by decide +kernel); rw [h1]; exact congrArg some h2
      have e52 : ac.tmps[52]? = some (.bool true) := by obtain ⟨v, h1, h2⟩ := h 52 (by decide +kernel); rw [h1]; exact congrArg some h2
      clear h hsz hdf
      go_wp2
      exact ⟨_, rfl, rfl, Ext.refl _⟩
    · -- 22: t58 := binOp BinOp.eql 3 t57 (const (0:i64)) 3 (16, True)
      intro ac wx hE hsz hdf h
      have e57 : ac.tmps[57]? = some (.int .i64 (l.length : Nat)) := by obtain ⟨v, h1, h2⟩ := h 57 (by decide +kernel); rw [h1]; exact congrArg some h2
      have e52 : ac.tmps[52]? = some (.bool true) := by obtain ⟨v, h1, h2⟩ := h 52 (by decide +kernel); rw [h1]; exact congrArg some h2
      clear h hsz hdf
      have hl9 := HL0.out
      go_wp2
      exact ⟨_, rfl, by simp, Ext.refl _⟩
    · -- 23: t59 := move t58 (16, True)
      intro ac wx hE hsz hdf h
      have e58 : ac.tmps[58]? = some (.bool false) := by obtain ⟨v, h1, h2⟩ := h 58 (by decide +kernel); rw [h1]; exact congrArg some h2
      have e52 : ac.tmps[52]? = some (.bool true) := by obtain ⟨v, h1, h2⟩ := h 52 (by decide +kernel); rw [h1]; exact congrArg some h2
      clear h hsz hdf
      go_wp2
      exact ⟨_, rfl, rfl, Ext.refl _⟩
    · -- 24: t60 := load 27 t6 (23, False)
      intro ac wx hE hsz hdf h
      have e6 : ac.tmps[6]? = some (.pointer (some ⟨gn3, 0, none⟩)) := by obtain ⟨v, h1, h2⟩ := h 6 (by decide +kernel); exact h1.trans (h2.symm.trans rfl)
      have e59 : ac.tmps[59]? = some (.bool false) := by obtain ⟨v, h1, h2⟩ := h 59 (by decide +kernel); rw [h1]; exact congrArg some h2
      clear h hsz hdf
      obtain ⟨y0, y1, y2, y3, y4, y5, y6, y7⟩ := lit_cells (HM3.out.keep hE).bl
      go_wp2
      exact ⟨_, rfl, rfl, Ext.refl _⟩
    · -- 25: t61 := move t1 (23, False)
      intro ac wx hE hsz hdf h
      have e1 : ac.tmps[1]? = some (.string ⟨l.toArray⟩) := by obtain ⟨v, h1, h2⟩ := h 1 (by decide +kernel); exact h1.trans (h2.symm.trans rfl)
      have e59 : ac.tmps[59]? = some (.bool false) := by obtain ⟨v, h1, h2⟩ := h 59 (by decide +kernel); rw [h1]; exact congrArg some h2
      clear h hsz hdf
      go_wp2
      exact ⟨_, rfl, rfl, Ext.refl _⟩
    · -- 26: t62 := call { value (Operand.func 29), args := #[t60, t61], argTypes := #[27, 9] } (23, False)
      intro ac wx hE hsz hdf h
      have e60 : ac.tmps[60]? = some (.agg #[.int .i64 6, .int .i64 0, .bool false, .int .u64 0, .int .u64 0, .int .u64 0, .int .u64 0, .slice (some ⟨ga2, 0, none⟩) 1 1]) := by obtain ⟨v, h1, h2⟩ := h 60 (by decide +kernel); rw [h1]; exact congrArg some h2
      have e61 : ac.tmps[61]? = some (.string ⟨l.toArray⟩) := by obtain ⟨v, h1, h2⟩ := h 61 (by decide +kernel); rw [h1]; exact congrArg some h2
      have e59 : ac.tmps[59]? = some (.bool false) := by obtain ⟨v, h1, h2⟩ := h 59 (by decide +kernel); rw [h1]; exact congrArg some h2
      clear h hsz hdf
      go_wp2_with ((go_at_call 29; refine (mnSays (T.node 6 0 false noP [t]) (by have := HSZ.out; simp only [size_node, sizeL]; omega) l (by have := HN.out; omega) _ _ [.int .i64 6, .int .i64 0, .bool false, .int .u64 0, .int .u64 0, .int .u64 0, .int .u64 0, .slice (some ⟨ga2, 0, none⟩) 1 1] (HM3.out.nv.keep hE)).mono ?_; rintro e w9 ⟨rfl, hb9⟩; rw [HQ.out]))
      exact ⟨_, rfl, rfl, hb9⟩
    · -- 27: t63 := pick t59 (const (Value.bool true)) t62 (16, True)
      intro ac wx hE hsz hdf h
      have e59 : ac.tmps[59]? = some (.bool false) := by obtain ⟨v, h1, h2⟩ := h 59 (by decide +kernel); rw [h1]; exact congrArg some h2
      have e62 : ac.tmps[62]? = some (.bool q) := by obtain ⟨v, h1, h2⟩ := h 62 (by decide +kernel); rw [h1]; exact congrArg some h2
      have e52 : ac.tmps[52]? = some (.bool true) := by obtain ⟨v, h1, h2⟩ := h 52 (by decide +kernel); rw [h1]; exact congrArg some h2
      clear h hsz hdf
      go_wp2
      exact ⟨_, rfl, by simp, Ext.refl _⟩
    · -- 28: t64 := binOp BinOp.eql 4 t55 t63 4 (16, True)
      intro ac wx hE hsz hdf h
      have e55 : ac.tmps[55]? = some (.bool q) := by obtain ⟨v, h1, h2⟩ := h 55 (by decide +kernel); rw [h1]; exact congrArg some h2
      have e63 : ac.tmps[63]? = some (.bool q) := by obtain ⟨v, h1, h2⟩ := h 63 (by decide +kernel); rw [h1]; exact congrArg some h2
      have e52 : ac.tmps[52]? = some (.bool true) := by obtain ⟨v, h1, h2⟩ := h 52 (by decide +kernel); rw [h1]; exact congrArg some h2
      clear h hsz hdf
      go_wp2
      exact ⟨_, rfl, by simp, Ext.refl _⟩
    · -- 29: t65 := pick t52 t64 (const (Value.bool false))
      intro ac wx hE hsz hdf h
      have e52 : ac.tmps[52]? = some (.bool true) := by obtain ⟨v, h1, h2⟩ := h 52 (by decide +kernel); rw [h1]; exact congrArg some h2
      have e64 : ac.tmps[64]? = some (.bool true) := by obtain ⟨v, h1, h2⟩ := h 64 (by decide +kernel); rw [h1]; exact congrArg some h2
      clear h hsz hdf
      go_wp2
      exact ⟨_, rfl, by simp, Ext.refl _⟩
    · -- 30: t66 := move t65
      intro ac wx hE hsz hdf h
      have e65 : ac.tmps[65]? = some (.bool true) := by obtain ⟨v, h1, h2⟩ := h 65 (by decide +kernel); rw [h1]; exact congrArg some h2
      clear h hsz hdf
      go_wp2
      exact ⟨_, rfl, rfl, Ext.refl _⟩
    · -- 31: t67 := load 27 t6 (30, True)
      intro ac wx hE hsz hdf h
      have e6 : ac.tmps[6]? = some (.pointer (some ⟨gn3, 0, none⟩)) := by obtain ⟨v, h1, h2⟩ := h 6 (by decide +kernel); exact h1.trans (h2.symm.trans rfl)
      have e66 : ac.tmps[66]? = some (.bool true) := by obtain ⟨v, h1, h2⟩ := h 66 (by decide +kernel); rw [h1]; exact congrArg some h2
      clear h hsz hdf
      obtain ⟨y0, y1, y2, y3, y4, y5, y6, y7⟩ := lit_cells (HM3.out.keep hE).bl
      go_wp2
      exact ⟨_, rfl, rfl, Ext.refl _⟩
    · -- 32: t68 := move t1 (30, True)
      intro ac wx hE hsz hdf h
      have e1 : ac.tmps[1]? = some (.string ⟨l.toArray⟩) := by obtain ⟨v, h1, h2⟩ := h 1 (by decide +kernel); exact h1.trans (h2.symm.trans rfl)
      have e66 : ac.tmps[66]? = some (.bool true) := by obtain ⟨v, h1, h2⟩ := h 66 (by decide +kernel); rw [h1]; exact congrArg some h2
      clear h hsz hdf
      go_wp2
      exact ⟨_, rfl, rfl, Ext.refl _⟩
    · -- 33: t69 := move t8 (30, True)
      intro ac wx hE hsz hdf h
      have e8 : ac.tmps[8]? = some (.int .i64 2) := by obtain ⟨v, h1, h2⟩ := h 8 (by decide +kernel); exact h1.trans (h2.symm.trans rfl)
      have e66 : ac.tmps[66]? = some (.bool true) := by obtain ⟨v, h1, h2⟩ := h 66 (by decide +kernel); rw [h1]; exact congrArg some h2
      clear h hsz hdf
      go_wp2
      exact ⟨_, rfl, rfl, Ext.refl _⟩
    · -- 34: t70 := call { value (Operand.func 28), args := #[t67, t68, t69], argTypes := #[27, 9, 3] } (30, True)
      intro ac wx hE hsz hdf h
      have e67 : ac.tmps[67]? = some (.agg #[.int .i64 6, .int .i64 0, .bool false, .int .u64 0, .int .u64 0, .int .u64 0, .int .u64 0, .slice (some ⟨ga2, 0, none⟩) 1 1]) := by obtain ⟨v, h1, h2⟩ := h 67 (by decide +kernel); rw [h1]; exact congrArg some h2
      have e68 : ac.tmps[68]? = some (.string ⟨l.toArray⟩) := by obtain ⟨v, h1, h2⟩ := h 68 (by decide +kernel); rw [h1]; exact congrArg some h2
      have e69 : ac.tmps[69]? = some (.int .i64 2) := by obtain ⟨v, h1, h2⟩ := h 69 (by decide +kernel); rw [h1]; exact congrArg some h2
      have e66 : ac.tmps[66]? = some (.bool true) := by obtain ⟨v, h1, h2⟩ := h 66 (by decide +kernel); rw [h1]; exact congrArg some h2
      clear h hsz hdf
      go_wp2_with ((go_at_call 28; refine (mnEnds (T.node 6 0 false noP [t]) (by have := HSZ.out; simp only [size_node, sizeL]; omega) l (by have := HN.out; omega) 2 _ _ [.int .i64 6, .int .i64 0, .bool false, .int .u64 0, .int .u64 0, .int .u64 0, .int .u64 0, .slice (some ⟨ga2, 0, none⟩) 1 1] (HM3.out.nv.keep hE)).mono ?_; rintro e w9 ⟨r9, rfl, hp9, hb9⟩; rw [HW.out] at hp9))
      exact ⟨_, rfl, hp9, hb9⟩
    · -- 35: t71 := load 27 t7 (30, True)
      intro ac wx hE hsz hdf h
      have e7 : ac.tmps[7]? = some (.pointer (some ⟨gn4, 0, none⟩)) := by obtain ⟨v, h1, h2⟩ := h 7 (by decide +kernel); exact h1.trans (h2.symm.trans rfl)
      have e66 : ac.tmps[66]? = some (.bool true) := by obtain ⟨v, h1, h2⟩ := h 66 (by decide +kernel); rw [h1]; exact congrArg some h2
      clear h hsz hdf
      obtain ⟨y0, y1, y2, y3, y4, y5, y6, y7⟩ := lit_cells (HM4.out.keep hE).bl
      go_wp2
      exact ⟨_, rfl, rfl, Ext.refl _⟩
    · -- 36: t72 := move t1 (30, True)
      intro ac wx hE hsz hdf h
      have e1 : ac.tmps[1]? = some (.string ⟨l.toArray⟩) := by obtain ⟨v, h1, h2⟩ := h 1 (by decide +kernel); exact h1.trans (h2.symm.trans rfl)
      have e66 : ac.tmps[66]? = some (.bool true) := by obtain ⟨v, h1, h2⟩ := h 66 (by decide +kernel); rw [h1]; exact congrArg some h2
      clear h hsz hdf
      go_wp2
      exact ⟨_, rfl, rfl, Ext.refl _⟩
    · -- 37: t73 := move t8 (30, True)
      intro ac wx hE hsz hdf h
      have e8 : ac.tmps[8]? = some (.int .i64 2) := by obtain ⟨v, h1, h2⟩ := h 8 (by decide +kernel); exact h1.trans (h2.symm.trans rfl)
      have e66 : ac.tmps[66]? = some (.bool true) := by obtain ⟨v, h1, h2⟩ := h 66 (by decide +kernel); rw [h1]; exact congrArg some h2
      clear h hsz hdf
      go_wp2
      exact ⟨_, rfl, rfl, Ext.refl _⟩
    · -- 38: t74 := call { value (Operand.func 28), args := #[t71, t72, t73], argTypes := #[27, 9, 3] } (30, True)
      intro ac wx hE hsz hdf h
      have e71 : ac.tmps[71]? = some (.agg #[.int .i64 3, .int .i64 0, .bool false, .int .u64 0, .int .u64 0, .int .u64 0, .int .u64 0, .slice (some ⟨ga3, 0, none⟩) 2 2]) := by obtain ⟨v, h1, h2⟩ := h 71 (by decide +kernel); rw [h1]; exact congrArg some h2
      have e72 : ac.tmps[72]? = some (.string ⟨l.toArray⟩) := by obtain ⟨v, h1, h2⟩ := h 72 (by decide +kernel); rw [h1]; exact congrArg some h2
      have e73 : ac.tmps[73]? = some (.int .i64 2) := by obtain ⟨v, h1, h2⟩ := h 73 (by decide +kernel); rw [h1]; exact congrArg some h2
      have e66 : ac.tmps[66]? = some (.bool true) := by obtain ⟨v, h1, h2⟩ := h 66 (by decide +kernel); rw [h1]; exact congrArg some h2
      clear h hsz hdf
      go_wp2_with ((go_at_call 28; refine (mnEnds (T.node 3 0 false noP [t, T.node 5 0 false noP [t]]) (by have := HSZ.out; simp only [size_node, sizeL]; omega) l (by have := HN.out; omega) 2 _ _ [.int .i64 3, .int .i64 0, .bool false, .int .u64 0, .int .u64 0, .int .u64 0, .int .u64 0, .slice (some ⟨ga3, 0, none⟩) 2 2] (HM4.out.nv.keep hE)).mono ?_; rintro e w9 ⟨r9, rfl, hp9, hb9⟩; rw [HEB.out, HW.out] at hp9))
      exact ⟨_, rfl, hp9, hb9⟩
    · -- 39: t75 := call { value (Operand.func 31), args := #[t70, t74], argTypes := #[52, 52] } (30, True)
      intro ac wx hE hsz hdf h
      obtain ⟨v70, e70, s70⟩ : ∃ v, ac.tmps[70]? = some v ∧ (IlV wx v W) := h 70 (by decide +kernel)
      obtain ⟨v74, e74, s74⟩ : ∃ v, ac.tmps[74]? = some v ∧ (IlV wx v W) := h 74 (by decide +kernel)
      have e66 : ac.tmps[66]? = some (.bool true) := by obtain ⟨v, h1, h2⟩ := h 66 (by decide +kernel); rw [h1]; exact congrArg some h2
      clear h hsz hdf
      obtain ⟨A7, c7, rfl, -, -, hr7⟩ := s70; obtain ⟨A8, c8, rfl, -, -, hr8⟩ := s74
      go_wp2_with ((go_at_call 31; refine (sameInts W W _ _ _ _ _ _ _ hr7 hr8 (by have := HWL.out; omega) (by have := HWL.out; omega) true (by simp)).mono ?_; rintro e w9 ⟨rfl, hb9⟩))
      exact ⟨_, rfl, rfl, hb9⟩
    · -- 40: t76 := pick t66 t75 (const (Value.bool false))
      intro ac wx hE hsz hdf h
      have e66 : ac.tmps[66]? = some (.bool true) := by obtain ⟨v, h1, h2⟩ := h 66 (by decide +kernel); rw [h1]; exact congrArg some h2
      have e75 : ac.tmps[75]? = some (.bool true) := by obtain ⟨v, h1, h2⟩ := h 75 (by decide +kernel); rw [h1]; exact congrArg some h2
      clear h hsz hdf
      go_wp2
      exact ⟨_, rfl, by simp, Ext.refl _⟩
    · -- 41: t4 := assign t76
      intro ac wx hE hsz hdf h
      have e76 : ac.tmps[76]? = some (.bool true) := by obtain ⟨v, h1, h2⟩ := h 76 (by decide +kernel); rw [h1]; exact congrArg some h2
      clear h hsz hdf
      go_wp2
      exact ⟨_, rfl, rfl, Ext.refl _⟩
    · intro ac w9 hE hsz hdf h hrest
      obtain ⟨v0, s0, g0⟩ := h 0 _ rfl
      have e0 := g0 36 rfl
      obtain rfl : v0 = .agg #[.int .i64 5, .int .i64 0, .bool false, .int .u64 0, .int .u64 0, .int .u64 0, .int .u64 0, .slice (some ⟨ga1, 0, none⟩) 1 1] := s0
      obtain ⟨v1, s1, g1⟩ := h 1 _ rfl
      have e1 := g1 37 rfl
      obtain rfl : v1 = .bool true := s1
      obtain ⟨v2, s2, g2⟩ := h 2 _ rfl
      have e2 := g2 38 rfl
      obtain rfl : v2 = .bool true := s2
      obtain ⟨v3, s3, g3⟩ := h 3 _ rfl
      have e3 := g3 39 rfl
      obtain rfl : v3 = .agg #[.int .i64 6, .int .i64 0, .bool false, .int .u64 0, .int .u64 0, .int .u64 0, .int .u64 0, .slice (some ⟨ga2, 0, none⟩) 1 1] := s3
      obtain ⟨v4, s4, g4⟩ := h 4 _ rfl
      have e4 := g4 40 rfl
      obtain rfl : v4 = .bool false := s4
      obtain ⟨v5, s5, g5⟩ := h 5 _ rfl
      have e5 := g5 41 rfl
      obtain rfl : v5 = .bool true := s5
      obtain ⟨v6, s6, g6⟩ := h 6 _ rfl
      have e6 := g6 42 rfl
      obtain rfl : v6 = .bool true := s6
      obtain ⟨v7, s7, g7⟩ := h 7 _ rfl
      have e7 := g7 43 rfl
      obtain rfl : v7 = .bool true := s7
      obtain ⟨v8, s8, g8⟩ := h 8 _ rfl
      have e8 := g8 44 rfl
      obtain rfl : v8 = .agg #[.int .i64 6, .int .i64 0, .bool false, .int .u64 0, .int .u64 0, .int .u64 0, .int .u64 0, .slice (some ⟨ga2, 0, none⟩) 1 1] := s8
      obtain ⟨v9, s9, g9⟩ := h 9 _ rfl
      have e9 := g9 45 rfl
      obtain rfl : v9 = .string ⟨l.toArray⟩ := s9
      obtain ⟨v10, s10, g10⟩ := h 10 _ rfl
      have e10 := g10 46 rfl
      obtain rfl : v10 = .bool q := s10
      obtain ⟨v11, s11, g11⟩ := h 11 _ rfl
      have e11 := g11 47 rfl
      obtain rfl : v11 = .agg #[.int .i64 3, .int .i64 0, .bool false, .int .u64 0, .int .u64 0, .int .u64 0, .int .u64 0, .slice (some ⟨ga3, 0, none⟩) 2 2] := s11
      obtain ⟨v12, s12, g12⟩ := h 12 _ rfl
      have e12 := g12 48 rfl
      obtain rfl : v12 = .string ⟨l.toArray⟩ := s12
      obtain ⟨v13, s13, g13⟩ := h 13 _ rfl
      have e13 := g13 49 rfl
      obtain rfl : v13 = .bool q := s13
      obtain ⟨v14, s14, g14⟩ := h 14 _ rfl
      have e14 := g14 50 rfl
      obtain rfl : v14 = .bool true := s14
      obtain ⟨v15, s15, g15⟩ := h 15 _ rfl
      have e15 := g15 51 rfl
      obtain rfl : v15 = .bool true := s15
      obtain ⟨v16, s16, g16⟩ := h 16 _ rfl
      have e16 := g16 52 rfl
      obtain rfl : v16 = .bool true := s16
      obtain ⟨v17, s17, g17⟩ := h 17 _ rfl
      have e17 := g17 53 rfl
      obtain rfl : v17 = .agg #[.int .i64 5, .int .i64 0, .bool false, .int .u64 0, .int .u64 0, .int .u64 0, .int .u64 0, .slice (some ⟨ga1, 0, none⟩) 1 1] := s17
      obtain ⟨v18, s18, g18⟩ := h 18 _ rfl
      have e18 := g18 54 rfl
      obtain rfl : v18 = .string ⟨l.toArray⟩ := s18
      obtain ⟨v19, s19, g19⟩ := h 19 _ rfl
      have e19 := g19 55 rfl
      obtain rfl : v19 = .bool q := s19
      obtain ⟨v20, s20, g20⟩ := h 20 _ rfl
      have e20 := g20 56 rfl
      obtain rfl : v20 = .string ⟨l.toArray⟩ := s20
      obtain ⟨v21, s21, g21⟩ := h 21 _ rfl
      have e21 := g21 57 rfl
      obtain rfl : v21 = .int .i64 (l.length : Nat) := s21
      obtain ⟨v22, s22, g22⟩ := h 22 _ rfl
      have e22 := g22 58 rfl
      obtain rfl : v22 = .bool false := s22
      obtain ⟨v23, s23, g23⟩ := h 23 _ rfl
      have e23 := g23 59 rfl
      obtain rfl : v23 = .bool false := s23
      obtain ⟨v24, s24, g24⟩ := h 24 _ rfl
      have e24 := g24 60 rfl
      obtain rfl : v24 = .agg #[.int .i64 6, .int .i64 0, .bool false, .int .u64 0, .int .u64 0, .int .u64 0, .int .u64 0, .slice (some ⟨ga2, 0, none⟩) 1 1] := s24
      obtain ⟨v25, s25, g25⟩ := h 25 _ rfl
      have e25 := g25 61 rfl
      obtain rfl : v25 = .string ⟨l.toArray⟩ := s25
      obtain ⟨v26, s26, g26⟩ := h 26 _ rfl
      have e26 := g26 62 rfl
      obtain rfl : v26 = .bool q := s26
      obtain ⟨v27, s27, g27⟩ := h 27 _ rfl
      have e27 := g27 63 rfl
      obtain rfl : v27 = .bool q := s27
      obtain ⟨v28, s28, g28⟩ := h 28 _ rfl
      have e28 := g28 64 rfl
      obtain rfl : v28 = .bool true := s28
      obtain ⟨v29, s29, g29⟩ := h 29 _ rfl
      have e29 := g29 65 rfl
      obtain rfl : v29 = .bool true := s29
      obtain ⟨v30, s30, g30⟩ := h 30 _ rfl
      have e30 := g30 66 rfl
      obtain rfl : v30 = .bool true := s30
      obtain ⟨v31, s31, g31⟩ := h 31 _ rfl
      have e31 := g31 67 rfl
      obtain rfl : v31 = .agg #[.int .i64 6, .int .i64 0, .bool false, .int .u64 0, .int .u64 0, .int .u64 0, .int .u64 0, .slice (some ⟨ga2, 0, none⟩) 1 1] := s31
      obtain ⟨v32, s32, g32⟩ := h 32 _ rfl
      have e32 := g32 68 rfl
      obtain rfl : v32 = .string ⟨l.toArray⟩ := s32
      obtain ⟨v33, s33, g33⟩ := h 33 _ rfl
      have e33 := g33 69 rfl
      obtain rfl : v33 = .int .i64 2 := s33
      obtain ⟨v34, s34, g34⟩ := h 34 _ rfl
      have e34 := g34 70 rfl
      replace s34 : IlV w9 v34 W := s34
      obtain ⟨v35, s35, g35⟩ := h 35 _ rfl
      have e35 := g35 71 rfl
      obtain rfl : v35 = .agg #[.int .i64 3, .int .i64 0, .bool false, .int .u64 0, .int .u64 0, .int .u64 0, .int .u64 0, .slice (some ⟨ga3, 0, none⟩) 2 2] := s35
      obtain ⟨v36, s36, g36⟩ := h 36 _ rfl
      have e36 := g36 72 rfl
      obtain rfl : v36 = .string ⟨l.toArray⟩ := s36
      obtain ⟨v37, s37, g37⟩ := h 37 _ rfl
      have e37 := g37 73 rfl
      obtain rfl : v37 = .int .i64 2 := s37
      obtain ⟨v38, s38, g38⟩ := h 38 _ rfl
      have e38 := g38 74 rfl
      replace s38 : IlV w9 v38 W := s38
      obtain ⟨v39, s39, g39⟩ := h 39 _ rfl
      have e39 := g39 75 rfl
      obtain rfl : v39 = .bool true := s39
      obtain ⟨v40, s40, g40⟩ := h 40 _ rfl
      have e40 := g40 76 rfl
      obtain rfl : v40 = .bool true := s40
      obtain ⟨v41, s41, g41⟩ := h 41 _ rfl
      have e41 := g41 4 rfl
      obtain rfl : v41 = .bool true := s41
      have ha := act_of [(36, .agg #[.int .i64 5, .int .i64 0, .bool false, .int .u64 0, .int .u64 0, .int .u64 0, .int .u64 0, .slice (some ⟨ga1, 0, none⟩) 1 1]), (37, .bool true), (38, .bool true), (39, .agg #[.int .i64 6, .int .i64 0, .bool false, .int .u64 0, .int .u64 0, .int .u64 0, .int .u64 0, .slice (some ⟨ga2, 0, none⟩) 1 1]), (40, .bool false), (41, .bool true), (42, .bool true), (43, .bool true), (44, .agg #[.int .i64 6, .int .i64 0, .bool false, .int .u64 0, .int .u64 0, .int .u64 0, .int .u64 0, .slice (some ⟨ga2, 0, none⟩) 1 1]), (45, .string ⟨l.toArray⟩), (46, .bool q), (47, .agg #[.int .i64 3, .int .i64 0, .bool false, .int .u64 0, .int .u64 0, .int .u64 0, .int .u64 0, .slice (some ⟨ga3, 0, none⟩) 2 2]), (48, .string ⟨l.toArray⟩), (49, .bool q), (50, .bool true), (51, .bool true), (52, .bool true), (53, .agg #[.int .i64 5, .int .i64 0, .bool false, .int .u64 0, .int .u64 0, .int .u64 0, .int .u64 0, .slice (some ⟨ga1, 0, none⟩) 1 1]), (54, .string ⟨l.toArray⟩), (55, .bool q), (56, .string ⟨l.toArray⟩), (57, .int .i64 (l.length : Nat)), (58, .bool false), (59, .bool false), (60, .agg #[.int .i64 6, .int .i64 0, .bool false, .int .u64 0, .int .u64 0, .int .u64 0, .int .u64 0, .slice (some ⟨ga2, 0, none⟩) 1 1]), (61, .string ⟨l.toArray⟩), (62, .bool q), (63, .bool q), (64, .bool true), (65, .bool true), (66, .bool true), (67, .agg #[.int .i64 6, .int .i64 0, .bool false, .int .u64 0, .int .u64 0, .int .u64 0, .int .u64 0, .slice (some ⟨ga2, 0, none⟩) 1 1]), (68, .string ⟨l.toArray⟩), (69, .int .i64 2), (70, v34), (71, .agg #[.int .i64 3, .int .i64 0, .bool false, .int .u64 0, .int .u64 0, .int .u64 0, .int .u64 0, .slice (some ⟨ga3, 0, none⟩) 2 2]), (72, .string ⟨l.toArray⟩), (73, .int .i64 2), (74, v38), (75, .bool true), (76, .bool true), (4, .bool true)] rfl hsz hdf (by intro p hp; simp only [List.mem_cons, List.not_mem_nil, or_false] at hp; rcases hp with rfl | rfl | rfl | rfl | rfl | rfl | rfl | rfl | rfl | rfl | rfl | rfl | rfl | rfl | rfl | rfl | rfl | rfl | rfl | rfl | rfl | rfl | rfl | rfl | rfl | rfl | rfl | rfl | rfl | rfl | rfl | rfl | rfl | rfl | rfl | rfl | rfl | rfl | rfl | rfl | rfl | rfl <;> first | exact e0 | exact e1 | exact e2 | exact e3 | exact e4 | exact e5 | exact e6 | exact e7 | exact e8 | exact e9 | exact e10 | exact e11 | exact e12 | exact e13 | exact e14 | exact e15 | exact e16 | exact e17 | exact e18 | exact e19 | exact e20 | exact e21 | exact e22 | exact e23 | exact e24 | exact e25 | exact e26 | exact e27 | exact e28 | exact e29 | exact e30 | exact e31 | exact e32 | exact e33 | exact e34 | exact e35 | exact e36 | exact e37 | exact e38 | exact e39 | exact e40 | exact e41) hrest
      clear h hrest hsz hdf e0 e1 e2 e3 e4 e5 e6 e7 e8 e9 e10 e11 e12 e13 e14 e15 e16 e17 e18 e19 e20 e21 e22 e23 e24 e25 e26 e27 e28 e29 e30 e31 e32 e33 e34 e35 e36 e37 e38 e39 e40 e41 g0 g1 g2 g3 g4 g5 g6 g7 g8 g9 g10 g11 g12 g13 g14 g15 g16 g17 g18 g19 g20 g21 g22 g23 g24 g25 g26 g27 g28 g29 g30 g31 g32 g33 g34 g35 g36 g37 g38 g39 g40 g41
      subst ha
      simp only [List.foldl_cons, List.foldl_nil, Act.put, List.setIfInBounds_toArray, List.set_cons_succ, List.set_cons_zero]
      have HXX := Lib.hid (Ext.trans HX4.out hE)
      clear s34 s38
      go_wp2
      go_ret
      exact ⟨rfl, HXX.out⟩
  cases hl0 : ((l.length : Int) == 0)
  · skip
    have HSR := Lib.hid (show saysA (T.node 5 0 false noP [t]) l = q by rw [HSS.out, hl0]; rfl)
    have HL0 := Lib.hid hl0
    obtain ⟨W, hW⟩ : ∃ W, natsI (endsA (T.node 6 0 false noP [t]) l 0) = W := ⟨_, rfl⟩
    have HW := Lib.hid hW
    have HWL := Lib.hid (show W.length ≤ 13 by rw [← hW]; have := endsA_le (T.node 6 0 false noP [t]) l 0; have := HN.out; unfold natsI; rw [List.length_map]; omega)
    clear hW hl0
    go_upto_region 11 with fail
    refine wp_region_dag (E := Ext) (w0 := wc) (Φ := fun i v w => match i with | 0 => (v = .agg #[.int .i64 5, .int .i64 0, .bool false, .int .u64 0, .int .u64 0, .int .u64 0, .int .u64 0, .slice (some ⟨ga1, 0, none⟩) 1 1]) | 1 => (v = .bool true) | 2 => (v = .bool true) | 3 => (v = .agg #[.int .i64 6, .int .i64 0, .bool false, .int .u64 0, .int .u64 0, .int .u64 0, .int .u64 0, .slice (some ⟨ga2, 0, none⟩) 1 1]) | 4 => (v = .bool false) | 5 => (v = .bool true) | 6 => (v = .bool true) | 7 => (v = .bool true) | 8 => (v = .agg #[.int .i64 6, .int .i64 0, .bool false, .int .u64 0, .int .u64 0, .int .u64 0, .int .u64 0, .slice (some ⟨ga2, 0, none⟩) 1 1]) | 9 => (v = .string ⟨l.toArray⟩) | 10 => (v = .bool q) | 11 => (v = .agg #[.int .i64 3, .int .i64 0, .bool false, .int .u64 0, .int .u64 0, .int .u64 0, .int .u64 0, .slice (some ⟨ga3, 0, none⟩) 2 2]) | 12 => (v = .string ⟨l.toArray⟩) | 13 => (v = .bool q) | 14 => (v = .bool true) | 15 => (v = .bool true) | 16 => (v = .bool true) | 17 => (v = .agg #[.int .i64 5, .int .i64 0, .bool false, .int .u64 0, .int .u64 0, .int .u64 0, .int .u64 0, .slice (some ⟨ga1, 0, none⟩) 1 1]) | 18 => (v = .string ⟨l.toArray⟩) | 19 => (v = .bool q) | 20 => (v = .string ⟨l.toArray⟩) | 21 => (v = .int .i64 (l.length : Nat)) | 22 => (v = .bool false) | 23 => (v = .bool false) | 24 => (v = .agg #[.int .i64 6, .int .i64 0, .bool false, .int .u64 0, .int .u64 0, .int .u64 0, .int .u64 0, .slice (some ⟨ga2, 0, none⟩) 1 1]) | 25 => (v = .string ⟨l.toArray⟩) | 26 => (v = .bool q) | 27 => (v = .bool q) | 28 => (v = .bool true) | 29 => (v = .bool true) | 30 => (v = .bool true) | 31 => (v = .agg #[.int .i64 6, .int .i64 0, .bool false, .int .u64 0, .int .u64 0, .int .u64 0, .int .u64 0, .slice (some ⟨ga2, 0, none⟩) 1 1]) | 32 => (v = .string ⟨l.toArray⟩) | 33 => (v = .int .i64 0) | 34 => (IlV w v W) | 35 => (v = .agg #[.int .i64 3, .int .i64 0, .bool false, .int .u64 0, .int .u64 0, .int .u64 0, .int .u64 0, .slice (some ⟨ga3, 0, none⟩) 2 2]) | 36 => (v = .string ⟨l.toArray⟩) | 37 => (v = .int .i64 0) | 38 => (IlV w v W) | 39 => (v = .bool true) | 40 => (v = .bool true) | 41 => (v = .bool true) | _ => True) (show Tryd.prog.follows .mixedOrders = true from Checked.mixed Tryd.checked) 77 rfl (by decide +kernel) ?_ ((Below.refl _ _).drew) ?_ ⟨?_, ?_, ?_, ?_, ?_, ?_, ?_, ?_, ?_, ?_, ?_, ?_, ?_, ?_, ?_, ?_, ?_, ?_, ?_, ?_, ?_, ?_, ?_, ?_, ?_, ?_, ?_, ?_, ?_, ?_, ?_, ?_, ?_, ?_, ?_, ?_, ?_, ?_, ?_, ?_, ?_, ?_, trivial⟩ ?_
    · intro i v w w' h hE
      match i, h with
      | 0, h => exact h
      | 1, h => exact h
      | 2, h => exact h
      | 3, h => exact h
      | 4, h => exact h
      | 5, h => exact h
      | 6, h => exact h
      | 7, h => exact h
      | 8, h => exact h
      | 9, h => exact h
      | 10, h => exact h
      | 11, h => exact h
      | 12, h => exact h
      | 13, h => exact h
      | 14, h => exact h
      | 15, h => exact h
      | 16, h => exact h
      | 17, h => exact h
      | 18, h => exact h
      | 19, h => exact h
      | 20, h => exact h
      | 21, h => exact h
      | 22, h => exact h
      | 23, h => exact h
      | 24, h => exact h
      | 25, h => exact h
      | 26, h => exact h
      | 27, h => exact h
      | 28, h => exact h
      | 29, h => exact h
      | 30, h => exact h
      | 31, h => exact h
      | 32, h => exact h
      | 33, h => exact h
      | 34, h => exact IlV.keep h hE
      | 35, h => exact h
      | 36, h => exact h
      | 37, h => exact h
      | 38, h => exact IlV.keep h hE
      | 39, h => exact h
      | 40, h => exact h
      | 41, h => exact h
      | _ + 42, _ => trivial
    · exact fun w w' h h' => h.trans h'
    · -- 0: t36 := load 27 t5
      intro ac wx hE hsz hdf h
      have e5 : ac.tmps[5]? = some (.pointer (some ⟨gn2, 0, none⟩)) := by obtain ⟨v, h1, h2⟩ := h 5 (by decide +kernel); exact h1.trans (h2.symm.trans rfl)
      clear h hsz hdf
      obtain ⟨y0, y1, y2, y3, y4, y5, y6, y7⟩ := lit_cells (HM2.out.keep hE).bl
      go_wp2
      exact ⟨_, rfl, rfl, Ext.refl _⟩
    · -- 1: t37 := call { value (Operand.func 29), args := #[t36, const (Value.string { data := #[] })], argTypes := #[27, 9] }
      intro ac wx hE hsz hdf h
      have e36 : ac.tmps[36]? = some (.agg #[.int .i64 5, .int .i64 0, .bool false, .int .u64 0, .int .u64 0, .int .u64 0, .int .u64 0, .slice (some ⟨ga1, 0, none⟩) 1 1]) := by obtain ⟨v, h1, h2⟩ := h 36 (by decide +kernel); rw [h1]; exact congrArg some h2
      clear h hsz hdf
      go_wp2_with ((go_at_call 29; refine (mnSays (T.node 5 0 false noP [t]) (by have := HSZ.out; simp only [size_node, sizeL]; omega) [] (by simp) _ _ [.int .i64 5, .int .i64 0, .bool false, .int .u64 0, .int .u64 0, .int .u64 0, .int .u64 0, .slice (some ⟨ga1, 0, none⟩) 1 1] (HM2.out.nv.keep hE)).mono ?_; rintro e w9 ⟨rfl, hb9⟩; rw [HSN.out]))
      exact ⟨_, rfl, rfl, hb9⟩
    · -- 2: t38 := move t37
      intro ac wx hE hsz hdf h
      have e37 : ac.tmps[37]? = some (.bool true) := by obtain ⟨v, h1, h2⟩ := h 37 (by decide +kernel); rw [h1]; exact congrArg some h2
      clear h hsz hdf
      go_wp2
      exact ⟨_, rfl, rfl, Ext.refl _⟩
    · -- 3: t39 := load 27 t6 (2, True)
      intro ac wx hE hsz hdf h
      have e6 : ac.tmps[6]? = some (.pointer (some ⟨gn3, 0, none⟩)) := by obtain ⟨v, h1, h2⟩ := h 6 (by decide +kernel); exact h1.trans (h2.symm.trans rfl)
      have e38 : ac.tmps[38]? = some (.bool true) := by obtain ⟨v, h1, h2⟩ := h 38 (by decide +kernel); rw [h1]; exact congrArg some h2
      clear h hsz hdf
      obtain ⟨y0, y1, y2, y3, y4, y5, y6, y7⟩ := lit_cells (HM3.out.keep hE).bl
      go_wp2
      exact ⟨_, rfl, rfl, Ext.refl _⟩
    · -- 4: t40 := call { value (Operand.func 29), args := #[t39, const (Value.string { data := #[] })], argTypes := #[27, 9] } (2, True)
      intro ac wx hE hsz hdf h
      have e39 : ac.tmps[39]? = some (.agg #[.int .i64 6, .int .i64 0, .bool false, .int .u64 0, .int .u64 0, .int .u64 0, .int .u64 0, .slice (some ⟨ga2, 0, none⟩) 1 1]) := by obtain ⟨v, h1, h2⟩ := h 39 (by decide +kernel); rw [h1]; exact congrArg some h2
      have e38 : ac.tmps[38]? = some (.bool true) := by obtain ⟨v, h1, h2⟩ := h 38 (by decide +kernel); rw [h1]; exact congrArg some h2
      clear h hsz hdf
      go_wp2_with ((go_at_call 29; refine (mnSays (T.node 6 0 false noP [t]) (by have := HSZ.out; simp only [size_node, sizeL]; omega) [] (by simp) _ _ [.int .i64 6, .int .i64 0, .bool false, .int .u64 0, .int .u64 0, .int .u64 0, .int .u64 0, .slice (some ⟨ga2, 0, none⟩) 1 1] (HM3.out.nv.keep hE)).mono ?_; rintro e w9 ⟨rfl, hb9⟩; rw [HPN.out]))
      exact ⟨_, rfl, rfl, hb9⟩
    · -- 5: t41 := unOp UnOp.not 4 t40 (2, True)
      intro ac wx hE hsz hdf h
      have e40 : ac.tmps[40]? = some (.bool false) := by obtain ⟨v, h1, h2⟩ := h 40 (by decide +kernel); rw [h1]; exact congrArg some h2
      have e38 : ac.tmps[38]? = some (.bool true) := by obtain ⟨v, h1, h2⟩ := h 38 (by decide +kernel); rw [h1]; exact congrArg some h2
      clear h hsz hdf
      go_wp2
      exact ⟨_, rfl, by simp, Ext.refl _⟩
    · -- 6: t42 := pick t38 t41 (const (Value.bool false))
      intro ac wx hE hsz hdf h
      have e38 : ac.tmps[38]? = some (.bool true) := by obtain ⟨v, h1, h2⟩ := h 38 (by decide +kernel); rw [h1]; exact congrArg some h2
      have e41 : ac.tmps[41]? = some (.bool true) := by obtain ⟨v, h1, h2⟩ := h 41 (by decide +kernel); rw [h1]; exact congrArg some h2
      clear h hsz hdf
      go_wp2
      exact ⟨_, rfl, by simp, Ext.refl _⟩
    · -- 7: t43 := move t42
      intro ac wx hE hsz hdf h
      have e42 : ac.tmps[42]? = some (.bool true) := by obtain ⟨v, h1, h2⟩ := h 42 (by decide +kernel); rw [h1]; exact congrArg some h2
      clear h hsz hdf
      go_wp2
      exact ⟨_, rfl, rfl, Ext.refl _⟩
    · -- 8: t44 := load 27 t6 (7, True)
      intro ac wx hE hsz hdf h
      have e6 : ac.tmps[6]? = some (.pointer (some ⟨gn3, 0, none⟩)) := by obtain ⟨v, h1, h2⟩ := h 6 (by decide +kernel); exact h1.trans (h2.symm.trans rfl)
      have e43 : ac.tmps[43]? = some (.bool true) := by obtain ⟨v, h1, h2⟩ := h 43 (by decide +kernel); rw [h1]; exact congrArg some h2
      clear h hsz hdf
      obtain ⟨y0, y1, y2, y3, y4, y5, y6, y7⟩ := lit_cells (HM3.out.keep hE).bl
      go_wp2
      exact ⟨_, rfl, rfl, Ext.refl _⟩
    · -- 9: t45 := move t1 (7, True)
      intro ac wx hE hsz hdf h
      have e1 : ac.tmps[1]? = some (.string ⟨l.toArray⟩) := by obtain ⟨v, h1, h2⟩ := h 1 (by decide +kernel); exact h1.trans (h2.symm.trans rfl)
      have e43 : ac.tmps[43]? = some (.bool true) := by obtain ⟨v, h1, h2⟩ := h 43 (by decide +kernel); rw [h1]; exact congrArg some h2
      clear h hsz hdf
      go_wp2
      exact ⟨_, rfl, rfl, Ext.refl _⟩
    · -- 10: t46 := call { value (Operand.func 29), args := #[t44, t45], argTypes := #[27, 9] } (7, True)
      intro ac wx hE hsz hdf h
      have e44 : ac.tmps[44]? = some (.agg #[.int .i64 6, .int .i64 0, .bool false, .int .u64 0, .int .u64 0, .int .u64 0, .int .u64 0, .slice (some ⟨ga2, 0, none⟩) 1 1]) := by obtain ⟨v, h1, h2⟩ := h 44 (by decide +kernel); rw [h1]; exact congrArg some h2
      have e45 : ac.tmps[45]? = some (.string ⟨l.toArray⟩) := by obtain ⟨v, h1, h2⟩ := h 45 (by decide +kernel); rw [h1]; exact congrArg some h2
      have e43 : ac.tmps[43]? = some (.bool true) := by obtain ⟨v, h1, h2⟩ := h 43 (by decide +kernel); rw [h1]; exact congrArg some h2
      clear h hsz hdf
      go_wp2_with ((go_at_call 29; refine (mnSays (T.node 6 0 false noP [t]) (by have := HSZ.out; simp only [size_node, sizeL]; omega) l (by have := HN.out; omega) _ _ [.int .i64 6, .int .i64 0, .bool false, .int .u64 0, .int .u64 0, .int .u64 0, .int .u64 0, .slice (some ⟨ga2, 0, none⟩) 1 1] (HM3.out.nv.keep hE)).mono ?_; rintro e w9 ⟨rfl, hb9⟩; rw [HQ.out]))
      exact ⟨_, rfl, rfl, hb9⟩
    · -- 11: t47 := load 27 t7 (7, True)
      intro ac wx hE hsz hdf h
      have e7 : ac.tmps[7]? = some (.pointer (some ⟨gn4, 0, none⟩)) := by obtain ⟨v, h1, h2⟩ := h 7 (by decide +kernel); exact h1.trans (h2.symm.trans rfl)
      have e43 : ac.tmps[43]? = some (.bool true) := by obtain ⟨v, h1, h2⟩ := h 43 (by decide +kernel); rw [h1]; exact congrArg some h2
      clear h hsz hdf
      obtain ⟨y0, y1, y2, y3, y4, y5, y6, y7⟩ := lit_cells (HM4.out.keep hE).bl
      go_wp2
      exact ⟨_, rfl, rfl, Ext.refl _⟩
    · -- 12: t48 := move t1 (7, True)
      intro ac wx hE hsz hdf h
      have e1 : ac.tmps[1]? = some (.string ⟨l.toArray⟩) := by obtain ⟨v, h1, h2⟩ := h 1 (by decide +kernel); exact h1.trans (h2.symm.trans rfl)
      have e43 : ac.tmps[43]? = some (.bool true) := by obtain ⟨v, h1, h2⟩ := h 43 (by decide +kernel); rw [h1]; exact congrArg some h2
      clear h hsz hdf
      go_wp2
      exact ⟨_, rfl, rfl, Ext.refl _⟩
    · -- 13: t49 := call { value (Operand.func 29), args := #[t47, t48], argTypes := #[27, 9] } (7, True)
      intro ac wx hE hsz hdf h
      have e47 : ac.tmps[47]? = some (.agg #[.int .i64 3, .int .i64 0, .bool false, .int .u64 0, .int .u64 0, .int .u64 0, .int .u64 0, .slice (some ⟨ga3, 0, none⟩) 2 2]) := by obtain ⟨v, h1, h2⟩ := h 47 (by decide +kernel); rw [h1]; exact congrArg some h2
      have e48 : ac.tmps[48]? = some (.string ⟨l.toArray⟩) := by obtain ⟨v, h1, h2⟩ := h 48 (by decide +kernel); rw [h1]; exact congrArg some h2
      have e43 : ac.tmps[43]? = some (.bool true) := by obtain ⟨v, h1, h2⟩ := h 43 (by decide +kernel); rw [h1]; exact congrArg some h2
      clear h hsz hdf
      go_wp2_with ((go_at_call 29; refine (mnSays (T.node 3 0 false noP [t, T.node 5 0 false noP [t]]) (by have := HSZ.out; simp only [size_node, sizeL]; omega) l (by have := HN.out; omega) _ _ [.int .i64 3, .int .i64 0, .bool false, .int .u64 0, .int .u64 0, .int .u64 0, .int .u64 0, .slice (some ⟨ga3, 0, none⟩) 2 2] (HM4.out.nv.keep hE)).mono ?_; rintro e w9 ⟨rfl, hb9⟩; rw [HSB.out]))
      exact ⟨_, rfl, rfl, hb9⟩
    · -- 14: t50 := binOp BinOp.eql 4 t46 t49 4 (7, True)
      intro ac wx hE hsz hdf h
      have e46 : ac.tmps[46]? = some (.bool q) := by obtain ⟨v, h1, h2⟩ := h 46 (by decide +kernel); rw [h1]; exact congrArg some h2
      have e49 : ac.tmps[49]? = some (.bool q) := by obtain ⟨v, h1, h2⟩ := h 49 (by decide +kernel); rw [h1]; exact congrArg some h2
      have e43 : ac.tmps[43]? = some (.bool true) := by obtain ⟨v, h1, h2⟩ := h 43 (by decide +kernel); rw [h1]; exact congrArg some h2
      clear h hsz hdf
      go_wp2
      exact ⟨_, rfl, by simp, Ext.refl _⟩
    · -- 15: t51 := pick t43 t50 (const (Value.bool false))
      intro ac wx hE hsz hdf h
      have e43 : ac.tmps[43]? = some (.bool true) := by obtain ⟨v, h1, h2⟩ := h 43 (by decide +kernel); rw [h1]; exact congrArg some h2
      have e50 : ac.tmps[50]? = some (.bool true) := by obtain ⟨v, h1, h2⟩ := h 50 (by decide +kernel); rw [h1]; exact congrArg some h2
      clear h hsz hdf
      go_wp2
      exact ⟨_, rfl, by simp, Ext.refl _⟩
    · -- 16: t52 := move t51
      intro ac wx hE hsz hdf h
      have e51 : ac.tmps[51]? = some (.bool true) := by obtain ⟨v, h1, h2⟩ := h 51 (by decide +kernel); rw [h1]; exact congrArg some h2
      clear h hsz hdf
      go_wp2
      exact ⟨_, rfl, rfl, Ext.refl _⟩
    · -- 17: t53 := load 27 t5 (16, True)
      intro ac wx hE hsz hdf h
      have e5 : ac.tmps[5]? = some (.pointer (some ⟨gn2, 0, none⟩)) := by obtain ⟨v, h1, h2⟩ := h 5 (by decide +kernel); exact h1.trans (h2.symm.trans rfl)
      have e52 : ac.tmps[52]? = some (.bool true) := by obtain ⟨v, h1, h2⟩ := h 52 (by decide +kernel); rw [h1]; exact congrArg some h2
      clear h hsz hdf
      obtain ⟨y0, y1, y2, y3, y4, y5, y6, y7⟩ := lit_cells (HM2.out.keep hE).bl
      go_wp2
      exact ⟨_, rfl, rfl, Ext.refl _⟩
    · -- 18: t54 := move t1 (16, True)
      intro ac wx hE hsz hdf h
      have e1 : ac.tmps[1]? = some (.string ⟨l.toArray⟩) := by obtain ⟨v, h1, h2⟩ := h 1 (by decide +kernel); exact h1.trans (h2.symm.trans rfl)
      have e52 : ac.tmps[52]? = some (.bool true) := by obtain ⟨v, h1, h2⟩ := h 52 (by decide +kernel); rw [h1]; exact congrArg some h2
      clear h hsz hdf
      go_wp2
      exact ⟨_, rfl, rfl, Ext.refl _⟩
    · -- 19: t55 := call { value (Operand.func 29), args := #[t53, t54], argTypes := #[27, 9] } (16, True)
      intro ac wx hE hsz hdf h
      have e53 : ac.tmps[53]? = some (.agg #[.int .i64 5, .int .i64 0, .bool false, .int .u64 0, .int .u64 0, .int .u64 0, .int .u64 0, .slice (some ⟨ga1, 0, none⟩) 1 1]) := by obtain ⟨v, h1, h2⟩ := h 53 (by decide +kernel); rw [h1]; exact congrArg some h2
      have e54 : ac.tmps[54]? = some (.string ⟨l.toArray⟩) := by obtain ⟨v, h1, h2⟩ := h 54 (by decide +kernel); rw [h1]; exact congrArg some h2
      have e52 : ac.tmps[52]? = some (.bool true) := by obtain ⟨v, h1, h2⟩ := h 52 (by decide +kernel); rw [h1]; exact congrArg some h2
      clear h hsz hdf
      go_wp2_with ((go_at_call 29; refine (mnSays (T.node 5 0 false noP [t]) (by have := HSZ.out; simp only [size_node, sizeL]; omega) l (by have := HN.out; omega) _ _ [.int .i64 5, .int .i64 0, .bool false, .int .u64 0, .int .u64 0, .int .u64 0, .int .u64 0, .slice (some ⟨ga1, 0, none⟩) 1 1] (HM2.out.nv.keep hE)).mono ?_; rintro e w9 ⟨rfl, hb9⟩; rw [HSR.out]))
      exact ⟨_, rfl, rfl, hb9⟩
    · -- 20: t56 := move t1 (16, True)
      intro ac wx hE hsz hdf h
      have e1 : ac.tmps[1]? = some (.string ⟨l.toArray⟩) := by obtain ⟨v, h1, h2⟩ := h 1 (by decide +kernel); exact h1.trans (h2.symm.trans rfl)
      have e52 : ac.tmps[52]? = some (.bool true) := by obtain ⟨v, h1, h2⟩ := h 52 (by decide +kernel); rw [h1]; exact congrArg some h2
      clear h hsz hdf
      go_wp2
      exact ⟨_, rfl, rfl, Ext.refl _⟩
    · -- 21: t57 := call { builtin len, args := #[t56], argTypes := #[9] } (16, True)
      intro ac wx hE hsz hdf h
      have e56 : ac.tmps[56]? = some (.string ⟨l.toArray⟩) := by obtain ⟨v, h1, h2⟩ := h 56 (by decide +kernel); rw [h1]; exact congrArg some h2
      have e52 : ac.tmps[52]? = some (.bool true) := by obtain ⟨v, h1, h2⟩ := h 52 (by decide +kernel); rw [h1]; exact congrArg some h2
      clear h hsz hdf
      go_wp2
      exact ⟨_, rfl, rfl, Ext.refl _⟩
    · -- 22: t58 := binOp BinOp.eql 3 t57 (const (0:i64)) 3 (16, True)
      intro ac wx hE hsz hdf h
      have e57 : ac.tmps[57]? = some (.int .i64 (l.length : Nat)) := by obtain ⟨v, h1, h2⟩ := h 57 (by decide +kernel); rw [h1]; exact congrArg some h2
      have e52 : ac.tmps[52]? = some (.bool true) := by obtain ⟨v, h1, h2⟩ := h 52 (by decide +kernel); rw [h1]; exact congrArg some h2
      clear h hsz hdf
      have hl9 := HL0.out
      go_wp2
      exact ⟨_, rfl, by simp, Ext.refl _⟩
    · -- 23: t59 := move t58 (16, True)
      intro ac wx hE hsz hdf h
      have e58 : ac.tmps[58]? = some (.bool false) := by obtain ⟨v, h1, h2⟩ := h 58 (by decide +kernel); rw [h1]; exact congrArg some h2
      have e52 : ac.tmps[52]? = some (.bool true) := by obtain ⟨v, h1, h2⟩ := h 52 (by decide +kernel); rw [h1]; exact congrArg some h2
      clear h hsz hdf
      go_wp2
      exact ⟨_, rfl, rfl, Ext.refl _⟩
    · -- 24: t60 := load 27 t6 (23, False)
      intro ac wx hE hsz hdf h
      have e6 : ac.tmps[6]? = some (.pointer (some ⟨gn3, 0, none⟩)) := by obtain ⟨v, h1, h2⟩ := h 6 (by decide +kernel); exact h1.trans (h2.symm.trans rfl)
      have e59 : ac.tmps[59]? = some (.bool false) := by obtain ⟨v, h1, h2⟩ := h 59 (by decide +kernel); rw [h1]; exact congrArg some h2
      clear h hsz hdf
      obtain ⟨y0, y1, y2, y3, y4, y5, y6, y7⟩ := lit_cells (HM3.out.keep hE).bl
      go_wp2
      exact ⟨_, rfl, rfl, Ext.refl _⟩
    · -- 25: t61 := move t1 (23, False)
      intro ac wx hE hsz hdf h
      have e1 : ac.tmps[1]? = some (.string ⟨l.toArray⟩) := by obtain ⟨v, h1, h2⟩ := h 1 (by decide +kernel); exact h1.trans (h2.symm.trans rfl)
      have e59 : ac.tmps[59]? = some (.bool false) := by obtain ⟨v, h1, h2⟩ := h 59 (by decide +kernel); rw [h1]; exact congrArg some h2
      clear h hsz hdf
      go_wp2
      exact ⟨_, rfl, rfl, Ext.refl _⟩
    · -- 26: t62 := call { value (Operand.func 29), args := #[t60, t61], argTypes := #[27, 9] } (23, False)
      intro ac wx hE hsz hdf h
      have e60 : ac.tmps[60]? = some (.agg #[.int .i64 6, .int .i64 0, .bool false, .int .u64 0, .int .u64 0, .int .u64 0, .int .u64 0, .slice (some ⟨ga2, 0, none⟩) 1 1]) := by obtain ⟨v, h1, h2⟩ := h 60 (by decide +kernel); rw [h1]; exact congrArg some h2
      have e61 : ac.tmps[61]? = some (.string ⟨l.toArray⟩) := by obtain ⟨v, h1, h2⟩ := h 61 (by decide +kernel); rw [h1]; exact congrArg some h2
      have e59 : ac.tmps[59]? = some (.bool false) := by obtain ⟨v, h1, h2⟩ := h 59 (by decide +kernel); rw [h1]; exact congrArg some h2
      clear h hsz hdf
      go_wp2_with ((go_at_call 29; refine (mnSays (T.node 6 0 false noP [t]) (by have := HSZ.out; simp only [size_node, sizeL]; omega) l (by have := HN.out; omega) _ _ [.int .i64 6, .int .i64 0, .bool false, .int .u64 0, .int .u64 0, .int .u64 0, .int .u64 0, .slice (some ⟨ga2, 0, none⟩) 1 1] (HM3.out.nv.keep hE)).mono ?_; rintro e w9 ⟨rfl, hb9⟩; rw [HQ.out]))
      exact ⟨_, rfl, rfl, hb9⟩
    · -- 27: t63 := pick t59 (const (Value.bool true)) t62 (16, True)
      intro ac wx hE hsz hdf h
      have e59 : ac.tmps[59]? = some (.bool false) := by obtain ⟨v, h1, h2⟩ := h 59 (by decide +kernel); rw [h1]; exact congrArg some h2
      have e62 : ac.tmps[62]? = some (.bool q) := by obtain ⟨v, h1, h2⟩ := h 62 (by decide +kernel); rw [h1]; exact congrArg some h2
      have e52 : ac.tmps[52]? = some (.bool true) := by obtain ⟨v, h1, h2⟩ := h 52 (by decide +kernel); rw [h1]; exact congrArg some h2
      clear h hsz hdf
      go_wp2
      exact ⟨_, rfl, by simp, Ext.refl _⟩
    · -- 28: t64 := binOp BinOp.eql 4 t55 t63 4 (16, True)
      intro ac wx hE hsz hdf h
      have e55 : ac.tmps[55]? = some (.bool q) := by obtain ⟨v, h1, h2⟩ := h 55 (by decide +kernel); rw [h1]; exact congrArg some h2
      have e63 : ac.tmps[63]? = some (.bool q) := by obtain ⟨v, h1, h2⟩ := h 63 (by decide +kernel); rw [h1]; exact congrArg some h2
      have e52 : ac.tmps[52]? = some (.bool true) := by obtain ⟨v, h1, h2⟩ := h 52 (by decide +kernel); rw [h1]; exact congrArg some h2
      clear h hsz hdf
      go_wp2
      exact ⟨_, rfl, by simp, Ext.refl _⟩
    · -- 29: t65 := pick t52 t64 (const (Value.bool false))
      intro ac wx hE hsz hdf h
      have e52 : ac.tmps[52]? = some (.bool true) := by obtain ⟨v, h1, h2⟩ := h 52 (by decide +kernel); rw [h1]; exact congrArg some h2
      have e64 : ac.tmps[64]? = some (.bool true) := by obtain ⟨v, h1, h2⟩ := h 64 (by decide +kernel); rw [h1]; exact congrArg some h2
      clear h hsz hdf
      go_wp2
      exact ⟨_, rfl, by simp, Ext.refl _⟩
    · -- 30: t66 := move t65
      intro ac wx hE hsz hdf h
      have e65 : ac.tmps[65]? = some (.bool true) := by obtain ⟨v, h1, h2⟩ := h 65 (by decide +kernel); rw [h1]; exact congrArg some h2
      clear h hsz hdf
      go_wp2
      exact ⟨_, rfl, rfl, Ext.refl _⟩
    · -- 31: t67 := load 27 t6 (30, True)
      intro ac wx hE hsz hdf h
      have e6 : ac.tmps[6]? = some (.pointer (some ⟨gn3, 0, none⟩)) := by obtain ⟨v, h1, h2⟩ := h 6 (by decide +kernel); exact h1.trans (h2.symm.trans rfl)
      have e66 : ac.tmps[66]? = some (.bool true) := by obtain ⟨v, h1, h2⟩ := h 66 (by decide +kernel); rw [h1]; exact congrArg some h2
      clear h hsz hdf
      obtain ⟨y0, y1, y2, y3, y4, y5, y6, y7⟩ := lit_cells (HM3.out.keep hE).bl
      go_wp2
      exact ⟨_, rfl, rfl, Ext.refl _⟩
    · -- 32: t68 := move t1 (30, True)
      intro ac wx hE hsz hdf h
      have e1 : ac.tmps[1]? = some (.string ⟨l.toArray⟩) := by obtain ⟨v, h1, h2⟩ := h 1 (by decide +kernel); exact h1.trans (h2.symm.trans rfl)
      have e66 : ac.tmps[66]? = some (.bool true) := by obtain ⟨v, h1, h2⟩ := h 66 (by decide +kernel); rw [h1]; exact congrArg some h2
      clear h hsz hdf
      go_wp2
      exact ⟨_, rfl, rfl, Ext.refl _⟩
    · -- 33: t69 := move t8 (30, True)
      intro ac wx hE hsz hdf h
      have e8 : ac.tmps[8]? = some (.int .i64 0) := by obtain ⟨v, h1, h2⟩ := h 8 (by decide +kernel); exact h1.trans (h2.symm.trans rfl)
      have e66 : ac.tmps[66]? = some (.bool true) := by obtain ⟨v, h1, h2⟩ := h 66 (by decide +kernel); rw [h1]; exact congrArg some h2
      clear h hsz hdf
      go_wp2
      exact ⟨_, rfl, rfl, Ext.refl _⟩
    · -- 34: t70 := call { value (Operand.func 28), args := #[t67, t68, t69], argTypes := #[27, 9, 3] } (30, True)
      intro ac wx hE hsz hdf h
      have e67 : ac.tmps[67]? = some (.agg #[.int .i64 6, .int .i64 0, .bool false, .int .u64 0, .int .u64 0, .int .u64 0, .int .u64 0, .slice (some ⟨ga2, 0, none⟩) 1 1]) := by obtain ⟨v, h1, h2⟩ := h 67 (by decide +kernel); rw [h1]; exact congrArg some h2
      have e68 : ac.tmps[68]? = some (.string ⟨l.toArray⟩) := by obtain ⟨v, h1, h2⟩ := h 68 (by decide +kernel); rw [h1]; exact congrArg some h2
      have e69 : ac.tmps[69]? = some (.int .i64 0) := by obtain ⟨v, h1, h2⟩ := h 69 (by decide +kernel); rw [h1]; exact congrArg some h2
      have e66 : ac.tmps[66]? = some (.bool true) := by obtain ⟨v, h1, h2⟩ := h 66 (by decide +kernel); rw [h1]; exact congrArg some h2
      clear h hsz hdf
      go_wp2_with ((go_at_call 28; refine (mnEnds (T.node 6 0 false noP [t]) (by have := HSZ.out; simp only [size_node, sizeL]; omega) l (by have := HN.out; omega) 0 _ _ [.int .i64 6, .int .i64 0, .bool false, .int .u64 0, .int .u64 0, .int .u64 0, .int .u64 0, .slice (some ⟨ga2, 0, none⟩) 1 1] (HM3.out.nv.keep hE)).mono ?_; rintro e w9 ⟨r9, rfl, hp9, hb9⟩; rw [HW.out] at hp9))
      exact ⟨_, rfl, hp9, hb9⟩
    · -- 35: t71 := load 27 t7 (30, True)
      intro ac wx hE hsz hdf h
      have e7 : ac.tmps[7]? = some (.pointer (some ⟨gn4, 0, none⟩)) := by obtain ⟨v, h1, h2⟩ := h 7 (by decide +kernel); exact h1.trans (h2.symm.trans rfl)
      have e66 : ac.tmps[66]? = some (.bool true) := by obtain ⟨v, h1, h2⟩ := h 66 (by decide +kernel); rw [h1]; exact congrArg some h2
      clear h hsz hdf
      obtain ⟨y0, y1, y2, y3, y4, y5, y6, y7⟩ := lit_cells (HM4.out.keep hE).bl
      go_wp2
      exact ⟨_, rfl, rfl, Ext.refl _⟩
    · -- 36: t72 := move t1 (30, True)
      intro ac wx hE hsz hdf h
      have e1 : ac.tmps[1]? = some (.string ⟨l.toArray⟩) := by obtain ⟨v, h1, h2⟩ := h 1 (by decide +kernel); exact h1.trans (h2.symm.trans rfl)
      have e66 : ac.tmps[66]? = some (.bool true) := by obtain ⟨v, h1, h2⟩ := h 66 (by decide +kernel); rw [h1]; exact congrArg some h2
      clear h hsz hdf
      go_wp2
      exact ⟨_, rfl, rfl, Ext.refl _⟩
    · -- 37: t73 := move t8 (30, True)
      intro ac wx hE hsz hdf h
      have e8 : ac.tmps[8]? = some (.int .i64 0) := by obtain ⟨v, h1, h2⟩ := h 8 (by decide +kernel); exact h1.trans (h2.symm.trans rfl)
      have e66 : ac.tmps[66]? = some (.bool true) := by obtain ⟨v, h1, h2⟩ := h 66 (by decide +kernel); rw [h1]; exact congrArg some h2
      clear h hsz hdf
      go_wp2
      exact ⟨_, rfl, rfl, Ext.refl _⟩
    · -- 38: t74 := call { value (Operand.func 28), args := #[t71, t72, t73], argTypes := #[27, 9, 3] } (30, True)
      intro ac wx hE hsz hdf h
      have e71 : ac.tmps[71]? = some (.agg #[.int .i64 3, .int .i64 0, .bool false, .int .u64 0, .int .u64 0, .int .u64 0, .int .u64 0, .slice (some ⟨ga3, 0, none⟩) 2 2]) := by obtain ⟨v, h1, h2⟩ := h 71 (by decide +kernel); rw [h1]; exact congrArg some h2
      have e72 : ac.tmps[72]? = some (.string ⟨l.toArray⟩) := by obtain ⟨v, h1, h2⟩ := h 72 (by decide +kernel); rw [h1]; exact congrArg some h2
      have e73 : ac.tmps[73]? = some (.int .i64 0) := by obtain ⟨v, h1, h2⟩ := h 73 (by decide +kernel); rw [h1]; exact congrArg some h2
      have e66 : ac.tmps[66]? = some (.bool true) := by obtain ⟨v, h1, h2⟩ := h 66 (by decide +kernel); rw [h1]; exact congrArg some h2
      clear h hsz hdf
      go_wp2_with ((go_at_call 28; refine (mnEnds (T.node 3 0 false noP [t, T.node 5 0 false noP [t]]) (by have := HSZ.out; simp only [size_node, sizeL]; omega) l (by have := HN.out; omega) 0 _ _ [.int .i64 3, .int .i64 0, .bool false, .int .u64 0, .int .u64 0, .int .u64 0, .int .u64 0, .slice (some ⟨ga3, 0, none⟩) 2 2] (HM4.out.nv.keep hE)).mono ?_; rintro e w9 ⟨r9, rfl, hp9, hb9⟩; rw [HEB.out, HW.out] at hp9))
      exact ⟨_, rfl, hp9, hb9⟩
    · -- 39: t75 := call { value (Operand.func 31), args := #[t70, t74], argTypes := #[52, 52] } (30, True)
      intro ac wx hE hsz hdf h
      obtain ⟨v70, e70, s70⟩ : ∃ v, ac.tmps[70]? = some v ∧ (IlV wx v W) := h 70 (by decide +kernel)
      obtain ⟨v74, e74, s74⟩ : ∃ v, ac.tmps[74]? = some v ∧ (IlV wx v W) := h 74 (by decide +kernel)
      have e66 : ac.tmps[66]? = some (.bool true) := by obtain ⟨v, h1, h2⟩ := h 66 (by decide +kernel); rw [h1]; exact congrArg some h2
      clear h hsz hdf
      obtain ⟨A7, c7, rfl, -, -, hr7⟩ := s70; obtain ⟨A8, c8, rfl, -, -, hr8⟩ := s74
      go_wp2_with ((go_at_call 31; refine (sameInts W W _ _ _ _ _ _ _ hr7 hr8 (by have := HWL.out; omega) (by have := HWL.out; omega) true (by simp)).mono ?_; rintro e w9 ⟨rfl, hb9⟩))
      exact ⟨_, rfl, rfl, hb9⟩
    · -- 40: t76 := pick t66 t75 (const (Value.bool false))
      intro ac wx hE hsz hdf h
      have e66 : ac.tmps[66]? = some (.bool true) := by obtain ⟨v, h1, h2⟩ := h 66 (by decide +kernel); rw [h1]; exact congrArg some h2
      have e75 : ac.tmps[75]? = some (.bool true) := by obtain ⟨v, h1, h2⟩ := h 75 (by decide +kernel); rw [h1]; exact congrArg some h2
      clear h hsz hdf
      go_wp2
      exact ⟨_, rfl, by simp, Ext.refl _⟩
    · -- 41: t4 := assign t76
      intro ac wx hE hsz hdf h
      have e76 : ac.tmps[76]? = some (.bool true) := by obtain ⟨v, h1, h2⟩ := h 76 (by decide +kernel); rw [h1]; exact congrArg some h2
      clear h hsz hdf
      go_wp2
      exact ⟨_, rfl, rfl, Ext.refl _⟩
    · intro ac w9 hE hsz hdf h hrest
      obtain ⟨v0, s0, g0⟩ := h 0 _ rfl
      have e0 := g0 36 rfl
      obtain rfl : v0 = .agg #[.int .i64 5, .int .i64 0, .bool false, .int .u64 0, .int .u64 0, .int .u64 0, .int .u64 0, .slice (some ⟨ga1, 0, none⟩) 1 1] := s0
      obtain ⟨v1, s1, g1⟩ := h 1 _ rfl
      have e1 := g1 37 rfl
      obtain rfl : v1 = .bool true := s1
      obtain ⟨v2, s2, g2⟩ := h 2 _ rfl
      have e2 := g2 38 rfl
      obtain rfl : v2 = .bool true := s2
      obtain ⟨v3, s3, g3⟩ := h 3 _ rfl
      have e3 := g3 39 rfl
      obtain rfl : v3 = .agg #[.int .i64 6, .int .i64 0, .bool false, .int .u64 0, .int .u64 0, .int .u64 0, .int .u64 0, .slice (some ⟨ga2, 0, none⟩) 1 1] := s3
      obtain ⟨v4, s4, g4⟩ := h 4 _ rfl
      have e4 := g4 40 rfl
      obtain rfl : v4 = .bool false := s4
      obtain ⟨v5, s5, g5⟩ := h 5 _ rfl
      have e5 := g5 41 rfl
      obtain rfl : v5 = .bool true := s5
      obtain ⟨v6, s6, g6⟩ := h 6 _ rfl
      have e6 := g6 42 rfl
      obtain rfl : v6 = .bool true := s6
      obtain ⟨v7, s7, g7⟩ := h 7 _ rfl
      have e7 := g7 43 rfl
      obtain rfl : v7 = .bool true := s7
      obtain ⟨v8, s8, g8⟩ := h 8 _ rfl
      have e8 := g8 44 rfl
      obtain rfl : v8 = .agg #[.int .i64 6, .int .i64 0, .bool false, .int .u64 0, .int .u64 0, .int .u64 0, .int .u64 0, .slice (some ⟨ga2, 0, none⟩) 1 1] := s8
      obtain ⟨v9, s9, g9⟩ := h 9 _ rfl
      have e9 := g9 45 rfl
      obtain rfl : v9 = .string ⟨l.toArray⟩ := s9
      obtain ⟨v10, s10, g10⟩ := h 10 _ rfl
      have e10 := g10 46 rfl
      obtain rfl : v10 = .bool q := s10
      obtain ⟨v11, s11, g11⟩ := h 11 _ rfl
      have e11 := g11 47 rfl
      obtain rfl : v11 = .agg #[.int .i64 3, .int .i64 0, .bool false, .int .u64 0, .int .u64 0, .int .u64 0, .int .u64 0, .slice (some ⟨ga3, 0, none⟩) 2 2] := s11
      obtain ⟨v12, s12, g12⟩ := h 12 _ rfl
      have e12 := g12 48 rfl
      obtain rfl : v12 = .string ⟨l.toArray⟩ := s12
      obtain ⟨v13, s13, g13⟩ := h 13 _ rfl
      have e13 := g13 49 rfl
      obtain rfl : v13 = .bool q := s13
      obtain ⟨v14, s14, g14⟩ := h 14 _ rfl
      have e14 := g14 50 rfl
      obtain rfl : v14 = .bool true := s14
      obtain ⟨v15, s15, g15⟩ := h 15 _ rfl
      have e15 := g15 51 rfl
      obtain rfl : v15 = .bool true := s15
      obtain ⟨v16, s16, g16⟩ := h 16 _ rfl
      have e16 := g16 52 rfl
      obtain rfl : v16 = .bool true := s16
      obtain ⟨v17, s17, g17⟩ := h 17 _ rfl
      have e17 := g17 53 rfl
      obtain rfl : v17 = .agg #[.int .i64 5, .int .i64 0, .bool false, .int .u64 0, .int .u64 0, .int .u64 0, .int .u64 0, .slice (some ⟨ga1, 0, none⟩) 1 1] := s17
      obtain ⟨v18, s18, g18⟩ := h 18 _ rfl
      have e18 := g18 54 rfl
      obtain rfl : v18 = .string ⟨l.toArray⟩ := s18
      obtain ⟨v19, s19, g19⟩ := h 19 _ rfl
      have e19 := g19 55 rfl
      obtain rfl : v19 = .bool q := s19
      obtain ⟨v20, s20, g20⟩ := h 20 _ rfl
      have e20 := g20 56 rfl
      obtain rfl : v20 = .string ⟨l.toArray⟩ := s20
      obtain ⟨v21, s21, g21⟩ := h 21 _ rfl
      have e21 := g21 57 rfl
      obtain rfl : v21 = .int .i64 (l.length : Nat) := s21
      obtain ⟨v22, s22, g22⟩ := h 22 _ rfl
      have e22 := g22 58 rfl
      obtain rfl : v22 = .bool false := s22
      obtain ⟨v23, s23, g23⟩ := h 23 _ rfl
      have e23 := g23 59 rfl
      obtain rfl : v23 = .bool false := s23
      obtain ⟨v24, s24, g24⟩ := h 24 _ rfl
      have e24 := g24 60 rfl
      obtain rfl : v24 = .agg #[.int .i64 6, .int .i64 0, .bool false, .int .u64 0, .int .u64 0, .int .u64 0, .int .u64 0, .slice (some ⟨ga2, 0, none⟩) 1 1] := s24
      obtain ⟨v25, s25, g25⟩ := h 25 _ rfl
      have e25 := g25 61 rfl
      obtain rfl : v25 = .string ⟨l.toArray⟩ := s25
      obtain ⟨v26, s26, g26⟩ := h 26 _ rfl
      have e26 := g26 62 rfl
      obtain rfl : v26 = .bool q := s26
      obtain ⟨v27, s27, g27⟩ := h 27 _ rfl
      have e27 := g27 63 rfl
      obtain rfl : v27 = .bool q := s27
      obtain ⟨v28, s28, g28⟩ := h 28 _ rfl
      have e28 := g28 64 rfl
      obtain rfl : v28 = .bool true := s28
      obtain ⟨v29, s29, g29⟩ := h 29 _ rfl
      have e29 := g29 65 rfl
      obtain rfl : v29 = .bool true := s29
      obtain ⟨v30, s30, g30⟩ := h 30 _ rfl
      have e30 := g30 66 rfl
      obtain rfl : v30 = .bool true := s30
      obtain ⟨v31, s31, g31⟩ := h 31 _ rfl
      have e31 := g31 67 rfl
      obtain rfl : v31 = .agg #[.int .i64 6, .int .i64 0, .bool false, .int .u64 0, .int .u64 0, .int .u64 0, .int .u64 0, .slice (some ⟨ga2, 0, none⟩) 1 1] := s31
      obtain ⟨v32, s32, g32⟩ := h 32 _ rfl
      have e32 := g32 68 rfl
      obtain rfl : v32 = .string ⟨l.toArray⟩ := s32
      obtain ⟨v33, s33, g33⟩ := h 33 _ rfl
      have e33 := g33 69 rfl
      obtain rfl : v33 = .int .i64 0 := s33
      obtain ⟨v34, s34, g34⟩ := h 34 _ rfl
      have e34 := g34 70 rfl
      replace s34 : IlV w9 v34 W := s34
      obtain ⟨v35, s35, g35⟩ := h 35 _ rfl
      have e35 := g35 71 rfl
      obtain rfl : v35 = .agg #[.int .i64 3, .int .i64 0, .bool false, .int .u64 0, .int .u64 0, .int .u64 0, .int .u64 0, .slice (some ⟨ga3, 0, none⟩) 2 2] := s35
      obtain ⟨v36, s36, g36⟩ := h 36 _ rfl
      have e36 := g36 72 rfl
      obtain rfl : v36 = .string ⟨l.toArray⟩ := s36
      obtain ⟨v37, s37, g37⟩ := h 37 _ rfl
      have e37 := g37 73 rfl
      obtain rfl : v37 = .int .i64 0 := s37
      obtain ⟨v38, s38, g38⟩ := h 38 _ rfl
      have e38 := g38 74 rfl
      replace s38 : IlV w9 v38 W := s38
      obtain ⟨v39, s39, g39⟩ := h 39 _ rfl
      have e39 := g39 75 rfl
      obtain rfl : v39 = .bool true := s39
      obtain ⟨v40, s40, g40⟩ := h 40 _ rfl
      have e40 := g40 76 rfl
      obtain rfl : v40 = .bool true := s40
      obtain ⟨v41, s41, g41⟩ := h 41 _ rfl
      have e41 := g41 4 rfl
      obtain rfl : v41 = .bool true := s41
      have ha := act_of [(36, .agg #[.int .i64 5, .int .i64 0, .bool false, .int .u64 0, .int .u64 0, .int .u64 0, .int .u64 0, .slice (some ⟨ga1, 0, none⟩) 1 1]), (37, .bool true), (38, .bool true), (39, .agg #[.int .i64 6, .int .i64 0, .bool false, .int .u64 0, .int .u64 0, .int .u64 0, .int .u64 0, .slice (some ⟨ga2, 0, none⟩) 1 1]), (40, .bool false), (41, .bool true), (42, .bool true), (43, .bool true), (44, .agg #[.int .i64 6, .int .i64 0, .bool false, .int .u64 0, .int .u64 0, .int .u64 0, .int .u64 0, .slice (some ⟨ga2, 0, none⟩) 1 1]), (45, .string ⟨l.toArray⟩), (46, .bool q), (47, .agg #[.int .i64 3, .int .i64 0, .bool false, .int .u64 0, .int .u64 0, .int .u64 0, .int .u64 0, .slice (some ⟨ga3, 0, none⟩) 2 2]), (48, .string ⟨l.toArray⟩), (49, .bool q), (50, .bool true), (51, .bool true), (52, .bool true), (53, .agg #[.int .i64 5, .int .i64 0, .bool false, .int .u64 0, .int .u64 0, .int .u64 0, .int .u64 0, .slice (some ⟨ga1, 0, none⟩) 1 1]), (54, .string ⟨l.toArray⟩), (55, .bool q), (56, .string ⟨l.toArray⟩), (57, .int .i64 (l.length : Nat)), (58, .bool false), (59, .bool false), (60, .agg #[.int .i64 6, .int .i64 0, .bool false, .int .u64 0, .int .u64 0, .int .u64 0, .int .u64 0, .slice (some ⟨ga2, 0, none⟩) 1 1]), (61, .string ⟨l.toArray⟩), (62, .bool q), (63, .bool q), (64, .bool true), (65, .bool true), (66, .bool true), (67, .agg #[.int .i64 6, .int .i64 0, .bool false, .int .u64 0, .int .u64 0, .int .u64 0, .int .u64 0, .slice (some ⟨ga2, 0, none⟩) 1 1]), (68, .string ⟨l.toArray⟩), (69, .int .i64 0), (70, v34), (71, .agg #[.int .i64 3, .int .i64 0, .bool false, .int .u64 0, .int .u64 0, .int .u64 0, .int .u64 0, .slice (some ⟨ga3, 0, none⟩) 2 2]), (72, .string ⟨l.toArray⟩), (73, .int .i64 0), (74, v38), (75, .bool true), (76, .bool true), (4, .bool true)] rfl hsz hdf (by intro p hp; simp only [List.mem_cons, List.not_mem_nil, or_false] at hp; rcases hp with rfl | rfl | rfl | rfl | rfl | rfl | rfl | rfl | rfl | rfl | rfl | rfl | rfl | rfl | rfl | rfl | rfl | rfl | rfl | rfl | rfl | rfl | rfl | rfl | rfl | rfl | rfl | rfl | rfl | rfl | rfl | rfl | rfl | rfl | rfl | rfl | rfl | rfl | rfl | rfl | rfl | rfl <;> first | exact e0 | exact e1 | exact e2 | exact e3 | exact e4 | exact e5 | exact e6 | exact e7 | exact e8 | exact e9 | exact e10 | exact e11 | exact e12 | exact e13 | exact e14 | exact e15 | exact e16 | exact e17 | exact e18 | exact e19 | exact e20 | exact e21 | exact e22 | exact e23 | exact e24 | exact e25 | exact e26 | exact e27 | exact e28 | exact e29 | exact e30 | exact e31 | exact e32 | exact e33 | exact e34 | exact e35 | exact e36 | exact e37 | exact e38 | exact e39 | exact e40 | exact e41) hrest
      clear h hrest hsz hdf e0 e1 e2 e3 e4 e5 e6 e7 e8 e9 e10 e11 e12 e13 e14 e15 e16 e17 e18 e19 e20 e21 e22 e23 e24 e25 e26 e27 e28 e29 e30 e31 e32 e33 e34 e35 e36 e37 e38 e39 e40 e41 g0 g1 g2 g3 g4 g5 g6 g7 g8 g9 g10 g11 g12 g13 g14 g15 g16 g17 g18 g19 g20 g21 g22 g23 g24 g25 g26 g27 g28 g29 g30 g31 g32 g33 g34 g35 g36 g37 g38 g39 g40 g41
      subst ha
      simp only [List.foldl_cons, List.foldl_nil, Act.put, List.setIfInBounds_toArray, List.set_cons_succ, List.set_cons_zero]
      have HXX := Lib.hid (Ext.trans HX4.out hE)
      clear s34 s38
      go_wp2
      go_ret
      exact ⟨rfl, HXX.out⟩
  · skip
    have HSR := Lib.hid (show saysA (T.node 5 0 false noP [t]) l = true by rw [HSS.out, hl0]; rfl)
    have HL0 := Lib.hid hl0
    obtain ⟨W, hW⟩ : ∃ W, natsI (endsA (T.node 6 0 false noP [t]) l 0) = W := ⟨_, rfl⟩
    have HW := Lib.hid hW
    have HWL := Lib.hid (show W.length ≤ 13 by rw [← hW]; have := endsA_le (T.node 6 0 false noP [t]) l 0; have := HN.out; unfold natsI; rw [List.length_map]; omega)
    clear hW hl0
    go_upto_region 11 with fail
    refine wp_region_dag (E := Ext) (w0 := wc) (Φ := fun i v w => match i with | 0 => (v = .agg #[.int .i64 5, .int .i64 0, .bool false, .int .u64 0, .int .u64 0, .int .u64 0, .int .u64 0, .slice (some ⟨ga1, 0, none⟩) 1 1]) | 1 => (v = .bool true) | 2 => (v = .bool true) | 3 => (v = .agg #[.int .i64 6, .int .i64 0, .bool false, .int .u64 0, .int .u64 0, .int .u64 0, .int .u64 0, .slice (some ⟨ga2, 0, none⟩) 1 1]) | 4 => (v = .bool false) | 5 => (v = .bool true) | 6 => (v = .bool true) | 7 => (v = .bool true) | 8 => (v = .agg #[.int .i64 6, .int .i64 0, .bool false, .int .u64 0, .int .u64 0, .int .u64 0, .int .u64 0, .slice (some ⟨ga2, 0, none⟩) 1 1]) | 9 => (v = .string ⟨l.toArray⟩) | 10 => (v = .bool q) | 11 => (v = .agg #[.int .i64 3, .int .i64 0, .bool false, .int .u64 0, .int .u64 0, .int .u64 0, .int .u64 0, .slice (some ⟨ga3, 0, none⟩) 2 2]) | 12 => (v = .string ⟨l.toArray⟩) | 13 => (v = .bool q) | 14 => (v = .bool true) | 15 => (v = .bool true) | 16 => (v = .bool true) | 17 => (v = .agg #[.int .i64 5, .int .i64 0, .bool false, .int .u64 0, .int .u64 0, .int .u64 0, .int .u64 0, .slice (some ⟨ga1, 0, none⟩) 1 1]) | 18 => (v = .string ⟨l.toArray⟩) | 19 => (v = .bool true) | 20 => (v = .string ⟨l.toArray⟩) | 21 => (v = .int .i64 (l.length : Nat)) | 22 => (v = .bool true) | 23 => (v = .bool true) | 24 => (v = undef) | 25 => (v = undef) | 26 => (v = undef) | 27 => (v = .bool true) | 28 => (v = .bool true) | 29 => (v = .bool true) | 30 => (v = .bool true) | 31 => (v = .agg #[.int .i64 6, .int .i64 0, .bool false, .int .u64 0, .int .u64 0, .int .u64 0, .int .u64 0, .slice (some ⟨ga2, 0, none⟩) 1 1]) | 32 => (v = .string ⟨l.toArray⟩) | 33 => (v = .int .i64 0) | 34 => (IlV w v W) | 35 => (v = .agg #[.int .i64 3, .int .i64 0, .bool false, .int .u64 0, .int .u64 0, .int .u64 0, .int .u64 0, .slice (some ⟨ga3, 0, none⟩) 2 2]) | 36 => (v = .string ⟨l.toArray⟩) | 37 => (v = .int .i64 0) | 38 => (IlV w v W) | 39 => (v = .bool true) | 40 => (v = .bool true) | 41 => (v = .bool true) | _ => True) (show Tryd.prog.follows .mixedOrders = true from Checked.mixed Tryd.checked) 77 rfl (by decide +kernel) ?_ ((Below.refl _ _).drew) ?_ ⟨?_, ?_, ?_, ?_, ?_, ?_, ?_, ?_, ?_, ?_, ?_, ?_, ?_, ?_, ?_, ?_, ?_, ?_, ?_, ?_, ?_, ?_, ?_, ?_, ?_, ?_, ?_, ?_, ?_, ?_, ?_, ?_, ?_, ?_, ?_, ?_, ?_, ?_, ?_, ?_, ?_, ?_, trivial⟩ ?_
    · intro i v w w' h hE
      match i, h with
      | 0, h => exact h
      | 1, h => exact h
      | 2, h => exact h
      | 3, h => exact h
      | 4, h => exact h
      | 5, h => exact h
      | 6, h => exact h
      | 7, h => exact h
      | 8, h => exact h
      | 9, h => exact h
      | 10, h => exact h
      | 11, h => exact h
      | 12, h => exact h
      | 13, h => exact h
      | 14, h => exact h
      | 15, h => exact h
      | 16, h => exact h
      | 17, h => exact h
      | 18, h => exact h
      | 19, h => exact h
      | 20, h => exact h
      | 21, h => exact h
      | 22, h => exact h
      | 23, h => exact h
      | 24, h => exact h
      | 25, h => exact h
      | 26, h => exact h
      | 27, h => exact h
      | 28, h => exact h
      | 29, h => exact h
      | 30, h => exact h
      | 31, h => exact h
      | 32, h => exact h
      | 33, h => exact h
      | 34, h => exact IlV.keep h hE
      | 35, h => exact h
      | 36, h => exact h
      | 37, h => exact h
      | 38, h => exact IlV.keep h hE
      | 39, h => exact h
      | 40, h => exact h
      | 41, h => exact h
      | _ + 42, _ => trivial
    · exact fun w w' h h' => h.trans h'
    · -- 0: t36 := load 27 t5
      intro ac wx hE hsz hdf h
      have e5 : ac.tmps[5]? = some (.pointer (some ⟨gn2, 0, none⟩)) := by obtain ⟨v, h1, h2⟩ := h 5 (by decide +kernel); exact h1.trans (h2.symm.trans rfl)
      clear h hsz hdf
      obtain ⟨y0, y1, y2, y3, y4, y5, y6, y7⟩ := lit_cells (HM2.out.keep hE).bl
      go_wp2
      exact ⟨_, rfl, rfl, Ext.refl _⟩
    · -- 1: t37 := call { value (Operand.func 29), args := #[t36, const (Value.string { data := #[] })], argTypes := #[27, 9] }
      intro ac wx hE hsz hdf h
      have e36 : ac.tmps[36]? = some (.agg #[.int .i64 5, .int .i64 0, .bool false, .int .u64 0, .int .u64 0, .int .u64 0, .int .u64 0, .slice (some ⟨ga1, 0, none⟩) 1 1]) := by obtain ⟨v, h1, h2⟩ := h 36 (by decide +kernel); rw [h1]; exact congrArg some h2
      clear h hsz hdf
      go_wp2_with ((go_at_call 29; refine (mnSays (T.node 5 0 false noP [t]) (by have := HSZ.out; simp only [size_node, sizeL]; omega) [] (by simp) _ _ [.int .i64 5, .int .i64 0, .bool false, .int .u64 0, .int .u64 0, .int .u64 0, .int .u64 0, .slice (some ⟨ga1, 0, none⟩) 1 1] (HM2.out.nv.keep hE)).mono ?_; rintro e w9 ⟨rfl, hb9⟩; rw [HSN.out]))
      exact ⟨_, rfl, rfl, hb9⟩
    · -- 2: t38 := move t37
      intro ac wx hE hsz hdf h
      have e37 : ac.tmps[37]? = some (.bool true) := by obtain ⟨v, h1, h2⟩ := h 37 (by decide +kernel); rw [h1]; exact congrArg some h2
      clear h hsz hdf
      go_wp2
      exact ⟨_, rfl, rfl, Ext.refl _⟩
    · -- 3: t39 := load 27 t6 (2, True)
      intro ac wx hE hsz hdf h
      have e6 : ac.tmps[6]? = some (.pointer (some ⟨gn3, 0, none⟩)) := by obtain ⟨v, h1, h2⟩ := h 6 (by decide +kernel); exact h1.trans (h2.symm.trans rfl)
      have e38 : ac.tmps[38]? = some (.bool true) := by obtain ⟨v, h1, h2⟩ := h 38 (by decide +kernel); rw [h1]; exact congrArg some h2
      clear h hsz hdf
      obtain ⟨y0, y1, y2, y3, y4, y5, y6, y7⟩ := lit_cells (HM3.out.keep hE).bl
      go_wp2
      exact ⟨_, rfl, rfl, Ext.refl _⟩
    · -- 4: t40 := call { value (Operand.func 29), args := #[t39, const (Value.string { data := #[] })], argTypes := #[27, 9] } (2, True)
      intro ac wx hE hsz hdf h
      have e39 : ac.tmps[39]? = some (.agg #[.int .i64 6, .int .i64 0, .bool false, .int .u64 0, .int .u64 0, .int .u64 0, .int .u64 0, .slice (some ⟨ga2, 0, none⟩) 1 1]) := by obtain ⟨v, h1, h2⟩ := h 39 (by decide +kernel); rw [h1]; exact congrArg some h2
      have e38 : ac.tmps[38]? = some (.bool true) := by obtain ⟨v, h1, h2⟩ := h 38 (by decide +kernel); rw [h1]; exact congrArg some h2
      clear h hsz hdf
      go_wp2_with ((go_at_call 29; refine (mnSays (T.node 6 0 false noP [t]) (by have := HSZ.out; simp only [size_node, sizeL]; omega) [] (by simp) _ _ [.int .i64 6, .int .i64 0, .bool false, .int .u64 0, .int .u64 0, .int .u64 0, .int .u64 0, .slice (some ⟨ga2, 0, none⟩) 1 1] (HM3.out.nv.keep hE)).mono ?_; rintro e w9 ⟨rfl, hb9⟩; rw [HPN.out]))
      exact ⟨_, rfl, rfl, hb9⟩
    · -- 5: t41 := unOp UnOp.not 4 t40 (2, True)
      intro ac wx hE hsz hdf h
      have e40 : ac.tmps[40]? = some (.bool false) := by obtain ⟨v, h1, h2⟩ := h 40 (by decide +kernel); rw [h1]; exact congrArg some h2
      have e38 : ac.tmps[38]? = some (.bool true) := by obtain ⟨v, h1, h2⟩ := h 38 (by decide +kernel); rw [h1]; exact congrArg some h2
      clear h hsz hdf
      go_wp2
      exact ⟨_, rfl, by simp, Ext.refl _⟩
    · -- 6: t42 := pick t38 t41 (const (Value.bool false))
      intro ac wx hE hsz hdf h
      have e38 : ac.tmps[38]? = some (.bool true) := by obtain ⟨v, h1, h2⟩ := h 38 (by decide +kernel); rw [h1]; exact congrArg some h2
      have e41 : ac.tmps[41]? = some (.bool true) := by obtain ⟨v, h1, h2⟩ := h 41 (by decide +kernel); rw [h1]; exact congrArg some h2
      clear h hsz hdf
      go_wp2
      exact ⟨_, rfl, by simp, Ext.refl _⟩
    · -- 7: t43 := move t42
      intro ac wx hE hsz hdf h
      have e42 : ac.tmps[42]? = some (.bool true) := by obtain ⟨v, h1, h2⟩ := h 42 (by decide +kernel); rw [h1]; exact congrArg some h2
      clear h hsz hdf
      go_wp2
      exact ⟨_, rfl, rfl, Ext.refl _⟩
    · -- 8: t44 := load 27 t6 (7, True)
      intro ac wx hE hsz hdf h
      have e6 : ac.tmps[6]? = some (.pointer (some ⟨gn3, 0, none⟩)) := by obtain ⟨v, h1, h2⟩ := h 6 (by decide +kernel); exact h1.trans (h2.symm.trans rfl)
      have e43 : ac.tmps[43]? = some (.bool true) := by obtain ⟨v, h1, h2⟩ := h 43 (by decide +kernel); rw [h1]; exact congrArg some h2
      clear h hsz hdf
      obtain ⟨y0, y1, y2, y3, y4, y5, y6, y7⟩ := lit_cells (HM3.out.keep hE).bl
      go_wp2
      exact ⟨_, rfl, rfl, Ext.refl _⟩
    · -- 9: t45 := move t1 (7, True)
      intro ac wx hE hsz hdf h
      have e1 : ac.tmps[1]? = some (.string ⟨l.toArray⟩) := by obtain ⟨v, h1, h2⟩ := h 1 (by decide +kernel); exact h1.trans (h2.symm.trans rfl)
      have e43 : ac.tmps[43]? = some (.bool true) := by obtain ⟨v, h1, h2⟩ := h 43 (by decide +kernel); rw [h1]; exact congrArg some h2
      clear h hsz hdf
      go_wp2
      exact ⟨_, rfl, rfl, Ext.refl _⟩
    · -- 10: t46 := call { value (Operand.func 29), args := #[t44, t45], argTypes := #[27, 9] } (7, True)
      intro ac wx hE hsz hdf h
      have e44 : ac.tmps[44]? = some (.agg #[.int .i64 6, .int .i64 0, .bool false, .int .u64 0, .int .u64 0, .int .u64 0, .int .u64 0, .slice (some ⟨ga2, 0, none⟩) 1 1]) := by obtain ⟨v, h1, h2⟩ := h 44 (by decide +kernel); rw [h1]; exact congrArg some h2
      have e45 : ac.tmps[45]? = some (.string ⟨l.toArray⟩) := by obtain ⟨v, h1, h2⟩ := h 45 (by decide +kernel); rw [h1]; exact congrArg some h2
      have e43 : ac.tmps[43]? = some (.bool true) := by obtain ⟨v, h1, h2⟩ := h 43 (by decide +kernel); rw [h1]; exact congrArg some h2
      clear h hsz hdf
      go_wp2_with ((go_at_call 29; refine (mnSays (T.node 6 0 false noP [t]) (by have := HSZ.out; simp only [size_node, sizeL]; omega) l (by have := HN.out; omega) _ _ [.int .i64 6, .int .i64 0, .bool false, .int .u64 0, .int .u64 0, .int .u64 0, .int .u64 0, .slice (some ⟨ga2, 0, none⟩) 1 1] (HM3.out.nv.keep hE)).mono ?_; rintro e w9 ⟨rfl, hb9⟩; rw [HQ.out]))
      exact ⟨_, rfl, rfl, hb9⟩
    · -- 11: t47 := load 27 t7 (7, True)
      intro ac wx hE hsz hdf h
      have e7 : ac.tmps[7]? = some (.pointer (some ⟨gn4, 0, none⟩)) := by obtain ⟨v, h1, h2⟩ := h 7 (by decide +kernel); exact h1.trans (h2.symm.trans rfl)
      have e43 : ac.tmps[43]? = some (.bool true) := by obtain ⟨v, h1, h2⟩ := h 43 (by decide +kernel); rw [h1]; exact congrArg some h2
      clear h hsz hdf
      obtain ⟨y0, y1, y2, y3, y4, y5, y6, y7⟩ := lit_cells (HM4.out.keep hE).bl
      go_wp2
      exact ⟨_, rfl, rfl, Ext.refl _⟩
    · -- 12: t48 := move t1 (7, True)
      intro ac wx hE hsz hdf h
      have e1 : ac.tmps[1]? = some (.string ⟨l.toArray⟩) := by obtain ⟨v, h1, h2⟩ := h 1 (by decide +kernel); exact h1.trans (h2.symm.trans rfl)
      have e43 : ac.tmps[43]? = some (.bool true) := by obtain ⟨v, h1, h2⟩ := h 43 (by decide +kernel); rw [h1]; exact congrArg some h2
      clear h hsz hdf
      go_wp2
      exact ⟨_, rfl, rfl, Ext.refl _⟩
    · -- 13: t49 := call { value (Operand.func 29), args := #[t47, t48], argTypes := #[27, 9] } (7, True)
      intro ac wx hE hsz hdf h
      have e47 : ac.tmps[47]? = some (.agg #[.int .i64 3, .int .i64 0, .bool false, .int .u64 0, .int .u64 0, .int .u64 0, .int .u64 0, .slice (some ⟨ga3, 0, none⟩) 2 2]) := by obtain ⟨v, h1, h2⟩ := h 47 (by decide +kernel); rw [h1]; exact congrArg some h2
      have e48 : ac.tmps[48]? = some (.string ⟨l.toArray⟩) := by obtain ⟨v, h1, h2⟩ := h 48 (by decide +kernel); rw [h1]; exact congrArg some h2
      have e43 : ac.tmps[43]? = some (.bool true) := by obtain ⟨v, h1, h2⟩ := h 43 (by decide +kernel); rw [h1]; exact congrArg some h2
      clear h hsz hdf
      go_wp2_with ((go_at_call 29; refine (mnSays (T.node 3 0 false noP [t, T.node 5 0 false noP [t]]) (by have := HSZ.out; simp only [size_node, sizeL]; omega) l (by have := HN.out; omega) _ _ [.int .i64 3, .int .i64 0, .bool false, .int .u64 0, .int .u64 0, .int .u64 0, .int .u64 0, .slice (some ⟨ga3, 0, none⟩) 2 2] (HM4.out.nv.keep hE)).mono ?_; rintro e w9 ⟨rfl, hb9⟩; rw [HSB.out]))
      exact ⟨_, rfl, rfl, hb9⟩
    · -- 14: t50 := binOp BinOp.eql 4 t46 t49 4 (7, True)
      intro ac wx hE hsz hdf h
      have e46 : ac.tmps[46]? = some (.bool q) := by obtain ⟨v, h1, h2⟩ := h 46 (by decide +kernel); rw [h1]; exact congrArg some h2
      have e49 : ac.tmps[49]? = some (.bool q) := by obtain ⟨v, h1, h2⟩ := h 49 (by decide +kernel); rw [h1]; exact congrArg some h2
      have e43 : ac.tmps[43]? = some (.bool true) := by obtain ⟨v, h1, h2⟩ := h 43 (by decide +kernel); rw [h1]; exact congrArg some h2
      clear h hsz hdf
      go_wp2
      exact ⟨_, rfl, by simp, Ext.refl _⟩
    · -- 15: t51 := pick t43 t50 (const (Value.bool false))
      intro ac wx hE hsz hdf h
      have e43 : ac.tmps[43]? = some (.bool true) := by obtain ⟨v, h1, h2⟩ := h 43 (by decide +kernel); rw [h1]; exact congrArg some h2
      have e50 : ac.tmps[50]? = some (.bool true) := by obtain ⟨v, h1, h2⟩ := h 50 (by decide +kernel); rw [h1]; exact congrArg some h2
      clear h hsz hdf
      go_wp2
      exact ⟨_, rfl, by simp, Ext.refl _⟩
    · -- 16: t52 := move t51
      intro ac wx hE hsz hdf h
      have e51 : ac.tmps[51]? = some (.bool true) := by obtain ⟨v, h1, h2⟩ := h 51 (by decide +kernel); rw [h1]; exact congrArg some h2
      clear h hsz hdf
      go_wp2
      exact ⟨_, rfl, rfl, Ext.refl _⟩
    · -- 17: t53 := load 27 t5 (16, True)
      intro ac wx hE hsz hdf h
      have e5 : ac.tmps[5]? = some (.pointer (some ⟨gn2, 0, none⟩)) := by obtain ⟨v, h1, h2⟩ := h 5 (by decide +kernel); exact h1.trans (h2.symm.trans rfl)
      have e52 : ac.tmps[52]? = some (.bool true) := by obtain ⟨v, h1, h2⟩ := h 52 (by decide +kernel); rw [h1]; exact congrArg some h2
      clear h hsz hdf
      obtain ⟨y0, y1, y2, y3, y4, y5, y6, y7⟩ := lit_cells (HM2.out.keep hE).bl
      go_wp2
      exact ⟨_, rfl, rfl, Ext.refl _⟩
    · -- 18: t54 := move t1 (16, True)
      intro ac wx hE hsz hdf h
      have e1 : ac.tmps[1]? = some (.string ⟨l.toArray⟩) := by obtain ⟨v, h1, h2⟩ := h 1 (by decide +kernel); exact h1.trans (h2.symm.trans rfl)
      have e52 : ac.tmps[52]? = some (.bool true) := by obtain ⟨v, h1, h2⟩ := h 52 (by decide +kernel); rw [h1]; exact congrArg some h2
      clear h hsz hdf
      go_wp2
      exact ⟨_, rfl, rfl, Ext.refl _⟩
    · -- 19: t55 := call { value (Operand.func 29), args := #[t53, t54], argTypes := #[27, 9] } (16, True)
      intro ac wx hE hsz hdf h
      have e53 : ac.tmps[53]? = some (.agg #[.int .i64 5, .int .i64 0, .bool false, .int .u64 0, .int .u64 0, .int .u64 0, .int .u64 0, .slice (some ⟨ga1, 0, none⟩) 1 1]) := by obtain ⟨v, h1, h2⟩ := h 53 (by decide +kernel); rw [h1]; exact congrArg some h2
      have e54 : ac.tmps[54]? = some (.string ⟨l.toArray⟩) := by obtain ⟨v, h1, h2⟩ := h 54 (by decide +kernel); rw [h1]; exact congrArg some h2
      have e52 : ac.tmps[52]? = some (.bool true) := by obtain ⟨v, h1, h2⟩ := h 52 (by decide +kernel); rw [h1]; exact congrArg some h2
      clear h hsz hdf
      go_wp2_with ((go_at_call 29; refine (mnSays (T.node 5 0 false noP [t]) (by have := HSZ.out; simp only [size_node, sizeL]; omega) l (by have := HN.out; omega) _ _ [.int .i64 5, .int .i64 0, .bool false, .int .u64 0, .int .u64 0, .int .u64 0, .int .u64 0, .slice (some ⟨ga1, 0, none⟩) 1 1] (HM2.out.nv.keep hE)).mono ?_; rintro e w9 ⟨rfl, hb9⟩; rw [HSR.out]))
      exact ⟨_, rfl, rfl, hb9⟩
    · -- 20: t56 := move t1 (16, True)
      intro ac wx hE hsz hdf h
      have e1 : ac.tmps[1]? = some (.string ⟨l.toArray⟩) := by obtain ⟨v, h1, h2⟩ := h 1 (by decide +kernel); exact h1.trans (h2.symm.trans rfl)
      have e52 : ac.tmps[52]? = some (.bool true) := by obtain ⟨v, h1, h2⟩ := h 52 (by decide +kernel); rw [h1]; exact congrArg some h2
      clear h hsz hdf
      go_wp2
      exact ⟨_, rfl, rfl, Ext.refl _⟩
    · -- 21: t57 := call { builtin len, args := #[t56], argTypes := #[9] } (16, True)
      intro ac wx hE hsz hdf h
      have e56 : ac.tmps[56]? = some (.string ⟨l.toArray⟩) := by obtain ⟨v, h1, h2⟩ := h 56 (by decide +kernel); rw [h1]; exact congrArg some h2
      have e52 : ac.tmps[52]? = some (.bool true) := by obtain ⟨v, h1, h2⟩ := h 52 (by decide +kernel); rw [h1]; exact congrArg some h2
      clear h hsz hdf
      go_wp2
      exact ⟨_, rfl, rfl, Ext.refl _⟩
    · -- 22: t58 := binOp BinOp.eql 3 t57 (const (0:i64)) 3 (16, True)
      intro ac wx hE hsz hdf h
      have e57 : ac.tmps[57]? = some (.int .i64 (l.length : Nat)) := by obtain ⟨v, h1, h2⟩ := h 57 (by decide +kernel); rw [h1]; exact congrArg some h2
      have e52 : ac.tmps[52]? = some (.bool true) := by obtain ⟨v, h1, h2⟩ := h 52 (by decide +kernel); rw [h1]; exact congrArg some h2
      clear h hsz hdf
      have hl9 := HL0.out
      go_wp2
      exact ⟨_, rfl, by simp, Ext.refl _⟩
    · -- 23: t59 := move t58 (16, True)
      intro ac wx hE hsz hdf h
      have e58 : ac.tmps[58]? = some (.bool true) := by obtain ⟨v, h1, h2⟩ := h 58 (by decide +kernel); rw [h1]; exact congrArg some h2
      have e52 : ac.tmps[52]? = some (.bool true) := by obtain ⟨v, h1, h2⟩ := h 52 (by decide +kernel); rw [h1]; exact congrArg some h2
      clear h hsz hdf
      go_wp2
      exact ⟨_, rfl, rfl, Ext.refl _⟩
    · -- 24: t60 := load 27 t6 (23, False)
      intro ac wx hE hsz hdf h
      have e59 : ac.tmps[59]? = some (.bool true) := by obtain ⟨v, h1, h2⟩ := h 59 (by decide +kernel); rw [h1]; exact congrArg some h2
      clear h hsz hdf
      go_wp2
      exact ⟨_, rfl, rfl, Ext.refl _⟩
    · -- 25: t61 := move t1 (23, False)
      intro ac wx hE hsz hdf h
      have e59 : ac.tmps[59]? = some (.bool true) := by obtain ⟨v, h1, h2⟩ := h 59 (by decide +kernel); rw [h1]; exact congrArg some h2
      clear h hsz hdf
      go_wp2
      exact ⟨_, rfl, rfl, Ext.refl _⟩
    · -- 26: t62 := call { value (Operand.func 29), args := #[t60, t61], argTypes := #[27, 9] } (23, False)
      intro ac wx hE hsz hdf h
      have e59 : ac.tmps[59]? = some (.bool true) := by obtain ⟨v, h1, h2⟩ := h 59 (by decide +kernel); rw [h1]; exact congrArg some h2
      clear h hsz hdf
      go_wp2
      exact ⟨_, rfl, rfl, Ext.refl _⟩
    · -- 27: t63 := pick t59 (const (Value.bool true)) t62 (16, True)
      intro ac wx hE hsz hdf h
      have e59 : ac.tmps[59]? = some (.bool true) := by obtain ⟨v, h1, h2⟩ := h 59 (by decide +kernel); rw [h1]; exact congrArg some h2
      have e62 : ac.tmps[62]? = some (.tuple #[]) := by obtain ⟨v, h1, h2⟩ := h 62 (by decide +kernel); rw [h1]; exact congrArg some h2
      have e52 : ac.tmps[52]? = some (.bool true) := by obtain ⟨v, h1, h2⟩ := h 52 (by decide +kernel); rw [h1]; exact congrArg some h2
      clear h hsz hdf
      go_wp2
      exact ⟨_, rfl, by simp, Ext.refl _⟩
    · -- 28: t64 := binOp BinOp.eql 4 t55 t63 4 (16, True)
      intro ac wx hE hsz hdf h
      have e55 : ac.tmps[55]? = some (.bool true) := by obtain ⟨v, h1, h2⟩ := h 55 (by decide +kernel); rw [h1]; exact congrArg some h2
      have e63 : ac.tmps[63]? = some (.bool true) := by obtain ⟨v, h1, h2⟩ := h 63 (by decide +kernel); rw [h1]; exact congrArg some h2
      have e52 : ac.tmps[52]? = some (.bool true) := by obtain ⟨v, h1, h2⟩ := h 52 (by decide +kernel); rw [h1]; exact congrArg some h2
      clear h hsz hdf
      go_wp2
      exact ⟨_, rfl, by simp, Ext.refl _⟩
    · -- 29: t65 := pick t52 t64 (const (Value.bool false))
      intro ac wx hE hsz hdf h
      have e52 : ac.tmps[52]? = some (.bool true) := by obtain ⟨v, h1, h2⟩ := h 52 (by decide +kernel); rw [h1]; exact congrArg some h2
      have e64 : ac.tmps[64]? = some (.bool true) := by obtain ⟨v, h1, h2⟩ := h 64 (by decide +kernel); rw [h1]; exact congrArg some h2
      clear h hsz hdf
      go_wp2
      exact ⟨_, rfl, by simp, Ext.refl _⟩
    · -- 30: t66 := move t65
      intro ac wx hE hsz hdf h
      have e65 : ac.tmps[65]? = some (.bool true) := by obtain ⟨v, h1, h2⟩ := h 65 (by decide +kernel); rw [h1]; exact congrArg some h2
      clear h hsz hdf
      go_wp2
      exact ⟨_, rfl, rfl, Ext.refl _⟩
    · -- 31: t67 := load 27 t6 (30, True)
      intro ac wx hE hsz hdf h
      have e6 : ac.tmps[6]? = some (.pointer (some ⟨gn3, 0, none⟩)) := by obtain ⟨v, h1, h2⟩ := h 6 (by decide +kernel); exact h1.trans (h2.symm.trans rfl)
      have e66 : ac.tmps[66]? = some (.bool true) := by obtain ⟨v, h1, h2⟩ := h 66 (by decide +kernel); rw [h1]; exact congrArg some h2
      clear h hsz hdf
      obtain ⟨y0, y1, y2, y3, y4, y5, y6, y7⟩ := lit_cells (HM3.out.keep hE).bl
      go_wp2
      exact ⟨_, rfl, rfl, Ext.refl _⟩
    · -- 32: t68 := move t1 (30, True)
      intro ac wx hE hsz hdf h
      have e1 : ac.tmps[1]? = some (.string ⟨l.toArray⟩) := by obtain ⟨v, h1, h2⟩ := h 1 (by decide +kernel); exact h1.trans (h2.symm.trans rfl)
      have e66 : ac.tmps[66]? = some (.bool true) := by obtain ⟨v, h1, h2⟩ := h 66 (by decide +kernel); rw [h1]; exact congrArg some h2
      clear h hsz hdf
      go_wp2
      exact ⟨_, rfl, rfl, Ext.refl _⟩
    · -- 33: t69 := move t8 (30, True)
      intro ac wx hE hsz hdf h
      have e8 : ac.tmps[8]? = some (.int .i64 0) := by obtain ⟨v, h1, h2⟩ := h 8 (by decide +kernel); exact h1.trans (h2.symm.trans rfl)
      have e66 : ac.tmps[66]? = some (.bool true) := by obtain ⟨v, h1, h2⟩ := h 66 (by decide +kernel); rw [h1]; exact congrArg some h2
      clear h hsz hdf
      go_wp2
      exact ⟨_, rfl, rfl, Ext.refl _⟩
    · -- 34: t70 := call { value (Operand.func 28), args := #[t67, t68, t69], argTypes := #[27, 9, 3] } (30, True)
      intro ac wx hE hsz hdf h
      have e67 : ac.tmps[67]? = some (.agg #[.int .i64 6, .int .i64 0, .bool false, .int .u64 0, .int .u64 0, .int .u64 0, .int .u64 0, .slice (some ⟨ga2, 0, none⟩) 1 1]) := by obtain ⟨v, h1, h2⟩ := h 67 (by decide +kernel); rw [h1]; exact congrArg some h2
      have e68 : ac.tmps[68]? = some (.string ⟨l.toArray⟩) := by obtain ⟨v, h1, h2⟩ := h 68 (by decide +kernel); rw [h1]; exact congrArg some h2
      have e69 : ac.tmps[69]? = some (.int .i64 0) := by obtain ⟨v, h1, h2⟩ := h 69 (by decide +kernel); rw [h1]; exact congrArg some h2
      have e66 : ac.tmps[66]? = some (.bool true) := by obtain ⟨v, h1, h2⟩ := h 66 (by decide +kernel); rw [h1]; exact congrArg some h2
      clear h hsz hdf
      go_wp2_with ((go_at_call 28; refine (mnEnds (T.node 6 0 false noP [t]) (by have := HSZ.out; simp only [size_node, sizeL]; omega) l (by have := HN.out; omega) 0 _ _ [.int .i64 6, .int .i64 0, .bool false, .int .u64 0, .int .u64 0, .int .u64 0, .int .u64 0, .slice (some ⟨ga2, 0, none⟩) 1 1] (HM3.out.nv.keep hE)).mono ?_; rintro e w9 ⟨r9, rfl, hp9, hb9⟩; rw [HW.out] at hp9))
      exact ⟨_, rfl, hp9, hb9⟩
    · -- 35: t71 := load 27 t7 (30, True)
      intro ac wx hE hsz hdf h
      have e7 : ac.tmps[7]? = some (.pointer (some ⟨gn4, 0, none⟩)) := by obtain ⟨v, h1, h2⟩ := h 7 (by decide +kernel); exact h1.trans (h2.symm.trans rfl)
      have e66 : ac.tmps[66]? = some (.bool true) := by obtain ⟨v, h1, h2⟩ := h 66 (by decide +kernel); rw [h1]; exact congrArg some h2
      clear h hsz hdf
      obtain ⟨y0, y1, y2, y3, y4, y5, y6, y7⟩ := lit_cells (HM4.out.keep hE).bl
      go_wp2
      exact ⟨_, rfl, rfl, Ext.refl _⟩
    · -- 36: t72 := move t1 (30, True)
      intro ac wx hE hsz hdf h
      have e1 : ac.tmps[1]? = some (.string ⟨l.toArray⟩) := by obtain ⟨v, h1, h2⟩ := h 1 (by decide +kernel); exact h1.trans (h2.symm.trans rfl)
      have e66 : ac.tmps[66]? = some (.bool true) := by obtain ⟨v, h1, h2⟩ := h 66 (by decide +kernel); rw [h1]; exact congrArg some h2
      clear h hsz hdf
      go_wp2
      exact ⟨_, rfl, rfl, Ext.refl _⟩
    · -- 37: t73 := move t8 (30, True)
      intro ac wx hE hsz hdf h
      have e8 : ac.tmps[8]? = some (.int .i64 0) := by obtain ⟨v, h1, h2⟩ := h 8 (by decide +kernel); exact h1.trans (h2.symm.trans rfl)
      have e66 : ac.tmps[66]? = some (.bool true) := by obtain ⟨v, h1, h2⟩ := h 66 (by decide +kernel); rw [h1]; exact congrArg some h2
      clear h hsz hdf
      go_wp2
      exact ⟨_, rfl, rfl, Ext.refl _⟩
    · -- 38: t74 := call { value (Operand.func 28), args := #[t71, t72, t73], argTypes := #[27, 9, 3] } (30, True)
      intro ac wx hE hsz hdf h
      have e71 : ac.tmps[71]? = some (.agg #[.int .i64 3, .int .i64 0, .bool false, .int .u64 0, .int .u64 0, .int .u64 0, .int .u64 0, .slice (some ⟨ga3, 0, none⟩) 2 2]) := by obtain ⟨v, h1, h2⟩ := h 71 (by decide +kernel); rw [h1]; exact congrArg some h2
      have e72 : ac.tmps[72]? = some (.string ⟨l.toArray⟩) := by obtain ⟨v, h1, h2⟩ := h 72 (by decide +kernel); rw [h1]; exact congrArg some h2
      have e73 : ac.tmps[73]? = some (.int .i64 0) := by obtain ⟨v, h1, h2⟩ := h 73 (by decide +kernel); rw [h1]; exact congrArg some h2
      have e66 : ac.tmps[66]? = some (.bool true) := by obtain ⟨v, h1, h2⟩ := h 66 (by decide +kernel); rw [h1]; exact congrArg some h2
      clear h hsz hdf
      go_wp2_with ((go_at_call 28; refine (mnEnds (T.node 3 0 false noP [t, T.node 5 0 false noP [t]]) (by have := HSZ.out; simp only [size_node, sizeL]; omega) l (by have := HN.out; omega) 0 _ _ [.int .i64 3, .int .i64 0, .bool false, .int .u64 0, .int .u64 0, .int .u64 0, .int .u64 0, .slice (some ⟨ga3, 0, none⟩) 2 2] (HM4.out.nv.keep hE)).mono ?_; rintro e w9 ⟨r9, rfl, hp9, hb9⟩; rw [HEB.out, HW.out] at hp9))
      exact ⟨_, rfl, hp9, hb9⟩
    · -- 39: t75 := call { value (Operand.func 31), args := #[t70, t74], argTypes := #[52, 52] } (30, True)
      intro ac wx hE hsz hdf h
      obtain ⟨v70, e70, s70⟩ : ∃ v, ac.tmps[70]? = some v ∧ (IlV wx v W) := h 70 (by decide +kernel)
      obtain ⟨v74, e74, s74⟩ : ∃ v, ac.tmps[74]? = some v ∧ (IlV wx v W) := h 74 (by decide +kernel)
      have e66 : ac.tmps[66]? = some (.bool true) := by obtain ⟨v, h1, h2⟩ := h 66 (by decide +kernel); rw [h1]; exact congrArg some h2
      clear h hsz hdf
      obtain ⟨A7, c7, rfl, -, -, hr7⟩ := s70; obtain ⟨A8, c8, rfl, -, -, hr8⟩ := s74
      go_wp2_with ((go_at_call 31; refine (sameInts W W _ _ _ _ _ _ _ hr7 hr8 (by have := HWL.out; omega) (by have := HWL.out; omega) true (by simp)).mono ?_; rintro e w9 ⟨rfl, hb9⟩))
      exact ⟨_, rfl, rfl, hb9⟩
    · -- 40: t76 := pick t66 t75 (const (Value.bool false))
      intro ac wx hE hsz hdf h
      have e66 : ac.tmps[66]? = some (.bool true) := by obtain ⟨v, h1, h2⟩ := h 66 (by decide +kernel); rw [h1]; exact congrArg some h2
      have e75 : ac.tmps[75]? = some (.bool true) := by obtain ⟨v, h1, h2⟩ := h 75 (by decide +kernel); rw [h1]; exact congrArg some h2
      clear h hsz hdf
      go_wp2
      exact ⟨_, rfl, by simp, Ext.refl _⟩
    · -- 41: t4 := assign t76
      intro ac wx hE hsz hdf h
      have e76 : ac.tmps[76]? = some (.bool true) := by obtain ⟨v, h1, h2⟩ := h 76 (by decide +kernel); rw [h1]; exact congrArg some h2
      clear h hsz hdf
      go_wp2
      exact ⟨_, rfl, rfl, Ext.refl _⟩
    · intro ac w9 hE hsz hdf h hrest
      obtain ⟨v0, s0, g0⟩ := h 0 _ rfl
      have e0 := g0 36 rfl
      obtain rfl : v0 = .agg #[.int .i64 5, .int .i64 0, .bool false, .int .u64 0, .int .u64 0, .int .u64 0, .int .u64 0, .slice (some ⟨ga1, 0, none⟩) 1 1] := s0
      obtain ⟨v1, s1, g1⟩ := h 1 _ rfl
      have e1 := g1 37 rfl
      obtain rfl : v1 = .bool true := s1
      obtain ⟨v2, s2, g2⟩ := h 2 _ rfl
      have e2 := g2 38 rfl
      obtain rfl : v2 = .bool true := s2
      obtain ⟨v3, s3, g3⟩ := h 3 _ rfl
      have e3 := g3 39 rfl
      obtain rfl : v3 = .agg #[.int .i64 6, .int .i64 0, .bool false, .int .u64 0, .int .u64 0, .int .u64 0, .int .u64 0, .slice (some ⟨ga2, 0, none⟩) 1 1] := s3
      obtain ⟨v4, s4, g4⟩ := h 4 _ rfl
      have e4 := g4 40 rfl
      obtain rfl : v4 = .bool false := s4
      obtain ⟨v5, s5, g5⟩ := h 5 _ rfl
      have e5 := g5 41 rfl
      obtain rfl : v5 = .bool true := s5
      obtain ⟨v6, s6, g6⟩ := h 6 _ rfl
      have e6 := g6 42 rfl
      obtain rfl : v6 = .bool true := s6
      obtain ⟨v7, s7, g7⟩ := h 7 _ rfl
      have e7 := g7 43 rfl
      obtain rfl : v7 = .bool true := s7
      obtain ⟨v8, s8, g8⟩ := h 8 _ rfl
      have e8 := g8 44 rfl
      obtain rfl : v8 = .agg #[.int .i64 6, .int .i64 0, .bool false, .int .u64 0, .int .u64 0, .int .u64 0, .int .u64 0, .slice (some ⟨ga2, 0, none⟩) 1 1] := s8
      obtain ⟨v9, s9, g9⟩ := h 9 _ rfl
      have e9 := g9 45 rfl
      obtain rfl : v9 = .string ⟨l.toArray⟩ := s9
      obtain ⟨v10, s10, g10⟩ := h 10 _ rfl
      have e10 := g10 46 rfl
      obtain rfl : v10 = .bool q := s10
      obtain ⟨v11, s11, g11⟩ := h 11 _ rfl
      have e11 := g11 47 rfl
      obtain rfl : v11 = .agg #[.int .i64 3, .int .i64 0, .bool false, .int .u64 0, .int .u64 0, .int .u64 0, .int .u64 0, .slice (some ⟨ga3, 0, none⟩) 2 2] := s11
      obtain ⟨v12, s12, g12⟩ := h 12 _ rfl
      have e12 := g12 48 rfl
      obtain rfl : v12 = .string ⟨l.toArray⟩ := s12
      obtain ⟨v13, s13, g13⟩ := h 13 _ rfl
      have e13 := g13 49 rfl
      obtain rfl : v13 = .bool q := s13
      obtain ⟨v14, s14, g14⟩ := h 14 _ rfl
      have e14 := g14 50 rfl
      obtain rfl : v14 = .bool true := s14
      obtain ⟨v15, s15, g15⟩ := h 15 _ rfl
      have e15 := g15 51 rfl
      obtain rfl : v15 = .bool true := s15
      obtain ⟨v16, s16, g16⟩ := h 16 _ rfl
      have e16 := g16 52 rfl
      obtain rfl : v16 = .bool true := s16
      obtain ⟨v17, s17, g17⟩ := h 17 _ rfl
      have e17 := g17 53 rfl
      obtain rfl : v17 = .agg #[.int .i64 5, .int .i64 0, .bool false, .int .u64 0, .int .u64 0, .int .u64 0, .int .u64 0, .slice (some ⟨ga1, 0, none⟩) 1 1] := s17
      obtain ⟨v18, s18, g18⟩ := h 18 _ rfl
      have e18 := g18 54 rfl
      obtain rfl : v18 = .string ⟨l.toArray⟩ := s18
      obtain ⟨v19, s19, g19⟩ := h 19 _ rfl
      have e19 := g19 55 rfl
      obtain rfl : v19 = .bool true := s19
      obtain ⟨v20, s20, g20⟩ := h 20 _ rfl
      have e20 := g20 56 rfl
      obtain rfl : v20 = .string ⟨l.toArray⟩ := s20
      obtain ⟨v21, s21, g21⟩ := h 21 _ rfl
      have e21 := g21 57 rfl
      obtain rfl : v21 = .int .i64 (l.length : Nat) := s21
      obtain ⟨v22, s22, g22⟩ := h 22 _ rfl
      have e22 := g22 58 rfl
      obtain rfl : v22 = .bool true := s22
      obtain ⟨v23, s23, g23⟩ := h 23 _ rfl
      have e23 := g23 59 rfl
      obtain rfl : v23 = .bool true := s23
      obtain ⟨v24, s24, g24⟩ := h 24 _ rfl
      have e24 := g24 60 rfl
      obtain rfl : v24 = undef := s24
      obtain ⟨v25, s25, g25⟩ := h 25 _ rfl
      have e25 := g25 61 rfl
      obtain rfl : v25 = undef := s25
      obtain ⟨v26, s26, g26⟩ := h 26 _ rfl
      have e26 := g26 62 rfl
      obtain rfl : v26 = undef := s26
      obtain ⟨v27, s27, g27⟩ := h 27 _ rfl
      have e27 := g27 63 rfl
      obtain rfl : v27 = .bool true := s27
      obtain ⟨v28, s28, g28⟩ := h 28 _ rfl
      have e28 := g28 64 rfl
      obtain rfl : v28 = .bool true := s28
      obtain ⟨v29, s29, g29⟩ := h 29 _ rfl
      have e29 := g29 65 rfl
      obtain rfl : v29 = .bool true := s29
      obtain ⟨v30, s30, g30⟩ := h 30 _ rfl
      have e30 := g30 66 rfl
      obtain rfl : v30 = .bool true := s30
      obtain ⟨v31, s31, g31⟩ := h 31 _ rfl
      have e31 := g31 67 rfl
      obtain rfl : v31 = .agg #[.int .i64 6, .int .i64 0, .bool false, .int .u64 0, .int .u64 0, .int .u64 0, .int .u64 0, .slice (some ⟨ga2, 0, none⟩) 1 1] := s31
      obtain ⟨v32, s32, g32⟩ := h 32 _ rfl
      have e32 := g32 68 rfl
      obtain rfl : v32 = .string ⟨l.toArray⟩ := s32
      obtain ⟨v33, s33, g33⟩ := h 33 _ rfl
      have e33 := g33 69 rfl
      obtain rfl : v33 = .int .i64 0 := s33
      obtain ⟨v34, s34, g34⟩ := h 34 _ rfl
      have e34 := g34 70 rfl
      replace s34 : IlV w9 v34 W := s34
      obtain ⟨v35, s35, g35⟩ := h 35 _ rfl
      have e35 := g35 71 rfl
      obtain rfl : v35 = .agg #[.int .i64 3, .int .i64 0, .bool false, .int .u64 0, .int .u64 0, .int .u64 0, .int .u64 0, .slice (some ⟨ga3, 0, none⟩) 2 2] := s35
      obtain ⟨v36, s36, g36⟩ := h 36 _ rfl
      have e36 := g36 72 rfl
      obtain rfl : v36 = .string ⟨l.toArray⟩ := s36
      obtain ⟨v37, s37, g37⟩ := h 37 _ rfl
      have e37 := g37 73 rfl
      obtain rfl : v37 = .int .i64 0 := s37
      obtain ⟨v38, s38, g38⟩ := h 38 _ rfl
      have e38 := g38 74 rfl
      replace s38 : IlV w9 v38 W := s38
      obtain ⟨v39, s39, g39⟩ := h 39 _ rfl
      have e39 := g39 75 rfl
      obtain rfl : v39 = .bool true := s39
      obtain ⟨v40, s40, g40⟩ := h 40 _ rfl
      have e40 := g40 76 rfl
      obtain rfl : v40 = .bool true := s40
      obtain ⟨v41, s41, g41⟩ := h 41 _ rfl
      have e41 := g41 4 rfl
      obtain rfl : v41 = .bool true := s41
      have ha := act_of [(36, .agg #[.int .i64 5, .int .i64 0, .bool false, .int .u64 0, .int .u64 0, .int .u64 0, .int .u64 0, .slice (some ⟨ga1, 0, none⟩) 1 1]), (37, .bool true), (38, .bool true), (39, .agg #[.int .i64 6, .int .i64 0, .bool false, .int .u64 0, .int .u64 0, .int .u64 0, .int .u64 0, .slice (some ⟨ga2, 0, none⟩) 1 1]), (40, .bool false), (41, .bool true), (42, .bool true), (43, .bool true), (44, .agg #[.int .i64 6, .int .i64 0, .bool false, .int .u64 0, .int .u64 0, .int .u64 0, .int .u64 0, .slice (some ⟨ga2, 0, none⟩) 1 1]), (45, .string ⟨l.toArray⟩), (46, .bool q), (47, .agg #[.int .i64 3, .int .i64 0, .bool false, .int .u64 0, .int .u64 0, .int .u64 0, .int .u64 0, .slice (some ⟨ga3, 0, none⟩) 2 2]), (48, .string ⟨l.toArray⟩), (49, .bool q), (50, .bool true), (51, .bool true), (52, .bool true), (53, .agg #[.int .i64 5, .int .i64 0, .bool false, .int .u64 0, .int .u64 0, .int .u64 0, .int .u64 0, .slice (some ⟨ga1, 0, none⟩) 1 1]), (54, .string ⟨l.toArray⟩), (55, .bool true), (56, .string ⟨l.toArray⟩), (57, .int .i64 (l.length : Nat)), (58, .bool true), (59, .bool true), (60, undef), (61, undef), (62, undef), (63, .bool true), (64, .bool true), (65, .bool true), (66, .bool true), (67, .agg #[.int .i64 6, .int .i64 0, .bool false, .int .u64 0, .int .u64 0, .int .u64 0, .int .u64 0, .slice (some ⟨ga2, 0, none⟩) 1 1]), (68, .string ⟨l.toArray⟩), (69, .int .i64 0), (70, v34), (71, .agg #[.int .i64 3, .int .i64 0, .bool false, .int .u64 0, .int .u64 0, .int .u64 0, .int .u64 0, .slice (some ⟨ga3, 0, none⟩) 2 2]), (72, .string ⟨l.toArray⟩), (73, .int .i64 0), (74, v38), (75, .bool true), (76, .bool true), (4, .bool true)] rfl hsz hdf (by intro p hp; simp only [List.mem_cons, List.not_mem_nil, or_false] at hp; rcases hp with rfl | rfl | rfl | rfl | rfl | rfl | rfl | rfl | rfl | rfl | rfl | rfl | rfl | rfl | rfl | rfl | rfl | rfl | rfl | rfl | rfl | rfl | rfl | rfl | rfl | rfl | rfl | rfl | rfl | rfl | rfl | rfl | rfl | rfl | rfl | rfl | rfl | rfl | rfl | rfl | rfl | rfl <;> first | exact e0 | exact e1 | exact e2 | exact e3 | exact e4 | exact e5 | exact e6 | exact e7 | exact e8 | exact e9 | exact e10 | exact e11 | exact e12 | exact e13 | exact e14 | exact e15 | exact e16 | exact e17 | exact e18 | exact e19 | exact e20 | exact e21 | exact e22 | exact e23 | exact e24 | exact e25 | exact e26 | exact e27 | exact e28 | exact e29 | exact e30 | exact e31 | exact e32 | exact e33 | exact e34 | exact e35 | exact e36 | exact e37 | exact e38 | exact e39 | exact e40 | exact e41) hrest
      clear h hrest hsz hdf e0 e1 e2 e3 e4 e5 e6 e7 e8 e9 e10 e11 e12 e13 e14 e15 e16 e17 e18 e19 e20 e21 e22 e23 e24 e25 e26 e27 e28 e29 e30 e31 e32 e33 e34 e35 e36 e37 e38 e39 e40 e41 g0 g1 g2 g3 g4 g5 g6 g7 g8 g9 g10 g11 g12 g13 g14 g15 g16 g17 g18 g19 g20 g21 g22 g23 g24 g25 g26 g27 g28 g29 g30 g31 g32 g33 g34 g35 g36 g37 g38 g39 g40 g41
      subst ha
      simp only [List.foldl_cons, List.foldl_nil, Act.put, List.setIfInBounds_toArray, List.set_cons_succ, List.set_cons_zero]
      have HXX := Lib.hid (Ext.trans HX4.out hE)
      clear s34 s38
      go_wp2
      go_ret
      exact ⟨rfl, HXX.out⟩
end Go.Proofs.YtnkhiohopcadmaaDoor
