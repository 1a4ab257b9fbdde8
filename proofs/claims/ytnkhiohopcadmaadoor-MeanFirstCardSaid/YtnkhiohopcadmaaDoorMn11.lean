/- Which texts every tree says, and where its matches end: walked. -/
import Derived.Test.YtnkhiohopcadmaaDoorMn8
import Derived.Test.YtnkhiohopcadmaaDoorMn10
import Derived.Test.YtnkhiohopcadmaaDoorThB
namespace Go.Proofs.YtnkhiohopcadmaaDoor
open Go Go.RowKit
attribute [local irreducible] wd

noncomputable def wantN (t : T) (l : List UInt8) (a b : Nat) : List Nat := (List.range' a (b - a)).filter fun j => saysB t (seg l a j)
theorem wantN_zero (t : T) (l : List UInt8) (a : Nat) : wantN t l a a = [] := by unfold wantN; simp
theorem wantN_succ (t : T) (l : List UInt8) {a b : Nat} (h : a ≤ b) : wantN t l a (b + 1) = wantN t l a b ++ if saysB t (seg l a b) = true then [b] else [] := by
  unfold wantN
  rw [show b + 1 - a = (b - a) + 1 by omega, List.range'_concat, List.filter_append, show a + 1 * (b - a) = b by omega]
  congr 1
  cases h9 : saysB t (seg l a b) <;> simp [h9]
theorem wantN_len (t : T) (l : List UInt8) (a b : Nat) : (wantN t l a b).length ≤ b := by
  unfold wantN
  have := List.length_filter_le (fun j => saysB t (seg l a j)) (List.range' a (b - a))
  rw [List.length_range'] at this
  omega
theorem wantN_all (t : T) (l : List UInt8) {a : Nat} (h : a ≤ l.length) : wantN t l a (l.length + 1) = endsL t l a := by unfold wantN; rw [ends_filter t l h]

theorem il_rd {w : World} {A : Option Addr} {n c : Nat} {L : List Int} (h : IlV w (.slice A n c) L) : Rd w 1 A n (intsV L) := by
  obtain ⟨A', c', e, _, _, hr⟩ := h
  simp only [Value.slice.injEq] at e
  obtain ⟨rfl, rfl, rfl⟩ := e
  exact hr

set_option maxHeartbeats 16000000 in
set_option maxRecDepth 20000 in
theorem lawSays (E : Nat → Addr) (t : T) (l : List UInt8) (j : Int) (S : Nat → Prop) (v : List Value) (w : World) (h : NodeV S w t v) (hE : Env E w) :
    Calls Tryd.prog 5 #[.agg v.toArray, .string ⟨l.toArray⟩, .int .i64 j] w fun e w' => e = .returned (.bool true) ∧ Ext w w' := by
  obtain ⟨k, m, z, s, A, n, c, rfl⟩ := nodeV_form h
  have hx0 := Lib.hid (Ext.new1 w (.cells (nodeC k m z s A n c).toArray 27))
  have HV := Lib.hid (h.keep hx0.out)
  have HB := Lib.hid (NodeB.new w k m z s A n c)
  have HE := Lib.hid (hE.keep hx0.out)
  clear h hE
  unfold nodeC at hx0 HV HE ⊢
  cases hg : t.great27
  rotate_left
  · have HG := Lib.hid hg
    clear hg
    go_enter Tryd.func5, Tryd.ntmps5
    go_wp2_with (first
      | (have := hx1; go_at_call 27; refine (lawGreat27 t S _ (nodeC k m z s A n c) (HV.out.keep hx1)).mono ?_; rintro e w2 ⟨rfl, hx2⟩; rw [HG.out])
      | (go_at_call 26; refine (alive27 E _ HE.out).mono ?_; rintro e w1 ⟨rfl, hx1⟩; obtain ⟨q0, q1, q2, q3, q4, q5, q6, q7⟩ := (HB.out.keep hx1).cells))
    go_ret
    exact ⟨rfl, Ext.trans hx0.out (Ext.trans hx1 hx2)⟩
  have HG := Lib.hid hg
  have HSZ := Lib.hid (great27_size hg)
  clear hg
  by_cases hl6 : (6 : Int) < (l.length : Int)
  · go_enter Tryd.func5, Tryd.ntmps5
    go_wp2_with (first
      | (have := hx1; go_at_call 27; refine (lawGreat27 t S _ (nodeC k m z s A n c) (HV.out.keep hx1)).mono ?_; rintro e w2 ⟨rfl, hx2⟩; rw [HG.out])
      | (go_at_call 26; refine (alive27 E _ HE.out).mono ?_; rintro e w1 ⟨rfl, hx1⟩; obtain ⟨q0, q1, q2, q3, q4, q5, q6, q7⟩ := (HB.out.keep hx1).cells))
    go_ret
    exact ⟨rfl, Ext.trans hx0.out (Ext.trans hx1 hx2)⟩
  have HN := Lib.hid (show l.length ≤ 6 by omega)
  go_enter Tryd.func5, Tryd.ntmps5
  go_upto_region 5 with (first
    | (have := hx1; go_at_call 27; refine (lawGreat27 t S _ (nodeC k m z s A n c) (HV.out.keep hx1)).mono ?_; rintro e w2 ⟨rfl, hx2⟩; rw [HG.out])
    | (go_at_call 26; refine (alive27 E _ HE.out).mono ?_; rintro e w1 ⟨rfl, hx1⟩; obtain ⟨q0, q1, q2, q3, q4, q5, q6, q7⟩ := (HB.out.keep hx1).cells))
  have hxw := Ext.trans hx1 hx2
  have HV1 := Lib.hid (HV.out.keep hxw)
  have HB1 := Lib.hid (HB.out.keep hxw)
  have HX1 := Lib.hid (Ext.trans hx0.out hxw)
  clear hx1 hx2 hxw HV HB HE hx0 HG q0 q1 q2 q3 q4 q5 q6 q7
  generalize w.heap.size = gA at *
  obtain ⟨q0, q1, q2, q3, q4, q5, q6, q7⟩ := HB1.out.cells
  go_upto_region 6 with (first
    | (refine store_dn_new rfl (.tmp 7) (.tmp 21) rfl rfl rfl zsize40 ?_)
    | (go_at_call 11; refine (lawOf _ t (Nat.le_refl _) (by have := HSZ.out; omega) _ _ (nodeC k m z s A n c) HV1.out).mono ?_; rintro e w3 ⟨l3, rfl, hd, hx3⟩; obtain ⟨kx, mx, zx, px, Bx, nx, cx, rfl⟩ := dnodeV_form hd; have HD := Lib.hid hd; clear hd))
  have hxn := Ext.new1 w3 (.cells (dnC kx mx zx px Bx nx cx).toArray 34)
  have HVD := Lib.hid (DNodeV.mono (S' := fun _ => True) (HD.out.keep hxn) (fun _ _ _ => trivial))
  have HBD := Lib.hid (DB.new w3 kx mx zx px Bx nx cx)
  have HV4 := Lib.hid (HV1.out.keep (Ext.trans hx3 hxn))
  have HB4 := Lib.hid (HB1.out.keep (Ext.trans hx3 hxn))
  have HX4 := Lib.hid (Ext.trans HX1.out (Ext.trans hx3 hxn))
  clear hx3 hxn HD HV1 HB1 HX1 q0 q1 q2 q3 q4 q5 q6 q7
  generalize w3.alloc (.cells (dnC kx mx zx px Bx nx cx).toArray 34) = w4 at *
  generalize w3.heap.size = gN at *
  have HLE := Lib.hid (endsA_le t l j)
  have HSA := Lib.hid (show saysA t l = ((t.right 1 0).1 && saysB t l) from rfl)
  obtain ⟨q0, q1, q2, q3, q4, q5, q6, q7⟩ := HB4.out.cells
  cases hr : (t.right 1 0).1
  · have HRT := Lib.hid hr
    have HSAR := Lib.hid (show saysA t l = false by rw [HSA.out, hr, Bool.false_and])
    have HEN := Lib.hid (show natsI (endsA t l j) = [] by
      have : endsA t l j = [] := by
        unfold endsA endsR
        rw [hr]
        split <;> simp
      rw [this]; rfl)
    clear hr HSA
    go_wp2_with (first
      | (have := hx6; go_at_call 29; refine (mnSays t (by have := HSZ.out; omega) l (by have := HN.out; omega) S _ (nodeC k m z s A n c) (HV4.out.keep (Ext.trans hx5 hx6))).mono ?_; rintro e w7 ⟨rfl, hx7⟩; rw [HSAR.out])
      | (have := hx5; go_at_call 12; refine (refRightD t (by have := HSZ.out; omega) _ _ (dnC kx mx zx px Bx nx cx) (HVD.out.keep hx5)).mono ?_; rintro e w6 ⟨rfl, hx6⟩; rw [HRT.out]; obtain ⟨q0, q1, q2, q3, q4, q5, q6, q7⟩ := (HB4.out.keep (Ext.trans hx5 hx6)).cells)
      | (refine load_dn rfl (.tmp 7) rfl (g := gN) rfl (HBD.out.keep hx5) ?_)
      | (go_at_call 28; refine (mnEnds t (by have := HSZ.out; omega) l (by have := HN.out; omega) j S _ (nodeC k m z s A n c) HV4.out).mono ?_; rintro e w5 ⟨r5, rfl, hr5, hx5⟩; rw [HEN.out] at hr5; obtain ⟨A5, c5, rfl, hc5, hm5, hR5⟩ := hr5))
    go_ret
    exact ⟨rfl, Ext.trans HX4.out (Ext.trans hx5 (Ext.trans hx6 hx7))⟩
  have HRT := Lib.hid hr
  have HGD := Lib.hid (right_good t 1 0 hr)
  have HSAR := Lib.hid (show saysA t l = decB (Lang t l) by rw [HSA.out, hr, Bool.true_and]; rfl)
  clear hr HSA
  obtain ⟨W, hW⟩ : ∃ W, endsA t l j = W := ⟨_, rfl⟩
  have HW := Lib.hid hW
  rw [hW] at HLE
  clear hW
  obtain ⟨q, hq⟩ : ∃ q, decB (Lang t l) = q := ⟨_, rfl⟩
  have HQ := Lib.hid hq
  rw [hq] at HSAR
  clear hq
  go_upto_region 9 with (first
    | (have := hx5; go_at_call 12; refine (refRightD t (by have := HSZ.out; omega) _ _ (dnC kx mx zx px Bx nx cx) (HVD.out.keep hx5)).mono ?_; rintro e w6 ⟨rfl, hx6⟩; rw [HRT.out]; obtain ⟨q0, q1, q2, q3, q4, q5, q6, q7⟩ := (HB4.out.keep (Ext.trans hx5 hx6)).cells)
    | (refine load_dn rfl (.tmp 7) rfl (g := gN) rfl (HBD.out.keep hx5) ?_)
    | (go_at_call 28; refine (mnEnds t (by have := HSZ.out; omega) l (by have := HN.out; omega) j S _ (nodeC k m z s A n c) HV4.out).mono ?_; rintro e w5 ⟨r5, rfl, hr5, hx5⟩; rw [HW.out] at hr5; obtain ⟨A5, c5, rfl, hc5, hm5, hR5⟩ := hr5))
  have hx := Ext.trans hx5 hx6
  have HL := Lib.hid (show IlV _ (.slice A5 (natsI W).length c5) (natsI W) from ⟨A5, c5, rfl, hc5, hm5, hR5.keep hx6⟩)
  have HVD9 := Lib.hid (HVD.out.keep hx)
  have HBD9 := Lib.hid (HBD.out.keep hx)
  have HV9 := Lib.hid (HV4.out.keep hx)
  have HB9 := Lib.hid (HB4.out.keep hx)
  have HX9 := Lib.hid (Ext.trans HX4.out hx)
  clear hx hx5 hx6 hc5 hm5 hR5 HVD HBD HV4 HB4 HX4 q0 q1 q2 q3 q4 q5 q6 q7
  have hnl : (natsI W).length ≤ 7 := by have := HLE.out; have := HN.out; unfold natsI; rw [List.length_map]; omega
  have HNL := Lib.hid hnl
  clear hnl
  generalize w6 = wb at *
  generalize hnn : (natsI W).length = nw at HL HNL ⊢
  have HNN := Lib.hid hnn
  clear hnn
  have hown0 := Lib.hid (own_empty wb 3 1)
  have hxb := Lib.hid (Ext.new1 wb (.cells #[] 3))
  by_cases h0 : j < 0
  · have HWN := Lib.hid (show natsI W = [] by rw [← HW.out]; unfold endsA; rw [if_pos (.inl h0)]; rfl)
    have HNW := Lib.hid (show (0 : Nat) ≤ 7 by omega)
    have hnn0 : ¬ (0 : Int) ≤ j := by omega
    go_upto_region 11 with fail
    generalize wb.heap.size = gv at *
    go_loopg [9, 10] 0 (fun gg uv iv wr => gg = 0 ∧ uv = .slice (some ⟨gv, 0, none⟩) 0 0 ∧ (∃ x : Int, iv = .int .i64 x) ∧ Ext wb wr)
    case atStart => exact ⟨rfl, rfl, ⟨_, rfl⟩, hxb.out⟩
    case round =>
      obtain ⟨rfl, rfl, ⟨x, rfl⟩, hx⟩ := hrel
      have HXA := Lib.hid hx
      clear hx
      go_upto_region 15 with fail
      have HB15 := Lib.hid (HB9.out.keep HXA.out)
      have HV15 := Lib.hid (HV9.out.keep HXA.out)
      have HBD15 := Lib.hid (HBD9.out.keep HXA.out)
      have HVD15 := Lib.hid (HVD9.out.keep HXA.out)
      have HL15 := Lib.hid (il_rd (HL.out.keep HXA.out))
      have HX15 := Lib.hid (Ext.trans HX9.out HXA.out)
      have HW15 := Lib.hid (show Rd wr 1 (some ⟨gv, 0, none⟩) 0 (intsV (natsI W)) by rw [HWN.out]; exact Rd.nil)
      generalize wr = wv at *
      refine wp_region_dag (E := Ext) (w0 := wv) (Φ := fun i v w => match i with | 0 => (v = .slice A5 nw c5) | 1 => (v = .slice (some ⟨gv, 0, none⟩) 0 0) | 2 => (v = .bool true) | 3 => (v = .bool true) | 4 => (v = .agg #[.int .i64 k, .int .i64 m, .bool z, .int .u64 (wd s 0 : Nat), .int .u64 (wd s 1 : Nat), .int .u64 (wd s 2 : Nat), .int .u64 (wd s 3 : Nat), .slice A n c]) | 5 => (v = .string ⟨l.toArray⟩) | 6 => (v = .bool q) | 7 => (v = .agg (dnC kx mx zx px Bx nx cx).toArray) | 8 => (v = .string ⟨l.toArray⟩) | 9 => (v = .bool q) | 10 => (v = .bool true) | 11 => (v = .bool true) | 12 => (v = .bool true) | _ => True) (show Tryd.prog.follows .mixedOrders = true from Checked.mixed Tryd.checked) 79 rfl (by decide +kernel) ?_ ((Below.refl _ _).drew) ?_ ⟨?_, ?_, ?_, ?_, ?_, ?_, ?_, ?_, ?_, ?_, ?_, ?_, ?_, trivial⟩ ?_
      · intro i v w w' h hE
        match i, h with
        | 0, h => exact h
        | 1, h => exact h
        | 2, h => exact h
        | 3, h => exact h
        | 4, h => exact h
        | 5, h => exact h
        | 6, h => exact h
        | 7, h => exact h
        | 8, h => exact h
        | 9, h => exact h
        | 10, h => exact h
        | 11, h => exact h
        | 12, h => exact h
        | _ + 13, _ => trivial
      · exact fun w w' h h' => h.trans h'
      · -- 0: t67 := move t8
        intro ac wx hE hsz hdf h
        have e8 : ac.tmps[8]? = some (.slice A5 nw c5) := by obtain ⟨v, h1, h2⟩ := h 8 (by decide +kernel); exact h1.trans (h2.symm.trans rfl)
        clear h hsz hdf
        go_wp2
        exact ⟨_, rfl, rfl, Ext.refl _⟩
      · -- 1: t68 := move t9
        intro ac wx hE hsz hdf h
        have e9 : ac.tmps[9]? = some (.slice (some ⟨gv, 0, none⟩) 0 0) := by obtain ⟨v, h1, h2⟩ := h 9 (by decide +kernel); exact h1.trans (h2.symm.trans rfl)
        clear h hsz hdf
        go_wp2
        exact ⟨_, rfl, rfl, Ext.refl _⟩
      · -- 2: t69 := call { value (Operand.func 31), args := #[t67, t68], argTypes := #[52, 52] }
        intro ac wx hE hsz hdf h
        have e67 : ac.tmps[67]? = some (.slice A5 nw c5) := by obtain ⟨v, h1, h2⟩ := h 67 (by decide +kernel); rw [h1]; exact congrArg some h2
        have e68 : ac.tmps[68]? = some (.slice (some ⟨gv, 0, none⟩) 0 0) := by obtain ⟨v, h1, h2⟩ := h 68 (by decide +kernel); rw [h1]; exact congrArg some h2
        clear h hsz hdf
        go_wp2_with ((go_at_call 31; refine (sameInts (natsI W) (natsI W) _ _ _ _ _ _ _ (HL15.out.keep hE) (HW15.out.keep hE) (by have := HNL.out; omega) (by have := HNW.out; omega) true (by simp)).mono ?_; rintro e w9 ⟨rfl, hb9⟩))
        exact ⟨_, rfl, rfl, hb9⟩
      · -- 3: t70 := move t69
        intro ac wx hE hsz hdf h
        have e69 : ac.tmps[69]? = some (.bool true) := by obtain ⟨v, h1, h2⟩ := h 69 (by decide +kernel); rw [h1]; exact congrArg some h2
        clear h hsz hdf
        go_wp2
        exact ⟨_, rfl, rfl, Ext.refl _⟩
      · -- 4: t71 := load 27 t3 (3, True)
        intro ac wx hE hsz hdf h
        have e3 : ac.tmps[3]? = some (.pointer (some ⟨gA, 0, none⟩)) := by obtain ⟨v, h1, h2⟩ := h 3 (by decide +kernel); exact h1.trans (h2.symm.trans rfl)
        have e70 : ac.tmps[70]? = some (.bool true) := by obtain ⟨v, h1, h2⟩ := h 70 (by decide +kernel); rw [h1]; exact congrArg some h2
        clear h hsz hdf
        obtain ⟨y0, y1, y2, y3, y4, y5, y6, y7⟩ := (HB15.out.keep hE).cells
        go_wp2
        exact ⟨_, rfl, rfl, Ext.refl _⟩
      · -- 5: t72 := move t1 (3, True)
        intro ac wx hE hsz hdf h
        have e1 : ac.tmps[1]? = some (.string ⟨l.toArray⟩) := by obtain ⟨v, h1, h2⟩ := h 1 (by decide +kernel); exact h1.trans (h2.symm.trans rfl)
        have e70 : ac.tmps[70]? = some (.bool true) := by obtain ⟨v, h1, h2⟩ := h 70 (by decide +kernel); rw [h1]; exact congrArg some h2
        clear h hsz hdf
        go_wp2
        exact ⟨_, rfl, rfl, Ext.refl _⟩
      · -- 6: t73 := call { value (Operand.func 29), args := #[t71, t72], argTypes := #[27, 9] } (3, True)
        intro ac wx hE hsz hdf h
        have e71 : ac.tmps[71]? = some (.agg #[.int .i64 k, .int .i64 m, .bool z, .int .u64 (wd s 0 : Nat), .int .u64 (wd s 1 : Nat), .int .u64 (wd s 2 : Nat), .int .u64 (wd s 3 : Nat), .slice A n c]) := by obtain ⟨v, h1, h2⟩ := h 71 (by decide +kernel); rw [h1]; exact congrArg some h2
        have e72 : ac.tmps[72]? = some (.string ⟨l.toArray⟩) := by obtain ⟨v, h1, h2⟩ := h 72 (by decide +kernel); rw [h1]; exact congrArg some h2
        have e70 : ac.tmps[70]? = some (.bool true) := by obtain ⟨v, h1, h2⟩ := h 70 (by decide +kernel); rw [h1]; exact congrArg some h2
        clear h hsz hdf
        go_wp2_with ((go_at_call 29; refine (mnSays t (by have := HSZ.out; omega) l (by have := HN.out; omega) S _ (nodeC k m z s A n c) (HV15.out.keep hE)).mono ?_; rintro e w9 ⟨rfl, hb9⟩; rw [HSAR.out]))
        exact ⟨_, rfl, rfl, hb9⟩
      · -- 7: t74 := load 34 t7 (3, True)
        intro ac wx hE hsz hdf h
        have eg : ac.tmps[70]? = some (.bool true) := by obtain ⟨v, h1, h2⟩ := h 70 (by decide +kernel); rw [h1]; exact congrArg some h2
        have es : ac.tmps[7]? = some (.pointer (some ⟨gN, 0, none⟩)) := by obtain ⟨v, h1, h2⟩ := h 7 (by decide +kernel); exact h1.trans (h2.symm.trans rfl)
        clear h hsz hdf
        refine load_dnH (j := 3) (b0 := true) (d := 70) rfl rfl eg (.tmp 7) rfl (g := gN) ?_ (HBD15.out.keep hE) ?_
        · simp [Act.eval, es]
        · exact ⟨_, rfl, rfl, Ext.refl _⟩
      · -- 8: t75 := move t1 (3, True)
        intro ac wx hE hsz hdf h
        have e1 : ac.tmps[1]? = some (.string ⟨l.toArray⟩) := by obtain ⟨v, h1, h2⟩ := h 1 (by decide +kernel); exact h1.trans (h2.symm.trans rfl)
        have e70 : ac.tmps[70]? = some (.bool true) := by obtain ⟨v, h1, h2⟩ := h 70 (by decide +kernel); rw [h1]; exact congrArg some h2
        clear h hsz hdf
        go_wp2
        exact ⟨_, rfl, rfl, Ext.refl _⟩
      · -- 9: t76 := call { value (Operand.func 30), args := #[t74, t75], argTypes := #[34, 9] } (3, True)
        intro ac wx hE hsz hdf h
        have e74 : ac.tmps[74]? = some (.agg (dnC kx mx zx px Bx nx cx).toArray) := by obtain ⟨v, h1, h2⟩ := h 74 (by decide +kernel); rw [h1]; exact congrArg some h2
        have e75 : ac.tmps[75]? = some (.string ⟨l.toArray⟩) := by obtain ⟨v, h1, h2⟩ := h 75 (by decide +kernel); rw [h1]; exact congrArg some h2
        have e70 : ac.tmps[70]? = some (.bool true) := by obtain ⟨v, h1, h2⟩ := h 70 (by decide +kernel); rw [h1]; exact congrArg some h2
        clear h hsz hdf
        go_wp2_with ((go_at_call 30; refine (refSays t HGD.out l (by have := HN.out; omega) _ _ (dnC kx mx zx px Bx nx cx) (HVD15.out.keep hE)).mono ?_; rintro e w9 ⟨rfl, hb9⟩; rw [HQ.out]))
        exact ⟨_, rfl, rfl, hb9⟩
      · -- 10: t77 := binOp BinOp.eql 4 t73 t76 4 (3, True)
        intro ac wx hE hsz hdf h
        have e73 : ac.tmps[73]? = some (.bool q) := by obtain ⟨v, h1, h2⟩ := h 73 (by decide +kernel); rw [h1]; exact congrArg some h2
        have e76 : ac.tmps[76]? = some (.bool q) := by obtain ⟨v, h1, h2⟩ := h 76 (by decide +kernel); rw [h1]; exact congrArg some h2
        have e70 : ac.tmps[70]? = some (.bool true) := by obtain ⟨v, h1, h2⟩ := h 70 (by decide +kernel); rw [h1]; exact congrArg some h2
        clear h hsz hdf
        go_wp2
        exact ⟨_, rfl, by simp, Ext.refl _⟩
      · -- 11: t78 := pick t70 t77 (const (Value.bool false))
        intro ac wx hE hsz hdf h
        have e70 : ac.tmps[70]? = some (.bool true) := by obtain ⟨v, h1, h2⟩ := h 70 (by decide +kernel); rw [h1]; exact congrArg some h2
        have e77 : ac.tmps[77]? = some (.bool true) := by obtain ⟨v, h1, h2⟩ := h 77 (by decide +kernel); rw [h1]; exact congrArg some h2
        clear h hsz hdf
        go_wp2
        exact ⟨_, rfl, by simp, Ext.refl _⟩
      · -- 12: t6 := assign t78
        intro ac wx hE hsz hdf h
        have e78 : ac.tmps[78]? = some (.bool true) := by obtain ⟨v, h1, h2⟩ := h 78 (by decide +kernel); rw [h1]; exact congrArg some h2
        clear h hsz hdf
        go_wp2
        exact ⟨_, rfl, rfl, Ext.refl _⟩
      · intro ac w9 hE hsz hdf h hrest
        obtain ⟨v0, s0, g0⟩ := h 0 _ rfl
        have e0 := g0 67 rfl
        obtain rfl : v0 = .slice A5 nw c5 := s0
        obtain ⟨v1, s1, g1⟩ := h 1 _ rfl
        have e1 := g1 68 rfl
        obtain rfl : v1 = .slice (some ⟨gv, 0, none⟩) 0 0 := s1
        obtain ⟨v2, s2, g2⟩ := h 2 _ rfl
        have e2 := g2 69 rfl
        obtain rfl : v2 = .bool true := s2
        obtain ⟨v3, s3, g3⟩ := h 3 _ rfl
        have e3 := g3 70 rfl
        obtain rfl : v3 = .bool true := s3
        obtain ⟨v4, s4, g4⟩ := h 4 _ rfl
        have e4 := g4 71 rfl
        obtain rfl : v4 = .agg #[.int .i64 k, .int .i64 m, .bool z, .int .u64 (wd s 0 : Nat), .int .u64 (wd s 1 : Nat), .int .u64 (wd s 2 : Nat), .int .u64 (wd s 3 : Nat), .slice A n c] := s4
        obtain ⟨v5, s5, g5⟩ := h 5 _ rfl
        have e5 := g5 72 rfl
        obtain rfl : v5 = .string ⟨l.toArray⟩ := s5
        obtain ⟨v6, s6, g6⟩ := h 6 _ rfl
        have e6 := g6 73 rfl
        obtain rfl : v6 = .bool q := s6
        obtain ⟨v7, s7, g7⟩ := h 7 _ rfl
        have e7 := g7 74 rfl
        obtain rfl : v7 = .agg (dnC kx mx zx px Bx nx cx).toArray := s7
        obtain ⟨v8, s8, g8⟩ := h 8 _ rfl
        have e8 := g8 75 rfl
        obtain rfl : v8 = .string ⟨l.toArray⟩ := s8
        obtain ⟨v9, s9, g9⟩ := h 9 _ rfl
        have e9 := g9 76 rfl
        obtain rfl : v9 = .bool q := s9
        obtain ⟨v10, s10, g10⟩ := h 10 _ rfl
        have e10 := g10 77 rfl
        obtain rfl : v10 = .bool true := s10
        obtain ⟨v11, s11, g11⟩ := h 11 _ rfl
        have e11 := g11 78 rfl
        obtain rfl : v11 = .bool true := s11
        obtain ⟨v12, s12, g12⟩ := h 12 _ rfl
        have e12 := g12 6 rfl
        obtain rfl : v12 = .bool true := s12
        have ha := act_of [(67, .slice A5 nw c5), (68, .slice (some ⟨gv, 0, none⟩) 0 0), (69, .bool true), (70, .bool true), (71, .agg #[.int .i64 k, .int .i64 m, .bool z, .int .u64 (wd s 0 : Nat), .int .u64 (wd s 1 : Nat), .int .u64 (wd s 2 : Nat), .int .u64 (wd s 3 : Nat), .slice A n c]), (72, .string ⟨l.toArray⟩), (73, .bool q), (74, .agg (dnC kx mx zx px Bx nx cx).toArray), (75, .string ⟨l.toArray⟩), (76, .bool q), (77, .bool true), (78, .bool true), (6, .bool true)] rfl hsz hdf (by intro p hp; simp only [List.mem_cons, List.not_mem_nil, or_false] at hp; rcases hp with rfl | rfl | rfl | rfl | rfl | rfl | rfl | rfl | rfl | rfl | rfl | rfl | rfl <;> first | exact e0 | exact e1 | exact e2 | exact e3 | exact e4 | exact e5 | exact e6 | exact e7 | exact e8 | exact e9 | exact e10 | exact e11 | exact e12) hrest
        clear h hrest hsz hdf e0 e1 e2 e3 e4 e5 e6 e7 e8 e9 e10 e11 e12 g0 g1 g2 g3 g4 g5 g6 g7 g8 g9 g10 g11 g12
        subst ha
        simp only [List.foldl_cons, List.foldl_nil, Act.put, List.setIfInBounds_toArray, List.set_cons_succ, List.set_cons_zero]
        have HXX := Lib.hid (Ext.trans HX15.out hE)
        go_wp2
        go_ret
        exact ⟨rfl, HXX.out⟩
  by_cases h1 : (l.length : Int) < j
  · have HWN := Lib.hid (show natsI W = [] by rw [← HW.out]; unfold endsA; rw [if_pos (.inr h1)]; rfl)
    have HNW := Lib.hid (show (0 : Nat) ≤ 7 by omega)
    have hnn0 : ¬ j < 0 := h0
    have hnn1 : (0 : Int) ≤ j := by omega
    have hnn2 : ¬ j ≤ (l.length : Int) := by omega
    go_upto_region 11 with fail
    generalize wb.heap.size = gv at *
    go_loopg [9, 10] 0 (fun gg uv iv wr => gg = 0 ∧ uv = .slice (some ⟨gv, 0, none⟩) 0 0 ∧ (∃ x : Int, iv = .int .i64 x) ∧ Ext wb wr)
    case atStart => exact ⟨rfl, rfl, ⟨_, rfl⟩, hxb.out⟩
    case round =>
      obtain ⟨rfl, rfl, ⟨x, rfl⟩, hx⟩ := hrel
      have HXA := Lib.hid hx
      clear hx
      go_upto_region 15 with fail
      have HB15 := Lib.hid (HB9.out.keep HXA.out)
      have HV15 := Lib.hid (HV9.out.keep HXA.out)
      have HBD15 := Lib.hid (HBD9.out.keep HXA.out)
      have HVD15 := Lib.hid (HVD9.out.keep HXA.out)
      have HL15 := Lib.hid (il_rd (HL.out.keep HXA.out))
      have HX15 := Lib.hid (Ext.trans HX9.out HXA.out)
      have HW15 := Lib.hid (show Rd wr 1 (some ⟨gv, 0, none⟩) 0 (intsV (natsI W)) by rw [HWN.out]; exact Rd.nil)
      generalize wr = wv at *
      refine wp_region_dag (E := Ext) (w0 := wv) (Φ := fun i v w => match i with | 0 => (v = .slice A5 nw c5) | 1 => (v = .slice (some ⟨gv, 0, none⟩) 0 0) | 2 => (v = .bool true) | 3 => (v = .bool true) | 4 => (v = .agg #[.int .i64 k, .int .i64 m, .bool z, .int .u64 (wd s 0 : Nat), .int .u64 (wd s 1 : Nat), .int .u64 (wd s 2 : Nat), .int .u64 (wd s 3 : Nat), .slice A n c]) | 5 => (v = .string ⟨l.toArray⟩) | 6 => (v = .bool q) | 7 => (v = .agg (dnC kx mx zx px Bx nx cx).toArray) | 8 => (v = .string ⟨l.toArray⟩) | 9 => (v = .bool q) | 10 => (v = .bool true) | 11 => (v = .bool true) | 12 => (v = .bool true) | _ => True) (show Tryd.prog.follows .mixedOrders = true from Checked.mixed Tryd.checked) 79 rfl (by decide +kernel) ?_ ((Below.refl _ _).drew) ?_ ⟨?_, ?_, ?_, ?_, ?_, ?_, ?_, ?_, ?_, ?_, ?_, ?_, ?_, trivial⟩ ?_
      · intro i v w w' h hE
        match i, h with
        | 0, h => exact h
        | 1, h => exact h
        | 2, h => exact h
        | 3, h => exact h
        | 4, h => exact h
        | 5, h => exact h
        | 6, h => exact h
        | 7, h => exact h
        | 8, h => exact h
        | 9, h => exact h
        | 10, h => exact h
        | 11, h => exact h
        | 12, h => exact h
        | _ + 13, _ => trivial
      · exact fun w w' h h' => h.trans h'
      · -- 0: t67 := move t8
        intro ac wx hE hsz hdf h
        have e8 : ac.tmps[8]? = some (.slice A5 nw c5) := by obtain ⟨v, h1, h2⟩ := h 8 (by decide +kernel); exact h1.trans (h2.symm.trans rfl)
        clear h hsz hdf
        go_wp2
        exact ⟨_, rfl, rfl, Ext.refl _⟩
      · -- 1: t68 := move t9
        intro ac wx hE hsz hdf h
        have e9 : ac.tmps[9]? = some (.slice (some ⟨gv, 0, none⟩) 0 0) := by obtain ⟨v, h1, h2⟩ := h 9 (by decide +kernel); exact h1.trans (h2.symm.trans rfl)
        clear h hsz hdf
        go_wp2
        exact ⟨_, rfl, rfl, Ext.refl _⟩
      · -- 2: t69 := call { value (Operand.func 31), args := #[t67, t68], argTypes := #[52, 52] }
        intro ac wx hE hsz hdf h
        have e67 : ac.tmps[67]? = some (.slice A5 nw c5) := by obtain ⟨v, h1, h2⟩ := h 67 (by decide +kernel); rw [h1]; exact congrArg some h2
        have e68 : ac.tmps[68]? = some (.slice (some ⟨gv, 0, none⟩) 0 0) := by obtain ⟨v, h1, h2⟩ := h 68 (by decide +kernel); rw [h1]; exact congrArg some h2
        clear h hsz hdf
        go_wp2_with ((go_at_call 31; refine (sameInts (natsI W) (natsI W) _ _ _ _ _ _ _ (HL15.out.keep hE) (HW15.out.keep hE) (by have := HNL.out; omega) (by have := HNW.out; omega) true (by simp)).mono ?_; rintro e w9 ⟨rfl, hb9⟩))
        exact ⟨_, rfl, rfl, hb9⟩
      · -- 3: t70 := move t69
        intro ac wx hE hsz hdf h
        have e69 : ac.tmps[69]? = some (.bool true) := by obtain ⟨v, h1, h2⟩ := h 69 (by decide +kernel); rw [h1]; exact congrArg some h2
        clear h hsz hdf
        go_wp2
        exact ⟨_, rfl, rfl, Ext.refl _⟩
      · -- 4: t71 := load 27 t3 (3, True)
        intro ac wx hE hsz hdf h
        have e3 : ac.tmps[3]? = some (.pointer (some ⟨gA, 0, none⟩)) := by obtain ⟨v, h1, h2⟩ := h 3 (by decide +kernel); exact h1.trans (h2.symm.trans rfl)
        have e70 : ac.tmps[70]? = some (.bool true) := by obtain ⟨v, h1, h2⟩ := h 70 (by decide +kernel); rw [h1]; exact congrArg some h2
        clear h hsz hdf
        obtain ⟨y0, y1, y2, y3, y4, y5, y6, y7⟩ := (HB15.out.keep hE).cells
        go_wp2
        exact ⟨_, rfl, rfl, Ext.refl _⟩
      · -- 5: t72 := move t1 (3, True)
        intro ac wx hE hsz hdf h
        have e1 : ac.tmps[1]? = some (.string ⟨l.toArray⟩) := by obtain ⟨v, h1, h2⟩ := h 1 (by decide +kernel); exact h1.trans (h2.symm.trans rfl)
        have e70 : ac.tmps[70]? = some (.bool true) := by obtain ⟨v, h1, h2⟩ := h 70 (by decide +kernel); rw [h1]; exact congrArg some h2
        clear h hsz hdf
        go_wp2
        exact ⟨_, rfl, rfl, Ext.refl _⟩
      · -- 6: t73 := call { value (Operand.func 29), args := #[t71, t72], argTypes := #[27, 9] } (3, True)
        intro ac wx hE hsz hdf h
        have e71 : ac.tmps[71]? = some (.agg #[.int .i64 k, .int .i64 m, .bool z, .int .u64 (wd s 0 : Nat), .int .u64 (wd s 1 : Nat), .int .u64 (wd s 2 : Nat), .int .u64 (wd s 3 : Nat), .slice A n c]) := by obtain ⟨v, h1, h2⟩ := h 71 (by decide +kernel); rw [h1]; exact congrArg some h2
        have e72 : ac.tmps[72]? = some (.string ⟨l.toArray⟩) := by obtain ⟨v, h1, h2⟩ := h 72 (by decide +kernel); rw [h1]; exact congrArg some h2
        have e70 : ac.tmps[70]? = some (.bool true) := by obtain ⟨v, h1, h2⟩ := h 70 (by decide +kernel); rw [h1]; exact congrArg some h2
        clear h hsz hdf
        go_wp2_with ((go_at_call 29; refine (mnSays t (by have := HSZ.out; omega) l (by have := HN.out; omega) S _ (nodeC k m z s A n c) (HV15.out.keep hE)).mono ?_; rintro e w9 ⟨rfl, hb9⟩; rw [HSAR.out]))
        exact ⟨_, rfl, rfl, hb9⟩
      · -- 7: t74 := load 34 t7 (3, True)
        intro ac wx hE hsz hdf h
        have eg : ac.tmps[70]? = some (.bool true) := by obtain ⟨v, h1, h2⟩ := h 70 (by decide +kernel); rw [h1]; exact congrArg some h2
        have es : ac.tmps[7]? = some (.pointer (some ⟨gN, 0, none⟩)) := by obtain ⟨v, h1, h2⟩ := h 7 (by decide +kernel); exact h1.trans (h2.symm.trans rfl)
        clear h hsz hdf
        refine load_dnH (j := 3) (b0 := true) (d := 70) rfl rfl eg (.tmp 7) rfl (g := gN) ?_ (HBD15.out.keep hE) ?_
        · simp [Act.eval, es]
        · exact ⟨_, rfl, rfl, Ext.refl _⟩
      · -- 8: t75 := move t1 (3, True)
        intro ac wx hE hsz hdf h
        have e1 : ac.tmps[1]? = some (.string ⟨l.toArray⟩) := by obtain ⟨v, h1, h2⟩ := h 1 (by decide +kernel); exact h1.trans (h2.symm.trans rfl)
        have e70 : ac.tmps[70]? = some (.bool true) := by obtain ⟨v, h1, h2⟩ := h 70 (by decide +kernel); rw [h1]; exact congrArg some h2
        clear h hsz hdf
        go_wp2
        exact ⟨_, rfl, rfl, Ext.refl _⟩
      · -- 9: t76 := call { value (Operand.func 30), args := #[t74, t75], argTypes := #[34, 9] } (3, True)
        intro ac wx hE hsz hdf h
        have e74 : ac.tmps[74]? = some (.agg (dnC kx mx zx px Bx nx cx).toArray) := by obtain ⟨v, h1, h2⟩ := h 74 (by decide +kernel); rw [h1]; exact congrArg some h2
        have e75 : ac.tmps[75]? = some (.string ⟨l.toArray⟩) := by obtain ⟨v, h1, h2⟩ := h 75 (by decide +kernel); rw [h1]; exact congrArg some h2
        have e70 : ac.tmps[70]? = some (.bool true) := by obtain ⟨v, h1, h2⟩ := h 70 (by decide +kernel); rw [h1]; exact congrArg some h2
        clear h hsz hdf
        go_wp2_with ((go_at_call 30; refine (refSays t HGD.out l (by have := HN.out; omega) _ _ (dnC kx mx zx px Bx nx cx) (HVD15.out.keep hE)).mono ?_; rintro e w9 ⟨rfl, hb9⟩; rw [HQ.out]))
        exact ⟨_, rfl, rfl, hb9⟩
      · -- 10: t77 := binOp BinOp.eql 4 t73 t76 4 (3, True)
        intro ac wx hE hsz hdf h
        have e73 : ac.tmps[73]? = some (.bool q) := by obtain ⟨v, h1, h2⟩ := h 73 (by decide +kernel); rw [h1]; exact congrArg some h2
        have e76 : ac.tmps[76]? = some (.bool q) := by obtain ⟨v, h1, h2⟩ := h 76 (by decide +kernel); rw [h1]; exact congrArg some h2
        have e70 : ac.tmps[70]? = some (.bool true) := by obtain ⟨v, h1, h2⟩ := h 70 (by decide +kernel); rw [h1]; exact congrArg some h2
        clear h hsz hdf
        go_wp2
        exact ⟨_, rfl, by simp, Ext.refl _⟩
      · -- 11: t78 := pick t70 t77 (const (Value.bool false))
        intro ac wx hE hsz hdf h
        have e70 : ac.tmps[70]? = some (.bool true) := by obtain ⟨v, h1, h2⟩ := h 70 (by decide +kernel); rw [h1]; exact congrArg some h2
        have e77 : ac.tmps[77]? = some (.bool true) := by obtain ⟨v, h1, h2⟩ := h 77 (by decide +kernel); rw [h1]; exact congrArg some h2
        clear h hsz hdf
        go_wp2
        exact ⟨_, rfl, by simp, Ext.refl _⟩
      · -- 12: t6 := assign t78
        intro ac wx hE hsz hdf h
        have e78 : ac.tmps[78]? = some (.bool true) := by obtain ⟨v, h1, h2⟩ := h 78 (by decide +kernel); rw [h1]; exact congrArg some h2
        clear h hsz hdf
        go_wp2
        exact ⟨_, rfl, rfl, Ext.refl _⟩
      · intro ac w9 hE hsz hdf h hrest
        obtain ⟨v0, s0, g0⟩ := h 0 _ rfl
        have e0 := g0 67 rfl
        obtain rfl : v0 = .slice A5 nw c5 := s0
        obtain ⟨v1, s1, g1⟩ := h 1 _ rfl
        have e1 := g1 68 rfl
        obtain rfl : v1 = .slice (some ⟨gv, 0, none⟩) 0 0 := s1
        obtain ⟨v2, s2, g2⟩ := h 2 _ rfl
        have e2 := g2 69 rfl
        obtain rfl : v2 = .bool true := s2
        obtain ⟨v3, s3, g3⟩ := h 3 _ rfl
        have e3 := g3 70 rfl
        obtain rfl : v3 = .bool true := s3
        obtain ⟨v4, s4, g4⟩ := h 4 _ rfl
        have e4 := g4 71 rfl
        obtain rfl : v4 = .agg #[.int .i64 k, .int .i64 m, .bool z, .int .u64 (wd s 0 : Nat), .int .u64 (wd s 1 : Nat), .int .u64 (wd s 2 : Nat), .int .u64 (wd s 3 : Nat), .slice A n c] := s4
        obtain ⟨v5, s5, g5⟩ := h 5 _ rfl
        have e5 := g5 72 rfl
        obtain rfl : v5 = .string ⟨l.toArray⟩ := s5
        obtain ⟨v6, s6, g6⟩ := h 6 _ rfl
        have e6 := g6 73 rfl
        obtain rfl : v6 = .bool q := s6
        obtain ⟨v7, s7, g7⟩ := h 7 _ rfl
        have e7 := g7 74 rfl
        obtain rfl : v7 = .agg (dnC kx mx zx px Bx nx cx).toArray := s7
        obtain ⟨v8, s8, g8⟩ := h 8 _ rfl
        have e8 := g8 75 rfl
        obtain rfl : v8 = .string ⟨l.toArray⟩ := s8
        obtain ⟨v9, s9, g9⟩ := h 9 _ rfl
        have e9 := g9 76 rfl
        obtain rfl : v9 = .bool q := s9
        obtain ⟨v10, s10, g10⟩ := h 10 _ rfl
        have e10 := g10 77 rfl
        obtain rfl : v10 = .bool true := s10
        obtain ⟨v11, s11, g11⟩ := h 11 _ rfl
        have e11 := g11 78 rfl
        obtain rfl : v11 = .bool true := s11
        obtain ⟨v12, s12, g12⟩ := h 12 _ rfl
        have e12 := g12 6 rfl
        obtain rfl : v12 = .bool true := s12
        have ha := act_of [(67, .slice A5 nw c5), (68, .slice (some ⟨gv, 0, none⟩) 0 0), (69, .bool true), (70, .bool true), (71, .agg #[.int .i64 k, .int .i64 m, .bool z, .int .u64 (wd s 0 : Nat), .int .u64 (wd s 1 : Nat), .int .u64 (wd s 2 : Nat), .int .u64 (wd s 3 : Nat), .slice A n c]), (72, .string ⟨l.toArray⟩), (73, .bool q), (74, .agg (dnC kx mx zx px Bx nx cx).toArray), (75, .string ⟨l.toArray⟩), (76, .bool q), (77, .bool true), (78, .bool true), (6, .bool true)] rfl hsz hdf (by intro p hp; simp only [List.mem_cons, List.not_mem_nil, or_false] at hp; rcases hp with rfl | rfl | rfl | rfl | rfl | rfl | rfl | rfl | rfl | rfl | rfl | rfl | rfl <;> first | exact e0 | exact e1 | exact e2 | exact e3 | exact e4 | exact e5 | exact e6 | exact e7 | exact e8 | exact e9 | exact e10 | exact e11 | exact e12) hrest
        clear h hrest hsz hdf e0 e1 e2 e3 e4 e5 e6 e7 e8 e9 e10 e11 e12 g0 g1 g2 g3 g4 g5 g6 g7 g8 g9 g10 g11 g12
        subst ha
        simp only [List.foldl_cons, List.foldl_nil, Act.put, List.setIfInBounds_toArray, List.set_cons_succ, List.set_cons_zero]
        have HXX := Lib.hid (Ext.trans HX15.out hE)
        go_wp2
        go_ret
        exact ⟨rfl, HXX.out⟩
  obtain ⟨iq, rfl⟩ : ∃ iq : Nat, j = (iq : Int) := ⟨j.toNat, by omega⟩
  have HI := Lib.hid (show iq ≤ l.length by omega)
  have HWE := Lib.hid (show wantN t l iq (l.length + 1) = W by rw [← HW.out, endsA_nat HI.out, wantN_all t l HI.out]; unfold endsR; rw [HRT.out]; rfl)
  have hi0 : ¬ (iq : Int) < 0 := by omega
  have hi1 : (0 : Int) ≤ (iq : Int) := by omega
  have hi2 : (iq : Int) ≤ (l.length : Int) := by omega
  clear h0 h1
  go_upto_region 11 with fail
  go_loopg [9, 10] (l.length + 1 - iq) (fun gg wv iv wr => ∃ b : Nat, iq ≤ b ∧ b ≤ l.length + 1 ∧ gg = l.length + 1 - b ∧ iv = .int .i64 (b : Nat) ∧ wr.ownsRow wb.heap.size 3 1 wv (wantN t l iq b).length (intsV (natsI (wantN t l iq b))) ∧ Ext wb wr)
  case atStart => exact ⟨iq, by omega, by omega, rfl, rfl, by rw [wantN_zero]; exact hown0.out, hxb.out⟩
  case round =>
    obtain ⟨bq, hb0, hb, rfl, rfl, hown, hx⟩ := hrel
    have HOW := Lib.hid hown
    clear hown
    by_cases hlt : bq < l.length + 1
    · have hlt' : (bq : Int) ≤ (l.length : Int) := by omega
      have hle' : (iq : Int) ≤ (bq : Int) := by omega
      have hw2 : IntKind.i64.wrap ((bq : Int) + 1) = (bq : Int) + 1 := wrap_id (by omega) (by have := HN.out; omega)
      have HBDW := Lib.hid (HBD9.out.keep hx)
      have HVDW := Lib.hid (HVD9.out.keep hx)
      have HSL := Lib.hid (show (seg l iq bq).length ≤ 1000000 by rw [seg_len (by omega)]; have := HN.out; omega)
      have HST := Lib.hid (wantN_succ t l hb0)
      have HXW := Lib.hid hx
      clear hx
      generalize wr = wz at *
      cases hq1 : saysB t (seg l iq bq)
      · have HQ1 := Lib.hid hq1
        clear hq1
        go_upto_region 13 with fail
        refine wp_region_dag (E := Ext) (w0 := wz) (Φ := fun i v w => match i with | 0 => (v = .agg (dnC kx mx zx px Bx nx cx).toArray) | 1 => (v = .string ⟨l.toArray⟩) | 2 => (v = .int .i64 (iq : Nat)) | 3 => (v = .int .i64 (bq : Nat)) | 4 => (v = .string ⟨(seg l iq bq).toArray⟩) | 5 => (v = .bool false) | _ => True) (show Tryd.prog.follows .mixedOrders = true from Checked.mixed Tryd.checked) 79 rfl (by decide +kernel) ?_ ((Below.refl _ _).drew) ?_ ⟨?_, ?_, ?_, ?_, ?_, ?_, trivial⟩ ?_
        · intro i v w w' h hE
          match i, h with
          | 0, h => exact h
          | 1, h => exact h
          | 2, h => exact h
          | 3, h => exact h
          | 4, h => exact h
          | 5, h => exact h
          | _ + 6, _ => trivial
        · exact fun w w' h h' => h.trans h'
        · -- 0: t57 := load 34 t7
          intro ac wx hE hsz hdf h
          have es : ac.tmps[7]? = some (.pointer (some ⟨gN, 0, none⟩)) := by obtain ⟨v, h1, h2⟩ := h 7 (by decide +kernel); exact h1.trans (h2.symm.trans rfl)
          clear h hsz hdf
          refine load_dn rfl (.tmp 7) rfl (g := gN) ?_ (HBDW.out.keep hE) ?_
          · simp [Act.eval, es]
          · exact ⟨_, rfl, rfl, Ext.refl _⟩
        · -- 1: t58 := move t1
          intro ac wx hE hsz hdf h
          have e1 : ac.tmps[1]? = some (.string ⟨l.toArray⟩) := by obtain ⟨v, h1, h2⟩ := h 1 (by decide +kernel); exact h1.trans (h2.symm.trans rfl)
          clear h hsz hdf
          go_wp2
          exact ⟨_, rfl, rfl, Ext.refl _⟩
        · -- 2: t59 := move t2
          intro ac wx hE hsz hdf h
          have e2 : ac.tmps[2]? = some (.int .i64 (iq : Nat)) := by obtain ⟨v, h1, h2⟩ := h 2 (by decide +kernel); exact h1.trans (h2.symm.trans rfl)
          clear h hsz hdf
          go_wp2
          exact ⟨_, rfl, rfl, Ext.refl _⟩
        · -- 3: t60 := move t10
          intro ac wx hE hsz hdf h
          have e10 : ac.tmps[10]? = some (.int .i64 (bq : Nat)) := by obtain ⟨v, h1, h2⟩ := h 10 (by decide +kernel); exact h1.trans (h2.symm.trans rfl)
          clear h hsz hdf
          go_wp2
          exact ⟨_, rfl, rfl, Ext.refl _⟩
        · -- 4: t61 := slice 9 t58 (some t59) (some t60) none
          intro ac wx hE hsz hdf h
          have e58 : ac.tmps[58]? = some (.string ⟨l.toArray⟩) := by obtain ⟨v, h1, h2⟩ := h 58 (by decide +kernel); rw [h1]; exact congrArg some h2
          have e59 : ac.tmps[59]? = some (.int .i64 (iq : Nat)) := by obtain ⟨v, h1, h2⟩ := h 59 (by decide +kernel); rw [h1]; exact congrArg some h2
          have e60 : ac.tmps[60]? = some (.int .i64 (bq : Nat)) := by obtain ⟨v, h1, h2⟩ := h 60 (by decide +kernel); rw [h1]; exact congrArg some h2
          clear h hsz hdf
          go_wp2
          exact ⟨_, rfl, by simp [← seg_cut], Ext.refl _⟩
        · -- 5: t62 := call { value (Operand.func 30), args := #[t57, t61], argTypes := #[34, 9] }
          intro ac wx hE hsz hdf h
          have e57 : ac.tmps[57]? = some (.agg (dnC kx mx zx px Bx nx cx).toArray) := by obtain ⟨v, h1, h2⟩ := h 57 (by decide +kernel); rw [h1]; exact congrArg some h2
          have e61 : ac.tmps[61]? = some (.string ⟨(seg l iq bq).toArray⟩) := by obtain ⟨v, h1, h2⟩ := h 61 (by decide +kernel); rw [h1]; exact congrArg some h2
          clear h hsz hdf
          go_wp2_with ((go_at_call 30; refine (refSays t HGD.out (seg l iq bq) HSL.out _ _ (dnC kx mx zx px Bx nx cx) (HVDW.out.keep hE)).mono ?_; rintro e w9 ⟨rfl, hb9⟩; rw [← says_dec, HQ1.out]))
          exact ⟨_, rfl, rfl, hb9⟩
        · intro ac w9 hE hsz hdf h hrest
          obtain ⟨v0, s0, g0⟩ := h 0 _ rfl
          have e0 := g0 57 rfl
          obtain rfl : v0 = .agg (dnC kx mx zx px Bx nx cx).toArray := s0
          obtain ⟨v1, s1, g1⟩ := h 1 _ rfl
          have e1 := g1 58 rfl
          obtain rfl : v1 = .string ⟨l.toArray⟩ := s1
          obtain ⟨v2, s2, g2⟩ := h 2 _ rfl
          have e2 := g2 59 rfl
          obtain rfl : v2 = .int .i64 (iq : Nat) := s2
          obtain ⟨v3, s3, g3⟩ := h 3 _ rfl
          have e3 := g3 60 rfl
          obtain rfl : v3 = .int .i64 (bq : Nat) := s3
          obtain ⟨v4, s4, g4⟩ := h 4 _ rfl
          have e4 := g4 61 rfl
          obtain rfl : v4 = .string ⟨(seg l iq bq).toArray⟩ := s4
          obtain ⟨v5, s5, g5⟩ := h 5 _ rfl
          have e5 := g5 62 rfl
          obtain rfl : v5 = .bool false := s5
          have ha := act_of [(57, .agg (dnC kx mx zx px Bx nx cx).toArray), (58, .string ⟨l.toArray⟩), (59, .int .i64 (iq : Nat)), (60, .int .i64 (bq : Nat)), (61, .string ⟨(seg l iq bq).toArray⟩), (62, .bool false)] rfl hsz hdf (by intro p hp; simp only [List.mem_cons, List.not_mem_nil, or_false] at hp; rcases hp with rfl | rfl | rfl | rfl | rfl | rfl <;> first | exact e0 | exact e1 | exact e2 | exact e3 | exact e4 | exact e5) hrest
          clear h hrest hsz hdf e0 e1 e2 e3 e4 e5 g0 g1 g2 g3 g4 g5
          subst ha
          simp only [List.foldl_cons, List.foldl_nil, Act.put, List.setIfInBounds_toArray, List.set_cons_succ, List.set_cons_zero]
          have HXX := Lib.hid (Ext.trans HXW.out hE)
          have HOX := Lib.hid (own_ext HOW.out hE)
          have HE1 := Lib.hid (show wantN t l iq (bq + 1) = wantN t l iq bq by rw [HST.out, HQ1.out]; simp)
          go_wp2
          go_roundg (l.length + 1 - (bq + 1))
          case measure => omega
          case rel => exact ⟨bq + 1, by omega, by omega, rfl, by go_num, by rw [HE1.out]; exact HOX.out, HXX.out⟩
      · have HQ1 := Lib.hid hq1
        clear hq1
        go_upto_region 13 with fail
        refine wp_region_dag (E := Ext) (w0 := wz) (Φ := fun i v w => match i with | 0 => (v = .agg (dnC kx mx zx px Bx nx cx).toArray) | 1 => (v = .string ⟨l.toArray⟩) | 2 => (v = .int .i64 (iq : Nat)) | 3 => (v = .int .i64 (bq : Nat)) | 4 => (v = .string ⟨(seg l iq bq).toArray⟩) | 5 => (v = .bool true) | _ => True) (show Tryd.prog.follows .mixedOrders = true from Checked.mixed Tryd.checked) 79 rfl (by decide +kernel) ?_ ((Below.refl _ _).drew) ?_ ⟨?_, ?_, ?_, ?_, ?_, ?_, trivial⟩ ?_
        · intro i v w w' h hE
          match i, h with
          | 0, h => exact h
          | 1, h => exact h
          | 2, h => exact h
          | 3, h => exact h
          | 4, h => exact h
          | 5, h => exact h
          | _ + 6, _ => trivial
        · exact fun w w' h h' => h.trans h'
        · -- 0: t57 := load 34 t7
          intro ac wx hE hsz hdf h
          have es : ac.tmps[7]? = some (.pointer (some ⟨gN, 0, none⟩)) := by obtain ⟨v, h1, h2⟩ := h 7 (by decide +kernel); exact h1.trans (h2.symm.trans rfl)
          clear h hsz hdf
          refine load_dn rfl (.tmp 7) rfl (g := gN) ?_ (HBDW.out.keep hE) ?_
          · simp [Act.eval, es]
          · exact ⟨_, rfl, rfl, Ext.refl _⟩
        · -- 1: t58 := move t1
          intro ac wx hE hsz hdf h
          have e1 : ac.tmps[1]? = some (.string ⟨l.toArray⟩) := by obtain ⟨v, h1, h2⟩ := h 1 (by decide +kernel); exact h1.trans (h2.symm.trans rfl)
          clear h hsz hdf
          go_wp2
          exact ⟨_, rfl, rfl, Ext.refl _⟩
        · -- 2: t59 := move t2
          intro ac wx hE hsz hdf h
          have e2 : ac.tmps[2]? = some (.int .i64 (iq : Nat)) := by obtain ⟨v, h1, h2⟩ := h 2 (by decide +kernel); exact h1.trans (h2.symm.trans rfl)
          clear h hsz hdf
          go_wp2
          exact ⟨_, rfl, rfl, Ext.refl _⟩
        · -- 3: t60 := move t10
          intro ac wx hE hsz hdf h
          have e10 : ac.tmps[10]? = some (.int .i64 (bq : Nat)) := by obtain ⟨v, h1, h2⟩ := h 10 (by decide +kernel); exact h1.trans (h2.symm.trans rfl)
          clear h hsz hdf
          go_wp2
          exact ⟨_, rfl, rfl, Ext.refl _⟩
        · -- 4: t61 := slice 9 t58 (some t59) (some t60) none
          intro ac wx hE hsz hdf h
          have e58 : ac.tmps[58]? = some (.string ⟨l.toArray⟩) := by obtain ⟨v, h1, h2⟩ := h 58 (by decide +kernel); rw [h1]; exact congrArg some h2
          have e59 : ac.tmps[59]? = some (.int .i64 (iq : Nat)) := by obtain ⟨v, h1, h2⟩ := h 59 (by decide +kernel); rw [h1]; exact congrArg some h2
          have e60 : ac.tmps[60]? = some (.int .i64 (bq : Nat)) := by obtain ⟨v, h1, h2⟩ := h 60 (by decide +kernel); rw [h1]; exact congrArg some h2
          clear h hsz hdf
          go_wp2
          exact ⟨_, rfl, by simp [← seg_cut], Ext.refl _⟩
        · -- 5: t62 := call { value (Operand.func 30), args := #[t57, t61], argTypes := #[34, 9] }
          intro ac wx hE hsz hdf h
          have e57 : ac.tmps[57]? = some (.agg (dnC kx mx zx px Bx nx cx).toArray) := by obtain ⟨v, h1, h2⟩ := h 57 (by decide +kernel); rw [h1]; exact congrArg some h2
          have e61 : ac.tmps[61]? = some (.string ⟨(seg l iq bq).toArray⟩) := by obtain ⟨v, h1, h2⟩ := h 61 (by decide +kernel); rw [h1]; exact congrArg some h2
          clear h hsz hdf
          go_wp2_with ((go_at_call 30; refine (refSays t HGD.out (seg l iq bq) HSL.out _ _ (dnC kx mx zx px Bx nx cx) (HVDW.out.keep hE)).mono ?_; rintro e w9 ⟨rfl, hb9⟩; rw [← says_dec, HQ1.out]))
          exact ⟨_, rfl, rfl, hb9⟩
        · intro ac w9 hE hsz hdf h hrest
          obtain ⟨v0, s0, g0⟩ := h 0 _ rfl
          have e0 := g0 57 rfl
          obtain rfl : v0 = .agg (dnC kx mx zx px Bx nx cx).toArray := s0
          obtain ⟨v1, s1, g1⟩ := h 1 _ rfl
          have e1 := g1 58 rfl
          obtain rfl : v1 = .string ⟨l.toArray⟩ := s1
          obtain ⟨v2, s2, g2⟩ := h 2 _ rfl
          have e2 := g2 59 rfl
          obtain rfl : v2 = .int .i64 (iq : Nat) := s2
          obtain ⟨v3, s3, g3⟩ := h 3 _ rfl
          have e3 := g3 60 rfl
          obtain rfl : v3 = .int .i64 (bq : Nat) := s3
          obtain ⟨v4, s4, g4⟩ := h 4 _ rfl
          have e4 := g4 61 rfl
          obtain rfl : v4 = .string ⟨(seg l iq bq).toArray⟩ := s4
          obtain ⟨v5, s5, g5⟩ := h 5 _ rfl
          have e5 := g5 62 rfl
          obtain rfl : v5 = .bool true := s5
          have ha := act_of [(57, .agg (dnC kx mx zx px Bx nx cx).toArray), (58, .string ⟨l.toArray⟩), (59, .int .i64 (iq : Nat)), (60, .int .i64 (bq : Nat)), (61, .string ⟨(seg l iq bq).toArray⟩), (62, .bool true)] rfl hsz hdf (by intro p hp; simp only [List.mem_cons, List.not_mem_nil, or_false] at hp; rcases hp with rfl | rfl | rfl | rfl | rfl | rfl <;> first | exact e0 | exact e1 | exact e2 | exact e3 | exact e4 | exact e5) hrest
          clear h hrest hsz hdf e0 e1 e2 e3 e4 e5 g0 g1 g2 g3 g4 g5
          subst ha
          simp only [List.foldl_cons, List.foldl_nil, Act.put, List.setIfInBounds_toArray, List.set_cons_succ, List.set_cons_zero]
          have HXX := Lib.hid (Ext.trans HXW.out hE)
          have HOX := Lib.hid (own_ext HOW.out hE)
          have HE1 := Lib.hid (show wantN t l iq (bq + 1) = wantN t l iq bq ++ [bq] by rw [HST.out, HQ1.out]; simp)
          have HSZ9 := Lib.hid HXX.out.size
          have HLW := Lib.hid (show (wantN t l iq bq).length ≤ 7 by have := wantN_len t l iq bq; have := HN.out; omega)
          go_wp2_with (at_builtin; refine wpList_app2 (v := u9) (n := (wantN t l iq bq).length) Tryd.elemI rfl (.tmp 63) (.tmp 65) rfl rfl (own_ext HOX.out (Ext.new1 _ _)) (by have := HSZ9.out; simp; omega) rfl (rd_one w9 (.int .i64 ((bq : Nat) : Int)) 3) (one_one rfl) (by have := HLW.out; omega) (by have := HLW.out; unfold maxLen; omega) ?_; intro v4 w10 hown4 hg4 _ _)
          have hx4 : Ext wb w10 := hg4.below (HXX.out.alloc HSZ9.out _) (Nat.le_refl _) (by have := HSZ9.out; simp; omega)
          go_roundg (l.length + 1 - (bq + 1))
          case measure => omega
          case rel => exact ⟨bq + 1, by omega, by omega, rfl, by go_num, by rw [HE1.out, List.length_append]; unfold natsI intsV at *; simpa using hown4, hx4⟩
    · have hlt' : ¬ (bq : Int) ≤ (l.length : Int) := by omega
      obtain rfl : bq = l.length + 1 := by omega
      have how := HOW.out
      rw [HWE.out] at how
      obtain ⟨A6, c6, rfl, -, -, hr6⟩ := own_rd how
      have HNW := Lib.hid (show W.length ≤ 7 by have := HLE.out; have := HN.out; omega)
      have HW15 := Lib.hid hr6
      have HXA := Lib.hid hx
      clear how hr6 hx HOW hi1
      generalize W.length = mw at *
      go_upto_region 15 with fail
      have HB15 := Lib.hid (HB9.out.keep HXA.out)
      have HV15 := Lib.hid (HV9.out.keep HXA.out)
      have HBD15 := Lib.hid (HBD9.out.keep HXA.out)
      have HVD15 := Lib.hid (HVD9.out.keep HXA.out)
      have HL15 := Lib.hid (il_rd (HL.out.keep HXA.out))
      have HX15 := Lib.hid (Ext.trans HX9.out HXA.out)
      generalize wr = wv at *
      refine wp_region_dag (E := Ext) (w0 := wv) (Φ := fun i v w => match i with | 0 => (v = .slice A5 nw c5) | 1 => (v = .slice A6 mw c6) | 2 => (v = .bool true) | 3 => (v = .bool true) | 4 => (v = .agg #[.int .i64 k, .int .i64 m, .bool z, .int .u64 (wd s 0 : Nat), .int .u64 (wd s 1 : Nat), .int .u64 (wd s 2 : Nat), .int .u64 (wd s 3 : Nat), .slice A n c]) | 5 => (v = .string ⟨l.toArray⟩) | 6 => (v = .bool q) | 7 => (v = .agg (dnC kx mx zx px Bx nx cx).toArray) | 8 => (v = .string ⟨l.toArray⟩) | 9 => (v = .bool q) | 10 => (v = .bool true) | 11 => (v = .bool true) | 12 => (v = .bool true) | _ => True) (show Tryd.prog.follows .mixedOrders = true from Checked.mixed Tryd.checked) 79 rfl (by decide +kernel) ?_ ((Below.refl _ _).drew) ?_ ⟨?_, ?_, ?_, ?_, ?_, ?_, ?_, ?_, ?_, ?_, ?_, ?_, ?_, trivial⟩ ?_
      · intro i v w w' h hE
        match i, h with
        | 0, h => exact h
        | 1, h => exact h
        | 2, h => exact h
        | 3, h => exact h
        | 4, h => exact h
        | 5, h => exact h
        | 6, h => exact h
        | 7, h => exact h
        | 8, h => exact h
        | 9, h => exact h
        | 10, h => exact h
        | 11, h => exact h
        | 12, h => exact h
        | _ + 13, _ => trivial
      · exact fun w w' h h' => h.trans h'
      · -- 0: t67 := move t8
        intro ac wx hE hsz hdf h
        have e8 : ac.tmps[8]? = some (.slice A5 nw c5) := by obtain ⟨v, h1, h2⟩ := h 8 (by decide +kernel); exact h1.trans (h2.symm.trans rfl)
        clear h hsz hdf
        go_wp2
        exact ⟨_, rfl, rfl, Ext.refl _⟩
      · -- 1: t68 := move t9
        intro ac wx hE hsz hdf h
        have e9 : ac.tmps[9]? = some (.slice A6 mw c6) := by obtain ⟨v, h1, h2⟩ := h 9 (by decide +kernel); exact h1.trans (h2.symm.trans rfl)
        clear h hsz hdf
        go_wp2
        exact ⟨_, rfl, rfl, Ext.refl _⟩
      · -- 2: t69 := call { value (Operand.func 31), args := #[t67, t68], argTypes := #[52, 52] }
        intro ac wx hE hsz hdf h
        have e67 : ac.tmps[67]? = some (.slice A5 nw c5) := by obtain ⟨v, h1, h2⟩ := h 67 (by decide +kernel); rw [h1]; exact congrArg some h2
        have e68 : ac.tmps[68]? = some (.slice A6 mw c6) := by obtain ⟨v, h1, h2⟩ := h 68 (by decide +kernel); rw [h1]; exact congrArg some h2
        clear h hsz hdf
        go_wp2_with ((go_at_call 31; refine (sameInts (natsI W) (natsI W) _ _ _ _ _ _ _ (HL15.out.keep hE) (HW15.out.keep hE) (by have := HNL.out; omega) (by have := HNW.out; omega) true (by simp)).mono ?_; rintro e w9 ⟨rfl, hb9⟩))
        exact ⟨_, rfl, rfl, hb9⟩
      · -- 3: t70 := move t69
        intro ac wx hE hsz hdf h
        have e69 : ac.tmps[69]? = some (.bool true) := by obtain ⟨v, h1, h2⟩ := h 69 (by decide +kernel); rw [h1]; exact congrArg some h2
        clear h hsz hdf
        go_wp2
        exact ⟨_, rfl, rfl, Ext.refl _⟩
      · -- 4: t71 := load 27 t3 (3, True)
        intro ac wx hE hsz hdf h
        have e3 : ac.tmps[3]? = some (.pointer (some ⟨gA, 0, none⟩)) := by obtain ⟨v, h1, h2⟩ := h 3 (by decide +kernel); exact h1.trans (h2.symm.trans rfl)
        have e70 : ac.tmps[70]? = some (.bool true) := by obtain ⟨v, h1, h2⟩ := h 70 (by decide +kernel); rw [h1]; exact congrArg some h2
        clear h hsz hdf
        obtain ⟨y0, y1, y2, y3, y4, y5, y6, y7⟩ := (HB15.out.keep hE).cells
        go_wp2
        exact ⟨_, rfl, rfl, Ext.refl _⟩
      · -- 5: t72 := move t1 (3, True)
        intro ac wx hE hsz hdf h
        have e1 : ac.tmps[1]? = some (.string ⟨l.toArray⟩) := by obtain ⟨v, h1, h2⟩ := h 1 (by decide +kernel); exact h1.trans (h2.symm.trans rfl)
        have e70 : ac.tmps[70]? = some (.bool true) := by obtain ⟨v, h1, h2⟩ := h 70 (by decide +kernel); rw [h1]; exact congrArg some h2
        clear h hsz hdf
        go_wp2
        exact ⟨_, rfl, rfl, Ext.refl _⟩
      · -- 6: t73 := call { value (Operand.func 29), args := #[t71, t72], argTypes := #[27, 9] } (3, True)
        intro ac wx hE hsz hdf h
        have e71 : ac.tmps[71]? = some (.agg #[.int .i64 k, .int .i64 m, .bool z, .int .u64 (wd s 0 : Nat), .int .u64 (wd s 1 : Nat), .int .u64 (wd s 2 : Nat), .int .u64 (wd s 3 : Nat), .slice A n c]) := by obtain ⟨v, h1, h2⟩ := h 71 (by decide +kernel); rw [h1]; exact congrArg some h2
        have e72 : ac.tmps[72]? = some (.string ⟨l.toArray⟩) := by obtain ⟨v, h1, h2⟩ := h 72 (by decide +kernel); rw [h1]; exact congrArg some h2
        have e70 : ac.tmps[70]? = some (.bool true) := by obtain ⟨v, h1, h2⟩ := h 70 (by decide +kernel); rw [h1]; exact congrArg some h2
        clear h hsz hdf
        go_wp2_with ((go_at_call 29; refine (mnSays t (by have := HSZ.out; omega) l (by have := HN.out; omega) S _ (nodeC k m z s A n c) (HV15.out.keep hE)).mono ?_; rintro e w9 ⟨rfl, hb9⟩; rw [HSAR.out]))
        exact ⟨_, rfl, rfl, hb9⟩
      · -- 7: t74 := load 34 t7 (3, True)
        intro ac wx hE hsz hdf h
        have eg : ac.tmps[70]? = some (.bool true) := by obtain ⟨v, h1, h2⟩ := h 70 (by decide +kernel); rw [h1]; exact congrArg some h2
        have es : ac.tmps[7]? = some (.pointer (some ⟨gN, 0, none⟩)) := by obtain ⟨v, h1, h2⟩ := h 7 (by decide +kernel); exact h1.trans (h2.symm.trans rfl)
        clear h hsz hdf
        refine load_dnH (j := 3) (b0 := true) (d := 70) rfl rfl eg (.tmp 7) rfl (g := gN) ?_ (HBD15.out.keep hE) ?_
        · simp [Act.eval, es]
        · exact ⟨_, rfl, rfl, Ext.refl _⟩
      · -- 8: t75 := move t1 (3, True)
        intro ac wx hE hsz hdf h
        have e1 : ac.tmps[1]? = some (.string ⟨l.toArray⟩) := by obtain ⟨v, h1, h2⟩ := h 1 (by decide +kernel); exact h1.trans (h2.symm.trans rfl)
        have e70 : ac.tmps[70]? = some (.bool true) := by obtain ⟨v, h1, h2⟩ := h 70 (by decide +kernel); rw [h1]; exact congrArg some h2
        clear h hsz hdf
        go_wp2
        exact ⟨_, rfl, rfl, Ext.refl _⟩
      · -- 9: t76 := call { value (Operand.func 30), args := #[t74, t75], argTypes := #[34, 9] } (3, True)
        intro ac wx hE hsz hdf h
        have e74 : ac.tmps[74]? = some (.agg (dnC kx mx zx px Bx nx cx).toArray) := by obtain ⟨v, h1, h2⟩ := h 74 (by decide +kernel); rw [h1]; exact congrArg some h2
        have e75 : ac.tmps[75]? = some (.string ⟨l.toArray⟩) := by obtain ⟨v, h1, h2⟩ := h 75 (by decide +kernel); rw [h1]; exact congrArg some h2
        have e70 : ac.tmps[70]? = some (.bool true) := by obtain ⟨v, h1, h2⟩ := h 70 (by decide +kernel); rw [h1]; exact congrArg some h2
        clear h hsz hdf
        go_wp2_with ((go_at_call 30; refine (refSays t HGD.out l (by have := HN.out; omega) _ _ (dnC kx mx zx px Bx nx cx) (HVD15.out.keep hE)).mono ?_; rintro e w9 ⟨rfl, hb9⟩; rw [HQ.out]))
        exact ⟨_, rfl, rfl, hb9⟩
      · -- 10: t77 := binOp BinOp.eql 4 t73 t76 4 (3, True)
        intro ac wx hE hsz hdf h
        have e73 : ac.tmps[73]? = some (.bool q) := by obtain ⟨v, h1, h2⟩ := h 73 (by decide +kernel); rw [h1]; exact congrArg some h2
        have e76 : ac.tmps[76]? = some (.bool q) := by obtain ⟨v, h1, h2⟩ := h 76 (by decide +kernel); rw [h1]; exact congrArg some h2
        have e70 : ac.tmps[70]? = some (.bool true) := by obtain ⟨v, h1, h2⟩ := h 70 (by decide +kernel); rw [h1]; exact congrArg some h2
        clear h hsz hdf
        go_wp2
        exact ⟨_, rfl, by simp, Ext.refl _⟩
      · -- 11: t78 := pick t70 t77 (const (Value.bool false))
        intro ac wx hE hsz hdf h
        have e70 : ac.tmps[70]? = some (.bool true) := by obtain ⟨v, h1, h2⟩ := h 70 (by decide +kernel); rw [h1]; exact congrArg some h2
        have e77 : ac.tmps[77]? = some (.bool true) := by obtain ⟨v, h1, h2⟩ := h 77 (by decide +kernel); rw [h1]; exact congrArg some h2
        clear h hsz hdf
        go_wp2
        exact ⟨_, rfl, by simp, Ext.refl _⟩
      · -- 12: t6 := assign t78
        intro ac wx hE hsz hdf h
        have e78 : ac.tmps[78]? = some (.bool true) := by obtain ⟨v, h1, h2⟩ := h 78 (by decide +kernel); rw [h1]; exact congrArg some h2
        clear h hsz hdf
        go_wp2
        exact ⟨_, rfl, rfl, Ext.refl _⟩
      · intro ac w9 hE hsz hdf h hrest
        obtain ⟨v0, s0, g0⟩ := h 0 _ rfl
        have e0 := g0 67 rfl
        obtain rfl : v0 = .slice A5 nw c5 := s0
        obtain ⟨v1, s1, g1⟩ := h 1 _ rfl
        have e1 := g1 68 rfl
        obtain rfl : v1 = .slice A6 mw c6 := s1
        obtain ⟨v2, s2, g2⟩ := h 2 _ rfl
        have e2 := g2 69 rfl
        obtain rfl : v2 = .bool true := s2
        obtain ⟨v3, s3, g3⟩ := h 3 _ rfl
        have e3 := g3 70 rfl
        obtain rfl : v3 = .bool true := s3
        obtain ⟨v4, s4, g4⟩ := h 4 _ rfl
        have e4 := g4 71 rfl
        obtain rfl : v4 = .agg #[.int .i64 k, .int .i64 m, .bool z, .int .u64 (wd s 0 : Nat), .int .u64 (wd s 1 : Nat), .int .u64 (wd s 2 : Nat), .int .u64 (wd s 3 : Nat), .slice A n c] := s4
        obtain ⟨v5, s5, g5⟩ := h 5 _ rfl
        have e5 := g5 72 rfl
        obtain rfl : v5 = .string ⟨l.toArray⟩ := s5
        obtain ⟨v6, s6, g6⟩ := h 6 _ rfl
        have e6 := g6 73 rfl
        obtain rfl : v6 = .bool q := s6
        obtain ⟨v7, s7, g7⟩ := h 7 _ rfl
        have e7 := g7 74 rfl
        obtain rfl : v7 = .agg (dnC kx mx zx px Bx nx cx).toArray := s7
        obtain ⟨v8, s8, g8⟩ := h 8 _ rfl
        have e8 := g8 75 rfl
        obtain rfl : v8 = .string ⟨l.toArray⟩ := s8
        obtain ⟨v9, s9, g9⟩ := h 9 _ rfl
        have e9 := g9 76 rfl
        obtain rfl : v9 = .bool q := s9
        obtain ⟨v10, s10, g10⟩ := h 10 _ rfl
        have e10 := g10 77 rfl
        obtain rfl : v10 = .bool true := s10
        obtain ⟨v11, s11, g11⟩ := h 11 _ rfl
        have e11 := g11 78 rfl
        obtain rfl : v11 = .bool true := s11
        obtain ⟨v12, s12, g12⟩ := h 12 _ rfl
        have e12 := g12 6 rfl
        obtain rfl : v12 = .bool true := s12
        have ha := act_of [(67, .slice A5 nw c5), (68, .slice A6 mw c6), (69, .bool true), (70, .bool true), (71, .agg #[.int .i64 k, .int .i64 m, .bool z, .int .u64 (wd s 0 : Nat), .int .u64 (wd s 1 : Nat), .int .u64 (wd s 2 : Nat), .int .u64 (wd s 3 : Nat), .slice A n c]), (72, .string ⟨l.toArray⟩), (73, .bool q), (74, .agg (dnC kx mx zx px Bx nx cx).toArray), (75, .string ⟨l.toArray⟩), (76, .bool q), (77, .bool true), (78, .bool true), (6, .bool true)] rfl hsz hdf (by intro p hp; simp only [List.mem_cons, List.not_mem_nil, or_false] at hp; rcases hp with rfl | rfl | rfl | rfl | rfl | rfl | rfl | rfl | rfl | rfl | rfl | rfl | rfl <;> first | exact e0 | exact e1 | exact e2 | exact e3 | exact e4 | exact e5 | exact e6 | exact e7 | exact e8 | exact e9 | exact e10 | exact e11 | exact e12) hrest
        clear h hrest hsz hdf e0 e1 e2 e3 e4 e5 e6 e7 e8 e9 e10 e11 e12 g0 g1 g2 g3 g4 g5 g6 g7 g8 g9 g10 g11 g12
        subst ha
        simp only [List.foldl_cons, List.foldl_nil, Act.put, List.setIfInBounds_toArray, List.set_cons_succ, List.set_cons_zero]
        have HXX := Lib.hid (Ext.trans HX15.out hE)
        go_wp2
        go_ret
        exact ⟨rfl, HXX.out⟩
end Go.Proofs.YtnkhiohopcadmaaDoor
