/- How far a tree goes: the step of places. -/
import Derived.Test.YtmfdnjddggaeaaaDoorMn5
namespace Go.Proofs.YtmfdnjddggaeaaaDoor
open Go Go.RowKit
attribute [local irreducible] wd

theorem byteL_step {l : List UInt8} {s : Nat → Bool} {p : List Bool} {i : Nat} {b : Bool} {c : UInt8} (h : p.length = l.length + 1) (hb : p[i]? = some b) (hc : l[i]? = some c) :
    ((byteL l s p).take (i + 1) ++ List.replicate (l.length - i) false).set (i + 1) (b && s c.toNat) = (byteL l s p).take (i + 2) ++ List.replicate (l.length - (i + 1)) false := by
  have hl : i < l.length := (List.getElem?_eq_some_iff.1 hc).1
  have hbl := byteL_len (s := s) h
  have ho : (byteL l s p)[i + 1]? = some (b && s c.toNat) := by
    unfold byteL
    rw [List.getElem?_cons_succ, List.getElem?_zipWith, hb, hc]
  have htl : ((byteL l s p).take (i + 1)).length = i + 1 := by rw [List.length_take]; omega
  have e2 : (byteL l s p).take (i + 2) = (byteL l s p).take (i + 1) ++ [b && s c.toNat] := by rw [List.take_add_one, ho]; rfl
  rw [List.set_append_right _ _ (by omega), htl, Nat.sub_self, show l.length - i = (l.length - (i + 1)) + 1 by omega, List.replicate_succ, List.set_cons_zero, e2]
  simp
theorem byteL_first {l : List UInt8} {s : Nat → Bool} {p : List Bool} : (byteL l s p).take (0 + 1) ++ List.replicate (l.length - 0) false = List.replicate (l.length + 1) false := by
  unfold byteL
  simp [List.replicate_succ]
theorem stepCat_drop {l : List UInt8} {ks : List T} {i : Nat} (hi : i < ks.length) (q : List Bool) : stepCat l (ks.drop i) q = stepCat l (ks.drop (i + 1)) (stepT l (ks[i]'hi) q) := by
  rw [List.drop_eq_getElem_cons hi, stepCat]
theorem stepAlt_drop {l : List UInt8} {ks : List T} {i : Nat} (hi : i < ks.length) (p acc : List Bool) : stepAlt l (ks.drop i) p acc = stepAlt l (ks.drop (i + 1)) p (orL acc (stepT l (ks[i]'hi) p)) := by
  rw [List.drop_eq_getElem_cons hi, stepAlt]
theorem stepHead_get {l : List UInt8} {ks : List T} (h : 0 < ks.length) : stepHead l ks = stepT l (ks[0]'h) := by
  cases ks with
  | nil => simp at h
  | cons x r => rfl
theorem goodL_get {ks : List T} (h : goodL ks) {i : Nat} (hi : i < ks.length) : (ks[i]'hi).good := goodL_mem h (List.getElem_mem hi)

set_option maxHeartbeats 8000000 in
set_option maxRecDepth 20000 in
theorem mnStep (l : List UInt8) (hn : l.length ≤ 1000000) : ∀ n, ∀ t : T, t.size ≤ n → t.good → StepAt l t := by
  intro n
  induction n with
  | zero => intro t ht; have := size_pos t; omega
  | succ n ih =>
    intro t ht hgood S w v u p h hu hp
    cases t with
    | node k m z s ks =>
      unfold NodeV at h
      obtain ⟨A, c, cs, rfl, h1, h2, h3, h4, h5⟩ := h
      rw [size_node] at ht
      unfold T.good at hgood
      obtain ⟨hk1, hk8, hk5, hgl⟩ := hgood
      have hks : ∀ i (hi : i < ks.length), (ks[i]'hi).size ≤ n := fun i hi => by have := sizeL_mem (List.getElem_mem hi); omega
      have HIH := Lib.hid (show ∀ i (hi : i < ks.length), StepAt l (ks[i]'hi) from fun i hi => ih _ (hks i hi) (goodL_get hgl hi))
      obtain ⟨A0, c0, rfl, hc1, hc2, hur⟩ := hu
      rw [hp] at hc1 hur ⊢
      have hx0 := Lib.hid (Ext.new1 w (.cells (nodeC k m z s A ks.length c).toArray 27))
      have HB := Lib.hid (Blk.new w 27 (nodeC k m z s A ks.length c).toArray)
      have HR := Lib.hid (h3.keep hx0.out)
      have HK := Lib.hid (kidsV_map (fun t v h => NodeV.keep h hx0.out) h5)
      have HU := Lib.hid (hur.keep hx0.out)
      have HU9 := Lib.hid (show PlV _ (.slice A0 (l.length + 1) c0) p from ⟨A0, c0, by rw [hp], by rw [hp]; exact hc1, hc2, by rw [hp]; exact hur.keep hx0.out⟩)
      have HUB := Lib.hid hur
      have HP := Lib.hid hp
      have HN := Lib.hid hn
      have HC := Lib.hid hc1
      have HLN := Lib.hid (show ks.length ≤ 9223372036854775807 by unfold maxLen at h2; omega)
      have HK5 := Lib.hid hk5
      have hlc : (l.length : Int) ≤ (c0 : Int) := by omega
      clear h1 h2 h3 h4 h5 ht hgl hks hp hc1 hc2 hur ih hk5
      unfold nodeC at hx0 HB HR HK HU HU9 ⊢
      by_cases k2 : k = 2
      · subst k2
        have hst : stepT l (.node 2 m z s ks) p = byteL l s p := by simp [stepT]
        rw [hst]
        clear hst hk1 hk8
        go_enter Tryd.func76, Tryd.ntmps76
        obtain ⟨gA, hg0⟩ : ∃ gA, w.heap.size = gA := ⟨_, rfl⟩
        rw [hg0] at HB
        go_upto_region 1 with fail
        try rw [hg0]
        generalize w.alloc (.cells #[.int .i64 2, .int .i64 m, .bool z, .int .u64 (wd s 0 : Nat), .int .u64 (wd s 1 : Nat), .int .u64 (wd s 2 : Nat), .int .u64 (wd s 3 : Nat), .slice A ks.length c] 27) = w0 at *
        have HB := Lib.hid (show NodeB w0 gA 2 m z s A ks.length c from HB.out)
        have HG0 := Lib.hid hg0
        clear hg0
        go_upto_region 3 with (at_make; refine wpList_mk1 Tryd.elemPl rfl rfl (.tmp 15) (.tmp 15) rfl (n := l.length + 1) (cap := l.length + 1) rfl rfl (by omega) (by omega) (Nat.le_refl _) (by have := HN.out; omega) (by have := HN.out; unfold maxLen; omega) ?_; intro w1 hBN hbN; obtain ⟨q0, q1, q2, q3, q4, q5, q6, q7⟩ := (HB.out.keep hbN).cells)
        obtain ⟨gN, hgN⟩ : ∃ gN, w0.heap.size = gN := ⟨_, rfl⟩
        rw [hgN] at hBN
        try rw [hgN]
        have HGN := Lib.hid (show gA < gN by have := HB.out.lt; omega)
        have HG1 := Lib.hid (show w.heap.size ≤ gN by have := HG0.out; have := HGN.out; omega)
        have HBN := Lib.hid hBN
        have hbN' : Ext w0 w1 := hbN
        have HB1 := Lib.hid (HB.out.keep hbN')
        have HR1 := Lib.hid (HR.out.keep hbN')
        have HK1 := Lib.hid (kidsV_map (fun t v h => NodeV.keep h hbN') HK.out)
        have HU1 := Lib.hid (HU9.out.keep hbN')
        have HX1 := Lib.hid (Ext.trans hx0.out hbN')
        clear hBN hbN hbN' hgN q0 q1 q2 q3 q4 q5 q6 q7 HB HR HK HU HU9 hx0 HG0
        obtain ⟨q0, q1, q2, q3, q4, q5, q6, q7⟩ := HB1.out.cells
        go_upto_region 5 with fail
        clear q0 q1 q2 q3 q4 q5 q6 q7
        go_loopg [26] (l.length) (fun gg iv wr => ∃ i : Nat, i ≤ l.length ∧ gg = l.length - i ∧ iv = .int .i64 (i : Nat) ∧ Blk wr gN 4 (boolsV ((byteL l s p).take (i + 1) ++ List.replicate (l.length - i) false)) ∧ Chg [gN] w1 wr)
        case atStart => exact ⟨0, by omega, rfl, rfl, by rw [byteL_first]; simpa [boolsV] using HBN.out, Chg.refl _ _⟩
        case round =>
          obtain ⟨iq, hi, rfl, rfl, hb, hx⟩ := hrel
          have HXW := Lib.hid hx
          have HXE := Lib.hid (show Ext w wr from hx.below HX1.out HX1.out.size (fun x hx => by simp at hx; subst hx; exact HG1.out))
          by_cases hlt : iq < l.length
          · obtain ⟨b, hbe⟩ : ∃ b, p[iq]? = some b := ⟨_, List.getElem?_eq_getElem (by have := HP.out; omega)⟩
            have hlen : ((byteL l s p).take (iq + 1) ++ List.replicate (l.length - iq) false).length = l.length + 1 := by
              have := byteL_len (s := s) HP.out
              have := HP.out
              rw [List.length_append, List.length_take, List.length_replicate]; omega
            have hstep := byteL_step (s := s) HP.out hbe (List.getElem?_eq_getElem hlt)
            have HIL := Lib.hid (show iq + 1 < (boolsV ((byteL l s p).take (iq + 1) ++ List.replicate (l.length - iq) false)).length by rw [boolsV_len, hlen]; omega)
            have hur := (HUB.out.keep HX1.out).chg hx (fun hp0 b o v e => by
              obtain ⟨b2, o2, e2, hb2, _⟩ := HUB.out.2 (by rw [boolsV_len]; have := HP.out; omega)
              rw [e2] at e
              simp at e
              have := HG1.out
              simp; omega)
            obtain ⟨b2, o2, rfl, _, hc2⟩ := hur.2 (by rw [boolsV_len]; have := HP.out; omega)
            have p2 : wr.cell? ⟨b2, o2 + iq, none⟩ = some (.bool b) := hc2 iq _ (by simp [boolsV, hbe])
            have HGX := Lib.hid (show gA ∉ [gN] by simp; have := HGN.out; omega)
            have HBW := Lib.hid (HB1.out.chg hx HGX.out)
            have HBK := Lib.hid hb
            have hw1 : IntKind.i64.wrap ((iq : Int) + 1) = (iq : Int) + 1 := wrap_id (by omega) (by have := HN.out; omega)
            have hlt' : (iq : Int) < (l.length : Int) := by omega
            have hlt2 : (iq : Int) + 1 < (l.length : Int) + 1 := by omega
            clear hb hx hur hc2 hbe hlen
            cases b
            focus
              simp only [Bool.false_and] at hstep
              have HSTEP := Lib.hid hstep
              clear hstep
              obtain ⟨x0, c0x⟩ := HBK.out.some_ (i := iq + 1) HIL.out
              have f0 := HBK.out.frozen (iq + 1)
              go_upto_region 7 with fail
              go_region
              go_wp2
              go_roundg (l.length - (iq + 1))
              case measure => omega
              case rel =>
                have hs0 := (HBK.out.set_ (iq + 1) (.bool false))
                rw [boolsV_set, HSTEP.out] at hs0
                exact ⟨iq + 1, by omega, rfl, by go_num, hs0, (HXW.out.setCell (p := ⟨gN, iq + 1, none⟩) (by simp) _).drew⟩
            focus
              simp only [Bool.true_and] at hstep
              have HSTEP := Lib.hid hstep
              clear hstep
              go_upto_region 7 with fail
              refine wp_region_dagS (E := Chg [gN]) (F := Ext) (z := 13) (late := []) (w0 := wr) (Φ := fun i v w => match i with | 0 => (v = .slice (some ⟨gN, 0, none⟩) (l.length + 1) (l.length + 1)) | 1 => (v = .int .i64 (iq : Nat)) | 2 => (v = .int .i64 ((iq : Int) + 1)) | 3 => (v = .bool true) | 4 => (v = .bool true) | 5 => (v = .pointer (some ⟨gA, 3, none⟩)) | 6 => (v = sp s) | 7 => (v = .string ⟨l.toArray⟩) | 8 => (v = .int .i64 (iq : Nat)) | 9 => (v = .int .u8 ((l[iq]'hlt).toNat : Nat)) | 10 => (v = .bool (s (l[iq]'hlt).toNat)) | 11 => (v = .bool (s (l[iq]'hlt).toNat)) | 12 => (v = .pointer (some ⟨gN, iq + 1, none⟩)) | 13 => (Blk w gN 4 (boolsV ((byteL l s p).take (iq + 2) ++ List.replicate (l.length - (iq + 1)) false))) | _ => True) (show Tryd.prog.follows .mixedOrders = true from Checked.mixed Tryd.checked) 123 rfl (by decide +kernel) (by decide +kernel) ?_ (by decide +kernel) ?_ ((Below.refl _ _).drew) ((Chg.refl _ _).drew) ?_ ?_ ?_ ⟨?_, ?_, ?_, ?_, ?_, ?_, ?_, ?_, ?_, ?_, ?_, ?_, ?_, ?_, trivial⟩ ?_
              · intro i v w w' h hE
                match i, h with
                | 0, h => exact h
                | 1, h => exact h
                | 2, h => exact h
                | 3, h => exact h
                | 4, h => exact h
                | 5, h => exact h
                | 6, h => exact h
                | 7, h => exact h
                | 8, h => exact h
                | 9, h => exact h
                | 10, h => exact h
                | 11, h => exact h
                | 12, h => exact h
                | 13, h => exact h.keep hE
                | _ + 14, _ => trivial
              · intro i v w w' hiz hla h hE
                match i, hiz, hla, h with
                | 0, _, _, h => exact h
                | 1, _, _, h => exact h
                | 2, _, _, h => exact h
                | 3, _, _, h => exact h
                | 4, _, _, h => exact h
                | 5, _, _, h => exact h
                | 6, _, _, h => exact h
                | 7, _, _, h => exact h
                | 8, _, _, h => exact h
                | 9, _, _, h => exact h
                | 10, _, _, h => exact h
                | 11, _, _, h => exact h
                | 12, _, _, h => exact h
                | 13, hiz, _, _ => exact absurd rfl hiz
                | _ + 14, _, _, _ => trivial
              · exact fun w w' h h' => h.trans (.of_ext h')
              · exact fun w w' h h' => h.trans h'
              · exact fun w w' h h' => (Chg.of_ext h).trans h'
              · -- 0: t31 := move t7
                intro ac wx hE hF hsz hdf h
                have e7 : ac.tmps[7]? = some (.slice (some ⟨gN, 0, none⟩) (l.length + 1) (l.length + 1)) := by obtain ⟨v, h1, h2⟩ := h 7 (by decide +kernel); exact h1.trans (h2.symm.trans rfl)
                clear h hsz hdf
                go_wp2
                exact ⟨_, rfl, rfl, Ext.refl _⟩
              · -- 1: t32 := move t8
                intro ac wx hE hF hsz hdf h
                have e8 : ac.tmps[8]? = some (.int .i64 (iq : Nat)) := by obtain ⟨v, h1, h2⟩ := h 8 (by decide +kernel); exact h1.trans (h2.symm.trans rfl)
                clear h hsz hdf
                go_wp2
                exact ⟨_, rfl, rfl, Ext.refl _⟩
              · -- 2: t33 := binOp BinOp.add 3 t32 (const (1:i64)) 3
                intro ac wx hE hF hsz hdf h
                have e32 : ac.tmps[32]? = some (.int .i64 (iq : Nat)) := by obtain ⟨v, h1, h2⟩ := h 32 (by decide +kernel); rw [h1]; exact congrArg some h2
                clear h hsz hdf
                go_wp2
                exact ⟨_, rfl, rfl, Ext.refl _⟩
              · -- 3: t34 := move t9
                intro ac wx hE hF hsz hdf h
                have e9 : ac.tmps[9]? = some (.bool true) := by obtain ⟨v, h1, h2⟩ := h 9 (by decide +kernel); exact h1.trans (h2.symm.trans rfl)
                clear h hsz hdf
                go_wp2
                exact ⟨_, rfl, rfl, Ext.refl _⟩
              · -- 4: t35 := move t34
                intro ac wx hE hF hsz hdf h
                have e34 : ac.tmps[34]? = some (.bool true) := by obtain ⟨v, h1, h2⟩ := h 34 (by decide +kernel); rw [h1]; exact congrArg some h2
                clear h hsz hdf
                go_wp2
                exact ⟨_, rfl, rfl, Ext.refl _⟩
              · -- 5: t36 := fieldAddr 27 t3 3 (4, True)
                intro ac wx hE hF hsz hdf h
                have e3 : ac.tmps[3]? = some (.pointer (some ⟨gA, 0, none⟩)) := by obtain ⟨v, h1, h2⟩ := h 3 (by decide +kernel); exact h1.trans (h2.symm.trans rfl)
                have e35 : ac.tmps[35]? = some (.bool true) := by obtain ⟨v, h1, h2⟩ := h 35 (by decide +kernel); rw [h1]; exact congrArg some h2
                clear h hsz hdf
                go_wp2
                exact ⟨_, rfl, rfl, Ext.refl _⟩
              · -- 6: t37 := load 24 t36 (4, True)
                intro ac wx hE hF hsz hdf h
                have e36 : ac.tmps[36]? = some (.pointer (some ⟨gA, 3, none⟩)) := by obtain ⟨v, h1, h2⟩ := h 36 (by decide +kernel); rw [h1]; exact congrArg some h2
                have e35 : ac.tmps[35]? = some (.bool true) := by obtain ⟨v, h1, h2⟩ := h 35 (by decide +kernel); rw [h1]; exact congrArg some h2
                clear h hsz hdf
                obtain ⟨y0, y1, y2, y3, y4, y5, y6, y7⟩ := (HBW.out.chg hE HGX.out).cells
                go_wp2
                exact ⟨_, rfl, rfl, Ext.refl _⟩
              · -- 7: t38 := move t1 (4, True)
                intro ac wx hE hF hsz hdf h
                have e1 : ac.tmps[1]? = some (.string ⟨l.toArray⟩) := by obtain ⟨v, h1, h2⟩ := h 1 (by decide +kernel); exact h1.trans (h2.symm.trans rfl)
                have e35 : ac.tmps[35]? = some (.bool true) := by obtain ⟨v, h1, h2⟩ := h 35 (by decide +kernel); rw [h1]; exact congrArg some h2
                clear h hsz hdf
                go_wp2
                exact ⟨_, rfl, rfl, Ext.refl _⟩
              · -- 8: t39 := move t8 (4, True)
                intro ac wx hE hF hsz hdf h
                have e8 : ac.tmps[8]? = some (.int .i64 (iq : Nat)) := by obtain ⟨v, h1, h2⟩ := h 8 (by decide +kernel); exact h1.trans (h2.symm.trans rfl)
                have e35 : ac.tmps[35]? = some (.bool true) := by obtain ⟨v, h1, h2⟩ := h 35 (by decide +kernel); rw [h1]; exact congrArg some h2
                clear h hsz hdf
                go_wp2
                exact ⟨_, rfl, rfl, Ext.refl _⟩
              · -- 9: t40 := index 9 t38 t39 (4, True)
                intro ac wx hE hF hsz hdf h
                have e38 : ac.tmps[38]? = some (.string ⟨l.toArray⟩) := by obtain ⟨v, h1, h2⟩ := h 38 (by decide +kernel); rw [h1]; exact congrArg some h2
                have e39 : ac.tmps[39]? = some (.int .i64 (iq : Nat)) := by obtain ⟨v, h1, h2⟩ := h 39 (by decide +kernel); rw [h1]; exact congrArg some h2
                have e35 : ac.tmps[35]? = some (.bool true) := by obtain ⟨v, h1, h2⟩ := h 35 (by decide +kernel); rw [h1]; exact congrArg some h2
                clear h hsz hdf
                go_wp2
                exact ⟨_, rfl, rfl, Ext.refl _⟩
              · -- 10: t41 := call { value (Operand.func 78), args := #[t37, t40], argTypes := #[24, 5] } (4, True)
                intro ac wx hE hF hsz hdf h
                have e37 : ac.tmps[37]? = some (sp s) := by obtain ⟨v, h1, h2⟩ := h 37 (by decide +kernel); rw [h1]; exact congrArg some h2
                have e40 : ac.tmps[40]? = some (.int .u8 ((l[iq]'hlt).toNat : Nat)) := by obtain ⟨v, h1, h2⟩ := h 40 (by decide +kernel); rw [h1]; exact congrArg some h2
                have e35 : ac.tmps[35]? = some (.bool true) := by obtain ⟨v, h1, h2⟩ := h 35 (by decide +kernel); rw [h1]; exact congrArg some h2
                clear h hsz hdf
                go_wp2_with ((go_at_call 26; refine (setHas s (l[iq]'hlt).toNat (UInt8.toNat_lt _) _).mono ?_; rintro e w9 ⟨rfl, hb9⟩))
                exact ⟨_, rfl, rfl, hb9⟩
              · -- 11: t42 := pick t35 t41 (const (Value.bool false))
                intro ac wx hE hF hsz hdf h
                have e35 : ac.tmps[35]? = some (.bool true) := by obtain ⟨v, h1, h2⟩ := h 35 (by decide +kernel); rw [h1]; exact congrArg some h2
                have e41 : ac.tmps[41]? = some (.bool (s (l[iq]'hlt).toNat)) := by obtain ⟨v, h1, h2⟩ := h 41 (by decide +kernel); rw [h1]; exact congrArg some h2
                clear h hsz hdf
                go_wp2
                exact ⟨_, rfl, by simp, Ext.refl _⟩
              · -- 12: t43 := indexAddr 95 t31 t33
                intro ac wx hE hF hsz hdf h
                have e31 : ac.tmps[31]? = some (.slice (some ⟨gN, 0, none⟩) (l.length + 1) (l.length + 1)) := by obtain ⟨v, h1, h2⟩ := h 31 (by decide +kernel); rw [h1]; exact congrArg some h2
                have e33 : ac.tmps[33]? = some (.int .i64 ((iq : Int) + 1)) := by obtain ⟨v, h1, h2⟩ := h 33 (by decide +kernel); rw [h1]; exact congrArg some h2
                clear h hsz hdf
                have hidx : (iq : Int) + 1 < (l.length : Int) + 1 := by omega
                go_wp2
                exact ⟨_, rfl, rfl, Ext.refl _⟩
              · -- 13: tNone := store 4 t43 t42
                intro ac wx hE hF hsz hdf h
                have e43 : ac.tmps[43]? = some (.pointer (some ⟨gN, iq + 1, none⟩)) := by obtain ⟨v, h1, h2⟩ := h 43 (by decide +kernel); rw [h1]; exact congrArg some h2
                have e42 : ac.tmps[42]? = some (.bool (s (l[iq]'hlt).toNat)) := by obtain ⟨v, h1, h2⟩ := h 42 (by decide +kernel); rw [h1]; exact congrArg some h2
                clear h hsz hdf
                have hbx := HBK.out.keep (hF (.inl rfl)); obtain ⟨x0, c0x⟩ := hbx.some_ (i := iq + 1) HIL.out; have f0 := hbx.frozen (iq + 1); have hs0 := hbx.set_ (iq + 1) (.bool (s (l[iq]'hlt).toNat)); rw [boolsV_set, HSTEP.out] at hs0; have HS0 := Lib.hid hs0; clear hs0 hbx
                go_wp2
                exact ⟨HS0.out, (Chg.refl _ _).setCell (p := ⟨gN, iq + 1, none⟩) (by simp) _⟩
              · intro ac w9 hE hsz hdf h hrest
                obtain ⟨v0, s0, g0⟩ := h 0 _ rfl
                have e0 := g0 31 rfl
                obtain rfl : v0 = .slice (some ⟨gN, 0, none⟩) (l.length + 1) (l.length + 1) := s0
                obtain ⟨v1, s1, g1⟩ := h 1 _ rfl
                have e1 := g1 32 rfl
                obtain rfl : v1 = .int .i64 (iq : Nat) := s1
                obtain ⟨v2, s2, g2⟩ := h 2 _ rfl
                have e2 := g2 33 rfl
                obtain rfl : v2 = .int .i64 ((iq : Int) + 1) := s2
                obtain ⟨v3, s3, g3⟩ := h 3 _ rfl
                have e3 := g3 34 rfl
                obtain rfl : v3 = .bool true := s3
                obtain ⟨v4, s4, g4⟩ := h 4 _ rfl
                have e4 := g4 35 rfl
                obtain rfl : v4 = .bool true := s4
                obtain ⟨v5, s5, g5⟩ := h 5 _ rfl
                have e5 := g5 36 rfl
                obtain rfl : v5 = .pointer (some ⟨gA, 3, none⟩) := s5
                obtain ⟨v6, s6, g6⟩ := h 6 _ rfl
                have e6 := g6 37 rfl
                obtain rfl : v6 = sp s := s6
                obtain ⟨v7, s7, g7⟩ := h 7 _ rfl
                have e7 := g7 38 rfl
                obtain rfl : v7 = .string ⟨l.toArray⟩ := s7
                obtain ⟨v8, s8, g8⟩ := h 8 _ rfl
                have e8 := g8 39 rfl
                obtain rfl : v8 = .int .i64 (iq : Nat) := s8
                obtain ⟨v9, s9, g9⟩ := h 9 _ rfl
                have e9 := g9 40 rfl
                obtain rfl : v9 = .int .u8 ((l[iq]'hlt).toNat : Nat) := s9
                obtain ⟨v10, s10, g10⟩ := h 10 _ rfl
                have e10 := g10 41 rfl
                obtain rfl : v10 = .bool (s (l[iq]'hlt).toNat) := s10
                obtain ⟨v11, s11, g11⟩ := h 11 _ rfl
                have e11 := g11 42 rfl
                obtain rfl : v11 = .bool (s (l[iq]'hlt).toNat) := s11
                obtain ⟨v12, s12, g12⟩ := h 12 _ rfl
                have e12 := g12 43 rfl
                obtain rfl : v12 = .pointer (some ⟨gN, iq + 1, none⟩) := s12
                obtain ⟨v13, s13, -⟩ := h 13 _ rfl
                replace s13 : Blk w9 gN 4 (boolsV ((byteL l s p).take (iq + 2) ++ List.replicate (l.length - (iq + 1)) false)) := s13
                have ha := act_of [(31, .slice (some ⟨gN, 0, none⟩) (l.length + 1) (l.length + 1)), (32, .int .i64 (iq : Nat)), (33, .int .i64 ((iq : Int) + 1)), (34, .bool true), (35, .bool true), (36, .pointer (some ⟨gA, 3, none⟩)), (37, sp s), (38, .string ⟨l.toArray⟩), (39, .int .i64 (iq : Nat)), (40, .int .u8 ((l[iq]'hlt).toNat : Nat)), (41, .bool (s (l[iq]'hlt).toNat)), (42, .bool (s (l[iq]'hlt).toNat)), (43, .pointer (some ⟨gN, iq + 1, none⟩))] rfl hsz hdf (by intro p hp; simp only [List.mem_cons, List.not_mem_nil, or_false] at hp; rcases hp with rfl | rfl | rfl | rfl | rfl | rfl | rfl | rfl | rfl | rfl | rfl | rfl | rfl <;> first | exact e0 | exact e1 | exact e2 | exact e3 | exact e4 | exact e5 | exact e6 | exact e7 | exact e8 | exact e9 | exact e10 | exact e11 | exact e12) hrest
                clear h hrest hsz hdf e0 e1 e2 e3 e4 e5 e6 e7 e8 e9 e10 e11 e12 g0 g1 g2 g3 g4 g5 g6 g7 g8 g9 g10 g11 g12
                subst ha
                simp only [List.foldl_cons, List.foldl_nil, Act.put, List.setIfInBounds_toArray, List.set_cons_succ, List.set_cons_zero]
                have HS13 := Lib.hid s13
                go_wp2
                go_roundg (l.length - (iq + 1))
                case measure => omega
                case rel => exact ⟨iq + 1, by omega, rfl, by go_num, HS13.out, HXW.out.trans hE⟩
          · obtain rfl : iq = l.length := by omega
            have hlt' : ¬ (l.length : Int) < (l.length : Int) := by omega
            have hbl := byteL_len (s := s) HP.out
            have hres : PlV wr (.slice (some ⟨gN, 0, none⟩) (byteL l s p).length (l.length + 1)) (byteL l s p) := by
              rw [Nat.sub_self, List.replicate_zero, List.append_nil, List.take_of_length_le (by have := HP.out; omega)] at hb
              refine plv_blk (rest := []) (by rw [List.append_nil]; exact hb) (by have := HP.out; omega) (by have := HN.out; unfold maxLen; omega)
            rw [hbl, HP.out] at hres
            have HRES := Lib.hid hres
            clear hb hres hbl
            go_wp2
            go_ret
            exact ⟨_, rfl, HRES.out, HXE.out⟩
      by_cases k3 : k = 3
      · subst k3
        obtain ⟨R, hR⟩ : ∃ R, stepCat l ks p = R := ⟨_, rfl⟩
        have hst : stepT l (.node 3 m z s ks) p = R := by rw [← hR]; simp [stepT]
        rw [hst]
        have HRR := Lib.hid hR
        clear hst hk1 hk8 hR
        go_enter Tryd.func76, Tryd.ntmps76
        obtain ⟨gA, hg0⟩ : ∃ gA, w.heap.size = gA := ⟨_, rfl⟩
        rw [hg0] at HB
        go_upto_region 1 with fail
        try rw [hg0]
        generalize w.alloc (.cells #[.int .i64 3, .int .i64 m, .bool z, .int .u64 (wd s 0 : Nat), .int .u64 (wd s 1 : Nat), .int .u64 (wd s 2 : Nat), .int .u64 (wd s 3 : Nat), .slice A ks.length c] 27) = w0 at *
        have HB := Lib.hid (show NodeB w0 gA 3 m z s A ks.length c from HB.out)
        have HG0 := Lib.hid hg0
        clear hg0
        go_upto_region 3 with (at_make; refine wpList_mk1 Tryd.elemPl rfl rfl (.tmp 15) (.tmp 15) rfl (n := l.length + 1) (cap := l.length + 1) rfl rfl (by omega) (by omega) (Nat.le_refl _) (by have := HN.out; omega) (by have := HN.out; unfold maxLen; omega) ?_; intro w1 hBN hbN; obtain ⟨q0, q1, q2, q3, q4, q5, q6, q7⟩ := (HB.out.keep hbN).cells)
        obtain ⟨gN, hgN⟩ : ∃ gN, w0.heap.size = gN := ⟨_, rfl⟩
        rw [hgN] at hBN
        try rw [hgN]
        have HGN := Lib.hid (show gA < gN by have := HB.out.lt; omega)
        have HG1 := Lib.hid (show w.heap.size ≤ gN by have := HG0.out; have := HGN.out; omega)
        have HBN := Lib.hid hBN
        have hbN' : Ext w0 w1 := hbN
        have HB1 := Lib.hid (HB.out.keep hbN')
        have HR1 := Lib.hid (HR.out.keep hbN')
        have HK1 := Lib.hid (kidsV_map (fun t v h => NodeV.keep h hbN') HK.out)
        have HU1 := Lib.hid (HU9.out.keep hbN')
        have HX1 := Lib.hid (Ext.trans hx0.out hbN')
        clear hBN hbN hbN' hgN q0 q1 q2 q3 q4 q5 q6 q7 HB HR HK HU HU9 hx0 HG0
        obtain ⟨q0, q1, q2, q3, q4, q5, q6, q7⟩ := HB1.out.cells
        go_upto_region 12 with fail
        clear q0 q1 q2 q3 q4 q5 q6 q7
        go_loopg [2, 51] ks.length (fun gg fv iv wr => ∃ (i : Nat) (q : List Bool) (Aq : Option Addr) (cq : Nat), i ≤ ks.length ∧ gg = ks.length - i ∧ fv = .slice Aq (l.length + 1) cq ∧ iv = .int .i64 (i : Nat) ∧ PlV wr (.slice Aq (l.length + 1) cq) q ∧ q.length = l.length + 1 ∧ stepCat l (ks.drop i) q = R ∧ Ext w1 wr)
        case atStart => exact ⟨0, p, A0, c0, by omega, rfl, rfl, rfl, HU1.out, HP.out, by rw [List.drop_zero]; exact HRR.out, Ext.refl _⟩
        case round =>
          obtain ⟨i, q, Aq, cq, hi, rfl, rfl, rfl, hq, hql, hqr, hx⟩ := hrel
          by_cases hlt : i < ks.length
          · obtain ⟨b, o, k', m', z', p', B, n', c', rfl, hv, hk⟩ := kid_at HR1.out HK1.out hlt
            obtain ⟨x0, x1, x2, x3, x4, x5, x6, x7⟩ := hk.out wr hx
            have hlt' : (i : Int) < (ks.length : Int) := by omega
            have hw2 : IntKind.i64.wrap ((i : Int) + 1) = (i : Int) + 1 := wrap_id (by omega) (by have := HLN.out; omega)
            have hxn := Ext.new1 wr (.cells (nodeC k' m' z' p' B n' c').toArray 27)
            have HV := Lib.hid ((hv.keep hx).keep hxn)
            have HX := Lib.hid (Ext.trans hx hxn)
            have HQ := Lib.hid (hq.keep hxn)
            have HQL := Lib.hid hql
            have HQR := Lib.hid (show stepCat l (ks.drop (i + 1)) (stepT l (ks[i]'hlt) q) = R by rw [← stepCat_drop hlt]; exact hqr)
            have HS := Lib.hid (HIH.out i hlt)
            have HSL := Lib.hid ((stepT_sem l (ks[i]'hlt) q hql).1)
            clear hv hk hq hql hqr hx hxn
            go_wp2_with (go_at_call 76; refine (HS.out S _ (nodeC k' m' z' p' B n' c') (.slice Aq (l.length + 1) cq) q HV.out HQ.out HQL.out).mono ?_; rintro e w2 ⟨r2, rfl, hp2, hx2⟩; obtain ⟨A2, c2, rfl, -, -, -⟩ := id hp2; rw [HSL.out] at hp2 ⊢)
            go_roundg (ks.length - (i + 1))
            case measure => omega
            case rel => exact ⟨i + 1, stepT l (ks[i]'hlt) q, A2, c2, by omega, rfl, rfl, by go_num, hp2, HSL.out, HQR.out, Ext.trans HX.out hx2⟩
          · obtain rfl : i = ks.length := by omega
            have hlt' : ¬ (ks.length : Int) < (ks.length : Int) := by omega
            rw [List.drop_length, stepCat] at hqr
            subst hqr
            have HQ := Lib.hid hq
            have HX := Lib.hid (Ext.trans HX1.out hx)
            clear hq hql hx
            go_wp2
            go_ret
            exact ⟨_, rfl, HQ.out, HX.out⟩
      by_cases k4 : k = 4
      · subst k4
        obtain ⟨R, hR⟩ : ∃ R, stepAlt l ks p (List.replicate p.length false) = R := ⟨_, rfl⟩
        have hst : stepT l (.node 4 m z s ks) p = R := by rw [← hR]; simp [stepT]
        rw [hst]
        have HRR := Lib.hid hR
        clear hst hk1 hk8 hR
        go_enter Tryd.func76, Tryd.ntmps76
        obtain ⟨gA, hg0⟩ : ∃ gA, w.heap.size = gA := ⟨_, rfl⟩
        rw [hg0] at HB
        go_upto_region 1 with fail
        try rw [hg0]
        generalize w.alloc (.cells #[.int .i64 4, .int .i64 m, .bool z, .int .u64 (wd s 0 : Nat), .int .u64 (wd s 1 : Nat), .int .u64 (wd s 2 : Nat), .int .u64 (wd s 3 : Nat), .slice A ks.length c] 27) = w0 at *
        have HB := Lib.hid (show NodeB w0 gA 4 m z s A ks.length c from HB.out)
        have HG0 := Lib.hid hg0
        clear hg0
        go_upto_region 3 with (at_make; refine wpList_mk1 Tryd.elemPl rfl rfl (.tmp 15) (.tmp 15) rfl (n := l.length + 1) (cap := l.length + 1) rfl rfl (by omega) (by omega) (Nat.le_refl _) (by have := HN.out; omega) (by have := HN.out; unfold maxLen; omega) ?_; intro w1 hBN hbN; obtain ⟨q0, q1, q2, q3, q4, q5, q6, q7⟩ := (HB.out.keep hbN).cells)
        obtain ⟨gN, hgN⟩ : ∃ gN, w0.heap.size = gN := ⟨_, rfl⟩
        rw [hgN] at hBN
        try rw [hgN]
        have HGN := Lib.hid (show gA < gN by have := HB.out.lt; omega)
        have HG1 := Lib.hid (show w.heap.size ≤ gN by have := HG0.out; have := HGN.out; omega)
        have HBN := Lib.hid hBN
        have hbN' : Ext w0 w1 := hbN
        have HB1 := Lib.hid (HB.out.keep hbN')
        have HR1 := Lib.hid (HR.out.keep hbN')
        have HK1 := Lib.hid (kidsV_map (fun t v h => NodeV.keep h hbN') HK.out)
        have HU1 := Lib.hid (HU9.out.keep hbN')
        have HX1 := Lib.hid (Ext.trans hx0.out hbN')
        clear hBN hbN hbN' hgN q0 q1 q2 q3 q4 q5 q6 q7 HB HR HK HU HU9 hx0 HG0
        obtain ⟨q0, q1, q2, q3, q4, q5, q6, q7⟩ := HB1.out.cells
        have HNN := Lib.hid (show PlV w1 (.slice (some ⟨gN, 0, none⟩) (l.length + 1) (l.length + 1)) (List.replicate p.length false) by
          have h : Blk w1 gN 4 (boolsV (List.replicate (l.length + 1) false) ++ []) := by simpa [boolsV] using HBN.out
          have h2 := plv_blk (c := l.length + 1) h (by simp) (by have := HN.out; unfold maxLen; omega)
          rw [HP.out]
          simpa using h2)
        go_upto_region 19 with fail
        clear q0 q1 q2 q3 q4 q5 q6 q7
        go_loopg [7, 66] ks.length (fun gg fv iv wr => ∃ (i : Nat) (q : List Bool) (Aq : Option Addr) (cq : Nat), i ≤ ks.length ∧ gg = ks.length - i ∧ fv = .slice Aq (l.length + 1) cq ∧ iv = .int .i64 (i : Nat) ∧ PlV wr (.slice Aq (l.length + 1) cq) q ∧ q.length = l.length + 1 ∧ stepAlt l (ks.drop i) p q = R ∧ Ext w1 wr)
        case atStart => exact ⟨0, List.replicate p.length false, some ⟨gN, 0, none⟩, l.length + 1, by omega, rfl, rfl, rfl, HNN.out, by rw [List.length_replicate]; exact HP.out, by rw [List.drop_zero]; exact HRR.out, Ext.refl _⟩
        case round =>
          obtain ⟨i, q, Aq, cq, hi, rfl, rfl, rfl, hq, hql, hqr, hx⟩ := hrel
          by_cases hlt : i < ks.length
          · obtain ⟨b, o, k', m', z', p', B, n', c', rfl, hv, hk⟩ := kid_at HR1.out HK1.out hlt
            obtain ⟨x0, x1, x2, x3, x4, x5, x6, x7⟩ := hk.out wr hx
            have hlt' : (i : Int) < (ks.length : Int) := by omega
            have hw2 : IntKind.i64.wrap ((i : Int) + 1) = (i : Int) + 1 := wrap_id (by omega) (by have := HLN.out; omega)
            have hxn := Ext.new1 wr (.cells (nodeC k' m' z' p' B n' c').toArray 27)
            have HV := Lib.hid ((hv.keep hx).keep hxn)
            have HX := Lib.hid (Ext.trans hx hxn)
            have HQ := Lib.hid (hq.keep hxn)
            have HUP := Lib.hid (HU1.out.keep (Ext.trans hx hxn))
            have HQL := Lib.hid hql
            have HQR := Lib.hid (show stepAlt l (ks.drop (i + 1)) p (orL q (stepT l (ks[i]'hlt) p)) = R by rw [← stepAlt_drop hlt]; exact hqr)
            have HS := Lib.hid (HIH.out i hlt)
            have HSL := Lib.hid ((stepT_sem l (ks[i]'hlt) p HP.out).1)
            have HOL := Lib.hid (show (orL q (stepT l (ks[i]'hlt) p)).length = l.length + 1 by rw [orL_len (by rw [hql, HSL.out]), hql])
            clear hv hk hq hql hqr hx hxn
            go_wp2_with (first
              | (have := hx2; go_at_call 90; refine (mnOr q (stepT l (ks[i]'hlt) p) (by rw [HQL.out, HSL.out]) (by rw [HQL.out]; omega) (by rw [HQL.out]; have := HN.out; omega) (.slice Aq (l.length + 1) cq) (.slice A2 (l.length + 1) c2) _ (HQ.out.keep hx2) HP2.out).mono ?_; rintro e w3 ⟨r3, rfl, hp3, hx3⟩; obtain ⟨A3, c3, rfl, -, -, -⟩ := id hp3; rw [HOL.out] at hp3 ⊢)
              | (go_at_call 76; refine (HS.out S _ (nodeC k' m' z' p' B n' c') (.slice A0 (l.length + 1) c0) p HV.out HUP.out HP.out).mono ?_; rintro e w2 ⟨r2, rfl, hp2, hx2⟩; obtain ⟨A2, c2, rfl, -, -, -⟩ := id hp2; rw [HSL.out] at hp2 ⊢; have HP2 := Lib.hid hp2; clear hp2))
            go_roundg (ks.length - (i + 1))
            case measure => omega
            case rel => exact ⟨i + 1, orL q (stepT l (ks[i]'hlt) p), A3, c3, by omega, rfl, rfl, by go_num, hp3, HOL.out, HQR.out, Ext.trans HX.out (Ext.trans hx2 hx3)⟩
          · obtain rfl : i = ks.length := by omega
            have hlt' : ¬ (ks.length : Int) < (ks.length : Int) := by omega
            rw [List.drop_length, stepAlt] at hqr
            subst hqr
            have HQ := Lib.hid hq
            have HX := Lib.hid (Ext.trans HX1.out hx)
            clear hq hql hx
            go_wp2
            go_ret
            exact ⟨_, rfl, HQ.out, HX.out⟩
      by_cases k7 : k = 7
      · subst k7
        obtain ⟨R, hR⟩ : ∃ R, orL p (stepHead l ks p) = R := ⟨_, rfl⟩
        have hst : stepT l (.node 7 m z s ks) p = R := by rw [← hR]; simp [stepT]
        rw [hst]
        have HRR := Lib.hid hR
        have hpos : 0 < ks.length := by
          have := HK5.out (by omega)
          cases ks with
          | nil => exact absurd rfl this
          | cons x r => simp
        clear hst hk1 hk8 hR
        go_enter Tryd.func76, Tryd.ntmps76
        obtain ⟨gA, hg0⟩ : ∃ gA, w.heap.size = gA := ⟨_, rfl⟩
        rw [hg0] at HB
        go_upto_region 1 with fail
        try rw [hg0]
        generalize w.alloc (.cells #[.int .i64 7, .int .i64 m, .bool z, .int .u64 (wd s 0 : Nat), .int .u64 (wd s 1 : Nat), .int .u64 (wd s 2 : Nat), .int .u64 (wd s 3 : Nat), .slice A ks.length c] 27) = w0 at *
        have HB := Lib.hid (show NodeB w0 gA 7 m z s A ks.length c from HB.out)
        have HG0 := Lib.hid hg0
        clear hg0
        go_upto_region 3 with (at_make; refine wpList_mk1 Tryd.elemPl rfl rfl (.tmp 15) (.tmp 15) rfl (n := l.length + 1) (cap := l.length + 1) rfl rfl (by omega) (by omega) (Nat.le_refl _) (by have := HN.out; omega) (by have := HN.out; unfold maxLen; omega) ?_; intro w1 hBN hbN; obtain ⟨q0, q1, q2, q3, q4, q5, q6, q7⟩ := (HB.out.keep hbN).cells)
        obtain ⟨gN, hgN⟩ : ∃ gN, w0.heap.size = gN := ⟨_, rfl⟩
        rw [hgN] at hBN
        try rw [hgN]
        have HGN := Lib.hid (show gA < gN by have := HB.out.lt; omega)
        have HG1 := Lib.hid (show w.heap.size ≤ gN by have := HG0.out; have := HGN.out; omega)
        have HBN := Lib.hid hBN
        have hbN' : Ext w0 w1 := hbN
        have HB1 := Lib.hid (HB.out.keep hbN')
        have HR1 := Lib.hid (HR.out.keep hbN')
        have HK1 := Lib.hid (kidsV_map (fun t v h => NodeV.keep h hbN') HK.out)
        have HU1 := Lib.hid (HU9.out.keep hbN')
        have HX1 := Lib.hid (Ext.trans hx0.out hbN')
        clear hBN hbN hbN' hgN q0 q1 q2 q3 q4 q5 q6 q7 HB HR HK HU HU9 hx0 HG0
        obtain ⟨q0, q1, q2, q3, q4, q5, q6, q7⟩ := HB1.out.cells
        obtain ⟨b, o, k', m', z', p', B, n', c', rfl, hv, hk⟩ := kid_at HR1.out HK1.out hpos
        have hcs := hk.out w1 (Ext.refl _)
        simp only [Nat.zero_mul, Nat.add_zero] at hcs
        obtain ⟨x0, x1, x2, x3, x4, x5, x6, x7⟩ := hcs
        have hpos' : (0 : Int) < (ks.length : Int) := by omega
        have HV := Lib.hid hv
        have HS := Lib.hid (HIH.out 0 hpos)
        have HSL := Lib.hid ((stepT_sem l (ks[0]'hpos) p HP.out).1)
        have HH := Lib.hid (show stepHead l ks = stepT l (ks[0]'hpos) from stepHead_get hpos)
        have HRH := HRR.out
        rw [HH.out] at HRH
        have HRS := Lib.hid HRH
        clear hv hk HRH HRR
        go_wp2_with (first
          | (have := hx2; go_at_call 90; refine (mnOr p (stepT l (ks[0]'hpos) p) (by rw [HP.out, HSL.out]) (by rw [HP.out]; omega) (by rw [HP.out]; have := HN.out; omega) (.slice A0 (l.length + 1) c0) (.slice A2 (l.length + 1) c2) _ (HU1.out.keep hx2) HP2.out).mono ?_; rintro e w3 ⟨r3, rfl, hp3, hx3⟩; rw [HRS.out] at hp3)
          | (go_at_call 76; refine (HS.out S _ (nodeC k' m' z' p' B n' c') (.slice A0 (l.length + 1) c0) p HV.out HU1.out HP.out).mono ?_; rintro e w2 ⟨r2, rfl, hp2, hx2⟩; obtain ⟨A2, c2, rfl, -, -, -⟩ := id hp2; rw [HSL.out] at hp2 ⊢; have HP2 := Lib.hid hp2; clear hp2))
        go_ret
        exact ⟨_, rfl, hp3, Ext.trans HX1.out (Ext.trans hx2 hx3)⟩
      by_cases k5 : k = 5
      · subst k5
        obtain ⟨R, hR⟩ : ∃ R, closF (stepHead l ks) (p.length + 1) p = R := ⟨_, rfl⟩
        have hst : stepT l (.node 5 m z s ks) p = R := by rw [← hR]; simp [stepT]
        rw [hst]
        have HRR := Lib.hid hR
        have hpos : 0 < ks.length := by
          have := HK5.out (by omega)
          cases ks with
          | nil => exact absurd rfl this
          | cons x r => simp
        clear hst hk1 hk8 hR
        go_enter Tryd.func76, Tryd.ntmps76
        obtain ⟨gA, hg0⟩ : ∃ gA, w.heap.size = gA := ⟨_, rfl⟩
        rw [hg0] at HB
        go_upto_region 1 with fail
        try rw [hg0]
        generalize w.alloc (.cells #[.int .i64 5, .int .i64 m, .bool z, .int .u64 (wd s 0 : Nat), .int .u64 (wd s 1 : Nat), .int .u64 (wd s 2 : Nat), .int .u64 (wd s 3 : Nat), .slice A ks.length c] 27) = w0 at *
        have HB := Lib.hid (show NodeB w0 gA 5 m z s A ks.length c from HB.out)
        have HG0 := Lib.hid hg0
        clear hg0
        go_upto_region 3 with (at_make; refine wpList_mk1 Tryd.elemPl rfl rfl (.tmp 15) (.tmp 15) rfl (n := l.length + 1) (cap := l.length + 1) rfl rfl (by omega) (by omega) (Nat.le_refl _) (by have := HN.out; omega) (by have := HN.out; unfold maxLen; omega) ?_; intro w1 hBN hbN; obtain ⟨q0, q1, q2, q3, q4, q5, q6, q7⟩ := (HB.out.keep hbN).cells)
        obtain ⟨gN, hgN⟩ : ∃ gN, w0.heap.size = gN := ⟨_, rfl⟩
        rw [hgN] at hBN
        try rw [hgN]
        have HGN := Lib.hid (show gA < gN by have := HB.out.lt; omega)
        have HG1 := Lib.hid (show w.heap.size ≤ gN by have := HG0.out; have := HGN.out; omega)
        have HBN := Lib.hid hBN
        have hbN' : Ext w0 w1 := hbN
        have HB1 := Lib.hid (HB.out.keep hbN')
        have HR1 := Lib.hid (HR.out.keep hbN')
        have HK1 := Lib.hid (kidsV_map (fun t v h => NodeV.keep h hbN') HK.out)
        have HU1 := Lib.hid (HU9.out.keep hbN')
        have HX1 := Lib.hid (Ext.trans hx0.out hbN')
        clear hBN hbN hbN' hgN q0 q1 q2 q3 q4 q5 q6 q7 HB HR HK HU HU9 hx0 HG0
        obtain ⟨q0, q1, q2, q3, q4, q5, q6, q7⟩ := HB1.out.cells
        obtain ⟨b, o, k', m', z', p', B, n', c', rfl, hv, hk⟩ := kid_at HR1.out HK1.out hpos
        have hcs := hk.out w1 (Ext.refl _)
        simp only [Nat.zero_mul, Nat.add_zero] at hcs
        obtain ⟨x0, x1, x2, x3, x4, x5, x6, x7⟩ := hcs
        have hpos' : (0 : Int) < (ks.length : Int) := by omega
        have HV := Lib.hid hv
        have HS := Lib.hid (HIH.out 0 hpos)
        have HSL := Lib.hid ((stepT_sem l (ks[0]'hpos) p HP.out).1)
        have HH := Lib.hid (show stepHead l ks = stepT l (ks[0]'hpos) from stepHead_get hpos)
        have HRH := HRR.out
        rw [HH.out] at HRH
        have HRS := Lib.hid HRH
        clear hv hk HRH HRR
        go_wp2_with (go_at_call 91; refine (mnClosed l HN.out (ks[0]'hpos) HS.out S _ (nodeC k' m' z' p' B n' c') (.slice A0 (l.length + 1) c0) p HV.out HU1.out HP.out).mono ?_; rintro e w3 ⟨r3, rfl, hp3, hx3⟩; rw [HRS.out] at hp3)
        go_ret
        exact ⟨_, rfl, hp3, Ext.trans HX1.out hx3⟩
      by_cases k6 : k = 6
      · subst k6
        obtain ⟨R, hR⟩ : ∃ R, closF (stepHead l ks) (p.length + 1) (stepHead l ks p) = R := ⟨_, rfl⟩
        have hst : stepT l (.node 6 m z s ks) p = R := by rw [← hR]; simp [stepT]
        rw [hst]
        have HRR := Lib.hid hR
        have hpos : 0 < ks.length := by
          have := HK5.out (by omega)
          cases ks with
          | nil => exact absurd rfl this
          | cons x r => simp
        clear hst hk1 hk8 hR
        go_enter Tryd.func76, Tryd.ntmps76
        obtain ⟨gA, hg0⟩ : ∃ gA, w.heap.size = gA := ⟨_, rfl⟩
        rw [hg0] at HB
        go_upto_region 1 with fail
        try rw [hg0]
        generalize w.alloc (.cells #[.int .i64 6, .int .i64 m, .bool z, .int .u64 (wd s 0 : Nat), .int .u64 (wd s 1 : Nat), .int .u64 (wd s 2 : Nat), .int .u64 (wd s 3 : Nat), .slice A ks.length c] 27) = w0 at *
        have HB := Lib.hid (show NodeB w0 gA 6 m z s A ks.length c from HB.out)
        have HG0 := Lib.hid hg0
        clear hg0
        go_upto_region 3 with (at_make; refine wpList_mk1 Tryd.elemPl rfl rfl (.tmp 15) (.tmp 15) rfl (n := l.length + 1) (cap := l.length + 1) rfl rfl (by omega) (by omega) (Nat.le_refl _) (by have := HN.out; omega) (by have := HN.out; unfold maxLen; omega) ?_; intro w1 hBN hbN; obtain ⟨q0, q1, q2, q3, q4, q5, q6, q7⟩ := (HB.out.keep hbN).cells)
        obtain ⟨gN, hgN⟩ : ∃ gN, w0.heap.size = gN := ⟨_, rfl⟩
        rw [hgN] at hBN
        try rw [hgN]
        have HGN := Lib.hid (show gA < gN by have := HB.out.lt; omega)
        have HG1 := Lib.hid (show w.heap.size ≤ gN by have := HG0.out; have := HGN.out; omega)
        have HBN := Lib.hid hBN
        have hbN' : Ext w0 w1 := hbN
        have HB1 := Lib.hid (HB.out.keep hbN')
        have HR1 := Lib.hid (HR.out.keep hbN')
        have HK1 := Lib.hid (kidsV_map (fun t v h => NodeV.keep h hbN') HK.out)
        have HU1 := Lib.hid (HU9.out.keep hbN')
        have HX1 := Lib.hid (Ext.trans hx0.out hbN')
        clear hBN hbN hbN' hgN q0 q1 q2 q3 q4 q5 q6 q7 HB HR HK HU HU9 hx0 HG0
        obtain ⟨q0, q1, q2, q3, q4, q5, q6, q7⟩ := HB1.out.cells
        obtain ⟨b, o, k', m', z', p', B, n', c', rfl, hv, hk⟩ := kid_at HR1.out HK1.out hpos
        have hcs := hk.out w1 (Ext.refl _)
        simp only [Nat.zero_mul, Nat.add_zero] at hcs
        obtain ⟨x0, x1, x2, x3, x4, x5, x6, x7⟩ := hcs
        have hpos' : (0 : Int) < (ks.length : Int) := by omega
        have HV := Lib.hid hv
        have HS := Lib.hid (HIH.out 0 hpos)
        have HSL := Lib.hid ((stepT_sem l (ks[0]'hpos) p HP.out).1)
        have HH := Lib.hid (show stepHead l ks = stepT l (ks[0]'hpos) from stepHead_get hpos)
        have HRH := HRR.out
        rw [HH.out] at HRH
        have HRS := Lib.hid HRH
        have HKC := Lib.hid (show ∀ w', Ext w1 w' → w'.cell? ⟨b, o, none⟩ = some (.int .i64 k') ∧ w'.cell? ⟨b, o + 1, none⟩ = some (.int .i64 m') ∧ w'.cell? ⟨b, o + 2, none⟩ = some (.bool z') ∧ w'.cell? ⟨b, o + 3, none⟩ = some (.int .u64 (wd p' 0 : Nat)) ∧ w'.cell? ⟨b, o + 4, none⟩ = some (.int .u64 (wd p' 1 : Nat)) ∧ w'.cell? ⟨b, o + 5, none⟩ = some (.int .u64 (wd p' 2 : Nat)) ∧ w'.cell? ⟨b, o + 6, none⟩ = some (.int .u64 (wd p' 3 : Nat)) ∧ w'.cell? ⟨b, o + 7, none⟩ = some (.slice B n' c') from fun w' hx => by have := hk.out w' hx; simpa only [Nat.zero_mul, Nat.add_zero] using this)
        clear hv hk HRH HRR
        go_upto_region 29 with fail
        clear q0 q1 q2 q3 q4 q5 q6 q7 x0 x1 x2 x3 x4 x5 x6 x7
        refine wp_region_dag (E := Ext) (w0 := w1) (Φ := fun i v w => match i with | 0 => (v = .pointer (some ⟨gA, 7, none⟩)) | 1 => (v = .slice (some ⟨b, o, none⟩) ks.length c) | 2 => (v = .pointer (some ⟨b, o, none⟩)) | 3 => (v = .agg #[.int .i64 k', .int .i64 m', .bool z', .int .u64 (wd p' 0 : Nat), .int .u64 (wd p' 1 : Nat), .int .u64 (wd p' 2 : Nat), .int .u64 (wd p' 3 : Nat), .slice B n' c']) | 4 => (v = .string ⟨l.toArray⟩) | 5 => (v = .pointer (some ⟨gA, 7, none⟩)) | 6 => (v = .slice (some ⟨b, o, none⟩) ks.length c) | 7 => (v = .pointer (some ⟨b, o, none⟩)) | 8 => (v = .agg #[.int .i64 k', .int .i64 m', .bool z', .int .u64 (wd p' 0 : Nat), .int .u64 (wd p' 1 : Nat), .int .u64 (wd p' 2 : Nat), .int .u64 (wd p' 3 : Nat), .slice B n' c']) | 9 => (v = .string ⟨l.toArray⟩) | 10 => (v = .slice A0 (l.length + 1) c0) | 11 => (PlV w v (stepT l (ks[0]'hpos) p)) | 12 => (PlV w v R) | 13 => (PlV w v R) | _ => True) (show Tryd.prog.follows .mixedOrders = true from Checked.mixed Tryd.checked) 123 rfl (by decide +kernel) ?_ ((Below.refl _ _).drew) ?_ ⟨?_, ?_, ?_, ?_, ?_, ?_, ?_, ?_, ?_, ?_, ?_, ?_, ?_, ?_, trivial⟩ ?_
        · intro i v w w' h hE
          match i, h with
          | 0, h => exact h
          | 1, h => exact h
          | 2, h => exact h
          | 3, h => exact h
          | 4, h => exact h
          | 5, h => exact h
          | 6, h => exact h
          | 7, h => exact h
          | 8, h => exact h
          | 9, h => exact h
          | 10, h => exact h
          | 11, h => exact PlV.keep h hE
          | 12, h => exact PlV.keep h hE
          | 13, h => exact PlV.keep h hE
          | _ + 14, _ => trivial
        · exact fun w w' h h' => h.trans h'
        · -- 0: t100 := fieldAddr 27 t3 4
          intro ac wx hE hsz hdf h
          have e3 : ac.tmps[3]? = some (.pointer (some ⟨gA, 0, none⟩)) := by obtain ⟨v, h1, h2⟩ := h 3 (by decide +kernel); exact h1.trans (h2.symm.trans rfl)
          clear h hsz hdf
          go_wp2
          exact ⟨_, rfl, rfl, Ext.refl _⟩
        · -- 1: t101 := load 25 t100
          intro ac wx hE hsz hdf h
          have e100 : ac.tmps[100]? = some (.pointer (some ⟨gA, 7, none⟩)) := by obtain ⟨v, h1, h2⟩ := h 100 (by decide +kernel); rw [h1]; exact congrArg some h2
          clear h hsz hdf
          obtain ⟨y0, y1, y2, y3, y4, y5, y6, y7⟩ := (HB1.out.keep hE).cells
          go_wp2
          exact ⟨_, rfl, rfl, Ext.refl _⟩
        · -- 2: t102 := indexAddr 25 t101 (const (0:i64))
          intro ac wx hE hsz hdf h
          have e101 : ac.tmps[101]? = some (.slice (some ⟨b, o, none⟩) ks.length c) := by obtain ⟨v, h1, h2⟩ := h 101 (by decide +kernel); rw [h1]; exact congrArg some h2
          clear h hsz hdf
          go_wp2
          exact ⟨_, rfl, rfl, Ext.refl _⟩
        · -- 3: t103 := load 27 t102
          intro ac wx hE hsz hdf h
          have e102 : ac.tmps[102]? = some (.pointer (some ⟨b, o, none⟩)) := by obtain ⟨v, h1, h2⟩ := h 102 (by decide +kernel); rw [h1]; exact congrArg some h2
          clear h hsz hdf
          obtain ⟨y0, y1, y2, y3, y4, y5, y6, y7⟩ := HKC.out _ hE
          go_wp2
          exact ⟨_, rfl, rfl, Ext.refl _⟩
        · -- 4: t104 := move t1
          intro ac wx hE hsz hdf h
          have e1 : ac.tmps[1]? = some (.string ⟨l.toArray⟩) := by obtain ⟨v, h1, h2⟩ := h 1 (by decide +kernel); exact h1.trans (h2.symm.trans rfl)
          clear h hsz hdf
          go_wp2
          exact ⟨_, rfl, rfl, Ext.refl _⟩
        · -- 5: t105 := fieldAddr 27 t3 4
          intro ac wx hE hsz hdf h
          have e3 : ac.tmps[3]? = some (.pointer (some ⟨gA, 0, none⟩)) := by obtain ⟨v, h1, h2⟩ := h 3 (by decide +kernel); exact h1.trans (h2.symm.trans rfl)
          clear h hsz hdf
          go_wp2
          exact ⟨_, rfl, rfl, Ext.refl _⟩
        · -- 6: t106 := load 25 t105
          intro ac wx hE hsz hdf h
          have e105 : ac.tmps[105]? = some (.pointer (some ⟨gA, 7, none⟩)) := by obtain ⟨v, h1, h2⟩ := h 105 (by decide +kernel); rw [h1]; exact congrArg some h2
          clear h hsz hdf
          obtain ⟨y0, y1, y2, y3, y4, y5, y6, y7⟩ := (HB1.out.keep hE).cells
          go_wp2
          exact ⟨_, rfl, rfl, Ext.refl _⟩
        · -- 7: t107 := indexAddr 25 t106 (const (0:i64))
          intro ac wx hE hsz hdf h
          have e106 : ac.tmps[106]? = some (.slice (some ⟨b, o, none⟩) ks.length c) := by obtain ⟨v, h1, h2⟩ := h 106 (by decide +kernel); rw [h1]; exact congrArg some h2
          clear h hsz hdf
          go_wp2
          exact ⟨_, rfl, rfl, Ext.refl _⟩
        · -- 8: t108 := load 27 t107
          intro ac wx hE hsz hdf h
          have e107 : ac.tmps[107]? = some (.pointer (some ⟨b, o, none⟩)) := by obtain ⟨v, h1, h2⟩ := h 107 (by decide +kernel); rw [h1]; exact congrArg some h2
          clear h hsz hdf
          obtain ⟨y0, y1, y2, y3, y4, y5, y6, y7⟩ := HKC.out _ hE
          go_wp2
          exact ⟨_, rfl, rfl, Ext.refl _⟩
        · -- 9: t109 := move t1
          intro ac wx hE hsz hdf h
          have e1 : ac.tmps[1]? = some (.string ⟨l.toArray⟩) := by obtain ⟨v, h1, h2⟩ := h 1 (by decide +kernel); exact h1.trans (h2.symm.trans rfl)
          clear h hsz hdf
          go_wp2
          exact ⟨_, rfl, rfl, Ext.refl _⟩
        · -- 10: t110 := move t2
          intro ac wx hE hsz hdf h
          have e2 : ac.tmps[2]? = some (.slice A0 (l.length + 1) c0) := by obtain ⟨v, h1, h2⟩ := h 2 (by decide +kernel); exact h1.trans (h2.symm.trans rfl)
          clear h hsz hdf
          go_wp2
          exact ⟨_, rfl, rfl, Ext.refl _⟩
        · -- 11: t111 := call { value (Operand.func 54), args := #[t108, t109, t110], argTypes := #[27, 9, 95] }
          intro ac wx hE hsz hdf h
          have e108 : ac.tmps[108]? = some (.agg #[.int .i64 k', .int .i64 m', .bool z', .int .u64 (wd p' 0 : Nat), .int .u64 (wd p' 1 : Nat), .int .u64 (wd p' 2 : Nat), .int .u64 (wd p' 3 : Nat), .slice B n' c']) := by obtain ⟨v, h1, h2⟩ := h 108 (by decide +kernel); rw [h1]; exact congrArg some h2
          have e109 : ac.tmps[109]? = some (.string ⟨l.toArray⟩) := by obtain ⟨v, h1, h2⟩ := h 109 (by decide +kernel); rw [h1]; exact congrArg some h2
          have e110 : ac.tmps[110]? = some (.slice A0 (l.length + 1) c0) := by obtain ⟨v, h1, h2⟩ := h 110 (by decide +kernel); rw [h1]; exact congrArg some h2
          clear h hsz hdf
          go_wp2_with ((go_at_call 76; refine (HS.out S _ (nodeC k' m' z' p' B n' c') (.slice A0 (l.length + 1) c0) p (HV.out.keep hE) (HU1.out.keep hE) HP.out).mono ?_; rintro e w2 ⟨r2, rfl, hp2, hb9⟩))
          exact ⟨_, rfl, hp2, hb9⟩
        · -- 12: t112 := call { value (Operand.func 80), args := #[t103, t104, t111], argTypes := #[27, 9, 95] }
          intro ac wx hE hsz hdf h
          have e103 : ac.tmps[103]? = some (.agg #[.int .i64 k', .int .i64 m', .bool z', .int .u64 (wd p' 0 : Nat), .int .u64 (wd p' 1 : Nat), .int .u64 (wd p' 2 : Nat), .int .u64 (wd p' 3 : Nat), .slice B n' c']) := by obtain ⟨v, h1, h2⟩ := h 103 (by decide +kernel); rw [h1]; exact congrArg some h2
          have e104 : ac.tmps[104]? = some (.string ⟨l.toArray⟩) := by obtain ⟨v, h1, h2⟩ := h 104 (by decide +kernel); rw [h1]; exact congrArg some h2
          obtain ⟨v111, e111, s111⟩ : ∃ v, ac.tmps[111]? = some v ∧ (PlV wx v (stepT l (ks[0]'hpos) p)) := h 111 (by decide +kernel)
          clear h hsz hdf
          have HP2 := Lib.hid s111; clear s111
          go_wp2_with ((go_at_call 91; refine (mnClosed l HN.out (ks[0]'hpos) HS.out S _ (nodeC k' m' z' p' B n' c') _ (stepT l (ks[0]'hpos) p) (HV.out.keep hE) HP2.out HSL.out).mono ?_; rintro e w2 ⟨r2, rfl, hp2, hb9⟩; rw [HSL.out, ← HP.out, HRS.out] at hp2))
          exact ⟨_, rfl, hp2, hb9⟩
        · -- 13: t6 := assign t112
          intro ac wx hE hsz hdf h
          obtain ⟨v112, e112, s112⟩ : ∃ v, ac.tmps[112]? = some v ∧ (PlV wx v R) := h 112 (by decide +kernel)
          clear h hsz hdf
          have HP2 := Lib.hid s112; clear s112
          go_wp2
          exact ⟨_, rfl, HP2.out, Ext.refl _⟩
        · intro ac w9 hE hsz hdf h hrest
          obtain ⟨v0, s0, g0⟩ := h 0 _ rfl
          have e0 := g0 100 rfl
          obtain rfl : v0 = .pointer (some ⟨gA, 7, none⟩) := s0
          obtain ⟨v1, s1, g1⟩ := h 1 _ rfl
          have e1 := g1 101 rfl
          obtain rfl : v1 = .slice (some ⟨b, o, none⟩) ks.length c := s1
          obtain ⟨v2, s2, g2⟩ := h 2 _ rfl
          have e2 := g2 102 rfl
          obtain rfl : v2 = .pointer (some ⟨b, o, none⟩) := s2
          obtain ⟨v3, s3, g3⟩ := h 3 _ rfl
          have e3 := g3 103 rfl
          obtain rfl : v3 = .agg #[.int .i64 k', .int .i64 m', .bool z', .int .u64 (wd p' 0 : Nat), .int .u64 (wd p' 1 : Nat), .int .u64 (wd p' 2 : Nat), .int .u64 (wd p' 3 : Nat), .slice B n' c'] := s3
          obtain ⟨v4, s4, g4⟩ := h 4 _ rfl
          have e4 := g4 104 rfl
          obtain rfl : v4 = .string ⟨l.toArray⟩ := s4
          obtain ⟨v5, s5, g5⟩ := h 5 _ rfl
          have e5 := g5 105 rfl
          obtain rfl : v5 = .pointer (some ⟨gA, 7, none⟩) := s5
          obtain ⟨v6, s6, g6⟩ := h 6 _ rfl
          have e6 := g6 106 rfl
          obtain rfl : v6 = .slice (some ⟨b, o, none⟩) ks.length c := s6
          obtain ⟨v7, s7, g7⟩ := h 7 _ rfl
          have e7 := g7 107 rfl
          obtain rfl : v7 = .pointer (some ⟨b, o, none⟩) := s7
          obtain ⟨v8, s8, g8⟩ := h 8 _ rfl
          have e8 := g8 108 rfl
          obtain rfl : v8 = .agg #[.int .i64 k', .int .i64 m', .bool z', .int .u64 (wd p' 0 : Nat), .int .u64 (wd p' 1 : Nat), .int .u64 (wd p' 2 : Nat), .int .u64 (wd p' 3 : Nat), .slice B n' c'] := s8
          obtain ⟨v9, s9, g9⟩ := h 9 _ rfl
          have e9 := g9 109 rfl
          obtain rfl : v9 = .string ⟨l.toArray⟩ := s9
          obtain ⟨v10, s10, g10⟩ := h 10 _ rfl
          have e10 := g10 110 rfl
          obtain rfl : v10 = .slice A0 (l.length + 1) c0 := s10
          obtain ⟨v11, s11, g11⟩ := h 11 _ rfl
          have e11 := g11 111 rfl
          replace s11 : PlV w9 v11 (stepT l (ks[0]'hpos) p) := s11
          obtain ⟨v12, s12, g12⟩ := h 12 _ rfl
          have e12 := g12 112 rfl
          replace s12 : PlV w9 v12 R := s12
          obtain ⟨v13, s13, g13⟩ := h 13 _ rfl
          have e13 := g13 6 rfl
          replace s13 : PlV w9 v13 R := s13
          have ha := act_of [(100, .pointer (some ⟨gA, 7, none⟩)), (101, .slice (some ⟨b, o, none⟩) ks.length c), (102, .pointer (some ⟨b, o, none⟩)), (103, .agg #[.int .i64 k', .int .i64 m', .bool z', .int .u64 (wd p' 0 : Nat), .int .u64 (wd p' 1 : Nat), .int .u64 (wd p' 2 : Nat), .int .u64 (wd p' 3 : Nat), .slice B n' c']), (104, .string ⟨l.toArray⟩), (105, .pointer (some ⟨gA, 7, none⟩)), (106, .slice (some ⟨b, o, none⟩) ks.length c), (107, .pointer (some ⟨b, o, none⟩)), (108, .agg #[.int .i64 k', .int .i64 m', .bool z', .int .u64 (wd p' 0 : Nat), .int .u64 (wd p' 1 : Nat), .int .u64 (wd p' 2 : Nat), .int .u64 (wd p' 3 : Nat), .slice B n' c']), (109, .string ⟨l.toArray⟩), (110, .slice A0 (l.length + 1) c0), (111, v11), (112, v12), (6, v13)] rfl hsz hdf (by intro p hp; simp only [List.mem_cons, List.not_mem_nil, or_false] at hp; rcases hp with rfl | rfl | rfl | rfl | rfl | rfl | rfl | rfl | rfl | rfl | rfl | rfl | rfl | rfl <;> first | exact e0 | exact e1 | exact e2 | exact e3 | exact e4 | exact e5 | exact e6 | exact e7 | exact e8 | exact e9 | exact e10 | exact e11 | exact e12 | exact e13) hrest
          clear h hrest hsz hdf e0 e1 e2 e3 e4 e5 e6 e7 e8 e9 e10 e11 e12 e13 g0 g1 g2 g3 g4 g5 g6 g7 g8 g9 g10 g11 g12 g13
          subst ha
          simp only [List.foldl_cons, List.foldl_nil, Act.put, List.setIfInBounds_toArray, List.set_cons_succ, List.set_cons_zero]
          have HRES := Lib.hid s13
          have HXX := Lib.hid (Ext.trans HX1.out hE)
          clear s11 s12 s13
          go_wp2
          go_ret
          exact ⟨_, rfl, HRES.out, HXX.out⟩
      by_cases k8 : k = 8
      · subst k8
        obtain ⟨R, hR⟩ : ∃ R, stepHead l ks p = R := ⟨_, rfl⟩
        have hst : stepT l (.node 8 m z s ks) p = R := by rw [← hR]; simp [stepT]
        rw [hst]
        have HRR := Lib.hid hR
        have hpos : 0 < ks.length := by
          have := HK5.out (by omega)
          cases ks with
          | nil => exact absurd rfl this
          | cons x r => simp
        clear hst hk1 hk8 hR
        go_enter Tryd.func76, Tryd.ntmps76
        obtain ⟨gA, hg0⟩ : ∃ gA, w.heap.size = gA := ⟨_, rfl⟩
        rw [hg0] at HB
        go_upto_region 1 with fail
        try rw [hg0]
        generalize w.alloc (.cells #[.int .i64 8, .int .i64 m, .bool z, .int .u64 (wd s 0 : Nat), .int .u64 (wd s 1 : Nat), .int .u64 (wd s 2 : Nat), .int .u64 (wd s 3 : Nat), .slice A ks.length c] 27) = w0 at *
        have HB := Lib.hid (show NodeB w0 gA 8 m z s A ks.length c from HB.out)
        have HG0 := Lib.hid hg0
        clear hg0
        go_upto_region 3 with (at_make; refine wpList_mk1 Tryd.elemPl rfl rfl (.tmp 15) (.tmp 15) rfl (n := l.length + 1) (cap := l.length + 1) rfl rfl (by omega) (by omega) (Nat.le_refl _) (by have := HN.out; omega) (by have := HN.out; unfold maxLen; omega) ?_; intro w1 hBN hbN; obtain ⟨q0, q1, q2, q3, q4, q5, q6, q7⟩ := (HB.out.keep hbN).cells)
        obtain ⟨gN, hgN⟩ : ∃ gN, w0.heap.size = gN := ⟨_, rfl⟩
        rw [hgN] at hBN
        try rw [hgN]
        have HGN := Lib.hid (show gA < gN by have := HB.out.lt; omega)
        have HG1 := Lib.hid (show w.heap.size ≤ gN by have := HG0.out; have := HGN.out; omega)
        have HBN := Lib.hid hBN
        have hbN' : Ext w0 w1 := hbN
        have HB1 := Lib.hid (HB.out.keep hbN')
        have HR1 := Lib.hid (HR.out.keep hbN')
        have HK1 := Lib.hid (kidsV_map (fun t v h => NodeV.keep h hbN') HK.out)
        have HU1 := Lib.hid (HU9.out.keep hbN')
        have HX1 := Lib.hid (Ext.trans hx0.out hbN')
        clear hBN hbN hbN' hgN q0 q1 q2 q3 q4 q5 q6 q7 HB HR HK HU HU9 hx0 HG0
        obtain ⟨q0, q1, q2, q3, q4, q5, q6, q7⟩ := HB1.out.cells
        obtain ⟨b, o, k', m', z', p', B, n', c', rfl, hv, hk⟩ := kid_at HR1.out HK1.out hpos
        have hcs := hk.out w1 (Ext.refl _)
        simp only [Nat.zero_mul, Nat.add_zero] at hcs
        obtain ⟨x0, x1, x2, x3, x4, x5, x6, x7⟩ := hcs
        have hpos' : (0 : Int) < (ks.length : Int) := by omega
        have HV := Lib.hid hv
        have HS := Lib.hid (HIH.out 0 hpos)
        have HSL := Lib.hid ((stepT_sem l (ks[0]'hpos) p HP.out).1)
        have HH := Lib.hid (show stepHead l ks = stepT l (ks[0]'hpos) from stepHead_get hpos)
        have HRH := HRR.out
        rw [HH.out] at HRH
        have HRS := Lib.hid HRH
        clear hv hk HRH HRR
        go_wp2_with (go_at_call 76; refine (HS.out S _ (nodeC k' m' z' p' B n' c') (.slice A0 (l.length + 1) c0) p HV.out HU1.out HP.out).mono ?_; rintro e w2 ⟨r2, rfl, hp2, hx2⟩; obtain ⟨A2, c2, rfl, -, -, -⟩ := id hp2; rw [HSL.out] at hp2 ⊢; have HP2 := Lib.hid hp2; clear hp2)
        go_ret
        exact ⟨_, rfl, by have := HP2.out; rw [HRS.out] at this; exact this, Ext.trans HX1.out hx2⟩
      obtain rfl : k = 1 := by omega
      have hst : stepT l (.node 1 m z s ks) p = p := by simp [stepT]
      rw [hst]
      clear hst hk1 hk8 k2 k3 k4 k7 k5 k6 k8
      go_enter Tryd.func76, Tryd.ntmps76
      obtain ⟨gA, hg0⟩ : ∃ gA, w.heap.size = gA := ⟨_, rfl⟩
      rw [hg0] at HB
      go_upto_region 1 with fail
      try rw [hg0]
      generalize w.alloc (.cells #[.int .i64 1, .int .i64 m, .bool z, .int .u64 (wd s 0 : Nat), .int .u64 (wd s 1 : Nat), .int .u64 (wd s 2 : Nat), .int .u64 (wd s 3 : Nat), .slice A ks.length c] 27) = w0 at *
      have HB := Lib.hid (show NodeB w0 gA 1 m z s A ks.length c from HB.out)
      have HG0 := Lib.hid hg0
      clear hg0
      go_upto_region 3 with (at_make; refine wpList_mk1 Tryd.elemPl rfl rfl (.tmp 15) (.tmp 15) rfl (n := l.length + 1) (cap := l.length + 1) rfl rfl (by omega) (by omega) (Nat.le_refl _) (by have := HN.out; omega) (by have := HN.out; unfold maxLen; omega) ?_; intro w1 hBN hbN; obtain ⟨q0, q1, q2, q3, q4, q5, q6, q7⟩ := (HB.out.keep hbN).cells)
      obtain ⟨gN, hgN⟩ : ∃ gN, w0.heap.size = gN := ⟨_, rfl⟩
      rw [hgN] at hBN
      try rw [hgN]
      have HGN := Lib.hid (show gA < gN by have := HB.out.lt; omega)
      have HG1 := Lib.hid (show w.heap.size ≤ gN by have := HG0.out; have := HGN.out; omega)
      have HBN := Lib.hid hBN
      have hbN' : Ext w0 w1 := hbN
      have HB1 := Lib.hid (HB.out.keep hbN')
      have HR1 := Lib.hid (HR.out.keep hbN')
      have HK1 := Lib.hid (kidsV_map (fun t v h => NodeV.keep h hbN') HK.out)
      have HU1 := Lib.hid (HU9.out.keep hbN')
      have HX1 := Lib.hid (Ext.trans hx0.out hbN')
      clear hBN hbN hbN' hgN q0 q1 q2 q3 q4 q5 q6 q7 HB HR HK HU HU9 hx0 HG0
      obtain ⟨q0, q1, q2, q3, q4, q5, q6, q7⟩ := HB1.out.cells
      go_wp2
      go_ret
      exact ⟨_, rfl, HU1.out, HX1.out⟩
end Go.Proofs.YtmfdnjddggaeaaaDoor
