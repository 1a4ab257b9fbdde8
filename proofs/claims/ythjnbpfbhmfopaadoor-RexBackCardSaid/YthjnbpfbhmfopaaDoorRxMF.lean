/- Put together: Rx23. -/
import Derived.Test.YthjnbpfbhmfopaaDoorRxME
import Derived.BigQuiet
namespace Go.Proofs.YthjnbpfbhmfopaaDoor
open Go Go.RowKit
attribute [local irreducible] wd

theorem zN_node : zN = nodeC 0 0 false noP none 0 0 := (node0 0 0 false none 0 0).symm
/-- Whatever Parse answers, its form. -/
theorem RRes.form {E : Nat → Addr} {w : World} {r : PR} {e : Ending} {w' : World} (h : RRes E w r e w') : Ext w w' ∧ ∃ k m z p B n c er, e = .returned (.tuple #[.agg (nodeC k m z p B n c).toArray, er]) := by
  obtain ⟨hx, h⟩ := h
  refine ⟨hx, ?_⟩
  cases r with
  | out => exact h.elim
  | err k =>
    obtain ⟨k', _, rfl⟩ := h
    exact ⟨_, _, _, _, _, _, _, _, by rw [zN_node]⟩
  | ok t i gr =>
    obtain ⟨v, rfl, hv⟩ := h
    obtain ⟨k, m, z, p, B, n, c, rfl⟩ := nodeV_form hv
    exact ⟨_, _, _, _, _, _, _, _, rfl⟩

theorem len_form {S : Nat → Prop} {w : World} {t : T} {k m : Int} {z : Bool} {p : Nat → Bool} {B : Option Addr} {n c : Nat} (h : NodeV S w t (nodeC k m z p B n c)) : t.kids.length = n := by
  cases t
  unfold NodeV at h
  obtain ⟨A, c', cs, e, _⟩ := h
  unfold nodeC at e
  simp only [List.cons.injEq, Value.slice.injEq] at e
  exact e.2.2.2.2.2.2.2.1.2.1.symm

set_option maxHeartbeats 16000000 in
set_option maxRecDepth 20000 in
theorem lawGroups (E : Nat → Addr) (s t : List UInt8) (w : World) (hE : Env E w) :
    Calls Tryd.prog 3 #[.string ⟨s.toArray⟩, .string ⟨t.toArray⟩] w fun e w' => e = .returned (.bool true) ∧ Ext w w' := by
  have HE := Lib.hid hE
  clear hE
  by_cases hs : 50 < s.length
  · have hs' : (50 : Int) < (s.length : Int) := by omega
    clear hs
    go_enter Tryd.func3, Tryd.ntmps3
    go_wp2_with (go_at_call 7; refine (alive23 E _ HE.out).mono ?_; rintro e w1 ⟨rfl, hx1⟩)
    go_ret
    exact ⟨rfl, hx1⟩
  have hs' : ¬ (50 : Int) < (s.length : Int) := by omega
  by_cases ht : 50 < t.length
  · have ht' : (50 : Int) < (t.length : Int) := by omega
    clear hs ht
    go_enter Tryd.func3, Tryd.ntmps3
    go_wp2_with (go_at_call 7; refine (alive23 E _ HE.out).mono ?_; rintro e w1 ⟨rfl, hx1⟩)
    go_ret
    exact ⟨rfl, hx1⟩
  have ht' : ¬ (50 : Int) < (t.length : Int) := by omega
  have hm1 : ¬ 9223372036854775807 < 1 + s.length := by omega
  have hm2 : ¬ 9223372036854775807 < 1 + s.length + 1 := by omega
  have hm3 : ¬ 9223372036854775807 < s.length + 1 := by omega
  have hm4 : ¬ 9223372036854775807 < s.length + 1 + t.length := by omega
  clear hs ht
  go_enter Tryd.func3, Tryd.ntmps3
  go_upto_region 5 with (go_at_call 7; refine (alive23 E _ HE.out).mono ?_; rintro e w1 ⟨rfl, hx1⟩)
  have HX1 := Lib.hid hx1
  clear hx1
  go_wp2_with fail
  go_at_call 8
  refine (rxParse E s _ (HE.out.keep HX1.out)).mono ?_
  rintro e w2 hP2
  cases hr1 : parseR s with
  | out => rw [hr1] at hP2; exact hP2.2.elim
  | err k =>
    rw [hr1] at hP2
    obtain ⟨hx2, k, rfl, rfl⟩ := hP2
    have HX2 := Lib.hid (Ext.trans HX1.out hx2)
    clear hx2
    have hn := fun w => run_eql_iface_nil (P := Tryd.prog) (w := w) 30 (by kernel_rfl) 142 (.pointer (some (E k)))
    unfold ev errV zN
    go_wp2_with fail
    go_at_call 8
    refine (rxParse E (40 :: (s ++ [41])) _ ((HE.out.keep HX2.out).keep (Ext.new1 _ _))).mono ?_
    rintro e w3 hP3
    obtain ⟨hx3, k3, m3, z3, p3, B3, n3, c3, er3, rfl⟩ := hP3.form
    unfold nodeC
    go_wp2
    go_ret
    exact ⟨rfl, Ext.trans HX2.out (Ext.trans (Ext.new1 _ _) (Ext.trans hx3 (Ext.new1 _ _)))⟩
  | ok nt i gr =>
    rw [hr1] at hP2
    obtain ⟨hx2, v, rfl, hv⟩ := hP2
    obtain ⟨ka, ma, za, pa, Ba, na, ca, rfl⟩ := nodeV_form hv
    have hv' := hv.keep (Ext.new1 w2 (.cells (nodeC ka ma za pa Ba na ca).toArray 28))
    have HVa := Lib.hid hv'
    have HBa := Lib.hid (NodeB.new w2 ka ma za pa Ba na ca)
    have HX2 := Lib.hid (Ext.trans HX1.out (Ext.trans hx2 (Ext.new1 w2 (.cells (nodeC ka ma za pa Ba na ca).toArray 28))))
    have HR1 := Lib.hid hr1
    have HSN := Lib.hid (parseR_size hr1)
    clear hv hv' hx2 hr1
    unfold nodeC at HVa HX2 ⊢
    go_wp2_with fail
    generalize w2.alloc (.cells #[.int .i64 ka, .int .i64 ma, .bool za, .int .u64 (wd pa 0 : Nat), .int .u64 (wd pa 1 : Nat), .int .u64 (wd pa 2 : Nat), .int .u64 (wd pa 3 : Nat), .slice Ba na ca] 28) = wa at *
    generalize w2.heap.size = ga at *
    go_at_call 8
    refine (rxParse E (40 :: (s ++ [41])) _ (HE.out.keep HX2.out)).mono ?_
    rintro e w3 hP3
    cases hr2 : parseR (40 :: (s ++ [41])) with
    | out => rw [hr2] at hP3; exact hP3.2.elim
    | err k =>
      rw [hr2] at hP3
      obtain ⟨hx3, k, rfl, rfl⟩ := hP3
      have hn := fun w => run_eql_iface_nil (P := Tryd.prog) (w := w) 30 (by kernel_rfl) 142 (.pointer (some (E k)))
      unfold ev errV zN
      go_wp2
      go_ret
      exact ⟨rfl, Ext.trans HX2.out (Ext.trans hx3 (Ext.new1 _ _))⟩
    | ok mt i' gr' =>
      rw [hr2] at hP3
      obtain ⟨hx3, v, rfl, hv⟩ := hP3
      have hmt := group_law HR1.out hr2
      have HSM := Lib.hid (parseR_size hr2)
      clear hr2
      have hv2 := hv
      rw [hmt] at hv2
      unfold NodeV at hv2
      obtain ⟨Bb, cb, cs, hve, -⟩ := hv2
      obtain rfl : v = nodeC 8 1 false noP Bb 1 cb := hve
      obtain ⟨f1, f2, f3⟩ := group_facts nt
      rw [← hmt] at f1 f2 f3
      have HGM0 := Lib.hid f1
      have HNM := Lib.hid f2
      have HZM0 := Lib.hid f3
      clear f1 f2 f3 hmt
      obtain ⟨gn, hgn⟩ : ∃ gn, nt.groups = gn := ⟨_, rfl⟩
      obtain ⟨gm, hgm⟩ : ∃ gm, mt.groups = gm := ⟨_, rfl⟩
      obtain ⟨sn, hsn⟩ : ∃ sn, nt.size = sn := ⟨_, rfl⟩
      obtain ⟨sm, hsm⟩ : ∃ sm, mt.size = sm := ⟨_, rfl⟩
      obtain ⟨nn, hnn⟩ : ∃ nn, nt.nullable = nn := ⟨_, rfl⟩
      have hgle := groups_le nt
      have hwg : IntKind.i64.wrap ((gn : Int) + 1) = (gm : Int) := by
        have := HGM0.out; have := HSN.out
        rw [wrap_id (by omega) (by omega)]; omega
      have hwz : IntKind.i64.wrap ((sn : Int) + 1) = (sm : Int) := by
        have := HZM0.out; have := HSN.out
        rw [wrap_id (by omega) (by omega)]; omega
      have HGN := Lib.hid hgn
      have HGM := Lib.hid hgm
      have HZN := Lib.hid hsn
      have HZM := Lib.hid hsm
      have HNN := Lib.hid hnn
      have HNM := Lib.hid (HNM.out.trans hnn)
      have HGLE := Lib.hid (show gn ≤ 242 by have := HSN.out; omega)
      have HVb := Lib.hid (hv.keep (Ext.new1 w3 (.cells (nodeC 8 1 false noP Bb 1 cb).toArray 28)))
      have HBb := Lib.hid (NodeB.new w3 8 1 false noP Bb 1 cb)
      have HX3 := Lib.hid (Ext.trans hx3 (Ext.new1 w3 (.cells (nodeC 8 1 false noP Bb 1 cb).toArray 28)))
      have HXk := Lib.hid (Ext.trans HX2.out HX3.out)
      have HVa := Lib.hid (HVa.out.keep HX3.out)
      have HBa := Lib.hid (HBa.out.keep HX3.out)
      clear hv hx3 hgn hgm hsn hsm hnn hgle HX3 HX2 HGM0 HZM0
      unfold nodeC at HVb HXk HVa HBa ⊢
      go_upto_region 9 with fail
      generalize w3.alloc (.cells #[.int .i64 8, .int .i64 1, .bool false, .int .u64 (wd noP 0 : Nat), .int .u64 (wd noP 1 : Nat), .int .u64 (wd noP 2 : Nat), .int .u64 (wd noP 3 : Nat), .slice Bb 1 cb] 28) = wk at *
      generalize w3.heap.size = gb at *
      refine wp_region_dag (E := Ext) (w0 := wk) (Φ := fun i v w => match i with | 0 => (v = .pointer (some ⟨gb, 0, none⟩)) | 1 => (v = .int .i64 8) | 2 => (v = .bool false) | 3 => (v = .bool false) | 4 => (v = .pointer (some ⟨gb, 1, none⟩)) | 5 => (v = .int .i64 1) | 6 => (v = .bool false) | 7 => (v = .bool false) | 8 => (v = .bool false) | 9 => (v = .agg #[.int .i64 8, .int .i64 1, .bool false, .int .u64 (wd noP 0 : Nat), .int .u64 (wd noP 1 : Nat), .int .u64 (wd noP 2 : Nat), .int .u64 (wd noP 3 : Nat), .slice Bb 1 cb]) | 10 => (v = .int .i64 (gm : Nat)) | 11 => (v = .agg #[.int .i64 ka, .int .i64 ma, .bool za, .int .u64 (wd pa 0 : Nat), .int .u64 (wd pa 1 : Nat), .int .u64 (wd pa 2 : Nat), .int .u64 (wd pa 3 : Nat), .slice Ba na ca]) | 12 => (v = .int .i64 (gn : Nat)) | 13 => (v = .int .i64 (gm : Nat)) | 14 => (v = .bool false) | 15 => (v = .bool false) | 16 => (v = .bool false) | 17 => (v = .agg #[.int .i64 8, .int .i64 1, .bool false, .int .u64 (wd noP 0 : Nat), .int .u64 (wd noP 1 : Nat), .int .u64 (wd noP 2 : Nat), .int .u64 (wd noP 3 : Nat), .slice Bb 1 cb]) | 18 => (v = .bool nn) | 19 => (v = .agg #[.int .i64 ka, .int .i64 ma, .bool za, .int .u64 (wd pa 0 : Nat), .int .u64 (wd pa 1 : Nat), .int .u64 (wd pa 2 : Nat), .int .u64 (wd pa 3 : Nat), .slice Ba na ca]) | 20 => (v = .bool nn) | 21 => (v = .bool false) | 22 => (v = .bool false) | 23 => (v = .bool false) | 24 => (v = .agg #[.int .i64 8, .int .i64 1, .bool false, .int .u64 (wd noP 0 : Nat), .int .u64 (wd noP 1 : Nat), .int .u64 (wd noP 2 : Nat), .int .u64 (wd noP 3 : Nat), .slice Bb 1 cb]) | 25 => (v = .int .i64 (sm : Nat)) | 26 => (v = .agg #[.int .i64 ka, .int .i64 ma, .bool za, .int .u64 (wd pa 0 : Nat), .int .u64 (wd pa 1 : Nat), .int .u64 (wd pa 2 : Nat), .int .u64 (wd pa 3 : Nat), .slice Ba na ca]) | 27 => (v = .int .i64 (sn : Nat)) | 28 => (v = .int .i64 (sm : Nat)) | 29 => (v = .bool false) | 30 => (v = .bool false) | _ => True) (show Tryd.prog.follows .mixedOrders = true from Checked.mixed Tryd.checked) 121 rfl (by decide +kernel) ?_ ((Below.refl _ _).drew) ?_ ⟨?_, ?_, ?_, ?_, ?_, ?_, ?_, ?_, ?_, ?_, ?_, ?_, ?_, ?_, ?_, ?_, ?_, ?_, ?_, ?_, ?_, ?_, ?_, ?_, ?_, ?_, ?_, ?_, ?_, ?_, ?_, trivial⟩ ?_
      · intro i v w w' h hE
        match i, h with
        | 0, h => exact h
        | 1, h => exact h
        | 2, h => exact h
        | 3, h => exact h
        | 4, h => exact h
        | 5, h => exact h
        | 6, h => exact h
        | 7, h => exact h
        | 8, h => exact h
        | 9, h => exact h
        | 10, h => exact h
        | 11, h => exact h
        | 12, h => exact h
        | 13, h => exact h
        | 14, h => exact h
        | 15, h => exact h
        | 16, h => exact h
        | 17, h => exact h
        | 18, h => exact h
        | 19, h => exact h
        | 20, h => exact h
        | 21, h => exact h
        | 22, h => exact h
        | 23, h => exact h
        | 24, h => exact h
        | 25, h => exact h
        | 26, h => exact h
        | 27, h => exact h
        | 28, h => exact h
        | 29, h => exact h
        | 30, h => exact h
        | _ + 31, _ => trivial
      · exact fun w w' h h' => h.trans h'
      · -- 0: t41 := fieldAddr 28 t7 0 
        intro ac wx hE hsz hdf h
        have e7 : ac.tmps[7]? = some (.pointer (some ⟨gb, 0, none⟩)) := by obtain ⟨v, h1, h2⟩ := h 7 (by decide +kernel); exact h1.trans (h2.symm.trans rfl)
        clear h hsz hdf
        go_wp2
        exact ⟨_, rfl, rfl, Ext.refl _⟩
      · -- 1: t42 := load 3 t41 
        intro ac wx hE hsz hdf h
        have e41 : ac.tmps[41]? = some (.pointer (some ⟨gb, 0, none⟩)) := by obtain ⟨v, h1, h2⟩ := h 41 (by decide +kernel); rw [h1]; exact congrArg some h2
        clear h hsz hdf
        obtain ⟨q0, q1, q2, q3, q4, q5, q6, q7⟩ := (HBb.out.keep hE).cells
        go_wp2
        exact ⟨_, rfl, rfl, Ext.refl _⟩
      · -- 2: t43 := binOp BinOp.neq 3 t42 (const (8:i64)) 3 
        intro ac wx hE hsz hdf h
        have e42 : ac.tmps[42]? = some (.int .i64 8) := by obtain ⟨v, h1, h2⟩ := h 42 (by decide +kernel); rw [h1]; exact congrArg some h2
        clear h hsz hdf
        go_wp2
        exact ⟨_, rfl, rfl, Ext.refl _⟩
      · -- 3: t44 := move t43 
        intro ac wx hE hsz hdf h
        have e43 : ac.tmps[43]? = some (.bool false) := by obtain ⟨v, h1, h2⟩ := h 43 (by decide +kernel); rw [h1]; exact congrArg some h2
        clear h hsz hdf
        go_wp2
        exact ⟨_, rfl, rfl, Ext.refl _⟩
      · -- 4: t45 := fieldAddr 28 t7 1 (3, False)
        intro ac wx hE hsz hdf h
        have e7 : ac.tmps[7]? = some (.pointer (some ⟨gb, 0, none⟩)) := by obtain ⟨v, h1, h2⟩ := h 7 (by decide +kernel); exact h1.trans (h2.symm.trans rfl)
        have e44 : ac.tmps[44]? = some (.bool false) := by obtain ⟨v, h1, h2⟩ := h 44 (by decide +kernel); rw [h1]; exact congrArg some h2
        clear h hsz hdf
        go_wp2
        exact ⟨_, rfl, rfl, Ext.refl _⟩
      · -- 5: t46 := load 3 t45 (3, False)
        intro ac wx hE hsz hdf h
        have e45 : ac.tmps[45]? = some (.pointer (some ⟨gb, 1, none⟩)) := by obtain ⟨v, h1, h2⟩ := h 45 (by decide +kernel); rw [h1]; exact congrArg some h2
        have e44 : ac.tmps[44]? = some (.bool false) := by obtain ⟨v, h1, h2⟩ := h 44 (by decide +kernel); rw [h1]; exact congrArg some h2
        clear h hsz hdf
        obtain ⟨q0, q1, q2, q3, q4, q5, q6, q7⟩ := (HBb.out.keep hE).cells
        go_wp2
        exact ⟨_, rfl, rfl, Ext.refl _⟩
      · -- 6: t47 := binOp BinOp.neq 3 t46 (const (1:i64)) 3 (3, False)
        intro ac wx hE hsz hdf h
        have e46 : ac.tmps[46]? = some (.int .i64 1) := by obtain ⟨v, h1, h2⟩ := h 46 (by decide +kernel); rw [h1]; exact congrArg some h2
        have e44 : ac.tmps[44]? = some (.bool false) := by obtain ⟨v, h1, h2⟩ := h 44 (by decide +kernel); rw [h1]; exact congrArg some h2
        clear h hsz hdf
        go_wp2
        exact ⟨_, rfl, rfl, Ext.refl _⟩
      · -- 7: t48 := pick t44 (const (Value.bool true)) t47 
        intro ac wx hE hsz hdf h
        have e44 : ac.tmps[44]? = some (.bool false) := by obtain ⟨v, h1, h2⟩ := h 44 (by decide +kernel); rw [h1]; exact congrArg some h2
        have e47 : ac.tmps[47]? = some (.bool false) := by obtain ⟨v, h1, h2⟩ := h 47 (by decide +kernel); rw [h1]; exact congrArg some h2
        clear h hsz hdf
        go_wp2
        exact ⟨_, rfl, rfl, Ext.refl _⟩
      · -- 8: t49 := move t48 
        intro ac wx hE hsz hdf h
        have e48 : ac.tmps[48]? = some (.bool false) := by obtain ⟨v, h1, h2⟩ := h 48 (by decide +kernel); rw [h1]; exact congrArg some h2
        clear h hsz hdf
        go_wp2
        exact ⟨_, rfl, rfl, Ext.refl _⟩
      · -- 9: t50 := load 28 t7 (8, False)
        intro ac wx hE hsz hdf h
        have e7 : ac.tmps[7]? = some (.pointer (some ⟨gb, 0, none⟩)) := by obtain ⟨v, h1, h2⟩ := h 7 (by decide +kernel); exact h1.trans (h2.symm.trans rfl)
        have e49 : ac.tmps[49]? = some (.bool false) := by obtain ⟨v, h1, h2⟩ := h 49 (by decide +kernel); rw [h1]; exact congrArg some h2
        clear h hsz hdf
        obtain ⟨q0, q1, q2, q3, q4, q5, q6, q7⟩ := (HBb.out.keep hE).cells
        go_wp2
        exact ⟨_, rfl, rfl, Ext.refl _⟩
      · -- 10: t51 := call { value (Operand.func 9), args := #[t50], argTypes := #[28] } (8, False)
        intro ac wx hE hsz hdf h
        have e50 : ac.tmps[50]? = some (.agg #[.int .i64 8, .int .i64 1, .bool false, .int .u64 (wd noP 0 : Nat), .int .u64 (wd noP 1 : Nat), .int .u64 (wd noP 2 : Nat), .int .u64 (wd noP 3 : Nat), .slice Bb 1 cb]) := by obtain ⟨v, h1, h2⟩ := h 50 (by decide +kernel); rw [h1]; exact congrArg some h2
        have e49 : ac.tmps[49]? = some (.bool false) := by obtain ⟨v, h1, h2⟩ := h 49 (by decide +kernel); rw [h1]; exact congrArg some h2
        clear h hsz hdf
        go_wp2_with ((go_at_call 9; refine (rxGroups _ mt (Nat.le_refl _) (by have := HSM.out; omega) _ _ (nodeC 8 1 false noP Bb 1 cb) (HVb.out.keep hE)).mono ?_; rintro e w9 ⟨rfl, hb9⟩; rw [HGM.out]))
        exact ⟨_, rfl, rfl, hb9⟩
      · -- 11: t52 := load 28 t5 (8, False)
        intro ac wx hE hsz hdf h
        have e5 : ac.tmps[5]? = some (.pointer (some ⟨ga, 0, none⟩)) := by obtain ⟨v, h1, h2⟩ := h 5 (by decide +kernel); exact h1.trans (h2.symm.trans rfl)
        have e49 : ac.tmps[49]? = some (.bool false) := by obtain ⟨v, h1, h2⟩ := h 49 (by decide +kernel); rw [h1]; exact congrArg some h2
        clear h hsz hdf
        obtain ⟨q0, q1, q2, q3, q4, q5, q6, q7⟩ := (HBa.out.keep hE).cells
        go_wp2
        exact ⟨_, rfl, rfl, Ext.refl _⟩
      · -- 12: t53 := call { value (Operand.func 9), args := #[t52], argTypes := #[28] } (8, False)
        intro ac wx hE hsz hdf h
        have e52 : ac.tmps[52]? = some (.agg #[.int .i64 ka, .int .i64 ma, .bool za, .int .u64 (wd pa 0 : Nat), .int .u64 (wd pa 1 : Nat), .int .u64 (wd pa 2 : Nat), .int .u64 (wd pa 3 : Nat), .slice Ba na ca]) := by obtain ⟨v, h1, h2⟩ := h 52 (by decide +kernel); rw [h1]; exact congrArg some h2
        have e49 : ac.tmps[49]? = some (.bool false) := by obtain ⟨v, h1, h2⟩ := h 49 (by decide +kernel); rw [h1]; exact congrArg some h2
        clear h hsz hdf
        go_wp2_with ((go_at_call 9; refine (rxGroups _ nt (Nat.le_refl _) (by have := HSN.out; omega) _ _ (nodeC ka ma za pa Ba na ca) (HVa.out.keep hE)).mono ?_; rintro e w9 ⟨rfl, hb9⟩; rw [HGN.out]))
        exact ⟨_, rfl, rfl, hb9⟩
      · -- 13: t54 := binOp BinOp.add 3 t53 (const (1:i64)) 3 (8, False)
        intro ac wx hE hsz hdf h
        have e53 : ac.tmps[53]? = some (.int .i64 (gn : Nat)) := by obtain ⟨v, h1, h2⟩ := h 53 (by decide +kernel); rw [h1]; exact congrArg some h2
        have e49 : ac.tmps[49]? = some (.bool false) := by obtain ⟨v, h1, h2⟩ := h 49 (by decide +kernel); rw [h1]; exact congrArg some h2
        clear h hsz hdf
        go_wp2
        exact ⟨_, rfl, rfl, Ext.refl _⟩
      · -- 14: t55 := binOp BinOp.neq 3 t51 t54 3 (8, False)
        intro ac wx hE hsz hdf h
        have e51 : ac.tmps[51]? = some (.int .i64 (gm : Nat)) := by obtain ⟨v, h1, h2⟩ := h 51 (by decide +kernel); rw [h1]; exact congrArg some h2
        have e54 : ac.tmps[54]? = some (.int .i64 (gm : Nat)) := by obtain ⟨v, h1, h2⟩ := h 54 (by decide +kernel); rw [h1]; exact congrArg some h2
        have e49 : ac.tmps[49]? = some (.bool false) := by obtain ⟨v, h1, h2⟩ := h 49 (by decide +kernel); rw [h1]; exact congrArg some h2
        clear h hsz hdf
        go_wp2
        exact ⟨_, rfl, rfl, Ext.refl _⟩
      · -- 15: t56 := pick t49 (const (Value.bool true)) t55 
        intro ac wx hE hsz hdf h
        have e49 : ac.tmps[49]? = some (.bool false) := by obtain ⟨v, h1, h2⟩ := h 49 (by decide +kernel); rw [h1]; exact congrArg some h2
        have e55 : ac.tmps[55]? = some (.bool false) := by obtain ⟨v, h1, h2⟩ := h 55 (by decide +kernel); rw [h1]; exact congrArg some h2
        clear h hsz hdf
        go_wp2
        exact ⟨_, rfl, rfl, Ext.refl _⟩
      · -- 16: t57 := move t56 
        intro ac wx hE hsz hdf h
        have e56 : ac.tmps[56]? = some (.bool false) := by obtain ⟨v, h1, h2⟩ := h 56 (by decide +kernel); rw [h1]; exact congrArg some h2
        clear h hsz hdf
        go_wp2
        exact ⟨_, rfl, rfl, Ext.refl _⟩
      · -- 17: t58 := load 28 t7 (16, False)
        intro ac wx hE hsz hdf h
        have e7 : ac.tmps[7]? = some (.pointer (some ⟨gb, 0, none⟩)) := by obtain ⟨v, h1, h2⟩ := h 7 (by decide +kernel); exact h1.trans (h2.symm.trans rfl)
        have e57 : ac.tmps[57]? = some (.bool false) := by obtain ⟨v, h1, h2⟩ := h 57 (by decide +kernel); rw [h1]; exact congrArg some h2
        clear h hsz hdf
        obtain ⟨q0, q1, q2, q3, q4, q5, q6, q7⟩ := (HBb.out.keep hE).cells
        go_wp2
        exact ⟨_, rfl, rfl, Ext.refl _⟩
      · -- 18: t59 := call { value (Operand.func 10), args := #[t58], argTypes := #[28] } (16, False)
        intro ac wx hE hsz hdf h
        have e58 : ac.tmps[58]? = some (.agg #[.int .i64 8, .int .i64 1, .bool false, .int .u64 (wd noP 0 : Nat), .int .u64 (wd noP 1 : Nat), .int .u64 (wd noP 2 : Nat), .int .u64 (wd noP 3 : Nat), .slice Bb 1 cb]) := by obtain ⟨v, h1, h2⟩ := h 58 (by decide +kernel); rw [h1]; exact congrArg some h2
        have e57 : ac.tmps[57]? = some (.bool false) := by obtain ⟨v, h1, h2⟩ := h 57 (by decide +kernel); rw [h1]; exact congrArg some h2
        clear h hsz hdf
        go_wp2_with ((go_at_call 10; refine (rxNullable _ mt (Nat.le_refl _) (by have := HSM.out; omega) _ _ (nodeC 8 1 false noP Bb 1 cb) (HVb.out.keep hE)).mono ?_; rintro e w9 ⟨rfl, hb9⟩; rw [HNM.out]))
        exact ⟨_, rfl, rfl, hb9⟩
      · -- 19: t60 := load 28 t5 (16, False)
        intro ac wx hE hsz hdf h
        have e5 : ac.tmps[5]? = some (.pointer (some ⟨ga, 0, none⟩)) := by obtain ⟨v, h1, h2⟩ := h 5 (by decide +kernel); exact h1.trans (h2.symm.trans rfl)
        have e57 : ac.tmps[57]? = some (.bool false) := by obtain ⟨v, h1, h2⟩ := h 57 (by decide +kernel); rw [h1]; exact congrArg some h2
        clear h hsz hdf
        obtain ⟨q0, q1, q2, q3, q4, q5, q6, q7⟩ := (HBa.out.keep hE).cells
        go_wp2
        exact ⟨_, rfl, rfl, Ext.refl _⟩
      · -- 20: t61 := call { value (Operand.func 10), args := #[t60], argTypes := #[28] } (16, False)
        intro ac wx hE hsz hdf h
        have e60 : ac.tmps[60]? = some (.agg #[.int .i64 ka, .int .i64 ma, .bool za, .int .u64 (wd pa 0 : Nat), .int .u64 (wd pa 1 : Nat), .int .u64 (wd pa 2 : Nat), .int .u64 (wd pa 3 : Nat), .slice Ba na ca]) := by obtain ⟨v, h1, h2⟩ := h 60 (by decide +kernel); rw [h1]; exact congrArg some h2
        have e57 : ac.tmps[57]? = some (.bool false) := by obtain ⟨v, h1, h2⟩ := h 57 (by decide +kernel); rw [h1]; exact congrArg some h2
        clear h hsz hdf
        go_wp2_with ((go_at_call 10; refine (rxNullable _ nt (Nat.le_refl _) (by have := HSN.out; omega) _ _ (nodeC ka ma za pa Ba na ca) (HVa.out.keep hE)).mono ?_; rintro e w9 ⟨rfl, hb9⟩; rw [HNN.out]))
        exact ⟨_, rfl, rfl, hb9⟩
      · -- 21: t62 := binOp BinOp.neq 4 t59 t61 4 (16, False)
        intro ac wx hE hsz hdf h
        have e59 : ac.tmps[59]? = some (.bool nn) := by obtain ⟨v, h1, h2⟩ := h 59 (by decide +kernel); rw [h1]; exact congrArg some h2
        have e61 : ac.tmps[61]? = some (.bool nn) := by obtain ⟨v, h1, h2⟩ := h 61 (by decide +kernel); rw [h1]; exact congrArg some h2
        have e57 : ac.tmps[57]? = some (.bool false) := by obtain ⟨v, h1, h2⟩ := h 57 (by decide +kernel); rw [h1]; exact congrArg some h2
        clear h hsz hdf
        go_wp2
        exact ⟨_, rfl, by simp, Ext.refl _⟩
      · -- 22: t63 := pick t57 (const (Value.bool true)) t62 
        intro ac wx hE hsz hdf h
        have e57 : ac.tmps[57]? = some (.bool false) := by obtain ⟨v, h1, h2⟩ := h 57 (by decide +kernel); rw [h1]; exact congrArg some h2
        have e62 : ac.tmps[62]? = some (.bool false) := by obtain ⟨v, h1, h2⟩ := h 62 (by decide +kernel); rw [h1]; exact congrArg some h2
        clear h hsz hdf
        go_wp2
        exact ⟨_, rfl, rfl, Ext.refl _⟩
      · -- 23: t64 := move t63 
        intro ac wx hE hsz hdf h
        have e63 : ac.tmps[63]? = some (.bool false) := by obtain ⟨v, h1, h2⟩ := h 63 (by decide +kernel); rw [h1]; exact congrArg some h2
        clear h hsz hdf
        go_wp2
        exact ⟨_, rfl, rfl, Ext.refl _⟩
      · -- 24: t65 := load 28 t7 (23, False)
        intro ac wx hE hsz hdf h
        have e7 : ac.tmps[7]? = some (.pointer (some ⟨gb, 0, none⟩)) := by obtain ⟨v, h1, h2⟩ := h 7 (by decide +kernel); exact h1.trans (h2.symm.trans rfl)
        have e64 : ac.tmps[64]? = some (.bool false) := by obtain ⟨v, h1, h2⟩ := h 64 (by decide +kernel); rw [h1]; exact congrArg some h2
        clear h hsz hdf
        obtain ⟨q0, q1, q2, q3, q4, q5, q6, q7⟩ := (HBb.out.keep hE).cells
        go_wp2
        exact ⟨_, rfl, rfl, Ext.refl _⟩
      · -- 25: t66 := call { value (Operand.func 11), args := #[t65], argTypes := #[28] } (23, False)
        intro ac wx hE hsz hdf h
        have e65 : ac.tmps[65]? = some (.agg #[.int .i64 8, .int .i64 1, .bool false, .int .u64 (wd noP 0 : Nat), .int .u64 (wd noP 1 : Nat), .int .u64 (wd noP 2 : Nat), .int .u64 (wd noP 3 : Nat), .slice Bb 1 cb]) := by obtain ⟨v, h1, h2⟩ := h 65 (by decide +kernel); rw [h1]; exact congrArg some h2
        have e64 : ac.tmps[64]? = some (.bool false) := by obtain ⟨v, h1, h2⟩ := h 64 (by decide +kernel); rw [h1]; exact congrArg some h2
        clear h hsz hdf
        go_wp2_with ((go_at_call 11; refine (rxSize _ mt (Nat.le_refl _) (by have := HSM.out; omega) _ _ (nodeC 8 1 false noP Bb 1 cb) (HVb.out.keep hE)).mono ?_; rintro e w9 ⟨rfl, hb9⟩; rw [HZM.out]))
        exact ⟨_, rfl, rfl, hb9⟩
      · -- 26: t67 := load 28 t5 (23, False)
        intro ac wx hE hsz hdf h
        have e5 : ac.tmps[5]? = some (.pointer (some ⟨ga, 0, none⟩)) := by obtain ⟨v, h1, h2⟩ := h 5 (by decide +kernel); exact h1.trans (h2.symm.trans rfl)
        have e64 : ac.tmps[64]? = some (.bool false) := by obtain ⟨v, h1, h2⟩ := h 64 (by decide +kernel); rw [h1]; exact congrArg some h2
        clear h hsz hdf
        obtain ⟨q0, q1, q2, q3, q4, q5, q6, q7⟩ := (HBa.out.keep hE).cells
        go_wp2
        exact ⟨_, rfl, rfl, Ext.refl _⟩
      · -- 27: t68 := call { value (Operand.func 11), args := #[t67], argTypes := #[28] } (23, False)
        intro ac wx hE hsz hdf h
        have e67 : ac.tmps[67]? = some (.agg #[.int .i64 ka, .int .i64 ma, .bool za, .int .u64 (wd pa 0 : Nat), .int .u64 (wd pa 1 : Nat), .int .u64 (wd pa 2 : Nat), .int .u64 (wd pa 3 : Nat), .slice Ba na ca]) := by obtain ⟨v, h1, h2⟩ := h 67 (by decide +kernel); rw [h1]; exact congrArg some h2
        have e64 : ac.tmps[64]? = some (.bool false) := by obtain ⟨v, h1, h2⟩ := h 64 (by decide +kernel); rw [h1]; exact congrArg some h2
        clear h hsz hdf
        go_wp2_with ((go_at_call 11; refine (rxSize _ nt (Nat.le_refl _) (by have := HSN.out; omega) _ _ (nodeC ka ma za pa Ba na ca) (HVa.out.keep hE)).mono ?_; rintro e w9 ⟨rfl, hb9⟩; rw [HZN.out]))
        exact ⟨_, rfl, rfl, hb9⟩
      · -- 28: t69 := binOp BinOp.add 3 t68 (const (1:i64)) 3 (23, False)
        intro ac wx hE hsz hdf h
        have e68 : ac.tmps[68]? = some (.int .i64 (sn : Nat)) := by obtain ⟨v, h1, h2⟩ := h 68 (by decide +kernel); rw [h1]; exact congrArg some h2
        have e64 : ac.tmps[64]? = some (.bool false) := by obtain ⟨v, h1, h2⟩ := h 64 (by decide +kernel); rw [h1]; exact congrArg some h2
        clear h hsz hdf
        go_wp2
        exact ⟨_, rfl, rfl, Ext.refl _⟩
      · -- 29: t70 := binOp BinOp.neq 3 t66 t69 3 (23, False)
        intro ac wx hE hsz hdf h
        have e66 : ac.tmps[66]? = some (.int .i64 (sm : Nat)) := by obtain ⟨v, h1, h2⟩ := h 66 (by decide +kernel); rw [h1]; exact congrArg some h2
        have e69 : ac.tmps[69]? = some (.int .i64 (sm : Nat)) := by obtain ⟨v, h1, h2⟩ := h 69 (by decide +kernel); rw [h1]; exact congrArg some h2
        have e64 : ac.tmps[64]? = some (.bool false) := by obtain ⟨v, h1, h2⟩ := h 64 (by decide +kernel); rw [h1]; exact congrArg some h2
        clear h hsz hdf
        go_wp2
        exact ⟨_, rfl, rfl, Ext.refl _⟩
      · -- 30: t71 := pick t64 (const (Value.bool true)) t70 
        intro ac wx hE hsz hdf h
        have e64 : ac.tmps[64]? = some (.bool false) := by obtain ⟨v, h1, h2⟩ := h 64 (by decide +kernel); rw [h1]; exact congrArg some h2
        have e70 : ac.tmps[70]? = some (.bool false) := by obtain ⟨v, h1, h2⟩ := h 70 (by decide +kernel); rw [h1]; exact congrArg some h2
        clear h hsz hdf
        go_wp2
        exact ⟨_, rfl, rfl, Ext.refl _⟩
      · intro ac w9 hE hsz hdf h hrest
        obtain ⟨v0, s0, g0⟩ := h 0 _ rfl
        have e0 := g0 41 rfl
        obtain rfl : v0 = .pointer (some ⟨gb, 0, none⟩) := s0
        obtain ⟨v1, s1, g1⟩ := h 1 _ rfl
        have e1 := g1 42 rfl
        obtain rfl : v1 = .int .i64 8 := s1
        obtain ⟨v2, s2, g2⟩ := h 2 _ rfl
        have e2 := g2 43 rfl
        obtain rfl : v2 = .bool false := s2
        obtain ⟨v3, s3, g3⟩ := h 3 _ rfl
        have e3 := g3 44 rfl
        obtain rfl : v3 = .bool false := s3
        obtain ⟨v4, s4, g4⟩ := h 4 _ rfl
        have e4 := g4 45 rfl
        obtain rfl : v4 = .pointer (some ⟨gb, 1, none⟩) := s4
        obtain ⟨v5, s5, g5⟩ := h 5 _ rfl
        have e5 := g5 46 rfl
        obtain rfl : v5 = .int .i64 1 := s5
        obtain ⟨v6, s6, g6⟩ := h 6 _ rfl
        have e6 := g6 47 rfl
        obtain rfl : v6 = .bool false := s6
        obtain ⟨v7, s7, g7⟩ := h 7 _ rfl
        have e7 := g7 48 rfl
        obtain rfl : v7 = .bool false := s7
        obtain ⟨v8, s8, g8⟩ := h 8 _ rfl
        have e8 := g8 49 rfl
        obtain rfl : v8 = .bool false := s8
        obtain ⟨v9, s9, g9⟩ := h 9 _ rfl
        have e9 := g9 50 rfl
        obtain rfl : v9 = .agg #[.int .i64 8, .int .i64 1, .bool false, .int .u64 (wd noP 0 : Nat), .int .u64 (wd noP 1 : Nat), .int .u64 (wd noP 2 : Nat), .int .u64 (wd noP 3 : Nat), .slice Bb 1 cb] := s9
        obtain ⟨v10, s10, g10⟩ := h 10 _ rfl
        have e10 := g10 51 rfl
        obtain rfl : v10 = .int .i64 (gm : Nat) := s10
        obtain ⟨v11, s11, g11⟩ := h 11 _ rfl
        have e11 := g11 52 rfl
        obtain rfl : v11 = .agg #[.int .i64 ka, .int .i64 ma, .bool za, .int .u64 (wd pa 0 : Nat), .int .u64 (wd pa 1 : Nat), .int .u64 (wd pa 2 : Nat), .int .u64 (wd pa 3 : Nat), .slice Ba na ca] := s11
        obtain ⟨v12, s12, g12⟩ := h 12 _ rfl
        have e12 := g12 53 rfl
        obtain rfl : v12 = .int .i64 (gn : Nat) := s12
        obtain ⟨v13, s13, g13⟩ := h 13 _ rfl
        have e13 := g13 54 rfl
        obtain rfl : v13 = .int .i64 (gm : Nat) := s13
        obtain ⟨v14, s14, g14⟩ := h 14 _ rfl
        have e14 := g14 55 rfl
        obtain rfl : v14 = .bool false := s14
        obtain ⟨v15, s15, g15⟩ := h 15 _ rfl
        have e15 := g15 56 rfl
        obtain rfl : v15 = .bool false := s15
        obtain ⟨v16, s16, g16⟩ := h 16 _ rfl
        have e16 := g16 57 rfl
        obtain rfl : v16 = .bool false := s16
        obtain ⟨v17, s17, g17⟩ := h 17 _ rfl
        have e17 := g17 58 rfl
        obtain rfl : v17 = .agg #[.int .i64 8, .int .i64 1, .bool false, .int .u64 (wd noP 0 : Nat), .int .u64 (wd noP 1 : Nat), .int .u64 (wd noP 2 : Nat), .int .u64 (wd noP 3 : Nat), .slice Bb 1 cb] := s17
        obtain ⟨v18, s18, g18⟩ := h 18 _ rfl
        have e18 := g18 59 rfl
        obtain rfl : v18 = .bool nn := s18
        obtain ⟨v19, s19, g19⟩ := h 19 _ rfl
        have e19 := g19 60 rfl
        obtain rfl : v19 = .agg #[.int .i64 ka, .int .i64 ma, .bool za, .int .u64 (wd pa 0 : Nat), .int .u64 (wd pa 1 : Nat), .int .u64 (wd pa 2 : Nat), .int .u64 (wd pa 3 : Nat), .slice Ba na ca] := s19
        obtain ⟨v20, s20, g20⟩ := h 20 _ rfl
        have e20 := g20 61 rfl
        obtain rfl : v20 = .bool nn := s20
        obtain ⟨v21, s21, g21⟩ := h 21 _ rfl
        have e21 := g21 62 rfl
        obtain rfl : v21 = .bool false := s21
        obtain ⟨v22, s22, g22⟩ := h 22 _ rfl
        have e22 := g22 63 rfl
        obtain rfl : v22 = .bool false := s22
        obtain ⟨v23, s23, g23⟩ := h 23 _ rfl
        have e23 := g23 64 rfl
        obtain rfl : v23 = .bool false := s23
        obtain ⟨v24, s24, g24⟩ := h 24 _ rfl
        have e24 := g24 65 rfl
        obtain rfl : v24 = .agg #[.int .i64 8, .int .i64 1, .bool false, .int .u64 (wd noP 0 : Nat), .int .u64 (wd noP 1 : Nat), .int .u64 (wd noP 2 : Nat), .int .u64 (wd noP 3 : Nat), .slice Bb 1 cb] := s24
        obtain ⟨v25, s25, g25⟩ := h 25 _ rfl
        have e25 := g25 66 rfl
        obtain rfl : v25 = .int .i64 (sm : Nat) := s25
        obtain ⟨v26, s26, g26⟩ := h 26 _ rfl
        have e26 := g26 67 rfl
        obtain rfl : v26 = .agg #[.int .i64 ka, .int .i64 ma, .bool za, .int .u64 (wd pa 0 : Nat), .int .u64 (wd pa 1 : Nat), .int .u64 (wd pa 2 : Nat), .int .u64 (wd pa 3 : Nat), .slice Ba na ca] := s26
        obtain ⟨v27, s27, g27⟩ := h 27 _ rfl
        have e27 := g27 68 rfl
        obtain rfl : v27 = .int .i64 (sn : Nat) := s27
        obtain ⟨v28, s28, g28⟩ := h 28 _ rfl
        have e28 := g28 69 rfl
        obtain rfl : v28 = .int .i64 (sm : Nat) := s28
        obtain ⟨v29, s29, g29⟩ := h 29 _ rfl
        have e29 := g29 70 rfl
        obtain rfl : v29 = .bool false := s29
        obtain ⟨v30, s30, g30⟩ := h 30 _ rfl
        have e30 := g30 71 rfl
        obtain rfl : v30 = .bool false := s30
        have ha := act_of [(41, .pointer (some ⟨gb, 0, none⟩)), (42, .int .i64 8), (43, .bool false), (44, .bool false), (45, .pointer (some ⟨gb, 1, none⟩)), (46, .int .i64 1), (47, .bool false), (48, .bool false), (49, .bool false), (50, .agg #[.int .i64 8, .int .i64 1, .bool false, .int .u64 (wd noP 0 : Nat), .int .u64 (wd noP 1 : Nat), .int .u64 (wd noP 2 : Nat), .int .u64 (wd noP 3 : Nat), .slice Bb 1 cb]), (51, .int .i64 (gm : Nat)), (52, .agg #[.int .i64 ka, .int .i64 ma, .bool za, .int .u64 (wd pa 0 : Nat), .int .u64 (wd pa 1 : Nat), .int .u64 (wd pa 2 : Nat), .int .u64 (wd pa 3 : Nat), .slice Ba na ca]), (53, .int .i64 (gn : Nat)), (54, .int .i64 (gm : Nat)), (55, .bool false), (56, .bool false), (57, .bool false), (58, .agg #[.int .i64 8, .int .i64 1, .bool false, .int .u64 (wd noP 0 : Nat), .int .u64 (wd noP 1 : Nat), .int .u64 (wd noP 2 : Nat), .int .u64 (wd noP 3 : Nat), .slice Bb 1 cb]), (59, .bool nn), (60, .agg #[.int .i64 ka, .int .i64 ma, .bool za, .int .u64 (wd pa 0 : Nat), .int .u64 (wd pa 1 : Nat), .int .u64 (wd pa 2 : Nat), .int .u64 (wd pa 3 : Nat), .slice Ba na ca]), (61, .bool nn), (62, .bool false), (63, .bool false), (64, .bool false), (65, .agg #[.int .i64 8, .int .i64 1, .bool false, .int .u64 (wd noP 0 : Nat), .int .u64 (wd noP 1 : Nat), .int .u64 (wd noP 2 : Nat), .int .u64 (wd noP 3 : Nat), .slice Bb 1 cb]), (66, .int .i64 (sm : Nat)), (67, .agg #[.int .i64 ka, .int .i64 ma, .bool za, .int .u64 (wd pa 0 : Nat), .int .u64 (wd pa 1 : Nat), .int .u64 (wd pa 2 : Nat), .int .u64 (wd pa 3 : Nat), .slice Ba na ca]), (68, .int .i64 (sn : Nat)), (69, .int .i64 (sm : Nat)), (70, .bool false), (71, .bool false)] rfl hsz hdf (by intro p hp; simp only [List.mem_cons, List.not_mem_nil, or_false] at hp; rcases hp with rfl | rfl | rfl | rfl | rfl | rfl | rfl | rfl | rfl | rfl | rfl | rfl | rfl | rfl | rfl | rfl | rfl | rfl | rfl | rfl | rfl | rfl | rfl | rfl | rfl | rfl | rfl | rfl | rfl | rfl | rfl <;> first | exact e0 | exact e1 | exact e2 | exact e3 | exact e4 | exact e5 | exact e6 | exact e7 | exact e8 | exact e9 | exact e10 | exact e11 | exact e12 | exact e13 | exact e14 | exact e15 | exact e16 | exact e17 | exact e18 | exact e19 | exact e20 | exact e21 | exact e22 | exact e23 | exact e24 | exact e25 | exact e26 | exact e27 | exact e28 | exact e29 | exact e30) hrest
        clear h hrest hsz hdf e0 e1 e2 e3 e4 e5 e6 e7 e8 e9 e10 e11 e12 e13 e14 e15 e16 e17 e18 e19 e20 e21 e22 e23 e24 e25 e26 e27 e28 e29 e30 g0 g1 g2 g3 g4 g5 g6 g7 g8 g9 g10 g11 g12 g13 g14 g15 g16 g17 g18 g19 g20 g21 g22 g23 g24 g25 g26 g27 g28 g29 g30
        subst ha
        simp only [List.foldl_cons, List.foldl_nil, Act.put, List.setIfInBounds_toArray, List.set_cons_succ, List.set_cons_zero]
        have HX9 := Lib.hid (Ext.trans HXk.out hE)
        have HVa9 := Lib.hid (HVa.out.keep hE)
        have HBa9 := Lib.hid (HBa.out.keep hE)
        clear hE HXk HVa HBa HVb HBb HNM HGM HZM HZN hwg hwz
        go_wp2_with fail
        go_at_call 8
        refine (rxParse E t _ (HE.out.keep HX9.out)).mono ?_
        rintro e w4 hP4
        cases hr3 : parseR t with
        | out => rw [hr3] at hP4; exact hP4.2.elim
        | err k =>
          rw [hr3] at hP4
          obtain ⟨hx4, k, rfl, rfl⟩ := hP4
          have HX4 := Lib.hid (Ext.trans HX9.out hx4)
          have hn := fun w => run_eql_iface_nil (P := Tryd.prog) (w := w) 30 (by kernel_rfl) 142 (.pointer (some (E k)))
          clear hx4
          unfold ev errV zN
          go_wp2_with fail
          go_at_call 8
          refine (rxParse E (s ++ 124 :: t) _ ((HE.out.keep HX4.out).keep (Ext.new1 _ _))).mono ?_
          rintro e w5 hP5
          obtain ⟨hx5, k3, m3, z3, p3, B3, n3, c3, er3, rfl⟩ := hP5.form
          unfold nodeC
          go_wp2
          go_ret
          exact ⟨rfl, Ext.trans HX4.out (Ext.trans (Ext.new1 _ _) (Ext.trans hx5 (Ext.new1 _ _)))⟩
        | ok kt i3 gr3 =>
          rw [hr3] at hP4
          obtain ⟨hx4, v, rfl, hv⟩ := hP4
          obtain ⟨kc, mc, zc, pc, Bc, nc, cc, rfl⟩ := nodeV_form hv
          have hxc := Ext.new1 w4 (.cells (nodeC kc mc zc pc Bc nc cc).toArray 28)
          have HVc := Lib.hid (hv.keep hxc)
          have HBc := Lib.hid (NodeB.new w4 kc mc zc pc Bc nc cc)
          have HVa4 := Lib.hid (HVa9.out.keep (Ext.trans hx4 hxc))
          have HBa4 := Lib.hid (HBa9.out.keep (Ext.trans hx4 hxc))
          have HX4 := Lib.hid (Ext.trans HX9.out (Ext.trans hx4 hxc))
          have HR3 := Lib.hid hr3
          have HSK := Lib.hid (parseR_size hr3)
          clear hv hx4 hr3 hxc HVa9 HBa9 HX9
          unfold nodeC at HVc HX4 HVa4 HBa4 ⊢
          go_wp2_with fail
          generalize w4.alloc (.cells #[.int .i64 kc, .int .i64 mc, .bool zc, .int .u64 (wd pc 0 : Nat), .int .u64 (wd pc 1 : Nat), .int .u64 (wd pc 2 : Nat), .int .u64 (wd pc 3 : Nat), .slice Bc nc cc] 28) = wc at *
          generalize w4.heap.size = gc at *
          go_at_call 8
          refine (rxParse E (s ++ 124 :: t) _ (HE.out.keep HX4.out)).mono ?_
          rintro e w5 hP5
          cases hr4 : parseR (s ++ 124 :: t) with
          | out => rw [hr4] at hP5; exact hP5.2.elim
          | err k =>
            rw [hr4] at hP5
            obtain ⟨hx5, k, rfl, rfl⟩ := hP5
            have hn := fun w => run_eql_iface_nil (P := Tryd.prog) (w := w) 30 (by kernel_rfl) 142 (.pointer (some (E k)))
            unfold ev errV zN
            go_wp2
            go_ret
            exact ⟨rfl, Ext.trans HX4.out (Ext.trans hx5 (Ext.new1 _ _))⟩
          | ok xt i4 gr4 =>
            rw [hr4] at hP5
            obtain ⟨hx5, v, rfl, hv⟩ := hP5
            obtain ⟨b1, b2, b3, b4⟩ := bar_law HR1.out HR3.out hr4
            have HSX := Lib.hid (parseR_size hr4)
            obtain ⟨kd, md, zd, pd, Bd, nd, cd, rfl⟩ := nodeV_form hv
            have hk4 := kind_form hv
            rw [b1] at hk4
            obtain rfl : (4 : Int) = kd := hk4
            rw [len_form hv] at b2
            have hnd : (2 : Int) ≤ (nd : Int) := by omega
            obtain ⟨gk, hgk⟩ : ∃ gk, kt.groups = gk := ⟨_, rfl⟩
            obtain ⟨gx, hgx⟩ : ∃ gx, xt.groups = gx := ⟨_, rfl⟩
            obtain ⟨nk, hnk⟩ : ∃ nk, kt.nullable = nk := ⟨_, rfl⟩
            have hgle := groups_le kt
            have hwx : IntKind.i64.wrap ((gn : Int) + (gk : Int)) = (gx : Int) := by
              have := HSK.out; have := HGN.out; have := HGLE.out
              rw [wrap_id (by omega) (by omega)]; omega
            have HNX0 := Lib.hid (show xt.nullable = (nn || nk) by rw [b3, HNN.out, hnk])
            have HGK := Lib.hid hgk
            have HGX := Lib.hid hgx
            have HNK := Lib.hid hnk
            have hxd := Ext.new1 w5 (.cells (nodeC 4 md zd pd Bd nd cd).toArray 28)
            have HVd2 := Lib.hid (hv.keep hxd)
            have HBd2 := Lib.hid (NodeB.new w5 4 md zd pd Bd nd cd)
            have HVa2 := Lib.hid (HVa4.out.keep (Ext.trans hx5 hxd))
            have HBa2 := Lib.hid (HBa4.out.keep (Ext.trans hx5 hxd))
            have HVc2 := Lib.hid (HVc.out.keep (Ext.trans hx5 hxd))
            have HBc2 := Lib.hid (HBc.out.keep (Ext.trans hx5 hxd))
            have HXl := Lib.hid (Ext.trans HX4.out (Ext.trans hx5 hxd))
            clear hv hx5 hr4 hxd b1 b2 b3 b4 hgk hgx hnk hgle HVa4 HBa4 HVc HBc HX4
            unfold nodeC at HVd2 HXl HVa2 HBa2 HVc2 HBc2 ⊢
            go_upto_region 15 with fail
            generalize w5.alloc (.cells #[.int .i64 4, .int .i64 md, .bool zd, .int .u64 (wd pd 0 : Nat), .int .u64 (wd pd 1 : Nat), .int .u64 (wd pd 2 : Nat), .int .u64 (wd pd 3 : Nat), .slice Bd nd cd] 28) = wl at *
            generalize w5.heap.size = gd at *
            cases nn
            focus
              have HNN2 := Lib.hid HNN.out
              have HNX := Lib.hid (show xt.nullable = nk by rw [HNX0.out]; rfl)
              refine wp_region_dag (E := Ext) (w0 := wl) (Φ := fun i v w => match i with | 0 => (v = .pointer (some ⟨gd, 0, none⟩)) | 1 => (v = .int .i64 4) | 2 => (v = .bool true) | 3 => (v = .bool true) | 4 => (v = .pointer (some ⟨gd, 7, none⟩)) | 5 => (v = .slice Bd nd cd) | 6 => (v = .int .i64 (nd : Nat)) | 7 => (v = .bool true) | 8 => (v = .bool true) | 9 => (v = .bool true) | 10 => (v = .agg #[.int .i64 4, .int .i64 md, .bool zd, .int .u64 (wd pd 0 : Nat), .int .u64 (wd pd 1 : Nat), .int .u64 (wd pd 2 : Nat), .int .u64 (wd pd 3 : Nat), .slice Bd nd cd]) | 11 => (v = .bool nk) | 12 => (v = .agg #[.int .i64 ka, .int .i64 ma, .bool za, .int .u64 (wd pa 0 : Nat), .int .u64 (wd pa 1 : Nat), .int .u64 (wd pa 2 : Nat), .int .u64 (wd pa 3 : Nat), .slice Ba na ca]) | 13 => (v = .bool false) | 14 => (v = .bool false) | 15 => (v = .agg #[.int .i64 kc, .int .i64 mc, .bool zc, .int .u64 (wd pc 0 : Nat), .int .u64 (wd pc 1 : Nat), .int .u64 (wd pc 2 : Nat), .int .u64 (wd pc 3 : Nat), .slice Bc nc cc]) | 16 => (v = .bool nk) | 17 => (v = .bool nk) | 18 => (v = .bool true) | 19 => (v = .bool true) | 20 => (v = .bool true) | 21 => (v = .agg #[.int .i64 4, .int .i64 md, .bool zd, .int .u64 (wd pd 0 : Nat), .int .u64 (wd pd 1 : Nat), .int .u64 (wd pd 2 : Nat), .int .u64 (wd pd 3 : Nat), .slice Bd nd cd]) | 22 => (v = .int .i64 (gx : Nat)) | 23 => (v = .agg #[.int .i64 ka, .int .i64 ma, .bool za, .int .u64 (wd pa 0 : Nat), .int .u64 (wd pa 1 : Nat), .int .u64 (wd pa 2 : Nat), .int .u64 (wd pa 3 : Nat), .slice Ba na ca]) | 24 => (v = .int .i64 (gn : Nat)) | 25 => (v = .agg #[.int .i64 kc, .int .i64 mc, .bool zc, .int .u64 (wd pc 0 : Nat), .int .u64 (wd pc 1 : Nat), .int .u64 (wd pc 2 : Nat), .int .u64 (wd pc 3 : Nat), .slice Bc nc cc]) | 26 => (v = .int .i64 (gk : Nat)) | 27 => (v = .int .i64 (gx : Nat)) | 28 => (v = .bool true) | 29 => (v = .bool true) | 30 => (v = .bool true) | _ => True) (show Tryd.prog.follows .mixedOrders = true from Checked.mixed Tryd.checked) 121 rfl (by decide +kernel) ?_ ((Below.refl _ _).drew) ?_ ⟨?_, ?_, ?_, ?_, ?_, ?_, ?_, ?_, ?_, ?_, ?_, ?_, ?_, ?_, ?_, ?_, ?_, ?_, ?_, ?_, ?_, ?_, ?_, ?_, ?_, ?_, ?_, ?_, ?_, ?_, ?_, trivial⟩ ?_
              · intro i v w w' h hE
                match i, h with
                | 0, h => exact h
                | 1, h => exact h
                | 2, h => exact h
                | 3, h => exact h
                | 4, h => exact h
                | 5, h => exact h
                | 6, h => exact h
                | 7, h => exact h
                | 8, h => exact h
                | 9, h => exact h
                | 10, h => exact h
                | 11, h => exact h
                | 12, h => exact h
                | 13, h => exact h
                | 14, h => exact h
                | 15, h => exact h
                | 16, h => exact h
                | 17, h => exact h
                | 18, h => exact h
                | 19, h => exact h
                | 20, h => exact h
                | 21, h => exact h
                | 22, h => exact h
                | 23, h => exact h
                | 24, h => exact h
                | 25, h => exact h
                | 26, h => exact h
                | 27, h => exact h
                | 28, h => exact h
                | 29, h => exact h
                | 30, h => exact h
                | _ + 31, _ => trivial
              · exact fun w w' h h' => h.trans h'
              · -- 0: t91 := fieldAddr 28 t11 0 
                intro ac wx hE hsz hdf h
                have e11 : ac.tmps[11]? = some (.pointer (some ⟨gd, 0, none⟩)) := by obtain ⟨v, h1, h2⟩ := h 11 (by decide +kernel); exact h1.trans (h2.symm.trans rfl)
                clear h hsz hdf
                go_wp2
                exact ⟨_, rfl, rfl, Ext.refl _⟩
              · -- 1: t92 := load 3 t91 
                intro ac wx hE hsz hdf h
                have e91 : ac.tmps[91]? = some (.pointer (some ⟨gd, 0, none⟩)) := by obtain ⟨v, h1, h2⟩ := h 91 (by decide +kernel); rw [h1]; exact congrArg some h2
                clear h hsz hdf
                obtain ⟨q0, q1, q2, q3, q4, q5, q6, q7⟩ := (HBd2.out.keep hE).cells
                go_wp2
                exact ⟨_, rfl, rfl, Ext.refl _⟩
              · -- 2: t93 := binOp BinOp.eql 3 t92 (const (4:i64)) 3 
                intro ac wx hE hsz hdf h
                have e92 : ac.tmps[92]? = some (.int .i64 4) := by obtain ⟨v, h1, h2⟩ := h 92 (by decide +kernel); rw [h1]; exact congrArg some h2
                clear h hsz hdf
                go_wp2
                exact ⟨_, rfl, rfl, Ext.refl _⟩
              · -- 3: t94 := move t93 
                intro ac wx hE hsz hdf h
                have e93 : ac.tmps[93]? = some (.bool true) := by obtain ⟨v, h1, h2⟩ := h 93 (by decide +kernel); rw [h1]; exact congrArg some h2
                clear h hsz hdf
                go_wp2
                exact ⟨_, rfl, rfl, Ext.refl _⟩
              · -- 4: t95 := fieldAddr 28 t11 4 (3, True)
                intro ac wx hE hsz hdf h
                have e11 : ac.tmps[11]? = some (.pointer (some ⟨gd, 0, none⟩)) := by obtain ⟨v, h1, h2⟩ := h 11 (by decide +kernel); exact h1.trans (h2.symm.trans rfl)
                have e94 : ac.tmps[94]? = some (.bool true) := by obtain ⟨v, h1, h2⟩ := h 94 (by decide +kernel); rw [h1]; exact congrArg some h2
                clear h hsz hdf
                go_wp2
                exact ⟨_, rfl, rfl, Ext.refl _⟩
              · -- 5: t96 := load 26 t95 (3, True)
                intro ac wx hE hsz hdf h
                have e95 : ac.tmps[95]? = some (.pointer (some ⟨gd, 7, none⟩)) := by obtain ⟨v, h1, h2⟩ := h 95 (by decide +kernel); rw [h1]; exact congrArg some h2
                have e94 : ac.tmps[94]? = some (.bool true) := by obtain ⟨v, h1, h2⟩ := h 94 (by decide +kernel); rw [h1]; exact congrArg some h2
                clear h hsz hdf
                obtain ⟨q0, q1, q2, q3, q4, q5, q6, q7⟩ := (HBd2.out.keep hE).cells
                go_wp2
                exact ⟨_, rfl, rfl, Ext.refl _⟩
              · -- 6: t97 := call { builtin len, args := #[t96], argTypes := #[26] } (3, True)
                intro ac wx hE hsz hdf h
                have e96 : ac.tmps[96]? = some (.slice Bd nd cd) := by obtain ⟨v, h1, h2⟩ := h 96 (by decide +kernel); rw [h1]; exact congrArg some h2
                have e94 : ac.tmps[94]? = some (.bool true) := by obtain ⟨v, h1, h2⟩ := h 94 (by decide +kernel); rw [h1]; exact congrArg some h2
                clear h hsz hdf
                go_wp2
                exact ⟨_, rfl, rfl, Ext.refl _⟩
              · -- 7: t98 := binOp BinOp.geq 3 t97 (const (2:i64)) 3 (3, True)
                intro ac wx hE hsz hdf h
                have e97 : ac.tmps[97]? = some (.int .i64 (nd : Nat)) := by obtain ⟨v, h1, h2⟩ := h 97 (by decide +kernel); rw [h1]; exact congrArg some h2
                have e94 : ac.tmps[94]? = some (.bool true) := by obtain ⟨v, h1, h2⟩ := h 94 (by decide +kernel); rw [h1]; exact congrArg some h2
                clear h hsz hdf
                go_wp2
                exact ⟨_, rfl, rfl, Ext.refl _⟩
              · -- 8: t99 := pick t94 t98 (const (Value.bool false)) 
                intro ac wx hE hsz hdf h
                have e94 : ac.tmps[94]? = some (.bool true) := by obtain ⟨v, h1, h2⟩ := h 94 (by decide +kernel); rw [h1]; exact congrArg some h2
                have e98 : ac.tmps[98]? = some (.bool true) := by obtain ⟨v, h1, h2⟩ := h 98 (by decide +kernel); rw [h1]; exact congrArg some h2
                clear h hsz hdf
                go_wp2
                exact ⟨_, rfl, rfl, Ext.refl _⟩
              · -- 9: t100 := move t99 
                intro ac wx hE hsz hdf h
                have e99 : ac.tmps[99]? = some (.bool true) := by obtain ⟨v, h1, h2⟩ := h 99 (by decide +kernel); rw [h1]; exact congrArg some h2
                clear h hsz hdf
                go_wp2
                exact ⟨_, rfl, rfl, Ext.refl _⟩
              · -- 10: t101 := load 28 t11 (9, True)
                intro ac wx hE hsz hdf h
                have e11 : ac.tmps[11]? = some (.pointer (some ⟨gd, 0, none⟩)) := by obtain ⟨v, h1, h2⟩ := h 11 (by decide +kernel); exact h1.trans (h2.symm.trans rfl)
                have e100 : ac.tmps[100]? = some (.bool true) := by obtain ⟨v, h1, h2⟩ := h 100 (by decide +kernel); rw [h1]; exact congrArg some h2
                clear h hsz hdf
                obtain ⟨q0, q1, q2, q3, q4, q5, q6, q7⟩ := (HBd2.out.keep hE).cells
                go_wp2
                exact ⟨_, rfl, rfl, Ext.refl _⟩
              · -- 11: t102 := call { value (Operand.func 10), args := #[t101], argTypes := #[28] } (9, True)
                intro ac wx hE hsz hdf h
                have e101 : ac.tmps[101]? = some (.agg #[.int .i64 4, .int .i64 md, .bool zd, .int .u64 (wd pd 0 : Nat), .int .u64 (wd pd 1 : Nat), .int .u64 (wd pd 2 : Nat), .int .u64 (wd pd 3 : Nat), .slice Bd nd cd]) := by obtain ⟨v, h1, h2⟩ := h 101 (by decide +kernel); rw [h1]; exact congrArg some h2
                have e100 : ac.tmps[100]? = some (.bool true) := by obtain ⟨v, h1, h2⟩ := h 100 (by decide +kernel); rw [h1]; exact congrArg some h2
                clear h hsz hdf
                go_wp2_with ((go_at_call 10; refine (rxNullable _ xt (Nat.le_refl _) (by have := HSX.out; omega) _ _ (nodeC 4 md zd pd Bd nd cd) (HVd2.out.keep hE)).mono ?_; rintro e w9 ⟨rfl, hb9⟩; rw [HNX.out]))
                exact ⟨_, rfl, rfl, hb9⟩
              · -- 12: t103 := load 28 t5 (9, True)
                intro ac wx hE hsz hdf h
                have e5 : ac.tmps[5]? = some (.pointer (some ⟨ga, 0, none⟩)) := by obtain ⟨v, h1, h2⟩ := h 5 (by decide +kernel); exact h1.trans (h2.symm.trans rfl)
                have e100 : ac.tmps[100]? = some (.bool true) := by obtain ⟨v, h1, h2⟩ := h 100 (by decide +kernel); rw [h1]; exact congrArg some h2
                clear h hsz hdf
                obtain ⟨q0, q1, q2, q3, q4, q5, q6, q7⟩ := (HBa2.out.keep hE).cells
                go_wp2
                exact ⟨_, rfl, rfl, Ext.refl _⟩
              · -- 13: t104 := call { value (Operand.func 10), args := #[t103], argTypes := #[28] } (9, True)
                intro ac wx hE hsz hdf h
                have e103 : ac.tmps[103]? = some (.agg #[.int .i64 ka, .int .i64 ma, .bool za, .int .u64 (wd pa 0 : Nat), .int .u64 (wd pa 1 : Nat), .int .u64 (wd pa 2 : Nat), .int .u64 (wd pa 3 : Nat), .slice Ba na ca]) := by obtain ⟨v, h1, h2⟩ := h 103 (by decide +kernel); rw [h1]; exact congrArg some h2
                have e100 : ac.tmps[100]? = some (.bool true) := by obtain ⟨v, h1, h2⟩ := h 100 (by decide +kernel); rw [h1]; exact congrArg some h2
                clear h hsz hdf
                go_wp2_with ((go_at_call 10; refine (rxNullable _ nt (Nat.le_refl _) (by have := HSN.out; omega) _ _ (nodeC ka ma za pa Ba na ca) (HVa2.out.keep hE)).mono ?_; rintro e w9 ⟨rfl, hb9⟩; rw [HNN2.out]))
                exact ⟨_, rfl, rfl, hb9⟩
              · -- 14: t105 := move t104 (9, True)
                intro ac wx hE hsz hdf h
                have e104 : ac.tmps[104]? = some (.bool false) := by obtain ⟨v, h1, h2⟩ := h 104 (by decide +kernel); rw [h1]; exact congrArg some h2
                have e100 : ac.tmps[100]? = some (.bool true) := by obtain ⟨v, h1, h2⟩ := h 100 (by decide +kernel); rw [h1]; exact congrArg some h2
                clear h hsz hdf
                go_wp2
                exact ⟨_, rfl, rfl, Ext.refl _⟩
              · -- 15: t106 := load 28 t9 (14, False)
                intro ac wx hE hsz hdf h
                have e9 : ac.tmps[9]? = some (.pointer (some ⟨gc, 0, none⟩)) := by obtain ⟨v, h1, h2⟩ := h 9 (by decide +kernel); exact h1.trans (h2.symm.trans rfl)
                have e105 : ac.tmps[105]? = some (.bool false) := by obtain ⟨v, h1, h2⟩ := h 105 (by decide +kernel); rw [h1]; exact congrArg some h2
                clear h hsz hdf
                obtain ⟨q0, q1, q2, q3, q4, q5, q6, q7⟩ := (HBc2.out.keep hE).cells
                go_wp2
                exact ⟨_, rfl, rfl, Ext.refl _⟩
              · -- 16: t107 := call { value (Operand.func 10), args := #[t106], argTypes := #[28] } (14, False)
                intro ac wx hE hsz hdf h
                have e106 : ac.tmps[106]? = some (.agg #[.int .i64 kc, .int .i64 mc, .bool zc, .int .u64 (wd pc 0 : Nat), .int .u64 (wd pc 1 : Nat), .int .u64 (wd pc 2 : Nat), .int .u64 (wd pc 3 : Nat), .slice Bc nc cc]) := by obtain ⟨v, h1, h2⟩ := h 106 (by decide +kernel); rw [h1]; exact congrArg some h2
                have e105 : ac.tmps[105]? = some (.bool false) := by obtain ⟨v, h1, h2⟩ := h 105 (by decide +kernel); rw [h1]; exact congrArg some h2
                clear h hsz hdf
                go_wp2_with ((go_at_call 10; refine (rxNullable _ kt (Nat.le_refl _) (by have := HSK.out; omega) _ _ (nodeC kc mc zc pc Bc nc cc) (HVc2.out.keep hE)).mono ?_; rintro e w9 ⟨rfl, hb9⟩; rw [HNK.out]))
                exact ⟨_, rfl, rfl, hb9⟩
              · -- 17: t108 := pick t105 (const (Value.bool true)) t107 (9, True)
                intro ac wx hE hsz hdf h
                have e105 : ac.tmps[105]? = some (.bool false) := by obtain ⟨v, h1, h2⟩ := h 105 (by decide +kernel); rw [h1]; exact congrArg some h2
                have e107 : ac.tmps[107]? = some (.bool nk) := by obtain ⟨v, h1, h2⟩ := h 107 (by decide +kernel); rw [h1]; exact congrArg some h2
                have e100 : ac.tmps[100]? = some (.bool true) := by obtain ⟨v, h1, h2⟩ := h 100 (by decide +kernel); rw [h1]; exact congrArg some h2
                clear h hsz hdf
                go_wp2
                exact ⟨_, rfl, rfl, Ext.refl _⟩
              · -- 18: t109 := binOp BinOp.eql 4 t102 t108 4 (9, True)
                intro ac wx hE hsz hdf h
                have e102 : ac.tmps[102]? = some (.bool nk) := by obtain ⟨v, h1, h2⟩ := h 102 (by decide +kernel); rw [h1]; exact congrArg some h2
                have e108 : ac.tmps[108]? = some (.bool nk) := by obtain ⟨v, h1, h2⟩ := h 108 (by decide +kernel); rw [h1]; exact congrArg some h2
                have e100 : ac.tmps[100]? = some (.bool true) := by obtain ⟨v, h1, h2⟩ := h 100 (by decide +kernel); rw [h1]; exact congrArg some h2
                clear h hsz hdf
                go_wp2
                exact ⟨_, rfl, by simp, Ext.refl _⟩
              · -- 19: t110 := pick t100 t109 (const (Value.bool false)) 
                intro ac wx hE hsz hdf h
                have e100 : ac.tmps[100]? = some (.bool true) := by obtain ⟨v, h1, h2⟩ := h 100 (by decide +kernel); rw [h1]; exact congrArg some h2
                have e109 : ac.tmps[109]? = some (.bool true) := by obtain ⟨v, h1, h2⟩ := h 109 (by decide +kernel); rw [h1]; exact congrArg some h2
                clear h hsz hdf
                go_wp2
                exact ⟨_, rfl, rfl, Ext.refl _⟩
              · -- 20: t111 := move t110 
                intro ac wx hE hsz hdf h
                have e110 : ac.tmps[110]? = some (.bool true) := by obtain ⟨v, h1, h2⟩ := h 110 (by decide +kernel); rw [h1]; exact congrArg some h2
                clear h hsz hdf
                go_wp2
                exact ⟨_, rfl, rfl, Ext.refl _⟩
              · -- 21: t112 := load 28 t11 (20, True)
                intro ac wx hE hsz hdf h
                have e11 : ac.tmps[11]? = some (.pointer (some ⟨gd, 0, none⟩)) := by obtain ⟨v, h1, h2⟩ := h 11 (by decide +kernel); exact h1.trans (h2.symm.trans rfl)
                have e111 : ac.tmps[111]? = some (.bool true) := by obtain ⟨v, h1, h2⟩ := h 111 (by decide +kernel); rw [h1]; exact congrArg some h2
                clear h hsz hdf
                obtain ⟨q0, q1, q2, q3, q4, q5, q6, q7⟩ := (HBd2.out.keep hE).cells
                go_wp2
                exact ⟨_, rfl, rfl, Ext.refl _⟩
              · -- 22: t113 := call { value (Operand.func 9), args := #[t112], argTypes := #[28] } (20, True)
                intro ac wx hE hsz hdf h
                have e112 : ac.tmps[112]? = some (.agg #[.int .i64 4, .int .i64 md, .bool zd, .int .u64 (wd pd 0 : Nat), .int .u64 (wd pd 1 : Nat), .int .u64 (wd pd 2 : Nat), .int .u64 (wd pd 3 : Nat), .slice Bd nd cd]) := by obtain ⟨v, h1, h2⟩ := h 112 (by decide +kernel); rw [h1]; exact congrArg some h2
                have e111 : ac.tmps[111]? = some (.bool true) := by obtain ⟨v, h1, h2⟩ := h 111 (by decide +kernel); rw [h1]; exact congrArg some h2
                clear h hsz hdf
                go_wp2_with ((go_at_call 9; refine (rxGroups _ xt (Nat.le_refl _) (by have := HSX.out; omega) _ _ (nodeC 4 md zd pd Bd nd cd) (HVd2.out.keep hE)).mono ?_; rintro e w9 ⟨rfl, hb9⟩; rw [HGX.out]))
                exact ⟨_, rfl, rfl, hb9⟩
              · -- 23: t114 := load 28 t5 (20, True)
                intro ac wx hE hsz hdf h
                have e5 : ac.tmps[5]? = some (.pointer (some ⟨ga, 0, none⟩)) := by obtain ⟨v, h1, h2⟩ := h 5 (by decide +kernel); exact h1.trans (h2.symm.trans rfl)
                have e111 : ac.tmps[111]? = some (.bool true) := by obtain ⟨v, h1, h2⟩ := h 111 (by decide +kernel); rw [h1]; exact congrArg some h2
                clear h hsz hdf
                obtain ⟨q0, q1, q2, q3, q4, q5, q6, q7⟩ := (HBa2.out.keep hE).cells
                go_wp2
                exact ⟨_, rfl, rfl, Ext.refl _⟩
              · -- 24: t115 := call { value (Operand.func 9), args := #[t114], argTypes := #[28] } (20, True)
                intro ac wx hE hsz hdf h
                have e114 : ac.tmps[114]? = some (.agg #[.int .i64 ka, .int .i64 ma, .bool za, .int .u64 (wd pa 0 : Nat), .int .u64 (wd pa 1 : Nat), .int .u64 (wd pa 2 : Nat), .int .u64 (wd pa 3 : Nat), .slice Ba na ca]) := by obtain ⟨v, h1, h2⟩ := h 114 (by decide +kernel); rw [h1]; exact congrArg some h2
                have e111 : ac.tmps[111]? = some (.bool true) := by obtain ⟨v, h1, h2⟩ := h 111 (by decide +kernel); rw [h1]; exact congrArg some h2
                clear h hsz hdf
                go_wp2_with ((go_at_call 9; refine (rxGroups _ nt (Nat.le_refl _) (by have := HSN.out; omega) _ _ (nodeC ka ma za pa Ba na ca) (HVa2.out.keep hE)).mono ?_; rintro e w9 ⟨rfl, hb9⟩; rw [HGN.out]))
                exact ⟨_, rfl, rfl, hb9⟩
              · -- 25: t116 := load 28 t9 (20, True)
                intro ac wx hE hsz hdf h
                have e9 : ac.tmps[9]? = some (.pointer (some ⟨gc, 0, none⟩)) := by obtain ⟨v, h1, h2⟩ := h 9 (by decide +kernel); exact h1.trans (h2.symm.trans rfl)
                have e111 : ac.tmps[111]? = some (.bool true) := by obtain ⟨v, h1, h2⟩ := h 111 (by decide +kernel); rw [h1]; exact congrArg some h2
                clear h hsz hdf
                obtain ⟨q0, q1, q2, q3, q4, q5, q6, q7⟩ := (HBc2.out.keep hE).cells
                go_wp2
                exact ⟨_, rfl, rfl, Ext.refl _⟩
              · -- 26: t117 := call { value (Operand.func 9), args := #[t116], argTypes := #[28] } (20, True)
                intro ac wx hE hsz hdf h
                have e116 : ac.tmps[116]? = some (.agg #[.int .i64 kc, .int .i64 mc, .bool zc, .int .u64 (wd pc 0 : Nat), .int .u64 (wd pc 1 : Nat), .int .u64 (wd pc 2 : Nat), .int .u64 (wd pc 3 : Nat), .slice Bc nc cc]) := by obtain ⟨v, h1, h2⟩ := h 116 (by decide +kernel); rw [h1]; exact congrArg some h2
                have e111 : ac.tmps[111]? = some (.bool true) := by obtain ⟨v, h1, h2⟩ := h 111 (by decide +kernel); rw [h1]; exact congrArg some h2
                clear h hsz hdf
                go_wp2_with ((go_at_call 9; refine (rxGroups _ kt (Nat.le_refl _) (by have := HSK.out; omega) _ _ (nodeC kc mc zc pc Bc nc cc) (HVc2.out.keep hE)).mono ?_; rintro e w9 ⟨rfl, hb9⟩; rw [HGK.out]))
                exact ⟨_, rfl, rfl, hb9⟩
              · -- 27: t118 := binOp BinOp.add 3 t115 t117 3 (20, True)
                intro ac wx hE hsz hdf h
                have e115 : ac.tmps[115]? = some (.int .i64 (gn : Nat)) := by obtain ⟨v, h1, h2⟩ := h 115 (by decide +kernel); rw [h1]; exact congrArg some h2
                have e117 : ac.tmps[117]? = some (.int .i64 (gk : Nat)) := by obtain ⟨v, h1, h2⟩ := h 117 (by decide +kernel); rw [h1]; exact congrArg some h2
                have e111 : ac.tmps[111]? = some (.bool true) := by obtain ⟨v, h1, h2⟩ := h 111 (by decide +kernel); rw [h1]; exact congrArg some h2
                clear h hsz hdf
                go_wp2
                exact ⟨_, rfl, rfl, Ext.refl _⟩
              · -- 28: t119 := binOp BinOp.eql 3 t113 t118 3 (20, True)
                intro ac wx hE hsz hdf h
                have e113 : ac.tmps[113]? = some (.int .i64 (gx : Nat)) := by obtain ⟨v, h1, h2⟩ := h 113 (by decide +kernel); rw [h1]; exact congrArg some h2
                have e118 : ac.tmps[118]? = some (.int .i64 (gx : Nat)) := by obtain ⟨v, h1, h2⟩ := h 118 (by decide +kernel); rw [h1]; exact congrArg some h2
                have e111 : ac.tmps[111]? = some (.bool true) := by obtain ⟨v, h1, h2⟩ := h 111 (by decide +kernel); rw [h1]; exact congrArg some h2
                clear h hsz hdf
                go_wp2
                exact ⟨_, rfl, rfl, Ext.refl _⟩
              · -- 29: t120 := pick t111 t119 (const (Value.bool false)) 
                intro ac wx hE hsz hdf h
                have e111 : ac.tmps[111]? = some (.bool true) := by obtain ⟨v, h1, h2⟩ := h 111 (by decide +kernel); rw [h1]; exact congrArg some h2
                have e119 : ac.tmps[119]? = some (.bool true) := by obtain ⟨v, h1, h2⟩ := h 119 (by decide +kernel); rw [h1]; exact congrArg some h2
                clear h hsz hdf
                go_wp2
                exact ⟨_, rfl, rfl, Ext.refl _⟩
              · -- 30: t4 := assign t120 
                intro ac wx hE hsz hdf h
                have e120 : ac.tmps[120]? = some (.bool true) := by obtain ⟨v, h1, h2⟩ := h 120 (by decide +kernel); rw [h1]; exact congrArg some h2
                clear h hsz hdf
                go_wp2
                exact ⟨_, rfl, rfl, Ext.refl _⟩
              · intro ac w9 hE hsz hdf h hrest
                obtain ⟨v0, s0, g0⟩ := h 0 _ rfl
                have e0 := g0 91 rfl
                obtain rfl : v0 = .pointer (some ⟨gd, 0, none⟩) := s0
                obtain ⟨v1, s1, g1⟩ := h 1 _ rfl
                have e1 := g1 92 rfl
                obtain rfl : v1 = .int .i64 4 := s1
                obtain ⟨v2, s2, g2⟩ := h 2 _ rfl
                have e2 := g2 93 rfl
                obtain rfl : v2 = .bool true := s2
                obtain ⟨v3, s3, g3⟩ := h 3 _ rfl
                have e3 := g3 94 rfl
                obtain rfl : v3 = .bool true := s3
                obtain ⟨v4, s4, g4⟩ := h 4 _ rfl
                have e4 := g4 95 rfl
                obtain rfl : v4 = .pointer (some ⟨gd, 7, none⟩) := s4
                obtain ⟨v5, s5, g5⟩ := h 5 _ rfl
                have e5 := g5 96 rfl
                obtain rfl : v5 = .slice Bd nd cd := s5
                obtain ⟨v6, s6, g6⟩ := h 6 _ rfl
                have e6 := g6 97 rfl
                obtain rfl : v6 = .int .i64 (nd : Nat) := s6
                obtain ⟨v7, s7, g7⟩ := h 7 _ rfl
                have e7 := g7 98 rfl
                obtain rfl : v7 = .bool true := s7
                obtain ⟨v8, s8, g8⟩ := h 8 _ rfl
                have e8 := g8 99 rfl
                obtain rfl : v8 = .bool true := s8
                obtain ⟨v9, s9, g9⟩ := h 9 _ rfl
                have e9 := g9 100 rfl
                obtain rfl : v9 = .bool true := s9
                obtain ⟨v10, s10, g10⟩ := h 10 _ rfl
                have e10 := g10 101 rfl
                obtain rfl : v10 = .agg #[.int .i64 4, .int .i64 md, .bool zd, .int .u64 (wd pd 0 : Nat), .int .u64 (wd pd 1 : Nat), .int .u64 (wd pd 2 : Nat), .int .u64 (wd pd 3 : Nat), .slice Bd nd cd] := s10
                obtain ⟨v11, s11, g11⟩ := h 11 _ rfl
                have e11 := g11 102 rfl
                obtain rfl : v11 = .bool nk := s11
                obtain ⟨v12, s12, g12⟩ := h 12 _ rfl
                have e12 := g12 103 rfl
                obtain rfl : v12 = .agg #[.int .i64 ka, .int .i64 ma, .bool za, .int .u64 (wd pa 0 : Nat), .int .u64 (wd pa 1 : Nat), .int .u64 (wd pa 2 : Nat), .int .u64 (wd pa 3 : Nat), .slice Ba na ca] := s12
                obtain ⟨v13, s13, g13⟩ := h 13 _ rfl
                have e13 := g13 104 rfl
                obtain rfl : v13 = .bool false := s13
                obtain ⟨v14, s14, g14⟩ := h 14 _ rfl
                have e14 := g14 105 rfl
                obtain rfl : v14 = .bool false := s14
                obtain ⟨v15, s15, g15⟩ := h 15 _ rfl
                have e15 := g15 106 rfl
                obtain rfl : v15 = .agg #[.int .i64 kc, .int .i64 mc, .bool zc, .int .u64 (wd pc 0 : Nat), .int .u64 (wd pc 1 : Nat), .int .u64 (wd pc 2 : Nat), .int .u64 (wd pc 3 : Nat), .slice Bc nc cc] := s15
                obtain ⟨v16, s16, g16⟩ := h 16 _ rfl
                have e16 := g16 107 rfl
                obtain rfl : v16 = .bool nk := s16
                obtain ⟨v17, s17, g17⟩ := h 17 _ rfl
                have e17 := g17 108 rfl
                obtain rfl : v17 = .bool nk := s17
                obtain ⟨v18, s18, g18⟩ := h 18 _ rfl
                have e18 := g18 109 rfl
                obtain rfl : v18 = .bool true := s18
                obtain ⟨v19, s19, g19⟩ := h 19 _ rfl
                have e19 := g19 110 rfl
                obtain rfl : v19 = .bool true := s19
                obtain ⟨v20, s20, g20⟩ := h 20 _ rfl
                have e20 := g20 111 rfl
                obtain rfl : v20 = .bool true := s20
                obtain ⟨v21, s21, g21⟩ := h 21 _ rfl
                have e21 := g21 112 rfl
                obtain rfl : v21 = .agg #[.int .i64 4, .int .i64 md, .bool zd, .int .u64 (wd pd 0 : Nat), .int .u64 (wd pd 1 : Nat), .int .u64 (wd pd 2 : Nat), .int .u64 (wd pd 3 : Nat), .slice Bd nd cd] := s21
                obtain ⟨v22, s22, g22⟩ := h 22 _ rfl
                have e22 := g22 113 rfl
                obtain rfl : v22 = .int .i64 (gx : Nat) := s22
                obtain ⟨v23, s23, g23⟩ := h 23 _ rfl
                have e23 := g23 114 rfl
                obtain rfl : v23 = .agg #[.int .i64 ka, .int .i64 ma, .bool za, .int .u64 (wd pa 0 : Nat), .int .u64 (wd pa 1 : Nat), .int .u64 (wd pa 2 : Nat), .int .u64 (wd pa 3 : Nat), .slice Ba na ca] := s23
                obtain ⟨v24, s24, g24⟩ := h 24 _ rfl
                have e24 := g24 115 rfl
                obtain rfl : v24 = .int .i64 (gn : Nat) := s24
                obtain ⟨v25, s25, g25⟩ := h 25 _ rfl
                have e25 := g25 116 rfl
                obtain rfl : v25 = .agg #[.int .i64 kc, .int .i64 mc, .bool zc, .int .u64 (wd pc 0 : Nat), .int .u64 (wd pc 1 : Nat), .int .u64 (wd pc 2 : Nat), .int .u64 (wd pc 3 : Nat), .slice Bc nc cc] := s25
                obtain ⟨v26, s26, g26⟩ := h 26 _ rfl
                have e26 := g26 117 rfl
                obtain rfl : v26 = .int .i64 (gk : Nat) := s26
                obtain ⟨v27, s27, g27⟩ := h 27 _ rfl
                have e27 := g27 118 rfl
                obtain rfl : v27 = .int .i64 (gx : Nat) := s27
                obtain ⟨v28, s28, g28⟩ := h 28 _ rfl
                have e28 := g28 119 rfl
                obtain rfl : v28 = .bool true := s28
                obtain ⟨v29, s29, g29⟩ := h 29 _ rfl
                have e29 := g29 120 rfl
                obtain rfl : v29 = .bool true := s29
                obtain ⟨v30, s30, g30⟩ := h 30 _ rfl
                have e30 := g30 4 rfl
                obtain rfl : v30 = .bool true := s30
                have ha := act_of [(91, .pointer (some ⟨gd, 0, none⟩)), (92, .int .i64 4), (93, .bool true), (94, .bool true), (95, .pointer (some ⟨gd, 7, none⟩)), (96, .slice Bd nd cd), (97, .int .i64 (nd : Nat)), (98, .bool true), (99, .bool true), (100, .bool true), (101, .agg #[.int .i64 4, .int .i64 md, .bool zd, .int .u64 (wd pd 0 : Nat), .int .u64 (wd pd 1 : Nat), .int .u64 (wd pd 2 : Nat), .int .u64 (wd pd 3 : Nat), .slice Bd nd cd]), (102, .bool nk), (103, .agg #[.int .i64 ka, .int .i64 ma, .bool za, .int .u64 (wd pa 0 : Nat), .int .u64 (wd pa 1 : Nat), .int .u64 (wd pa 2 : Nat), .int .u64 (wd pa 3 : Nat), .slice Ba na ca]), (104, .bool false), (105, .bool false), (106, .agg #[.int .i64 kc, .int .i64 mc, .bool zc, .int .u64 (wd pc 0 : Nat), .int .u64 (wd pc 1 : Nat), .int .u64 (wd pc 2 : Nat), .int .u64 (wd pc 3 : Nat), .slice Bc nc cc]), (107, .bool nk), (108, .bool nk), (109, .bool true), (110, .bool true), (111, .bool true), (112, .agg #[.int .i64 4, .int .i64 md, .bool zd, .int .u64 (wd pd 0 : Nat), .int .u64 (wd pd 1 : Nat), .int .u64 (wd pd 2 : Nat), .int .u64 (wd pd 3 : Nat), .slice Bd nd cd]), (113, .int .i64 (gx : Nat)), (114, .agg #[.int .i64 ka, .int .i64 ma, .bool za, .int .u64 (wd pa 0 : Nat), .int .u64 (wd pa 1 : Nat), .int .u64 (wd pa 2 : Nat), .int .u64 (wd pa 3 : Nat), .slice Ba na ca]), (115, .int .i64 (gn : Nat)), (116, .agg #[.int .i64 kc, .int .i64 mc, .bool zc, .int .u64 (wd pc 0 : Nat), .int .u64 (wd pc 1 : Nat), .int .u64 (wd pc 2 : Nat), .int .u64 (wd pc 3 : Nat), .slice Bc nc cc]), (117, .int .i64 (gk : Nat)), (118, .int .i64 (gx : Nat)), (119, .bool true), (120, .bool true), (4, .bool true)] rfl hsz hdf (by intro p hp; simp only [List.mem_cons, List.not_mem_nil, or_false] at hp; rcases hp with rfl | rfl | rfl | rfl | rfl | rfl | rfl | rfl | rfl | rfl | rfl | rfl | rfl | rfl | rfl | rfl | rfl | rfl | rfl | rfl | rfl | rfl | rfl | rfl | rfl | rfl | rfl | rfl | rfl | rfl | rfl <;> first | exact e0 | exact e1 | exact e2 | exact e3 | exact e4 | exact e5 | exact e6 | exact e7 | exact e8 | exact e9 | exact e10 | exact e11 | exact e12 | exact e13 | exact e14 | exact e15 | exact e16 | exact e17 | exact e18 | exact e19 | exact e20 | exact e21 | exact e22 | exact e23 | exact e24 | exact e25 | exact e26 | exact e27 | exact e28 | exact e29 | exact e30) hrest
                clear h hrest hsz hdf e0 e1 e2 e3 e4 e5 e6 e7 e8 e9 e10 e11 e12 e13 e14 e15 e16 e17 e18 e19 e20 e21 e22 e23 e24 e25 e26 e27 e28 e29 e30 g0 g1 g2 g3 g4 g5 g6 g7 g8 g9 g10 g11 g12 g13 g14 g15 g16 g17 g18 g19 g20 g21 g22 g23 g24 g25 g26 g27 g28 g29 g30
                subst ha
                simp only [List.foldl_cons, List.foldl_nil, Act.put, List.setIfInBounds_toArray, List.set_cons_succ, List.set_cons_zero]
                go_wp2
                go_ret
                exact ⟨rfl, Ext.trans HXl.out hE⟩
            focus
              have HNN2 := Lib.hid HNN.out
              have HNX := Lib.hid (show xt.nullable = true by rw [HNX0.out]; rfl)
              refine wp_region_dag (E := Ext) (w0 := wl) (Φ := fun i v w => match i with | 0 => (v = .pointer (some ⟨gd, 0, none⟩)) | 1 => (v = .int .i64 4) | 2 => (v = .bool true) | 3 => (v = .bool true) | 4 => (v = .pointer (some ⟨gd, 7, none⟩)) | 5 => (v = .slice Bd nd cd) | 6 => (v = .int .i64 (nd : Nat)) | 7 => (v = .bool true) | 8 => (v = .bool true) | 9 => (v = .bool true) | 10 => (v = .agg #[.int .i64 4, .int .i64 md, .bool zd, .int .u64 (wd pd 0 : Nat), .int .u64 (wd pd 1 : Nat), .int .u64 (wd pd 2 : Nat), .int .u64 (wd pd 3 : Nat), .slice Bd nd cd]) | 11 => (v = .bool true) | 12 => (v = .agg #[.int .i64 ka, .int .i64 ma, .bool za, .int .u64 (wd pa 0 : Nat), .int .u64 (wd pa 1 : Nat), .int .u64 (wd pa 2 : Nat), .int .u64 (wd pa 3 : Nat), .slice Ba na ca]) | 13 => (v = .bool true) | 14 => (v = .bool true) | 15 => (v = undef) | 16 => (v = undef) | 17 => (v = .bool true) | 18 => (v = .bool true) | 19 => (v = .bool true) | 20 => (v = .bool true) | 21 => (v = .agg #[.int .i64 4, .int .i64 md, .bool zd, .int .u64 (wd pd 0 : Nat), .int .u64 (wd pd 1 : Nat), .int .u64 (wd pd 2 : Nat), .int .u64 (wd pd 3 : Nat), .slice Bd nd cd]) | 22 => (v = .int .i64 (gx : Nat)) | 23 => (v = .agg #[.int .i64 ka, .int .i64 ma, .bool za, .int .u64 (wd pa 0 : Nat), .int .u64 (wd pa 1 : Nat), .int .u64 (wd pa 2 : Nat), .int .u64 (wd pa 3 : Nat), .slice Ba na ca]) | 24 => (v = .int .i64 (gn : Nat)) | 25 => (v = .agg #[.int .i64 kc, .int .i64 mc, .bool zc, .int .u64 (wd pc 0 : Nat), .int .u64 (wd pc 1 : Nat), .int .u64 (wd pc 2 : Nat), .int .u64 (wd pc 3 : Nat), .slice Bc nc cc]) | 26 => (v = .int .i64 (gk : Nat)) | 27 => (v = .int .i64 (gx : Nat)) | 28 => (v = .bool true) | 29 => (v = .bool true) | 30 => (v = .bool true) | _ => True) (show Tryd.prog.follows .mixedOrders = true from Checked.mixed Tryd.checked) 121 rfl (by decide +kernel) ?_ ((Below.refl _ _).drew) ?_ ⟨?_, ?_, ?_, ?_, ?_, ?_, ?_, ?_, ?_, ?_, ?_, ?_, ?_, ?_, ?_, ?_, ?_, ?_, ?_, ?_, ?_, ?_, ?_, ?_, ?_, ?_, ?_, ?_, ?_, ?_, ?_, trivial⟩ ?_
              · intro i v w w' h hE
                match i, h with
                | 0, h => exact h
                | 1, h => exact h
                | 2, h => exact h
                | 3, h => exact h
                | 4, h => exact h
                | 5, h => exact h
                | 6, h => exact h
                | 7, h => exact h
                | 8, h => exact h
                | 9, h => exact h
                | 10, h => exact h
                | 11, h => exact h
                | 12, h => exact h
                | 13, h => exact h
                | 14, h => exact h
                | 15, h => exact h
                | 16, h => exact h
                | 17, h => exact h
                | 18, h => exact h
                | 19, h => exact h
                | 20, h => exact h
                | 21, h => exact h
                | 22, h => exact h
                | 23, h => exact h
                | 24, h => exact h
                | 25, h => exact h
                | 26, h => exact h
                | 27, h => exact h
                | 28, h => exact h
                | 29, h => exact h
                | 30, h => exact h
                | _ + 31, _ => trivial
              · exact fun w w' h h' => h.trans h'
              · -- 0: t91 := fieldAddr 28 t11 0 
                intro ac wx hE hsz hdf h
                have e11 : ac.tmps[11]? = some (.pointer (some ⟨gd, 0, none⟩)) := by obtain ⟨v, h1, h2⟩ := h 11 (by decide +kernel); exact h1.trans (h2.symm.trans rfl)
                clear h hsz hdf
                go_wp2
                exact ⟨_, rfl, rfl, Ext.refl _⟩
              · -- 1: t92 := load 3 t91 
                intro ac wx hE hsz hdf h
                have e91 : ac.tmps[91]? = some (.pointer (some ⟨gd, 0, none⟩)) := by obtain ⟨v, h1, h2⟩ := h 91 (by decide +kernel); rw [h1]; exact congrArg some h2
                clear h hsz hdf
                obtain ⟨q0, q1, q2, q3, q4, q5, q6, q7⟩ := (HBd2.out.keep hE).cells
                go_wp2
                exact ⟨_, rfl, rfl, Ext.refl _⟩
              · -- 2: t93 := binOp BinOp.eql 3 t92 (const (4:i64)) 3 
                intro ac wx hE hsz hdf h
                have e92 : ac.tmps[92]? = some (.int .i64 4) := by obtain ⟨v, h1, h2⟩ := h 92 (by decide +kernel); rw [h1]; exact congrArg some h2
                clear h hsz hdf
                go_wp2
                exact ⟨_, rfl, rfl, Ext.refl _⟩
              · -- 3: t94 := move t93 
                intro ac wx hE hsz hdf h
                have e93 : ac.tmps[93]? = some (.bool true) := by obtain ⟨v, h1, h2⟩ := h 93 (by decide +kernel); rw [h1]; exact congrArg some h2
                clear h hsz hdf
                go_wp2
                exact ⟨_, rfl, rfl, Ext.refl _⟩
              · -- 4: t95 := fieldAddr 28 t11 4 (3, True)
                intro ac wx hE hsz hdf h
                have e11 : ac.tmps[11]? = some (.pointer (some ⟨gd, 0, none⟩)) := by obtain ⟨v, h1, h2⟩ := h 11 (by decide +kernel); exact h1.trans (h2.symm.trans rfl)
                have e94 : ac.tmps[94]? = some (.bool true) := by obtain ⟨v, h1, h2⟩ := h 94 (by decide +kernel); rw [h1]; exact congrArg some h2
                clear h hsz hdf
                go_wp2
                exact ⟨_, rfl, rfl, Ext.refl _⟩
              · -- 5: t96 := load 26 t95 (3, True)
                intro ac wx hE hsz hdf h
                have e95 : ac.tmps[95]? = some (.pointer (some ⟨gd, 7, none⟩)) := by obtain ⟨v, h1, h2⟩ := h 95 (by decide +kernel); rw [h1]; exact congrArg some h2
                have e94 : ac.tmps[94]? = some (.bool true) := by obtain ⟨v, h1, h2⟩ := h 94 (by decide +kernel); rw [h1]; exact congrArg some h2
                clear h hsz hdf
                obtain ⟨q0, q1, q2, q3, q4, q5, q6, q7⟩ := (HBd2.out.keep hE).cells
                go_wp2
                exact ⟨_, rfl, rfl, Ext.refl _⟩
              · -- 6: t97 := call { builtin len, args := #[t96], argTypes := #[26] } (3, True)
                intro ac wx hE hsz hdf h
                have e96 : ac.tmps[96]? = some (.slice Bd nd cd) := by obtain ⟨v, h1, h2⟩ := h 96 (by decide +kernel); rw [h1]; exact congrArg some h2
                have e94 : ac.tmps[94]? = some (.bool true) := by obtain ⟨v, h1, h2⟩ := h 94 (by decide +kernel); rw [h1]; exact congrArg some h2
                clear h hsz hdf
                go_wp2
                exact ⟨_, rfl, rfl, Ext.refl _⟩
              · -- 7: t98 := binOp BinOp.geq 3 t97 (const (2:i64)) 3 (3, True)
                intro ac wx hE hsz hdf h
                have e97 : ac.tmps[97]? = some (.int .i64 (nd : Nat)) := by obtain ⟨v, h1, h2⟩ := h 97 (by decide +kernel); rw [h1]; exact congrArg some h2
                have e94 : ac.tmps[94]? = some (.bool true) := by obtain ⟨v, h1, h2⟩ := h 94 (by decide +kernel); rw [h1]; exact congrArg some h2
                clear h hsz hdf
                go_wp2
                exact ⟨_, rfl, rfl, Ext.refl _⟩
              · -- 8: t99 := pick t94 t98 (const (Value.bool false)) 
                intro ac wx hE hsz hdf h
                have e94 : ac.tmps[94]? = some (.bool true) := by obtain ⟨v, h1, h2⟩ := h 94 (by decide +kernel); rw [h1]; exact congrArg some h2
                have e98 : ac.tmps[98]? = some (.bool true) := by obtain ⟨v, h1, h2⟩ := h 98 (by decide +kernel); rw [h1]; exact congrArg some h2
                clear h hsz hdf
                go_wp2
                exact ⟨_, rfl, rfl, Ext.refl _⟩
              · -- 9: t100 := move t99 
                intro ac wx hE hsz hdf h
                have e99 : ac.tmps[99]? = some (.bool true) := by obtain ⟨v, h1, h2⟩ := h 99 (by decide +kernel); rw [h1]; exact congrArg some h2
                clear h hsz hdf
                go_wp2
                exact ⟨_, rfl, rfl, Ext.refl _⟩
              · -- 10: t101 := load 28 t11 (9, True)
                intro ac wx hE hsz hdf h
                have e11 : ac.tmps[11]? = some (.pointer (some ⟨gd, 0, none⟩)) := by obtain ⟨v, h1, h2⟩ := h 11 (by decide +kernel); exact h1.trans (h2.symm.trans rfl)
                have e100 : ac.tmps[100]? = some (.bool true) := by obtain ⟨v, h1, h2⟩ := h 100 (by decide +kernel); rw [h1]; exact congrArg some h2
                clear h hsz hdf
                obtain ⟨q0, q1, q2, q3, q4, q5, q6, q7⟩ := (HBd2.out.keep hE).cells
                go_wp2
                exact ⟨_, rfl, rfl, Ext.refl _⟩
              · -- 11: t102 := call { value (Operand.func 10), args := #[t101], argTypes := #[28] } (9, True)
                intro ac wx hE hsz hdf h
                have e101 : ac.tmps[101]? = some (.agg #[.int .i64 4, .int .i64 md, .bool zd, .int .u64 (wd pd 0 : Nat), .int .u64 (wd pd 1 : Nat), .int .u64 (wd pd 2 : Nat), .int .u64 (wd pd 3 : Nat), .slice Bd nd cd]) := by obtain ⟨v, h1, h2⟩ := h 101 (by decide +kernel); rw [h1]; exact congrArg some h2
                have e100 : ac.tmps[100]? = some (.bool true) := by obtain ⟨v, h1, h2⟩ := h 100 (by decide +kernel); rw [h1]; exact congrArg some h2
                clear h hsz hdf
                go_wp2_with ((go_at_call 10; refine (rxNullable _ xt (Nat.le_refl _) (by have := HSX.out; omega) _ _ (nodeC 4 md zd pd Bd nd cd) (HVd2.out.keep hE)).mono ?_; rintro e w9 ⟨rfl, hb9⟩; rw [HNX.out]))
                exact ⟨_, rfl, rfl, hb9⟩
              · -- 12: t103 := load 28 t5 (9, True)
                intro ac wx hE hsz hdf h
                have e5 : ac.tmps[5]? = some (.pointer (some ⟨ga, 0, none⟩)) := by obtain ⟨v, h1, h2⟩ := h 5 (by decide +kernel); exact h1.trans (h2.symm.trans rfl)
                have e100 : ac.tmps[100]? = some (.bool true) := by obtain ⟨v, h1, h2⟩ := h 100 (by decide +kernel); rw [h1]; exact congrArg some h2
                clear h hsz hdf
                obtain ⟨q0, q1, q2, q3, q4, q5, q6, q7⟩ := (HBa2.out.keep hE).cells
                go_wp2
                exact ⟨_, rfl, rfl, Ext.refl _⟩
              · -- 13: t104 := call { value (Operand.func 10), args := #[t103], argTypes := #[28] } (9, True)
                intro ac wx hE hsz hdf h
                have e103 : ac.tmps[103]? = some (.agg #[.int .i64 ka, .int .i64 ma, .bool za, .int .u64 (wd pa 0 : Nat), .int .u64 (wd pa 1 : Nat), .int .u64 (wd pa 2 : Nat), .int .u64 (wd pa 3 : Nat), .slice Ba na ca]) := by obtain ⟨v, h1, h2⟩ := h 103 (by decide +kernel); rw [h1]; exact congrArg some h2
                have e100 : ac.tmps[100]? = some (.bool true) := by obtain ⟨v, h1, h2⟩ := h 100 (by decide +kernel); rw [h1]; exact congrArg some h2
                clear h hsz hdf
                go_wp2_with ((go_at_call 10; refine (rxNullable _ nt (Nat.le_refl _) (by have := HSN.out; omega) _ _ (nodeC ka ma za pa Ba na ca) (HVa2.out.keep hE)).mono ?_; rintro e w9 ⟨rfl, hb9⟩; rw [HNN2.out]))
                exact ⟨_, rfl, rfl, hb9⟩
              · -- 14: t105 := move t104 (9, True)
                intro ac wx hE hsz hdf h
                have e104 : ac.tmps[104]? = some (.bool true) := by obtain ⟨v, h1, h2⟩ := h 104 (by decide +kernel); rw [h1]; exact congrArg some h2
                have e100 : ac.tmps[100]? = some (.bool true) := by obtain ⟨v, h1, h2⟩ := h 100 (by decide +kernel); rw [h1]; exact congrArg some h2
                clear h hsz hdf
                go_wp2
                exact ⟨_, rfl, rfl, Ext.refl _⟩
              · -- 15: t106 := load 28 t9 (14, False)
                intro ac wx hE hsz hdf h
                have e105 : ac.tmps[105]? = some (.bool true) := by obtain ⟨v, h1, h2⟩ := h 105 (by decide +kernel); rw [h1]; exact congrArg some h2
                clear h hsz hdf
                go_wp2
                exact ⟨_, rfl, rfl, Ext.refl _⟩
              · -- 16: t107 := call { value (Operand.func 10), args := #[t106], argTypes := #[28] } (14, False)
                intro ac wx hE hsz hdf h
                have e105 : ac.tmps[105]? = some (.bool true) := by obtain ⟨v, h1, h2⟩ := h 105 (by decide +kernel); rw [h1]; exact congrArg some h2
                clear h hsz hdf
                go_wp2
                exact ⟨_, rfl, rfl, Ext.refl _⟩
              · -- 17: t108 := pick t105 (const (Value.bool true)) t107 (9, True)
                intro ac wx hE hsz hdf h
                have e105 : ac.tmps[105]? = some (.bool true) := by obtain ⟨v, h1, h2⟩ := h 105 (by decide +kernel); rw [h1]; exact congrArg some h2
                have e107 : ac.tmps[107]? = some (undef) := by obtain ⟨v, h1, h2⟩ := h 107 (by decide +kernel); rw [h1]; exact congrArg some h2
                have e100 : ac.tmps[100]? = some (.bool true) := by obtain ⟨v, h1, h2⟩ := h 100 (by decide +kernel); rw [h1]; exact congrArg some h2
                clear h hsz hdf
                go_wp2
                exact ⟨_, rfl, rfl, Ext.refl _⟩
              · -- 18: t109 := binOp BinOp.eql 4 t102 t108 4 (9, True)
                intro ac wx hE hsz hdf h
                have e102 : ac.tmps[102]? = some (.bool true) := by obtain ⟨v, h1, h2⟩ := h 102 (by decide +kernel); rw [h1]; exact congrArg some h2
                have e108 : ac.tmps[108]? = some (.bool true) := by obtain ⟨v, h1, h2⟩ := h 108 (by decide +kernel); rw [h1]; exact congrArg some h2
                have e100 : ac.tmps[100]? = some (.bool true) := by obtain ⟨v, h1, h2⟩ := h 100 (by decide +kernel); rw [h1]; exact congrArg some h2
                clear h hsz hdf
                go_wp2
                exact ⟨_, rfl, by simp, Ext.refl _⟩
              · -- 19: t110 := pick t100 t109 (const (Value.bool false)) 
                intro ac wx hE hsz hdf h
                have e100 : ac.tmps[100]? = some (.bool true) := by obtain ⟨v, h1, h2⟩ := h 100 (by decide +kernel); rw [h1]; exact congrArg some h2
                have e109 : ac.tmps[109]? = some (.bool true) := by obtain ⟨v, h1, h2⟩ := h 109 (by decide +kernel); rw [h1]; exact congrArg some h2
                clear h hsz hdf
                go_wp2
                exact ⟨_, rfl, rfl, Ext.refl _⟩
              · -- 20: t111 := move t110 
                intro ac wx hE hsz hdf h
                have e110 : ac.tmps[110]? = some (.bool true) := by obtain ⟨v, h1, h2⟩ := h 110 (by decide +kernel); rw [h1]; exact congrArg some h2
                clear h hsz hdf
                go_wp2
                exact ⟨_, rfl, rfl, Ext.refl _⟩
              · -- 21: t112 := load 28 t11 (20, True)
                intro ac wx hE hsz hdf h
                have e11 : ac.tmps[11]? = some (.pointer (some ⟨gd, 0, none⟩)) := by obtain ⟨v, h1, h2⟩ := h 11 (by decide +kernel); exact h1.trans (h2.symm.trans rfl)
                have e111 : ac.tmps[111]? = some (.bool true) := by obtain ⟨v, h1, h2⟩ := h 111 (by decide +kernel); rw [h1]; exact congrArg some h2
                clear h hsz hdf
                obtain ⟨q0, q1, q2, q3, q4, q5, q6, q7⟩ := (HBd2.out.keep hE).cells
                go_wp2
                exact ⟨_, rfl, rfl, Ext.refl _⟩
              · -- 22: t113 := call { value (Operand.func 9), args := #[t112], argTypes := #[28] } (20, True)
                intro ac wx hE hsz hdf h
                have e112 : ac.tmps[112]? = some (.agg #[.int .i64 4, .int .i64 md, .bool zd, .int .u64 (wd pd 0 : Nat), .int .u64 (wd pd 1 : Nat), .int .u64 (wd pd 2 : Nat), .int .u64 (wd pd 3 : Nat), .slice Bd nd cd]) := by obtain ⟨v, h1, h2⟩ := h 112 (by decide +kernel); rw [h1]; exact congrArg some h2
                have e111 : ac.tmps[111]? = some (.bool true) := by obtain ⟨v, h1, h2⟩ := h 111 (by decide +kernel); rw [h1]; exact congrArg some h2
                clear h hsz hdf
                go_wp2_with ((go_at_call 9; refine (rxGroups _ xt (Nat.le_refl _) (by have := HSX.out; omega) _ _ (nodeC 4 md zd pd Bd nd cd) (HVd2.out.keep hE)).mono ?_; rintro e w9 ⟨rfl, hb9⟩; rw [HGX.out]))
                exact ⟨_, rfl, rfl, hb9⟩
              · -- 23: t114 := load 28 t5 (20, True)
                intro ac wx hE hsz hdf h
                have e5 : ac.tmps[5]? = some (.pointer (some ⟨ga, 0, none⟩)) := by obtain ⟨v, h1, h2⟩ := h 5 (by decide +kernel); exact h1.trans (h2.symm.trans rfl)
                have e111 : ac.tmps[111]? = some (.bool true) := by obtain ⟨v, h1, h2⟩ := h 111 (by decide +kernel); rw [h1]; exact congrArg some h2
                clear h hsz hdf
                obtain ⟨q0, q1, q2, q3, q4, q5, q6, q7⟩ := (HBa2.out.keep hE).cells
                go_wp2
                exact ⟨_, rfl, rfl, Ext.refl _⟩
              · -- 24: t115 := call { value (Operand.func 9), args := #[t114], argTypes := #[28] } (20, True)
                intro ac wx hE hsz hdf h
                have e114 : ac.tmps[114]? = some (.agg #[.int .i64 ka, .int .i64 ma, .bool za, .int .u64 (wd pa 0 : Nat), .int .u64 (wd pa 1 : Nat), .int .u64 (wd pa 2 : Nat), .int .u64 (wd pa 3 : Nat), .slice Ba na ca]) := by obtain ⟨v, h1, h2⟩ := h 114 (by decide +kernel); rw [h1]; exact congrArg some h2
                have e111 : ac.tmps[111]? = some (.bool true) := by obtain ⟨v, h1, h2⟩ := h 111 (by decide +kernel); rw [h1]; exact congrArg some h2
                clear h hsz hdf
                go_wp2_with ((go_at_call 9; refine (rxGroups _ nt (Nat.le_refl _) (by have := HSN.out; omega) _ _ (nodeC ka ma za pa Ba na ca) (HVa2.out.keep hE)).mono ?_; rintro e w9 ⟨rfl, hb9⟩; rw [HGN.out]))
                exact ⟨_, rfl, rfl, hb9⟩
              · -- 25: t116 := load 28 t9 (20, True)
                intro ac wx hE hsz hdf h
                have e9 : ac.tmps[9]? = some (.pointer (some ⟨gc, 0, none⟩)) := by obtain ⟨v, h1, h2⟩ := h 9 (by decide +kernel); exact h1.trans (h2.symm.trans rfl)
                have e111 : ac.tmps[111]? = some (.bool true) := by obtain ⟨v, h1, h2⟩ := h 111 (by decide +kernel); rw [h1]; exact congrArg some h2
                clear h hsz hdf
                obtain ⟨q0, q1, q2, q3, q4, q5, q6, q7⟩ := (HBc2.out.keep hE).cells
                go_wp2
                exact ⟨_, rfl, rfl, Ext.refl _⟩
              · -- 26: t117 := call { value (Operand.func 9), args := #[t116], argTypes := #[28] } (20, True)
                intro ac wx hE hsz hdf h
                have e116 : ac.tmps[116]? = some (.agg #[.int .i64 kc, .int .i64 mc, .bool zc, .int .u64 (wd pc 0 : Nat), .int .u64 (wd pc 1 : Nat), .int .u64 (wd pc 2 : Nat), .int .u64 (wd pc 3 : Nat), .slice Bc nc cc]) := by obtain ⟨v, h1, h2⟩ := h 116 (by decide +kernel); rw [h1]; exact congrArg some h2
                have e111 : ac.tmps[111]? = some (.bool true) := by obtain ⟨v, h1, h2⟩ := h 111 (by decide +kernel); rw [h1]; exact congrArg some h2
                clear h hsz hdf
                go_wp2_with ((go_at_call 9; refine (rxGroups _ kt (Nat.le_refl _) (by have := HSK.out; omega) _ _ (nodeC kc mc zc pc Bc nc cc) (HVc2.out.keep hE)).mono ?_; rintro e w9 ⟨rfl, hb9⟩; rw [HGK.out]))
                exact ⟨_, rfl, rfl, hb9⟩
              · -- 27: t118 := binOp BinOp.add 3 t115 t117 3 (20, True)
                intro ac wx hE hsz hdf h
                have e115 : ac.tmps[115]? = some (.int .i64 (gn : Nat)) := by obtain ⟨v, h1, h2⟩ := h 115 (by decide +kernel); rw [h1]; exact congrArg some h2
                have e117 : ac.tmps[117]? = some (.int .i64 (gk : Nat)) := by obtain ⟨v, h1, h2⟩ := h 117 (by decide +kernel); rw [h1]; exact congrArg some h2
                have e111 : ac.tmps[111]? = some (.bool true) := by obtain ⟨v, h1, h2⟩ := h 111 (by decide +kernel); rw [h1]; exact congrArg some h2
                clear h hsz hdf
                go_wp2
                exact ⟨_, rfl, rfl, Ext.refl _⟩
              · -- 28: t119 := binOp BinOp.eql 3 t113 t118 3 (20, True)
                intro ac wx hE hsz hdf h
                have e113 : ac.tmps[113]? = some (.int .i64 (gx : Nat)) := by obtain ⟨v, h1, h2⟩ := h 113 (by decide +kernel); rw [h1]; exact congrArg some h2
                have e118 : ac.tmps[118]? = some (.int .i64 (gx : Nat)) := by obtain ⟨v, h1, h2⟩ := h 118 (by decide +kernel); rw [h1]; exact congrArg some h2
                have e111 : ac.tmps[111]? = some (.bool true) := by obtain ⟨v, h1, h2⟩ := h 111 (by decide +kernel); rw [h1]; exact congrArg some h2
                clear h hsz hdf
                go_wp2
                exact ⟨_, rfl, rfl, Ext.refl _⟩
              · -- 29: t120 := pick t111 t119 (const (Value.bool false)) 
                intro ac wx hE hsz hdf h
                have e111 : ac.tmps[111]? = some (.bool true) := by obtain ⟨v, h1, h2⟩ := h 111 (by decide +kernel); rw [h1]; exact congrArg some h2
                have e119 : ac.tmps[119]? = some (.bool true) := by obtain ⟨v, h1, h2⟩ := h 119 (by decide +kernel); rw [h1]; exact congrArg some h2
                clear h hsz hdf
                go_wp2
                exact ⟨_, rfl, rfl, Ext.refl _⟩
              · -- 30: t4 := assign t120 
                intro ac wx hE hsz hdf h
                have e120 : ac.tmps[120]? = some (.bool true) := by obtain ⟨v, h1, h2⟩ := h 120 (by decide +kernel); rw [h1]; exact congrArg some h2
                clear h hsz hdf
                go_wp2
                exact ⟨_, rfl, rfl, Ext.refl _⟩
              · intro ac w9 hE hsz hdf h hrest
                obtain ⟨v0, s0, g0⟩ := h 0 _ rfl
                have e0 := g0 91 rfl
                obtain rfl : v0 = .pointer (some ⟨gd, 0, none⟩) := s0
                obtain ⟨v1, s1, g1⟩ := h 1 _ rfl
                have e1 := g1 92 rfl
                obtain rfl : v1 = .int .i64 4 := s1
                obtain ⟨v2, s2, g2⟩ := h 2 _ rfl
                have e2 := g2 93 rfl
                obtain rfl : v2 = .bool true := s2
                obtain ⟨v3, s3, g3⟩ := h 3 _ rfl
                have e3 := g3 94 rfl
                obtain rfl : v3 = .bool true := s3
                obtain ⟨v4, s4, g4⟩ := h 4 _ rfl
                have e4 := g4 95 rfl
                obtain rfl : v4 = .pointer (some ⟨gd, 7, none⟩) := s4
                obtain ⟨v5, s5, g5⟩ := h 5 _ rfl
                have e5 := g5 96 rfl
                obtain rfl : v5 = .slice Bd nd cd := s5
                obtain ⟨v6, s6, g6⟩ := h 6 _ rfl
                have e6 := g6 97 rfl
                obtain rfl : v6 = .int .i64 (nd : Nat) := s6
                obtain ⟨v7, s7, g7⟩ := h 7 _ rfl
                have e7 := g7 98 rfl
                obtain rfl : v7 = .bool true := s7
                obtain ⟨v8, s8, g8⟩ := h 8 _ rfl
                have e8 := g8 99 rfl
                obtain rfl : v8 = .bool true := s8
                obtain ⟨v9, s9, g9⟩ := h 9 _ rfl
                have e9 := g9 100 rfl
                obtain rfl : v9 = .bool true := s9
                obtain ⟨v10, s10, g10⟩ := h 10 _ rfl
                have e10 := g10 101 rfl
                obtain rfl : v10 = .agg #[.int .i64 4, .int .i64 md, .bool zd, .int .u64 (wd pd 0 : Nat), .int .u64 (wd pd 1 : Nat), .int .u64 (wd pd 2 : Nat), .int .u64 (wd pd 3 : Nat), .slice Bd nd cd] := s10
                obtain ⟨v11, s11, g11⟩ := h 11 _ rfl
                have e11 := g11 102 rfl
                obtain rfl : v11 = .bool true := s11
                obtain ⟨v12, s12, g12⟩ := h 12 _ rfl
                have e12 := g12 103 rfl
                obtain rfl : v12 = .agg #[.int .i64 ka, .int .i64 ma, .bool za, .int .u64 (wd pa 0 : Nat), .int .u64 (wd pa 1 : Nat), .int .u64 (wd pa 2 : Nat), .int .u64 (wd pa 3 : Nat), .slice Ba na ca] := s12
                obtain ⟨v13, s13, g13⟩ := h 13 _ rfl
                have e13 := g13 104 rfl
                obtain rfl : v13 = .bool true := s13
                obtain ⟨v14, s14, g14⟩ := h 14 _ rfl
                have e14 := g14 105 rfl
                obtain rfl : v14 = .bool true := s14
                obtain ⟨v15, s15, g15⟩ := h 15 _ rfl
                have e15 := g15 106 rfl
                obtain rfl : v15 = undef := s15
                obtain ⟨v16, s16, g16⟩ := h 16 _ rfl
                have e16 := g16 107 rfl
                obtain rfl : v16 = undef := s16
                obtain ⟨v17, s17, g17⟩ := h 17 _ rfl
                have e17 := g17 108 rfl
                obtain rfl : v17 = .bool true := s17
                obtain ⟨v18, s18, g18⟩ := h 18 _ rfl
                have e18 := g18 109 rfl
                obtain rfl : v18 = .bool true := s18
                obtain ⟨v19, s19, g19⟩ := h 19 _ rfl
                have e19 := g19 110 rfl
                obtain rfl : v19 = .bool true := s19
                obtain ⟨v20, s20, g20⟩ := h 20 _ rfl
                have e20 := g20 111 rfl
                obtain rfl : v20 = .bool true := s20
                obtain ⟨v21, s21, g21⟩ := h 21 _ rfl
                have e21 := g21 112 rfl
                obtain rfl : v21 = .agg #[.int .i64 4, .int .i64 md, .bool zd, .int .u64 (wd pd 0 : Nat), .int .u64 (wd pd 1 : Nat), .int .u64 (wd pd 2 : Nat), .int .u64 (wd pd 3 : Nat), .slice Bd nd cd] := s21
                obtain ⟨v22, s22, g22⟩ := h 22 _ rfl
                have e22 := g22 113 rfl
                obtain rfl : v22 = .int .i64 (gx : Nat) := s22
                obtain ⟨v23, s23, g23⟩ := h 23 _ rfl
                have e23 := g23 114 rfl
                obtain rfl : v23 = .agg #[.int .i64 ka, .int .i64 ma, .bool za, .int .u64 (wd pa 0 : Nat), .int .u64 (wd pa 1 : Nat), .int .u64 (wd pa 2 : Nat), .int .u64 (wd pa 3 : Nat), .slice Ba na ca] := s23
                obtain ⟨v24, s24, g24⟩ := h 24 _ rfl
                have e24 := g24 115 rfl
                obtain rfl : v24 = .int .i64 (gn : Nat) := s24
                obtain ⟨v25, s25, g25⟩ := h 25 _ rfl
                have e25 := g25 116 rfl
                obtain rfl : v25 = .agg #[.int .i64 kc, .int .i64 mc, .bool zc, .int .u64 (wd pc 0 : Nat), .int .u64 (wd pc 1 : Nat), .int .u64 (wd pc 2 : Nat), .int .u64 (wd pc 3 : Nat), .slice Bc nc cc] := s25
                obtain ⟨v26, s26, g26⟩ := h 26 _ rfl
                have e26 := g26 117 rfl
                obtain rfl : v26 = .int .i64 (gk : Nat) := s26
                obtain ⟨v27, s27, g27⟩ := h 27 _ rfl
                have e27 := g27 118 rfl
                obtain rfl : v27 = .int .i64 (gx : Nat) := s27
                obtain ⟨v28, s28, g28⟩ := h 28 _ rfl
                have e28 := g28 119 rfl
                obtain rfl : v28 = .bool true := s28
                obtain ⟨v29, s29, g29⟩ := h 29 _ rfl
                have e29 := g29 120 rfl
                obtain rfl : v29 = .bool true := s29
                obtain ⟨v30, s30, g30⟩ := h 30 _ rfl
                have e30 := g30 4 rfl
                obtain rfl : v30 = .bool true := s30
                have ha := act_of [(91, .pointer (some ⟨gd, 0, none⟩)), (92, .int .i64 4), (93, .bool true), (94, .bool true), (95, .pointer (some ⟨gd, 7, none⟩)), (96, .slice Bd nd cd), (97, .int .i64 (nd : Nat)), (98, .bool true), (99, .bool true), (100, .bool true), (101, .agg #[.int .i64 4, .int .i64 md, .bool zd, .int .u64 (wd pd 0 : Nat), .int .u64 (wd pd 1 : Nat), .int .u64 (wd pd 2 : Nat), .int .u64 (wd pd 3 : Nat), .slice Bd nd cd]), (102, .bool true), (103, .agg #[.int .i64 ka, .int .i64 ma, .bool za, .int .u64 (wd pa 0 : Nat), .int .u64 (wd pa 1 : Nat), .int .u64 (wd pa 2 : Nat), .int .u64 (wd pa 3 : Nat), .slice Ba na ca]), (104, .bool true), (105, .bool true), (106, undef), (107, undef), (108, .bool true), (109, .bool true), (110, .bool true), (111, .bool true), (112, .agg #[.int .i64 4, .int .i64 md, .bool zd, .int .u64 (wd pd 0 : Nat), .int .u64 (wd pd 1 : Nat), .int .u64 (wd pd 2 : Nat), .int .u64 (wd pd 3 : Nat), .slice Bd nd cd]), (113, .int .i64 (gx : Nat)), (114, .agg #[.int .i64 ka, .int .i64 ma, .bool za, .int .u64 (wd pa 0 : Nat), .int .u64 (wd pa 1 : Nat), .int .u64 (wd pa 2 : Nat), .int .u64 (wd pa 3 : Nat), .slice Ba na ca]), (115, .int .i64 (gn : Nat)), (116, .agg #[.int .i64 kc, .int .i64 mc, .bool zc, .int .u64 (wd pc 0 : Nat), .int .u64 (wd pc 1 : Nat), .int .u64 (wd pc 2 : Nat), .int .u64 (wd pc 3 : Nat), .slice Bc nc cc]), (117, .int .i64 (gk : Nat)), (118, .int .i64 (gx : Nat)), (119, .bool true), (120, .bool true), (4, .bool true)] rfl hsz hdf (by intro p hp; simp only [List.mem_cons, List.not_mem_nil, or_false] at hp; rcases hp with rfl | rfl | rfl | rfl | rfl | rfl | rfl | rfl | rfl | rfl | rfl | rfl | rfl | rfl | rfl | rfl | rfl | rfl | rfl | rfl | rfl | rfl | rfl | rfl | rfl | rfl | rfl | rfl | rfl | rfl | rfl <;> first | exact e0 | exact e1 | exact e2 | exact e3 | exact e4 | exact e5 | exact e6 | exact e7 | exact e8 | exact e9 | exact e10 | exact e11 | exact e12 | exact e13 | exact e14 | exact e15 | exact e16 | exact e17 | exact e18 | exact e19 | exact e20 | exact e21 | exact e22 | exact e23 | exact e24 | exact e25 | exact e26 | exact e27 | exact e28 | exact e29 | exact e30) hrest
                clear h hrest hsz hdf e0 e1 e2 e3 e4 e5 e6 e7 e8 e9 e10 e11 e12 e13 e14 e15 e16 e17 e18 e19 e20 e21 e22 e23 e24 e25 e26 e27 e28 e29 e30 g0 g1 g2 g3 g4 g5 g6 g7 g8 g9 g10 g11 g12 g13 g14 g15 g16 g17 g18 g19 g20 g21 g22 g23 g24 g25 g26 g27 g28 g29 g30
                subst ha
                simp only [List.foldl_cons, List.foldl_nil, Act.put, List.setIfInBounds_toArray, List.set_cons_succ, List.set_cons_zero]
                go_wp2
                go_ret
                exact ⟨rfl, Ext.trans HXl.out hE⟩
end Go.Proofs.YthjnbpfbhmfopaaDoor
