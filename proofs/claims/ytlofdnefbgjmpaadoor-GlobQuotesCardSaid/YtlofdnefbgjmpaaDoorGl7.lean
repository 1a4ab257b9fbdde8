/- Globs: Of. -/
import Derived.Test.YtlofdnefbgjmpaaDoorGl6
namespace Go.Proofs.YtlofdnefbgjmpaaDoor
open Go Go.RowKit
attribute [local irreducible] wd

/-- What Of makes of a tree. -/
def noNull (r : PR) : PR := match r with
  | .out => .out
  | .err k => .err k
  | .ok t i gr => if t.nullable then .err 15 else .ok t i gr
theorem noNull_ok {t : T} {i gr : Nat} (h : t.nullable = false) : noNull (.ok t i gr) = .ok t i gr := by unfold noNull; simp [h]
theorem noNull_no {t : T} {i gr : Nat} (h : t.nullable = true) : noNull (.ok t i gr) = .err 15 := by unfold noNull; simp [h]
theorem of_1 (l : List UInt8) : ofG 1 l = noNull (plainG l) := rfl
theorem of_2 (l : List UInt8) : ofG 2 l = noNull (parseG l) := rfl
theorem of_3 (l : List UInt8) : ofG 3 l = noNull (parseR l) := rfl

set_option maxHeartbeats 8000000 in
set_option maxRecDepth 20000 in
theorem glOf (E : Nat → Addr) (kind : Int) (l : List UInt8) (hl : l.length ≤ 10000) (w : World) (hE : Env E w) (hK : ErrC [8] w E) :
    Calls Tryd.prog 12 #[.int .i64 kind, .string ⟨l.toArray⟩] w fun e w' => RRes E w (ofG kind l) e w' := by
  obtain ⟨gz, hgz⟩ : ∃ gz, w.heap.size = gz := ⟨_, rfl⟩
  have HGZ := Lib.hid (Nat.le_of_eq hgz)
  have hne6 := Lib.hid (show gz ≠ gz + 1 by omega)
  have hN0 := Lib.hid ((Blk.newA (w := w) hgz 28 zN).keep (Ext.new1 (w.alloc (.cells zN.toArray 28)) (.cells zN.toArray 28)))
  have hM0 := Lib.hid (Blk.newA (w := w.alloc (.cells zN.toArray 28)) (g := gz + 1) (by simp [hgz]) 28 zN)
  have hx0 := Lib.hid (Ext.trans (Ext.new1 w (.cells zN.toArray 28)) (Ext.new1 _ (.cells zN.toArray 28)))
  have HE0 := Lib.hid (hE.keep hx0.out)
  have HK0 := Lib.hid (hK.keep hx0.out)
  have HEW := Lib.hid hE
  clear hE hK
  unfold zN at hN0 hM0 hx0 HE0 HK0
  by_cases k1 : kind = 1
  focus
    subst k1
    have HO := Lib.hid (of_1 l)
    have HC := Lib.hid (glPlain E l hl)
    generalize plainG l = r at *
    go_enter Tryd.func12, Tryd.ntmps12
    go_upto_region 6 with fail
    try rw [hgz]
    generalize (w.alloc (.cells #[.int .i64 0, .int .i64 0, .bool false, .int .u64 0, .int .u64 0, .int .u64 0, .int .u64 0, .slice none 0 0] 28)).alloc (.cells #[.int .i64 0, .int .i64 0, .bool false, .int .u64 0, .int .u64 0, .int .u64 0, .int .u64 0, .slice none 0 0] 28) = wa at *
    have HZA := Lib.hid (show gz + 1 < wa.heap.size from hM0.out.lt)
    cases r with
    | out =>
      go_wp2_with fail
      go_at_call 17
      refine (HC.out _ HE0.out).mono ?_
      rintro e wA ⟨hxA, hR⟩
      exact hR.elim
    | err k =>
      go_wp2_with fail
      go_at_call 17
      refine (HC.out _ HE0.out).mono ?_
      rintro e wA ⟨hxA, k', rfl, rfl⟩
      have HMA := Lib.hid (hM0.out.keep hxA)
      have HNA := Lib.hid (hN0.out.keep hxA)
      have HXA := Lib.hid (Ext.trans hx0.out hxA)
      have hn := fun w => run_eql_iface_nil (P := Tryd.prog) (w := w) 30 (by kernel_rfl) 233 (.pointer (some (E k')))
      clear hxA
      unfold ev errV
      go_wp2_with (first
        | (refine store_nd rfl (.tmp 4) (.tmp 34) rfl (g := gz) zN rfl rfl (Blk.rowFar HNA.out _ hne6.out) rfl rfl rfl ?_)
        | (refine store_nd rfl (.tmp 6) (.tmp 15) rfl (g := gz + 1) zN rfl rfl HMA.out rfl rfl rfl ?_))
      exact bodyPost_ret (v := .tuple #[.agg zN.toArray, ev E (k' + 1)]) (results_nd2 rfl rfl (Blk.row (Blk.rowFar HNA.out _ hne6.out) _) rfl rfl) rfl (.err_ HO.out (Ext.rowX (Ext.rowX HXA.out _ _ (by have := HGZ.out; omega)) _ _ HGZ.out) rfl)
    | ok t i gr =>
      cases hnl : t.nullable
      focus
        have HNL := Lib.hid hnl
        have HOK := Lib.hid (HO.out.trans (noNull_ok hnl))
        clear hnl
        go_wp2_with fail
        go_at_call 17
        refine (HC.out _ HE0.out).mono ?_
        rintro e wA ⟨hxA, v, rfl, hv⟩
        obtain ⟨kk, mm, zz, qq, BB, nn, cc, rfl⟩ := nodeV_form hv
        have HMA := Lib.hid (hM0.out.keep hxA)
        have HB := Lib.hid (show NodeB (wA.setRow (gz + 1) (nodeC kk mm zz qq BB nn cc).toArray) (gz + 1) kk mm zz qq BB nn cc from Blk.row HMA.out _)
        have HVB := Lib.hid ((hv.chg (rowChg wA (gz + 1) (nodeC kk mm zz qq BB nn cc).toArray (List.mem_singleton.2 rfl)) (by intro y hy; simp at hy; have := HZA.out; omega)))
        have HNB := Lib.hid (Blk.rowFar (hN0.out.keep hxA) (nodeC kk mm zz qq BB nn cc).toArray hne6.out)
        have HXB := Lib.hid ((Ext.trans hx0.out hxA).rowX (gz + 1) (nodeC kk mm zz qq BB nn cc) (by have := HGZ.out; omega))
        clear hxA hv
        go_upto_region 13 with (refine store_nd rfl (.tmp 6) (.tmp 15) rfl (g := gz + 1) (nodeC kk mm zz qq BB nn cc) rfl rfl HMA.out rfl rfl rfl ?_)
        generalize wA.setRow (gz + 1) (nodeC kk mm zz qq BB nn cc).toArray = wB at *
        obtain ⟨b0, b1, b2, b3, b4, b5, b6, b7⟩ := HB.out.cells
        go_wp2_with (first
          | (go_at_call 14; refine (rxNullableN t.size t (Nat.le_refl _) _ _ _ HVB.out).mono ?_; rintro e wC ⟨rfl, hxC⟩; rw [HNL.out]; obtain ⟨d0, d1, d2, d3, d4, d5, d6, d7⟩ := (HB.out.keep hxC).cells)
          | (refine store_nd rfl (.tmp 4) (.tmp 41) rfl (g := gz) (nodeC kk mm zz qq BB nn cc) rfl rfl (HNB.out.keep hxC) rfl rfl rfl ?_))
        exact bodyPost_ret (v := .tuple #[.agg (nodeC kk mm zz qq BB nn cc).toArray, .nilIface]) (results_nd2 rfl rfl (Blk.row (HNB.out.keep hxC) _) rfl rfl) rfl (.ok_ HOK.out (Ext.rowX (Ext.trans HXB.out hxC) _ _ HGZ.out) rfl (((HVB.out.keep hxC).chg (rowChg _ _ _ (List.mem_singleton.2 rfl)) (by intro y hy; simp at hy; have := HZA.out; omega)).mono (fun b _ h => by have h : wa.heap.size ≤ b := h; have := HZA.out; have := HGZ.out; show w.heap.size ≤ b; omega)))
      focus
        have HNL := Lib.hid hnl
        have HOK := Lib.hid (HO.out.trans (noNull_no hnl))
        clear hnl
        go_wp2_with fail
        go_at_call 17
        refine (HC.out _ HE0.out).mono ?_
        rintro e wA ⟨hxA, v, rfl, hv⟩
        obtain ⟨kk, mm, zz, qq, BB, nn, cc, rfl⟩ := nodeV_form hv
        have HMA := Lib.hid (hM0.out.keep hxA)
        have HB := Lib.hid (show NodeB (wA.setRow (gz + 1) (nodeC kk mm zz qq BB nn cc).toArray) (gz + 1) kk mm zz qq BB nn cc from Blk.row HMA.out _)
        have HVB := Lib.hid ((hv.chg (rowChg wA (gz + 1) (nodeC kk mm zz qq BB nn cc).toArray (List.mem_singleton.2 rfl)) (by intro y hy; simp at hy; have := HZA.out; omega)))
        have HNB := Lib.hid (Blk.rowFar (hN0.out.keep hxA) (nodeC kk mm zz qq BB nn cc).toArray hne6.out)
        have HXB := Lib.hid ((Ext.trans hx0.out hxA).rowX (gz + 1) (nodeC kk mm zz qq BB nn cc) (by have := HGZ.out; omega))
        clear hxA hv
        go_upto_region 13 with (refine store_nd rfl (.tmp 6) (.tmp 15) rfl (g := gz + 1) (nodeC kk mm zz qq BB nn cc) rfl rfl HMA.out rfl rfl rfl ?_)
        generalize wA.setRow (gz + 1) (nodeC kk mm zz qq BB nn cc).toArray = wB at *
        obtain ⟨b0, b1, b2, b3, b4, b5, b6, b7⟩ := HB.out.cells
        go_upto_region 14 with (go_at_call 14; refine (rxNullableN t.size t (Nat.le_refl _) _ _ _ HVB.out).mono ?_; rintro e wC ⟨rfl, hxC⟩; rw [HNL.out])
        have hNz := Lib.hid (HNB.out.keep hxC)
        have HXC := Lib.hid (Ext.trans HXB.out hxC)
        have HEc := Lib.hid (HEW.out.keep HXC.out)
        clear hxC b0 b1 b2 b3 b4 b5 b6 b7
        obtain ⟨e1, e2, e3, e4, e5, e6⟩ := HEc.out.facts
        have hne1 : ¬ gz = 1 := by intro e; have := hNz.out.cell 0; rw [e, e6] at this; simp [errV] at this
        have HGW := Lib.hid (Nat.le_refl gz)
        have hne2 : ¬ 1 = gz := fun e => hne1 e.symm
        refine wp_region_dagS (E := Chg [gz]) (F := Ext) (z := 2) (late := []) (w0 := wC) (Φ := fun i v w => match i with | 0 => (v = .agg zN.toArray) | 1 => (v = errV E 14) | 2 => (Blk w gz 28 zN) | 3 => (v = errV E 14) | _ => True) (show Tryd.prog.follows .mixedOrders = true from Checked.mixed Tryd.checked) 42 rfl (by decide +kernel) (by decide +kernel) ?_ (by decide +kernel) ?_ ((Below.refl _ _).drew) ((Chg.refl _ _).drew) ?_ ?_ ?_ ⟨?_, ?_, ?_, ?_, trivial⟩ ?_
        · intro i v w w' h hE
          match i, h with
          | 0, h => exact h
          | 1, h => exact h
          | 2, h => exact Blk.keep h hE
          | 3, h => exact h
          | _ + 4, _ => trivial
        · intro i v w w' hiz hla h hE
          match i, hiz, hla, h with
          | 0, _, _, h => exact h
          | 1, _, _, h => exact h
          | 2, hiz, _, _ => exact absurd rfl hiz
          | 3, _, _, h => exact h
          | _ + 4, _, _, _ => trivial
        · exact fun w w' h h' => h.trans (.of_ext h')
        · exact fun w w' h h' => h.trans h'
        · exact fun w w' h h' => (Chg.of_ext h).trans h'
        · -- 0: t39 := build 28 #[] 
          intro ac wx hE hF hsz hdf h
          clear h hsz hdf
          go_wp2
          exact ⟨_, rfl, rfl, Ext.refl _⟩
        · -- 1: t40 := load 30 (Operand.global 1) 
          intro ac wx hE hF hsz hdf h
          clear h hsz hdf
          have e9 := hE.cell e6 (by simp; exact hne2)
          go_wp2
          exact ⟨_, rfl, rfl, Ext.refl _⟩
        · -- 2: tNone := store 28 t4 t39 
          intro ac wx hE hF hsz hdf h
          have e4 : ac.tmps[4]? = some (.pointer (some ⟨gz, 0, none⟩)) := by obtain ⟨v, h1, h2⟩ := h 4 (by decide +kernel); exact h1.trans (h2.symm.trans rfl)
          have e39 : ac.tmps[39]? = some (.agg zN.toArray) := by obtain ⟨v, h1, h2⟩ := h 39 (by decide +kernel); rw [h1]; exact congrArg some h2
          have hB9 := hNz.out.keep (hF (.inl rfl))
          clear h hsz hdf
          refine store_nd rfl (.tmp 4) (.tmp 39) rfl (g := gz) zN ?_ ?_ hB9 rfl rfl rfl ?_
          · simp [Act.eval, e4]
          · simp [Act.eval, e39]
          · go_wp2; exact ⟨Blk.row hB9 _, rowChg _ _ _ (by simp)⟩
        · -- 3: t5 := assign t40 
          intro ac wx hE hF hsz hdf h
          have e40 : ac.tmps[40]? = some (errV E 14) := by obtain ⟨v, h1, h2⟩ := h 40 (by decide +kernel); rw [h1]; exact congrArg some h2
          clear h hsz hdf
          go_wp2
          exact ⟨_, rfl, rfl, Ext.refl _⟩
        · intro ac w9 hE hsz hdf h hrest
          obtain ⟨v0, s0, g0⟩ := h 0 _ rfl
          have e0 := g0 39 rfl
          obtain rfl : v0 = .agg zN.toArray := s0
          obtain ⟨v1, s1, g1⟩ := h 1 _ rfl
          have e1 := g1 40 rfl
          obtain rfl : v1 = errV E 14 := s1
          obtain ⟨v2, s2, -⟩ := h 2 _ rfl
          replace s2 : Blk w9 gz 28 zN := s2
          obtain ⟨v3, s3, g3⟩ := h 3 _ rfl
          have e3 := g3 5 rfl
          obtain rfl : v3 = errV E 14 := s3
          have ha := act_of [(39, .agg zN.toArray), (40, errV E 14), (5, errV E 14)] rfl hsz hdf (by intro p hp; simp only [List.mem_cons, List.not_mem_nil, or_false] at hp; rcases hp with rfl | rfl | rfl <;> first | exact e0 | exact e1 | exact e3) hrest
          clear h hrest hsz hdf e0 e1 e3 g0 g1 g3
          subst ha
          simp only [List.foldl_cons, List.foldl_nil, Act.put, List.setIfInBounds_toArray, List.set_cons_succ, List.set_cons_zero]
          go_wp2
          exact bodyPost_ret (v := .tuple #[.agg zN.toArray, ev E 15]) (results_nd2 rfl rfl s2 rfl rfl) rfl (.err_ HOK.out (((Chg.of_ext (X := [gz]) HXC.out).trans hE).new HGZ.out) rfl)
  have n1 : (kind == 1) = false := by rw [beq_eq_false_iff_ne]; exact k1
  by_cases k2 : kind = 2
  focus
    subst k2
    have HO := Lib.hid (of_2 l)
    have HC := Lib.hid (glParse E l hl)
    generalize parseG l = r at *
    go_enter Tryd.func12, Tryd.ntmps12
    go_upto_region 8 with fail
    try rw [hgz]
    generalize (w.alloc (.cells #[.int .i64 0, .int .i64 0, .bool false, .int .u64 0, .int .u64 0, .int .u64 0, .int .u64 0, .slice none 0 0] 28)).alloc (.cells #[.int .i64 0, .int .i64 0, .bool false, .int .u64 0, .int .u64 0, .int .u64 0, .int .u64 0, .slice none 0 0] 28) = wa at *
    have HZA := Lib.hid (show gz + 1 < wa.heap.size from hM0.out.lt)
    cases r with
    | out =>
      go_wp2_with fail
      go_at_call 16
      refine (HC.out _ HE0.out).mono ?_
      rintro e wA ⟨hxA, hR⟩
      exact hR.elim
    | err k =>
      go_wp2_with fail
      go_at_call 16
      refine (HC.out _ HE0.out).mono ?_
      rintro e wA ⟨hxA, k', rfl, rfl⟩
      have HMA := Lib.hid (hM0.out.keep hxA)
      have HNA := Lib.hid (hN0.out.keep hxA)
      have HXA := Lib.hid (Ext.trans hx0.out hxA)
      have hn := fun w => run_eql_iface_nil (P := Tryd.prog) (w := w) 30 (by kernel_rfl) 233 (.pointer (some (E k')))
      clear hxA
      unfold ev errV
      go_wp2_with (first
        | (refine store_nd rfl (.tmp 4) (.tmp 34) rfl (g := gz) zN rfl rfl (Blk.rowFar HNA.out _ hne6.out) rfl rfl rfl ?_)
        | (refine store_nd rfl (.tmp 6) (.tmp 22) rfl (g := gz + 1) zN rfl rfl HMA.out rfl rfl rfl ?_))
      exact bodyPost_ret (v := .tuple #[.agg zN.toArray, ev E (k' + 1)]) (results_nd2 rfl rfl (Blk.row (Blk.rowFar HNA.out _ hne6.out) _) rfl rfl) rfl (.err_ HO.out (Ext.rowX (Ext.rowX HXA.out _ _ (by have := HGZ.out; omega)) _ _ HGZ.out) rfl)
    | ok t i gr =>
      cases hnl : t.nullable
      focus
        have HNL := Lib.hid hnl
        have HOK := Lib.hid (HO.out.trans (noNull_ok hnl))
        clear hnl
        go_wp2_with fail
        go_at_call 16
        refine (HC.out _ HE0.out).mono ?_
        rintro e wA ⟨hxA, v, rfl, hv⟩
        obtain ⟨kk, mm, zz, qq, BB, nn, cc, rfl⟩ := nodeV_form hv
        have HMA := Lib.hid (hM0.out.keep hxA)
        have HB := Lib.hid (show NodeB (wA.setRow (gz + 1) (nodeC kk mm zz qq BB nn cc).toArray) (gz + 1) kk mm zz qq BB nn cc from Blk.row HMA.out _)
        have HVB := Lib.hid ((hv.chg (rowChg wA (gz + 1) (nodeC kk mm zz qq BB nn cc).toArray (List.mem_singleton.2 rfl)) (by intro y hy; simp at hy; have := HZA.out; omega)))
        have HNB := Lib.hid (Blk.rowFar (hN0.out.keep hxA) (nodeC kk mm zz qq BB nn cc).toArray hne6.out)
        have HXB := Lib.hid ((Ext.trans hx0.out hxA).rowX (gz + 1) (nodeC kk mm zz qq BB nn cc) (by have := HGZ.out; omega))
        clear hxA hv
        go_upto_region 13 with (refine store_nd rfl (.tmp 6) (.tmp 22) rfl (g := gz + 1) (nodeC kk mm zz qq BB nn cc) rfl rfl HMA.out rfl rfl rfl ?_)
        generalize wA.setRow (gz + 1) (nodeC kk mm zz qq BB nn cc).toArray = wB at *
        obtain ⟨b0, b1, b2, b3, b4, b5, b6, b7⟩ := HB.out.cells
        go_wp2_with (first
          | (go_at_call 14; refine (rxNullableN t.size t (Nat.le_refl _) _ _ _ HVB.out).mono ?_; rintro e wC ⟨rfl, hxC⟩; rw [HNL.out]; obtain ⟨d0, d1, d2, d3, d4, d5, d6, d7⟩ := (HB.out.keep hxC).cells)
          | (refine store_nd rfl (.tmp 4) (.tmp 41) rfl (g := gz) (nodeC kk mm zz qq BB nn cc) rfl rfl (HNB.out.keep hxC) rfl rfl rfl ?_))
        exact bodyPost_ret (v := .tuple #[.agg (nodeC kk mm zz qq BB nn cc).toArray, .nilIface]) (results_nd2 rfl rfl (Blk.row (HNB.out.keep hxC) _) rfl rfl) rfl (.ok_ HOK.out (Ext.rowX (Ext.trans HXB.out hxC) _ _ HGZ.out) rfl (((HVB.out.keep hxC).chg (rowChg _ _ _ (List.mem_singleton.2 rfl)) (by intro y hy; simp at hy; have := HZA.out; omega)).mono (fun b _ h => by have h : wa.heap.size ≤ b := h; have := HZA.out; have := HGZ.out; show w.heap.size ≤ b; omega)))
      focus
        have HNL := Lib.hid hnl
        have HOK := Lib.hid (HO.out.trans (noNull_no hnl))
        clear hnl
        go_wp2_with fail
        go_at_call 16
        refine (HC.out _ HE0.out).mono ?_
        rintro e wA ⟨hxA, v, rfl, hv⟩
        obtain ⟨kk, mm, zz, qq, BB, nn, cc, rfl⟩ := nodeV_form hv
        have HMA := Lib.hid (hM0.out.keep hxA)
        have HB := Lib.hid (show NodeB (wA.setRow (gz + 1) (nodeC kk mm zz qq BB nn cc).toArray) (gz + 1) kk mm zz qq BB nn cc from Blk.row HMA.out _)
        have HVB := Lib.hid ((hv.chg (rowChg wA (gz + 1) (nodeC kk mm zz qq BB nn cc).toArray (List.mem_singleton.2 rfl)) (by intro y hy; simp at hy; have := HZA.out; omega)))
        have HNB := Lib.hid (Blk.rowFar (hN0.out.keep hxA) (nodeC kk mm zz qq BB nn cc).toArray hne6.out)
        have HXB := Lib.hid ((Ext.trans hx0.out hxA).rowX (gz + 1) (nodeC kk mm zz qq BB nn cc) (by have := HGZ.out; omega))
        clear hxA hv
        go_upto_region 13 with (refine store_nd rfl (.tmp 6) (.tmp 22) rfl (g := gz + 1) (nodeC kk mm zz qq BB nn cc) rfl rfl HMA.out rfl rfl rfl ?_)
        generalize wA.setRow (gz + 1) (nodeC kk mm zz qq BB nn cc).toArray = wB at *
        obtain ⟨b0, b1, b2, b3, b4, b5, b6, b7⟩ := HB.out.cells
        go_upto_region 14 with (go_at_call 14; refine (rxNullableN t.size t (Nat.le_refl _) _ _ _ HVB.out).mono ?_; rintro e wC ⟨rfl, hxC⟩; rw [HNL.out])
        have hNz := Lib.hid (HNB.out.keep hxC)
        have HXC := Lib.hid (Ext.trans HXB.out hxC)
        have HEc := Lib.hid (HEW.out.keep HXC.out)
        clear hxC b0 b1 b2 b3 b4 b5 b6 b7
        obtain ⟨e1, e2, e3, e4, e5, e6⟩ := HEc.out.facts
        have hne1 : ¬ gz = 1 := by intro e; have := hNz.out.cell 0; rw [e, e6] at this; simp [errV] at this
        have HGW := Lib.hid (Nat.le_refl gz)
        have hne2 : ¬ 1 = gz := fun e => hne1 e.symm
        refine wp_region_dagS (E := Chg [gz]) (F := Ext) (z := 2) (late := []) (w0 := wC) (Φ := fun i v w => match i with | 0 => (v = .agg zN.toArray) | 1 => (v = errV E 14) | 2 => (Blk w gz 28 zN) | 3 => (v = errV E 14) | _ => True) (show Tryd.prog.follows .mixedOrders = true from Checked.mixed Tryd.checked) 42 rfl (by decide +kernel) (by decide +kernel) ?_ (by decide +kernel) ?_ ((Below.refl _ _).drew) ((Chg.refl _ _).drew) ?_ ?_ ?_ ⟨?_, ?_, ?_, ?_, trivial⟩ ?_
        · intro i v w w' h hE
          match i, h with
          | 0, h => exact h
          | 1, h => exact h
          | 2, h => exact Blk.keep h hE
          | 3, h => exact h
          | _ + 4, _ => trivial
        · intro i v w w' hiz hla h hE
          match i, hiz, hla, h with
          | 0, _, _, h => exact h
          | 1, _, _, h => exact h
          | 2, hiz, _, _ => exact absurd rfl hiz
          | 3, _, _, h => exact h
          | _ + 4, _, _, _ => trivial
        · exact fun w w' h h' => h.trans (.of_ext h')
        · exact fun w w' h h' => h.trans h'
        · exact fun w w' h h' => (Chg.of_ext h).trans h'
        · -- 0: t39 := build 28 #[] 
          intro ac wx hE hF hsz hdf h
          clear h hsz hdf
          go_wp2
          exact ⟨_, rfl, rfl, Ext.refl _⟩
        · -- 1: t40 := load 30 (Operand.global 1) 
          intro ac wx hE hF hsz hdf h
          clear h hsz hdf
          have e9 := hE.cell e6 (by simp; exact hne2)
          go_wp2
          exact ⟨_, rfl, rfl, Ext.refl _⟩
        · -- 2: tNone := store 28 t4 t39 
          intro ac wx hE hF hsz hdf h
          have e4 : ac.tmps[4]? = some (.pointer (some ⟨gz, 0, none⟩)) := by obtain ⟨v, h1, h2⟩ := h 4 (by decide +kernel); exact h1.trans (h2.symm.trans rfl)
          have e39 : ac.tmps[39]? = some (.agg zN.toArray) := by obtain ⟨v, h1, h2⟩ := h 39 (by decide +kernel); rw [h1]; exact congrArg some h2
          have hB9 := hNz.out.keep (hF (.inl rfl))
          clear h hsz hdf
          refine store_nd rfl (.tmp 4) (.tmp 39) rfl (g := gz) zN ?_ ?_ hB9 rfl rfl rfl ?_
          · simp [Act.eval, e4]
          · simp [Act.eval, e39]
          · go_wp2; exact ⟨Blk.row hB9 _, rowChg _ _ _ (by simp)⟩
        · -- 3: t5 := assign t40 
          intro ac wx hE hF hsz hdf h
          have e40 : ac.tmps[40]? = some (errV E 14) := by obtain ⟨v, h1, h2⟩ := h 40 (by decide +kernel); rw [h1]; exact congrArg some h2
          clear h hsz hdf
          go_wp2
          exact ⟨_, rfl, rfl, Ext.refl _⟩
        · intro ac w9 hE hsz hdf h hrest
          obtain ⟨v0, s0, g0⟩ := h 0 _ rfl
          have e0 := g0 39 rfl
          obtain rfl : v0 = .agg zN.toArray := s0
          obtain ⟨v1, s1, g1⟩ := h 1 _ rfl
          have e1 := g1 40 rfl
          obtain rfl : v1 = errV E 14 := s1
          obtain ⟨v2, s2, -⟩ := h 2 _ rfl
          replace s2 : Blk w9 gz 28 zN := s2
          obtain ⟨v3, s3, g3⟩ := h 3 _ rfl
          have e3 := g3 5 rfl
          obtain rfl : v3 = errV E 14 := s3
          have ha := act_of [(39, .agg zN.toArray), (40, errV E 14), (5, errV E 14)] rfl hsz hdf (by intro p hp; simp only [List.mem_cons, List.not_mem_nil, or_false] at hp; rcases hp with rfl | rfl | rfl <;> first | exact e0 | exact e1 | exact e3) hrest
          clear h hrest hsz hdf e0 e1 e3 g0 g1 g3
          subst ha
          simp only [List.foldl_cons, List.foldl_nil, Act.put, List.setIfInBounds_toArray, List.set_cons_succ, List.set_cons_zero]
          go_wp2
          exact bodyPost_ret (v := .tuple #[.agg zN.toArray, ev E 15]) (results_nd2 rfl rfl s2 rfl rfl) rfl (.err_ HOK.out (((Chg.of_ext (X := [gz]) HXC.out).trans hE).new HGZ.out) rfl)
  have n2 : (kind == 2) = false := by rw [beq_eq_false_iff_ne]; exact k2
  by_cases k3 : kind = 3
  focus
    subst k3
    have HO := Lib.hid (of_3 l)
    have HC := Lib.hid (rxParse E l)
    generalize parseR l = r at *
    go_enter Tryd.func12, Tryd.ntmps12
    go_upto_region 10 with fail
    try rw [hgz]
    generalize (w.alloc (.cells #[.int .i64 0, .int .i64 0, .bool false, .int .u64 0, .int .u64 0, .int .u64 0, .int .u64 0, .slice none 0 0] 28)).alloc (.cells #[.int .i64 0, .int .i64 0, .bool false, .int .u64 0, .int .u64 0, .int .u64 0, .int .u64 0, .slice none 0 0] 28) = wa at *
    have HZA := Lib.hid (show gz + 1 < wa.heap.size from hM0.out.lt)
    cases r with
    | out =>
      go_wp2_with fail
      go_at_call 47
      refine (HC.out _ HE0.out).mono ?_
      rintro e wA ⟨hxA, hR⟩
      exact hR.elim
    | err k =>
      go_wp2_with fail
      go_at_call 47
      refine (HC.out _ HE0.out).mono ?_
      rintro e wA ⟨hxA, k', rfl, rfl⟩
      have HMA := Lib.hid (hM0.out.keep hxA)
      have HNA := Lib.hid (hN0.out.keep hxA)
      have HXA := Lib.hid (Ext.trans hx0.out hxA)
      have hn := fun w => run_eql_iface_nil (P := Tryd.prog) (w := w) 30 (by kernel_rfl) 233 (.pointer (some (E k')))
      clear hxA
      unfold ev errV
      go_wp2_with (first
        | (refine store_nd rfl (.tmp 4) (.tmp 34) rfl (g := gz) zN rfl rfl (Blk.rowFar HNA.out _ hne6.out) rfl rfl rfl ?_)
        | (refine store_nd rfl (.tmp 6) (.tmp 29) rfl (g := gz + 1) zN rfl rfl HMA.out rfl rfl rfl ?_))
      exact bodyPost_ret (v := .tuple #[.agg zN.toArray, ev E (k' + 1)]) (results_nd2 rfl rfl (Blk.row (Blk.rowFar HNA.out _ hne6.out) _) rfl rfl) rfl (.err_ HO.out (Ext.rowX (Ext.rowX HXA.out _ _ (by have := HGZ.out; omega)) _ _ HGZ.out) rfl)
    | ok t i gr =>
      cases hnl : t.nullable
      focus
        have HNL := Lib.hid hnl
        have HOK := Lib.hid (HO.out.trans (noNull_ok hnl))
        clear hnl
        go_wp2_with fail
        go_at_call 47
        refine (HC.out _ HE0.out).mono ?_
        rintro e wA ⟨hxA, v, rfl, hv⟩
        obtain ⟨kk, mm, zz, qq, BB, nn, cc, rfl⟩ := nodeV_form hv
        have HMA := Lib.hid (hM0.out.keep hxA)
        have HB := Lib.hid (show NodeB (wA.setRow (gz + 1) (nodeC kk mm zz qq BB nn cc).toArray) (gz + 1) kk mm zz qq BB nn cc from Blk.row HMA.out _)
        have HVB := Lib.hid ((hv.chg (rowChg wA (gz + 1) (nodeC kk mm zz qq BB nn cc).toArray (List.mem_singleton.2 rfl)) (by intro y hy; simp at hy; have := HZA.out; omega)))
        have HNB := Lib.hid (Blk.rowFar (hN0.out.keep hxA) (nodeC kk mm zz qq BB nn cc).toArray hne6.out)
        have HXB := Lib.hid ((Ext.trans hx0.out hxA).rowX (gz + 1) (nodeC kk mm zz qq BB nn cc) (by have := HGZ.out; omega))
        clear hxA hv
        go_upto_region 13 with (refine store_nd rfl (.tmp 6) (.tmp 29) rfl (g := gz + 1) (nodeC kk mm zz qq BB nn cc) rfl rfl HMA.out rfl rfl rfl ?_)
        generalize wA.setRow (gz + 1) (nodeC kk mm zz qq BB nn cc).toArray = wB at *
        obtain ⟨b0, b1, b2, b3, b4, b5, b6, b7⟩ := HB.out.cells
        go_wp2_with (first
          | (go_at_call 14; refine (rxNullableN t.size t (Nat.le_refl _) _ _ _ HVB.out).mono ?_; rintro e wC ⟨rfl, hxC⟩; rw [HNL.out]; obtain ⟨d0, d1, d2, d3, d4, d5, d6, d7⟩ := (HB.out.keep hxC).cells)
          | (refine store_nd rfl (.tmp 4) (.tmp 41) rfl (g := gz) (nodeC kk mm zz qq BB nn cc) rfl rfl (HNB.out.keep hxC) rfl rfl rfl ?_))
        exact bodyPost_ret (v := .tuple #[.agg (nodeC kk mm zz qq BB nn cc).toArray, .nilIface]) (results_nd2 rfl rfl (Blk.row (HNB.out.keep hxC) _) rfl rfl) rfl (.ok_ HOK.out (Ext.rowX (Ext.trans HXB.out hxC) _ _ HGZ.out) rfl (((HVB.out.keep hxC).chg (rowChg _ _ _ (List.mem_singleton.2 rfl)) (by intro y hy; simp at hy; have := HZA.out; omega)).mono (fun b _ h => by have h : wa.heap.size ≤ b := h; have := HZA.out; have := HGZ.out; show w.heap.size ≤ b; omega)))
      focus
        have HNL := Lib.hid hnl
        have HOK := Lib.hid (HO.out.trans (noNull_no hnl))
        clear hnl
        go_wp2_with fail
        go_at_call 47
        refine (HC.out _ HE0.out).mono ?_
        rintro e wA ⟨hxA, v, rfl, hv⟩
        obtain ⟨kk, mm, zz, qq, BB, nn, cc, rfl⟩ := nodeV_form hv
        have HMA := Lib.hid (hM0.out.keep hxA)
        have HB := Lib.hid (show NodeB (wA.setRow (gz + 1) (nodeC kk mm zz qq BB nn cc).toArray) (gz + 1) kk mm zz qq BB nn cc from Blk.row HMA.out _)
        have HVB := Lib.hid ((hv.chg (rowChg wA (gz + 1) (nodeC kk mm zz qq BB nn cc).toArray (List.mem_singleton.2 rfl)) (by intro y hy; simp at hy; have := HZA.out; omega)))
        have HNB := Lib.hid (Blk.rowFar (hN0.out.keep hxA) (nodeC kk mm zz qq BB nn cc).toArray hne6.out)
        have HXB := Lib.hid ((Ext.trans hx0.out hxA).rowX (gz + 1) (nodeC kk mm zz qq BB nn cc) (by have := HGZ.out; omega))
        clear hxA hv
        go_upto_region 13 with (refine store_nd rfl (.tmp 6) (.tmp 29) rfl (g := gz + 1) (nodeC kk mm zz qq BB nn cc) rfl rfl HMA.out rfl rfl rfl ?_)
        generalize wA.setRow (gz + 1) (nodeC kk mm zz qq BB nn cc).toArray = wB at *
        obtain ⟨b0, b1, b2, b3, b4, b5, b6, b7⟩ := HB.out.cells
        go_upto_region 14 with (go_at_call 14; refine (rxNullableN t.size t (Nat.le_refl _) _ _ _ HVB.out).mono ?_; rintro e wC ⟨rfl, hxC⟩; rw [HNL.out])
        have hNz := Lib.hid (HNB.out.keep hxC)
        have HXC := Lib.hid (Ext.trans HXB.out hxC)
        have HEc := Lib.hid (HEW.out.keep HXC.out)
        clear hxC b0 b1 b2 b3 b4 b5 b6 b7
        obtain ⟨e1, e2, e3, e4, e5, e6⟩ := HEc.out.facts
        have hne1 : ¬ gz = 1 := by intro e; have := hNz.out.cell 0; rw [e, e6] at this; simp [errV] at this
        have HGW := Lib.hid (Nat.le_refl gz)
        have hne2 : ¬ 1 = gz := fun e => hne1 e.symm
        refine wp_region_dagS (E := Chg [gz]) (F := Ext) (z := 2) (late := []) (w0 := wC) (Φ := fun i v w => match i with | 0 => (v = .agg zN.toArray) | 1 => (v = errV E 14) | 2 => (Blk w gz 28 zN) | 3 => (v = errV E 14) | _ => True) (show Tryd.prog.follows .mixedOrders = true from Checked.mixed Tryd.checked) 42 rfl (by decide +kernel) (by decide +kernel) ?_ (by decide +kernel) ?_ ((Below.refl _ _).drew) ((Chg.refl _ _).drew) ?_ ?_ ?_ ⟨?_, ?_, ?_, ?_, trivial⟩ ?_
        · intro i v w w' h hE
          match i, h with
          | 0, h => exact h
          | 1, h => exact h
          | 2, h => exact Blk.keep h hE
          | 3, h => exact h
          | _ + 4, _ => trivial
        · intro i v w w' hiz hla h hE
          match i, hiz, hla, h with
          | 0, _, _, h => exact h
          | 1, _, _, h => exact h
          | 2, hiz, _, _ => exact absurd rfl hiz
          | 3, _, _, h => exact h
          | _ + 4, _, _, _ => trivial
        · exact fun w w' h h' => h.trans (.of_ext h')
        · exact fun w w' h h' => h.trans h'
        · exact fun w w' h h' => (Chg.of_ext h).trans h'
        · -- 0: t39 := build 28 #[] 
          intro ac wx hE hF hsz hdf h
          clear h hsz hdf
          go_wp2
          exact ⟨_, rfl, rfl, Ext.refl _⟩
        · -- 1: t40 := load 30 (Operand.global 1) 
          intro ac wx hE hF hsz hdf h
          clear h hsz hdf
          have e9 := hE.cell e6 (by simp; exact hne2)
          go_wp2
          exact ⟨_, rfl, rfl, Ext.refl _⟩
        · -- 2: tNone := store 28 t4 t39 
          intro ac wx hE hF hsz hdf h
          have e4 : ac.tmps[4]? = some (.pointer (some ⟨gz, 0, none⟩)) := by obtain ⟨v, h1, h2⟩ := h 4 (by decide +kernel); exact h1.trans (h2.symm.trans rfl)
          have e39 : ac.tmps[39]? = some (.agg zN.toArray) := by obtain ⟨v, h1, h2⟩ := h 39 (by decide +kernel); rw [h1]; exact congrArg some h2
          have hB9 := hNz.out.keep (hF (.inl rfl))
          clear h hsz hdf
          refine store_nd rfl (.tmp 4) (.tmp 39) rfl (g := gz) zN ?_ ?_ hB9 rfl rfl rfl ?_
          · simp [Act.eval, e4]
          · simp [Act.eval, e39]
          · go_wp2; exact ⟨Blk.row hB9 _, rowChg _ _ _ (by simp)⟩
        · -- 3: t5 := assign t40 
          intro ac wx hE hF hsz hdf h
          have e40 : ac.tmps[40]? = some (errV E 14) := by obtain ⟨v, h1, h2⟩ := h 40 (by decide +kernel); rw [h1]; exact congrArg some h2
          clear h hsz hdf
          go_wp2
          exact ⟨_, rfl, rfl, Ext.refl _⟩
        · intro ac w9 hE hsz hdf h hrest
          obtain ⟨v0, s0, g0⟩ := h 0 _ rfl
          have e0 := g0 39 rfl
          obtain rfl : v0 = .agg zN.toArray := s0
          obtain ⟨v1, s1, g1⟩ := h 1 _ rfl
          have e1 := g1 40 rfl
          obtain rfl : v1 = errV E 14 := s1
          obtain ⟨v2, s2, -⟩ := h 2 _ rfl
          replace s2 : Blk w9 gz 28 zN := s2
          obtain ⟨v3, s3, g3⟩ := h 3 _ rfl
          have e3 := g3 5 rfl
          obtain rfl : v3 = errV E 14 := s3
          have ha := act_of [(39, .agg zN.toArray), (40, errV E 14), (5, errV E 14)] rfl hsz hdf (by intro p hp; simp only [List.mem_cons, List.not_mem_nil, or_false] at hp; rcases hp with rfl | rfl | rfl <;> first | exact e0 | exact e1 | exact e3) hrest
          clear h hrest hsz hdf e0 e1 e3 g0 g1 g3
          subst ha
          simp only [List.foldl_cons, List.foldl_nil, Act.put, List.setIfInBounds_toArray, List.set_cons_succ, List.set_cons_zero]
          go_wp2
          exact bodyPost_ret (v := .tuple #[.agg zN.toArray, ev E 15]) (results_nd2 rfl rfl s2 rfl rfl) rfl (.err_ HOK.out (((Chg.of_ext (X := [gz]) HXC.out).trans hE).new HGZ.out) rfl)
  have n3 : (kind == 3) = false := by rw [beq_eq_false_iff_ne]; exact k3
  focus
    have HO := Lib.hid (show ofG kind l = .err 9 by unfold ofG; rw [if_neg k1, if_neg k2, if_neg k3])
    clear k1 k2 k3
    go_enter Tryd.func12, Tryd.ntmps12
    go_upto_region 4 with fail
    try rw [hgz]
    generalize (w.alloc (.cells #[.int .i64 0, .int .i64 0, .bool false, .int .u64 0, .int .u64 0, .int .u64 0, .int .u64 0, .slice none 0 0] 28)).alloc (.cells #[.int .i64 0, .int .i64 0, .bool false, .int .u64 0, .int .u64 0, .int .u64 0, .int .u64 0, .slice none 0 0] 28) = wa at *
    have HZA := Lib.hid (show gz + 1 < wa.heap.size from hM0.out.lt)
    have hk9 := HK0.out.cell (i := 8) (g := 0) (by simp) rfl
    have hn := fun w => run_eql_iface_nil (P := Tryd.prog) (w := w) 30 (by kernel_rfl) 233 (.pointer (some (E 8)))
    unfold errV at hk9
    go_wp2_with (refine store_nd rfl (.tmp 4) (.tmp 34) rfl (g := gz) zN rfl rfl hN0.out rfl rfl rfl ?_)
    exact bodyPost_ret (v := .tuple #[.agg zN.toArray, ev E 9]) (results_nd2 rfl rfl (Blk.row hN0.out _) rfl rfl) rfl (.err_ HO.out (Ext.rowX hx0.out _ _ HGZ.out) rfl)
end Go.Proofs.YtlofdnefbgjmpaaDoor
