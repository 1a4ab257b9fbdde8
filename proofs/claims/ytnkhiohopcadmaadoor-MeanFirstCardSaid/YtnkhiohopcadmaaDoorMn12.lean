/- The first match of all trees in a text: walked. -/
import Derived.Test.YtnkhiohopcadmaaDoorMn11
namespace Go.Proofs.YtnkhiohopcadmaaDoor
open Go Go.RowKit
attribute [local irreducible] wd

def Sap (lv pv : Value) (b : Nat) : Prop := some b ≠ lv.ownBlock ∧ some b ≠ pv.ownBlock
/-- The trees that are right, as of the document, and their places, gathered so far. -/
structure Two (B : Nat) (lv pv : Value) (acc : List T) (ns : List Int) (w : World) : Prop where
  ownL : ∃ cs, w.ownsRow B 34 260 lv acc.length cs ∧ DKidsV (Sap lv pv) w acc cs
  ownP : w.ownsRow B 3 1 pv ns.length (intsV ns)
theorem Two.ext {B : Nat} {lv pv : Value} {acc : List T} {ns : List Int} {w w' : World} (h : Two B lv pv acc ns w) (hx : Ext w w') : Two B lv pv acc ns w' := by
  obtain ⟨⟨cs, h1, h2⟩, h3⟩ := h
  exact ⟨⟨cs, own_ext h1 hx, dkidsV_map (fun t v h => DNodeV.keep h hx) h2⟩, own_ext h3 hx⟩
theorem own_apart {w : World} {b b' n n' s s' : Nat} {e e' : TypeId} {v v' : Value} {xs xs' : List Value} (h : w.ownsRow b e s v n xs) (h' : w.ownsRow b' e' s' v' n' xs') (he : e ≠ e') : Apart v v' := by
  unfold Apart
  cases hv : v.ownBlock with
  | none => exact .inl rfl
  | some k => right; intro e2; exact own_ne h h' he k hv e2.symm
theorem sap_step {B : Nat} {lv lv' pv pv' : Value} {acc : List T} {t : T} {cs v : List Value} {w w1 wa wa1 wb : World}
    (hk : DKidsV (Sap lv pv) w acc cs) (hv : DNodeV (Sap lv pv) w t v) (hx1 : Ext w w1) (hgL : Grew B w1 wa lv) (hatL : lv'.ownBlock = lv.ownBlock ∨ lv'.ownBlock = some w1.heap.size)
    (hx2 : Ext wa wa1) (hgP : Grew B wa1 wb pv) (hatP : pv'.ownBlock = pv.ownBlock ∨ pv'.ownBlock = some wa1.heap.size) : DKidsV (Sap lv' pv') wb (acc ++ [t]) (cs ++ v) := by
  have s1 := hx1.size
  have s2 := hgL.size
  have s3 := hx2.size
  have s4 := hgP.size
  have key : ∀ x u, DNodeV (Sap lv pv) w x u → DNodeV (Sap lv' pv') wb x u := fun x u hx =>
    dnodeV_stay (by omega) (fun b hb hlt => ⟨⟨by rcases hatL with e | e; (rw [e]; exact hb.1); (rw [e]; intro e2; injection e2 with e2; omega), by rcases hatP with e | e; (rw [e]; exact hb.2); (rw [e]; intro e2; injection e2 with e2; omega)⟩,
      (hgP.by_.block b (by omega) hb.2).trans ((hx2.block b (by omega)).trans ((hgL.by_.block b (by omega) hb.1).trans (hx1.block b hlt)))⟩) x.size x (Nat.le_refl _) u hx
  exact dkidsV_append (dkidsV_map key hk) (dkidsV_one (key t v hv))
theorem kept_take {ts : List T} {i : Nat} (hi : i < ts.length) : kept (ts.take (i + 1)) = kept (ts.take i) ++ if ((ts[i]'hi).right 1 0).1 = true then [(ts[i]'hi, i)] else [] := by
  rw [List.take_succ_eq_append_getElem hi, kept_snoc, List.length_take, show min i ts.length = i by omega]
theorem kept_len (ts : List T) : (kept ts).length ≤ ts.length := by
  unfold kept
  have := List.length_filter_le (fun x : T × Nat => (x.1.right 1 0).1) ts.zipIdx
  rw [List.length_zipIdx] at this
  exact this
def keptT (ts : List T) : List T := (kept ts).map (·.1)
def keptI (ts : List T) : List Int := natsI ((kept ts).map (·.2))
theorem keptT_len (ts : List T) : (keptT ts).length ≤ ts.length := by unfold keptT; rw [List.length_map]; exact kept_len ts
theorem keptI_len (ts : List T) : (keptI ts).length ≤ ts.length := by unfold keptI natsI; rw [List.length_map, List.length_map]; exact kept_len ts
theorem keptT_good (ts : List T) : ∀ t ∈ keptT ts, t.good := by
  intro t ht
  unfold keptT at ht
  obtain ⟨⟨t', j⟩, hm, rfl⟩ := List.mem_map.1 ht
  unfold kept at hm
  exact right_good _ 1 0 (List.mem_filter.1 hm).2

set_option maxHeartbeats 16000000 in
set_option maxRecDepth 20000 in
theorem lawFirst (E : Nat → Addr) (ts : List T) (l : List UInt8) (A : Option Addr) (c : Nat) (cs : List Value) (S : Nat → Prop) (w : World) (hl : ts.length ≤ maxLen) (hR : Rd w 8 A ts.length cs) (hK : KidsV S w ts cs) (hE : Env E w) :
    Calls Tryd.prog 8 #[.slice A ts.length c, .string ⟨l.toArray⟩] w fun e w' => e = .returned (.bool true) ∧ Ext w w' := by
  have HE := Lib.hid hE
  have HR := Lib.hid hR
  have HK := Lib.hid hK
  have HLM := Lib.hid hl
  clear hE hR hK hl
  by_cases hl4 : (4 : Int) < (ts.length : Int)
  · go_enter Tryd.func8, Tryd.ntmps8
    go_wp2_with (go_at_call 26; refine (alive27 E _ HE.out).mono ?_; rintro e w1 ⟨rfl, hx1⟩)
    go_ret
    exact ⟨rfl, hx1⟩
  by_cases hl6 : (6 : Int) < (l.length : Int)
  · go_enter Tryd.func8, Tryd.ntmps8
    go_wp2_with (go_at_call 26; refine (alive27 E _ HE.out).mono ?_; rintro e w1 ⟨rfl, hx1⟩)
    go_ret
    exact ⟨rfl, hx1⟩
  have HT4 := Lib.hid (show ts.length ≤ 4 by omega)
  have HN := Lib.hid (show l.length ≤ 6 by omega)
  go_enter Tryd.func8, Tryd.ntmps8
  go_upto_region 5 with (go_at_call 26; refine (alive27 E _ HE.out).mono ?_; rintro e w1 ⟨rfl, hx1⟩)
  have HR1 := Lib.hid (HR.out.keep hx1)
  have HK1 := Lib.hid (kidsV_map (fun t v h => NodeV.keep h hx1) HK.out)
  have HX1 := Lib.hid hx1
  clear hx1 HR HK HE
  go_upto_region 7 with fail
  have HTW := Lib.hid (show Two w1.heap.size (.slice (some ⟨w1.heap.size, 0, none⟩) 0 0) (.slice (some ⟨w1.heap.size + 1, 0, none⟩) 0 0) [] [] ((w1.alloc (.cells #[] 34)).alloc (.cells #[] 3)) from by
    have h1 := own_empty w1 34 260
    have h2 := own_empty (w1.alloc (.cells #[] 34)) 3 1
    rw [show (w1.alloc (.cells #[] 34)).heap.size = w1.heap.size + 1 by simp] at h2
    exact ⟨⟨[], own_alloc h1 _, by unfold DKidsV; rfl⟩, own_mono h2 (by omega)⟩)
  have HXB := Lib.hid (Ext.trans (Ext.new1 w1 (.cells #[] 34)) (Ext.new1 _ (.cells #[] 3)))
  go_loopg [5, 6, 32] ts.length (fun gg lv pv iv wr => ∃ i : Nat, i ≤ ts.length ∧ gg = ts.length - i ∧ iv = .int .i64 (i : Nat) ∧ (∀ t ∈ ts.take i, t.great27 = false) ∧ Two w1.heap.size lv pv (keptT (ts.take i)) (keptI (ts.take i)) wr ∧ Ext w1 wr)
  case atStart => exact ⟨0, by omega, rfl, rfl, fun t h => by simp at h, HTW.out, HXB.out⟩
  case round =>
    obtain ⟨iq, hi, rfl, rfl, hgr, htw, hx⟩ := hrel
    have HGR := Lib.hid hgr
    have HTW2 := Lib.hid htw
    clear hgr htw HTW HXB
    by_cases hlt : iq < ts.length
    · obtain ⟨b, o, k', m', z', p', B, n', c', rfl, hv, hk⟩ := kid_at HR1.out HK1.out hlt
      obtain ⟨x0, x1, x2, x3, x4, x5, x6, x7⟩ := hk.out wr hx
      have hlt' : (iq : Int) < (ts.length : Int) := by omega
      have hw2 : IntKind.i64.wrap ((iq : Int) + 1) = (iq : Int) + 1 := wrap_id (by omega) (by have := HT4.out; omega)
      obtain ⟨t, hte⟩ : ∃ t, ts[iq]'hlt = t := ⟨_, rfl⟩
      have HTE := Lib.hid hte
      rw [hte] at hv
      clear hte
      have hxn := Ext.new1 wr (.cells (nodeC k' m' z' p' B n' c').toArray 27)
      have HV := Lib.hid ((hv.keep hx).keep hxn)
      have HBX := Lib.hid (NodeB.new wr k' m' z' p' B n' c')
      have HX := Lib.hid (Ext.trans hx hxn)
      have HTW3 := Lib.hid (HTW2.out.ext hxn)
      clear hv hk hx hxn
      go_upto_region 9 with fail
      clear x0 x1 x2 x3 x4 x5 x6 x7
      unfold nodeC at HV HX HTW3
      generalize wr.alloc (.cells #[.int .i64 k', .int .i64 m', .bool z', .int .u64 (wd p' 0 : Nat), .int .u64 (wd p' 1 : Nat), .int .u64 (wd p' 2 : Nat), .int .u64 (wd p' 3 : Nat), .slice B n' c'] 27) = wk at *
      generalize wr.heap.size = gA at *
      have HBX := Lib.hid (show NodeB wk gA k' m' z' p' B n' c' from HBX.out)
      obtain ⟨q0, q1, q2, q3, q4, q5, q6, q7⟩ := HBX.out.cells
      cases hg : t.great27
      rotate_left
      · have HG := Lib.hid hg
        clear hg
        go_wp2_with (go_at_call 27; refine (lawGreat27 t S _ (nodeC k' m' z' p' B n' c') HV.out).mono ?_; rintro e w2 ⟨rfl, hx2⟩; rw [HG.out])
        go_ret
        exact ⟨rfl, Ext.trans HX1.out (Ext.trans HX.out hx2)⟩
      have HG := Lib.hid hg
      have HSZ := Lib.hid (great27_size hg)
      clear hg
      go_upto_region 12 with (first
        | (refine store_dn_new rfl (.tmp 9) (.tmp 40) rfl rfl rfl zsize40 ?_)
        | (have := hx2; go_at_call 11; refine (lawOf _ t (Nat.le_refl _) (by have := HSZ.out; omega) _ _ (nodeC k' m' z' p' B n' c') (HV.out.keep hx2)).mono ?_; rintro e w3 ⟨l3, rfl, hd, hx3⟩; obtain ⟨kx, mx, zx, px, Bx, nx, cx, rfl⟩ := dnodeV_form hd; have HD := Lib.hid hd; clear hd)
        | (go_at_call 27; refine (lawGreat27 t S _ (nodeC k' m' z' p' B n' c') HV.out).mono ?_; rintro e w2 ⟨rfl, hx2⟩; rw [HG.out]; obtain ⟨q0, q1, q2, q3, q4, q5, q6, q7⟩ := (HBX.out.keep hx2).cells))
      have hxn := Ext.new1 w3 (.cells (dnC kx mx zx px Bx nx cx).toArray 34)
      have HTW4 := Lib.hid (HTW3.out.ext (Ext.trans hx2 (Ext.trans hx3 hxn)))
      have HVS := Lib.hid (show DNodeV (Sap u5 u6) _ t (dnC kx mx zx px Bx nx cx) from DNodeV.mono (HD.out.keep hxn) (fun b0 hb0 hS => by
        have s1 := HX.out.size
        have s2 := hx2.size
        obtain ⟨⟨cs1, o1, -⟩, o2⟩ := HTW3.out
        have s4 : wk.heap.size ≤ b0 := by omega
        constructor
        · intro e1
          have := (o1.lt b0 e1.symm).2
          omega
        · intro e1
          have := (o2.lt b0 e1.symm).2
          omega))
      have HBD := Lib.hid (DB.new w3 kx mx zx px Bx nx cx)
      have HX4 := Lib.hid (Ext.trans HX.out (Ext.trans hx2 (Ext.trans hx3 hxn)))
      clear hx2 hx3 hxn HD HTW3 HX HV HBX q0 q1 q2 q3 q4 q5 q6 q7
      generalize w3.alloc (.cells (dnC kx mx zx px Bx nx cx).toArray 34) = w4 at *
      generalize w3.heap.size = gN at *
      have HGR2 := Lib.hid (show ∀ x ∈ ts.take (iq + 1), x.great27 = false by
        intro x hx
        rw [List.take_succ_eq_append_getElem hlt, HTE.out] at hx
        rcases List.mem_append.1 hx with hx | hx
        · exact HGR.out x hx
        · simp at hx; subst hx; exact HG.out)
      have HKT := Lib.hid (kept_take hlt)
      cases hr : (t.right 1 0).1
      · have HRT := Lib.hid hr
        have HKE := Lib.hid (show kept (ts.take (iq + 1)) = kept (ts.take iq) by rw [HKT.out, HTE.out, HRT.out]; simp)
        clear hr
        go_wp2_with (first
          | (refine load_dn rfl (.tmp 9) rfl (g := gN) rfl HBD.out ?_)
          | (go_at_call 12; refine (refRightD t (by have := HSZ.out; omega) _ _ (dnC kx mx zx px Bx nx cx) HVS.out).mono ?_; rintro e w6 ⟨rfl, hx6⟩; rw [HRT.out]))
        go_roundg (ts.length - (iq + 1))
        case measure => omega
        case rel => exact ⟨iq + 1, by omega, rfl, by go_num, HGR2.out, by unfold keptT keptI; rw [HKE.out]; exact HTW4.out.ext hx6, Ext.trans HX4.out hx6⟩
      · have HRT := Lib.hid hr
        have HKE := Lib.hid (show kept (ts.take (iq + 1)) = kept (ts.take iq) ++ [(t, iq)] by rw [HKT.out, HTE.out, HRT.out]; simp)
        clear hr
        go_upto_region 13 with (first
          | (refine load_dn rfl (.tmp 9) rfl (g := gN) rfl HBD.out ?_)
          | (go_at_call 12; refine (refRightD t (by have := HSZ.out; omega) _ _ (dnC kx mx zx px Bx nx cx) HVS.out).mono ?_; rintro e w6 ⟨rfl, hx6⟩; rw [HRT.out]))
        obtain ⟨⟨cs1, o1, hkd⟩, o2⟩ := HTW4.out.ext hx6
        have HO1 := Lib.hid o1
        have HO2 := Lib.hid o2
        have HKD := Lib.hid hkd
        have HVS6 := Lib.hid (HVS.out.keep hx6)
        have HBD6 := Lib.hid (HBD.out.keep hx6)
        have HX6 := Lib.hid (Ext.trans HX4.out hx6)
        have HL1 := Lib.hid (show (keptT (ts.take iq)).length ≤ 4 by have := keptT_len (ts.take iq); rw [List.length_take] at this; have := HT4.out; omega)
        have HL2 := Lib.hid (show (keptI (ts.take iq)).length ≤ 4 by have := keptI_len (ts.take iq); rw [List.length_take] at this; have := HT4.out; omega)
        clear o1 o2 hkd hx6
        have HBB := Lib.hid HX6.out.size
        generalize w6 = wz at *
        have HO3 := Lib.hid (own_alloc HO2.out (.cells (dnC kx mx zx px Bx nx cx).toArray 34))
        have HAP := Lib.hid (own_apart HO3.out (own_alloc HO1.out (.cells (dnC kx mx zx px Bx nx cx).toArray 34)) (by decide))
        go_wp2_with (first
          | (refine load_dn rfl (.tmp 9) rfl (g := gN) rfl HBD6.out ?_)
          | (refine mk_dn rfl (.tmp 44) rfl (dn_len _ _ _ _ _ _ _) rfl ?_)
          | (have := hgL; at_builtin; go_loud (refine wpList_app2 (v := u6) (n := (keptI (ts.take iq)).length) Tryd.elemI rfl (.tmp 47) (.tmp 49) rfl rfl (own_ext hoP (Ext.new1 _ _)) (by have := HBB.out; have := hgL.size; simp at this ⊢; omega) rfl (rd_one wL (.int .i64 ((iq : Nat) : Int)) 3) (one_one rfl) (by have := HL2.out; omega) (by have := HL2.out; unfold maxLen; omega) ?_); intro pv9 wP hownP hgP hkP hatP)
          | (at_builtin; refine wpList_app2 (v := u5) (n := (keptT (ts.take iq)).length) elemDn rfl (.tmp 43) (.tmp 45) rfl rfl (own_alloc HO1.out _) (by have := HBB.out; simp; omega) rfl (blk_rd1 (Blk.newL wz _ _) (dn_len _ _ _ _ _ _ _)) (dnode_one HVS6.out) (by have := HL1.out; omega) (by have := HL1.out; unfold maxLen; omega) ?_; intro lv9 wL hownL hgL hkL hatL; have hoP := (hkL u6 _ _ _ _ HO3.out HAP.out).1))
        have hxz := Ext.new1 wz (.cells (dnC kx mx zx px Bx nx cx).toArray 34)
        have hxl := Ext.new1 wL (.cells #[.int .i64 (iq : Nat)] 3)
        have HDK := sap_step HKD.out HVS6.out hxz hgL hatL hxl hgP hatP
        have hownL2 := (hkP lv9 _ _ _ _ (own_ext hownL hxl) (own_apart (own_ext hownL hxl) (own_ext hoP hxl) (by decide))).1
        have hbz : Below w1.heap.size w1 wP := by
          have b1 : Below w1.heap.size w1 (wz.alloc (.cells (dnC kx mx zx px Bx nx cx).toArray 34)) := HX6.out.alloc HBB.out _
          have b2 := hgL.below b1 (Nat.le_refl _) (by have := HBB.out; simp; omega)
          have b3 : Below w1.heap.size w1 (wL.alloc (.cells #[.int .i64 (iq : Nat)] 3)) := b2.alloc (by have := hgL.size; have := HBB.out; simp at *; omega) _
          exact hgP.below b3 (Nat.le_refl _) (by have := hgL.size; have := HBB.out; simp at *; omega)
        go_roundg (ts.length - (iq + 1))
        case measure => omega
        case rel =>
          have e1 : keptT (ts.take (iq + 1)) = keptT (ts.take iq) ++ [t] := by unfold keptT; rw [HKE.out, List.map_append]; rfl
          have e2 : keptI (ts.take (iq + 1)) = keptI (ts.take iq) ++ [(iq : Int)] := by unfold keptI natsI; rw [HKE.out, List.map_append, List.map_append]; rfl
          refine ⟨iq + 1, by omega, rfl, by go_num, HGR2.out, ⟨⟨_, ?_, by rw [e1]; exact HDK⟩, ?_⟩, hbz⟩
          · rw [e1, List.length_append]; exact hownL2
          · rw [e2, List.length_append]; unfold intsV at *; simpa using hownP
    · obtain rfl : iq = ts.length := by omega
      have hlt' : ¬ (ts.length : Int) < (ts.length : Int) := by omega
      have hgr := HGR.out
      have htw := HTW2.out
      rw [List.take_length] at hgr htw
      obtain ⟨⟨cs1, o1, hkd⟩, o2⟩ := htw
      obtain ⟨A1, c1, rfl, -, hm1, hr1⟩ := own_rd o1
      obtain ⟨A2, c2, rfl, -, -, hr2⟩ := own_rd o2
      have HRD := Lib.hid hr1
      have HRI := Lib.hid hr2
      have HKD := Lib.hid (dkidsV_map (S' := fun _ => True) (fun t v h => DNodeV.mono h (fun _ _ _ => trivial)) hkd)
      have HR2 := Lib.hid (HR1.out.keep hx)
      have HK2 := Lib.hid (kidsV_map (fun t v h => NodeV.keep h hx) HK1.out)
      have HX := Lib.hid (Ext.trans HX1.out hx)
      have HSZ := Lib.hid (show ∀ t ∈ ts, t.size ≤ 1000000 from fun t ht => by have := great27_size (hgr t ht); omega)
      have HLT := Lib.hid (show (keptT ts).length ≤ maxLen by have := keptT_len ts; have := HT4.out; unfold maxLen; omega)
      clear hgr o1 o2 hkd hr1 hr2 hx hm1 HGR HTW2 HR1 HK1
      generalize wr = wv at *
      go_upto_region 17 with (first
        | (have := hx5; go_at_call 34; refine (refFirst (keptT ts) (keptT_good ts) l (by have := HN.out; omega) A1 c1 cs1 _ _ HLT.out (HRD.out.keep hx5) (dkidsV_map (fun t v h => DNodeV.keep h hx5) HKD.out)).mono ?_; rintro e w6 ⟨k6, f6, b6, is6, rfl, hf6, hx6⟩; have HF6 := Lib.hid hf6; clear hf6)
        | (go_at_call 33; refine (mnFirst ts HSZ.out l (by have := HN.out; omega) A c cs S _ HLM.out HR2.out HK2.out).mono ?_; rintro e w5 ⟨k5, f5, b5, is5, rfl, hf5, hx5⟩; have HF5 := Lib.hid hf5; clear hf5))
      have hlaw := first_law HF5.out HF6.out
      have HXX := Lib.hid (Ext.trans HX.out (Ext.trans hx5 hx6))
      have HRI6 := Lib.hid (HRI.out.keep (Ext.trans hx5 hx6))
      clear HF5 HF6 hx5 hx6 HRI
      cases is6
      · obtain ⟨rfl, rfl, rfl, rfl⟩ := hlaw.1 rfl
        clear hlaw
        go_wp2
        go_ret
        exact ⟨rfl, HXX.out⟩
      · obtain ⟨rfl, hk, rfl, rfl⟩ := hlaw.2 rfl
        have hk6 : (keptI ts)[k6]? = some (k5 : Int) := by unfold keptI natsI; rw [List.getElem?_map, hk]; rfl
        have hlt6 : k6 < (keptI ts).length := (List.getElem?_eq_some_iff.1 hk6).1
        obtain ⟨b9, o9, rfl, -, hc9⟩ := HRI6.out.2 (by rw [HRI6.out.1]; omega)
        have c6 : w6.cell? ⟨b9, o9 + k6, none⟩ = some (.int .i64 (k5 : Nat)) := hc9 k6 _ (by unfold intsV; rw [List.getElem?_map, hk6]; rfl)
        have hlt6' : (k6 : Int) < ((keptI ts).length : Int) := by omega
        clear hlaw hk hk6 hc9
        generalize (keptI ts).length = nk at *
        go_wp2
        go_ret
        exact ⟨by simp, HXX.out⟩
end Go.Proofs.YtnkhiohopcadmaaDoor
