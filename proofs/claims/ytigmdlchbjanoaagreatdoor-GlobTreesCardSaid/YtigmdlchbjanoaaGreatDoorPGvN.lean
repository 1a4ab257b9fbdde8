/- Put together: Gl7, Gl8. -/
import Derived.Test.YtigmdlchbjanoaaGreatDoorPGvM
namespace Go.Proofs.YtigmdlchbjanoaaGreatDoor
open Go Go.RowKit
attribute [local irreducible] wd
def noNull (r:PR):PR:=match r with
 | .out=>.out
 | .err k=>.err k
 | .ok t i gr=>if t.nullable then .err 15 else .ok t i gr
theorem noNull_ok {t:T} {i gr:Nat} (h:t.nullable=false):noNull (.ok t i gr)=.ok t i gr:=by unfold noNull;simp [h]
theorem noNull_no {t:T} {i gr:Nat} (h:t.nullable=true):noNull (.ok t i gr)=.err 15:=by unfold noNull;simp [h]
theorem of_1 (l:List UInt8):ofG 1 l=noNull (plainG l):=rfl
theorem of_2 (l:List UInt8):ofG 2 l=noNull (parseG l):=rfl
theorem of_3 (l:List UInt8):ofG 3 l=noNull (parseR l):=rfl
set_option maxHeartbeats 8000000 in
set_option maxRecDepth 20000 in
theorem glOf (E:Nat→Addr) (kind:Int) (l:List UInt8) (hl:l.length≤10000) (w:World) (hE:Env E w) (hK:ErrC [8] w E) :
  Calls Tryz.prog 7 #[.int .i64 kind,.string ⟨l.toArray⟩] w fun e w'=>RRes E w (ofG kind l) e w':=by
 obtain ⟨gz,hgz⟩:∃ gz,w.heap.size=gz:=⟨_,rfl⟩
 have HGZ:=Lib.hid (Nat.le_of_eq hgz)
 have hne6:=Lib.hid (show gz ≠ gz+1 by omega)
 have hN0:=Lib.hid ((Blk.newA (w:=w) hgz 28 zN).keep (Ext.new1 (w.alloc (.cells zN.toArray 28)) (.cells zN.toArray 28)))
 have hM0:=Lib.hid (Blk.newA (w:=w.alloc (.cells zN.toArray 28)) (g:=gz+1) (by simp [hgz]) 28 zN)
 have hx0:=Lib.hid (Ext.trans (Ext.new1 w (.cells zN.toArray 28)) (Ext.new1 _ (.cells zN.toArray 28)))
 have HE0:=Lib.hid (hE.keep hx0.out)
 have HK0:=Lib.hid (hK.keep hx0.out)
 have HEW:=Lib.hid hE
 clear hE hK
 unfold zN at hN0 hM0 hx0 HE0 HK0
 by_cases k1:kind=1
 focus
  subst k1
  have HO:=Lib.hid (of_1 l)
  have HC:=Lib.hid (glPlain E l hl)
  generalize plainG l=r at *
  go_enter Tryz.func7,Tryz.ntmps7
  go_upto_region 6 with fail
  try rw [hgz]
  generalize (w.alloc (.cells #[.int .i64 0,.int .i64 0,.bool false,.int .u64 0,.int .u64 0,.int .u64 0,.int .u64 0,.slice none 0 0] 28)).alloc (.cells #[.int .i64 0,.int .i64 0,.bool false,.int .u64 0,.int .u64 0,.int .u64 0,.int .u64 0,.slice none 0 0] 28)=wa at *
  have HZA:=Lib.hid (show gz+1<wa.heap.size from hM0.out.lt)
  cases r with
  | out =>
   go_wp2_with fail
   go_at_call 5
   refine (HC.out _ HE0.out).mono ?_
   rintro e wA ⟨hxA,hR⟩
   exact hR.elim
  | err k =>
   go_wp2_with fail
   go_at_call 5
   refine (HC.out _ HE0.out).mono ?_
   rintro e wA ⟨hxA,k',rfl,rfl⟩
   have HMA:=Lib.hid (hM0.out.keep hxA)
   have HNA:=Lib.hid (hN0.out.keep hxA)
   have HXA:=Lib.hid (Ext.trans hx0.out hxA)
   have hn:=fun w=>run_eql_iface_nil (P:=Tryz.prog) (w:=w) 30 (by kernel_rfl) 151 (.pointer (some (E k')))
   clear hxA
   unfold ev errV
   go_wp2_with (first
    | (refine store_nd rfl (.tmp 4) (.tmp 34) rfl (g:=gz) zN rfl rfl (Blk.rowFar HNA.out _ hne6.out) rfl rfl rfl ?_)
    | (refine store_nd rfl (.tmp 6) (.tmp 15) rfl (g:=gz+1) zN rfl rfl HMA.out rfl rfl rfl ?_))
   exact bodyPost_ret (v:=.tuple #[.agg zN.toArray,ev E (k' + 1)]) (results_nd2 rfl rfl (Blk.row (Blk.rowFar HNA.out _ hne6.out) _) rfl rfl) rfl (.err_ HO.out (Ext.rowX (Ext.rowX HXA.out _ _ (by have:=HGZ.out;omega)) _ _ HGZ.out) rfl)
  | ok t i gr =>
   cases hnl:t.nullable
   focus
    have HNL:=Lib.hid hnl
    have HOK:=Lib.hid (HO.out.trans (noNull_ok hnl))
    clear hnl
    go_wp2_with fail
    go_at_call 5
    refine (HC.out _ HE0.out).mono ?_
    rintro e wA ⟨hxA,v,rfl,hv⟩
    obtain ⟨kk,mm,zz,qq,BB,nn,cc,rfl⟩:=nodeV_form hv
    have HMA:=Lib.hid (hM0.out.keep hxA)
    have HB:=Lib.hid (show NodeB (wA.setRow (gz+1) (nodeC kk mm zz qq BB nn cc).toArray) (gz+1) kk mm zz qq BB nn cc from Blk.row HMA.out _)
    have HVB:=Lib.hid ((hv.chg (rowChg wA (gz+1) (nodeC kk mm zz qq BB nn cc).toArray (List.mem_singleton.2 rfl)) (by intro y hy;simp at hy;have:=HZA.out;omega)))
    have HNB:=Lib.hid (Blk.rowFar (hN0.out.keep hxA) (nodeC kk mm zz qq BB nn cc).toArray hne6.out)
    have HXB:=Lib.hid ((Ext.trans hx0.out hxA).rowX (gz+1) (nodeC kk mm zz qq BB nn cc) (by have:=HGZ.out;omega))
    clear hxA hv
    go_upto_region 13 with (refine store_nd rfl (.tmp 6) (.tmp 15) rfl (g:=gz+1) (nodeC kk mm zz qq BB nn cc) rfl rfl HMA.out rfl rfl rfl ?_)
    generalize wA.setRow (gz+1) (nodeC kk mm zz qq BB nn cc).toArray=wB at *
    obtain ⟨b0,b1,b2,b3,b4,b5,b6,b7⟩:=HB.out.cells
    go_wp2_with (first
     | (go_at_call 24;refine (rxNullableN t.size t (Nat.le_refl _) _ _ _ HVB.out).mono ?_;rintro e wC ⟨rfl,hxC⟩;rw [HNL.out];obtain ⟨d0,d1,d2,d3,d4,d5,d6,d7⟩:=(HB.out.keep hxC).cells)
     | (refine store_nd rfl (.tmp 4) (.tmp 41) rfl (g:=gz) (nodeC kk mm zz qq BB nn cc) rfl rfl (HNB.out.keep hxC) rfl rfl rfl ?_))
    exact bodyPost_ret (v:=.tuple #[.agg (nodeC kk mm zz qq BB nn cc).toArray,.nilIface]) (results_nd2 rfl rfl (Blk.row (HNB.out.keep hxC) _) rfl rfl) rfl (.ok_ HOK.out (Ext.rowX (Ext.trans HXB.out hxC) _ _ HGZ.out) rfl (((HVB.out.keep hxC).chg (rowChg _ _ _ (List.mem_singleton.2 rfl)) (by intro y hy;simp at hy;have:=HZA.out;omega)).mono (fun b _ h=>by have h:wa.heap.size≤b:=h;have:=HZA.out;have:=HGZ.out;show w.heap.size≤b;omega)))
   focus
    have HNL:=Lib.hid hnl
    have HOK:=Lib.hid (HO.out.trans (noNull_no hnl))
    clear hnl
    go_wp2_with fail
    go_at_call 5
    refine (HC.out _ HE0.out).mono ?_
    rintro e wA ⟨hxA,v,rfl,hv⟩
    obtain ⟨kk,mm,zz,qq,BB,nn,cc,rfl⟩:=nodeV_form hv
    have HMA:=Lib.hid (hM0.out.keep hxA)
    have HB:=Lib.hid (show NodeB (wA.setRow (gz+1) (nodeC kk mm zz qq BB nn cc).toArray) (gz+1) kk mm zz qq BB nn cc from Blk.row HMA.out _)
    have HVB:=Lib.hid ((hv.chg (rowChg wA (gz+1) (nodeC kk mm zz qq BB nn cc).toArray (List.mem_singleton.2 rfl)) (by intro y hy;simp at hy;have:=HZA.out;omega)))
    have HNB:=Lib.hid (Blk.rowFar (hN0.out.keep hxA) (nodeC kk mm zz qq BB nn cc).toArray hne6.out)
    have HXB:=Lib.hid ((Ext.trans hx0.out hxA).rowX (gz+1) (nodeC kk mm zz qq BB nn cc) (by have:=HGZ.out;omega))
    clear hxA hv
    go_upto_region 13 with (refine store_nd rfl (.tmp 6) (.tmp 15) rfl (g:=gz+1) (nodeC kk mm zz qq BB nn cc) rfl rfl HMA.out rfl rfl rfl ?_)
    generalize wA.setRow (gz+1) (nodeC kk mm zz qq BB nn cc).toArray=wB at *
    obtain ⟨b0,b1,b2,b3,b4,b5,b6,b7⟩:=HB.out.cells
    go_upto_region 14 with (go_at_call 24;refine (rxNullableN t.size t (Nat.le_refl _) _ _ _ HVB.out).mono ?_;rintro e wC ⟨rfl,hxC⟩;rw [HNL.out])
    have hNz:=Lib.hid (HNB.out.keep hxC)
    have HXC:=Lib.hid (Ext.trans HXB.out hxC)
    have HEc:=Lib.hid (HEW.out.keep HXC.out)
    clear hxC b0 b1 b2 b3 b4 b5 b6 b7
    obtain ⟨e1,e2,e3,e4,e5,e6⟩:=HEc.out.facts
    have hne1:¬ gz=1:=by intro e;have:=hNz.out.cell 0;rw [e,e6] at this;simp [errV] at this
    have HGW:=Lib.hid (Nat.le_refl gz)
    have hne2:¬ 1=gz:=fun e=>hne1 e.symm
    refine wp_region_dagS (E:=Chg [gz]) (F:=Ext) (z:=2) (late:=[]) (w0:=wC) (Φ:=fun i v w=>match i with | 0=>(v=.agg zN.toArray) | 1=>(v=errV E 14) | 2=>(Blk w gz 28 zN) | 3=>(v=errV E 14) | _=>True) (show Tryz.prog.follows .mixedOrders=true from Checked.mixed Tryz.checked) 42 rfl (by decide +kernel) (by decide +kernel) ?_ (by decide +kernel) ?_ ((Below.refl _ _).drew) ((Chg.refl _ _).drew) ?_ ?_ ?_ ⟨?_,?_,?_,?_,trivial⟩ ?_
    ·intro i v w w' h hE
     match i,h with
     | 0,h=>exact h
     | 1,h=>exact h
     | 2,h=>exact Blk.keep h hE
     | 3,h=>exact h
     | _+4,_=>trivial
    ·intro i v w w' hiz hla h hE
     match i,hiz,hla,h with
     | 0,_,_,h=>exact h
     | 1,_,_,h=>exact h
     | 2,hiz,_,_=>exact absurd rfl hiz
     | 3,_,_,h=>exact h
     | _+4,_,_,_=>trivial
    ·exact fun w w' h h'=>h.trans (.of_ext h')
    ·exact fun w w' h h'=>h.trans h'
    ·exact fun w w' h h'=>(Chg.of_ext h).trans h'
    ·
     intro ac wx hE hF hsz hdf h
     clear h hsz hdf
     go_wp2
     exact ⟨_,rfl,rfl,Ext.refl _⟩
    ·
     intro ac wx hE hF hsz hdf h
     clear h hsz hdf
     have e9:=hE.cell e6 (by simp;exact hne2)
     go_wp2
     exact ⟨_,rfl,rfl,Ext.refl _⟩
    ·
     intro ac wx hE hF hsz hdf h
     have e4:ac.tmps[4]?=some (.pointer (some ⟨gz,0,none⟩)):=by obtain ⟨v,h1,h2⟩:=h 4 (by decide +kernel);exact h1.trans (h2.symm.trans rfl)
     have e39:ac.tmps[39]?=some (.agg zN.toArray):=by obtain ⟨v,h1,h2⟩:=h 39 (by decide +kernel);rw [h1];exact congrArg some h2
     have hB9:=hNz.out.keep (hF (.inl rfl))
     clear h hsz hdf
     refine store_nd rfl (.tmp 4) (.tmp 39) rfl (g:=gz) zN ?_ ?_ hB9 rfl rfl rfl ?_
     ·simp [Act.eval,e4]
     ·simp [Act.eval,e39]
     ·go_wp2;exact ⟨Blk.row hB9 _,rowChg _ _ _ (by simp)⟩
    ·
     intro ac wx hE hF hsz hdf h
     have e40:ac.tmps[40]?=some (errV E 14):=by obtain ⟨v,h1,h2⟩:=h 40 (by decide +kernel);rw [h1];exact congrArg some h2
     clear h hsz hdf
     go_wp2
     exact ⟨_,rfl,rfl,Ext.refl _⟩
    ·intro ac w9 hE hsz hdf h hrest
     obtain ⟨v0,s0,g0⟩:=h 0 _ rfl
     have e0:=g0 39 rfl
     obtain rfl:v0=.agg zN.toArray:=s0
     obtain ⟨v1,s1,g1⟩:=h 1 _ rfl
     have e1:=g1 40 rfl
     obtain rfl:v1=errV E 14:=s1
     obtain ⟨v2,s2,-⟩:=h 2 _ rfl
     replace s2:Blk w9 gz 28 zN:=s2
     obtain ⟨v3,s3,g3⟩:=h 3 _ rfl
     have e3:=g3 5 rfl
     obtain rfl:v3=errV E 14:=s3
     have ha:=act_of [(39,.agg zN.toArray),(40,errV E 14),(5,errV E 14)] rfl hsz hdf (by intro p hp;simp only [List.mem_cons,List.not_mem_nil,or_false] at hp;rcases hp with rfl | rfl | rfl <;> first | exact e0 | exact e1 | exact e3) hrest
     clear h hrest hsz hdf e0 e1 e3 g0 g1 g3
     subst ha
     simp only [List.foldl_cons,List.foldl_nil,Act.put,List.setIfInBounds_toArray,List.set_cons_succ,List.set_cons_zero]
     go_wp2
     exact bodyPost_ret (v:=.tuple #[.agg zN.toArray,ev E 15]) (results_nd2 rfl rfl s2 rfl rfl) rfl (.err_ HOK.out (((Chg.of_ext (X:=[gz]) HXC.out).trans hE).new HGZ.out) rfl)
 have n1:(kind == 1)=false:=by rw [beq_eq_false_iff_ne];exact k1
 by_cases k2:kind=2
 focus
  subst k2
  have HO:=Lib.hid (of_2 l)
  have HC:=Lib.hid (glParse E l hl)
  generalize parseG l=r at *
  go_enter Tryz.func7,Tryz.ntmps7
  go_upto_region 8 with fail
  try rw [hgz]
  generalize (w.alloc (.cells #[.int .i64 0,.int .i64 0,.bool false,.int .u64 0,.int .u64 0,.int .u64 0,.int .u64 0,.slice none 0 0] 28)).alloc (.cells #[.int .i64 0,.int .i64 0,.bool false,.int .u64 0,.int .u64 0,.int .u64 0,.int .u64 0,.slice none 0 0] 28)=wa at *
  have HZA:=Lib.hid (show gz+1<wa.heap.size from hM0.out.lt)
  cases r with
  | out =>
   go_wp2_with fail
   go_at_call 6
   refine (HC.out _ HE0.out).mono ?_
   rintro e wA ⟨hxA,hR⟩
   exact hR.elim
  | err k =>
   go_wp2_with fail
   go_at_call 6
   refine (HC.out _ HE0.out).mono ?_
   rintro e wA ⟨hxA,k',rfl,rfl⟩
   have HMA:=Lib.hid (hM0.out.keep hxA)
   have HNA:=Lib.hid (hN0.out.keep hxA)
   have HXA:=Lib.hid (Ext.trans hx0.out hxA)
   have hn:=fun w=>run_eql_iface_nil (P:=Tryz.prog) (w:=w) 30 (by kernel_rfl) 151 (.pointer (some (E k')))
   clear hxA
   unfold ev errV
   go_wp2_with (first
    | (refine store_nd rfl (.tmp 4) (.tmp 34) rfl (g:=gz) zN rfl rfl (Blk.rowFar HNA.out _ hne6.out) rfl rfl rfl ?_)
    | (refine store_nd rfl (.tmp 6) (.tmp 22) rfl (g:=gz+1) zN rfl rfl HMA.out rfl rfl rfl ?_))
   exact bodyPost_ret (v:=.tuple #[.agg zN.toArray,ev E (k' + 1)]) (results_nd2 rfl rfl (Blk.row (Blk.rowFar HNA.out _ hne6.out) _) rfl rfl) rfl (.err_ HO.out (Ext.rowX (Ext.rowX HXA.out _ _ (by have:=HGZ.out;omega)) _ _ HGZ.out) rfl)
  | ok t i gr =>
   cases hnl:t.nullable
   focus
    have HNL:=Lib.hid hnl
    have HOK:=Lib.hid (HO.out.trans (noNull_ok hnl))
    clear hnl
    go_wp2_with fail
    go_at_call 6
    refine (HC.out _ HE0.out).mono ?_
    rintro e wA ⟨hxA,v,rfl,hv⟩
    obtain ⟨kk,mm,zz,qq,BB,nn,cc,rfl⟩:=nodeV_form hv
    have HMA:=Lib.hid (hM0.out.keep hxA)
    have HB:=Lib.hid (show NodeB (wA.setRow (gz+1) (nodeC kk mm zz qq BB nn cc).toArray) (gz+1) kk mm zz qq BB nn cc from Blk.row HMA.out _)
    have HVB:=Lib.hid ((hv.chg (rowChg wA (gz+1) (nodeC kk mm zz qq BB nn cc).toArray (List.mem_singleton.2 rfl)) (by intro y hy;simp at hy;have:=HZA.out;omega)))
    have HNB:=Lib.hid (Blk.rowFar (hN0.out.keep hxA) (nodeC kk mm zz qq BB nn cc).toArray hne6.out)
    have HXB:=Lib.hid ((Ext.trans hx0.out hxA).rowX (gz+1) (nodeC kk mm zz qq BB nn cc) (by have:=HGZ.out;omega))
    clear hxA hv
    go_upto_region 13 with (refine store_nd rfl (.tmp 6) (.tmp 22) rfl (g:=gz+1) (nodeC kk mm zz qq BB nn cc) rfl rfl HMA.out rfl rfl rfl ?_)
    generalize wA.setRow (gz+1) (nodeC kk mm zz qq BB nn cc).toArray=wB at *
    obtain ⟨b0,b1,b2,b3,b4,b5,b6,b7⟩:=HB.out.cells
    go_wp2_with (first
     | (go_at_call 24;refine (rxNullableN t.size t (Nat.le_refl _) _ _ _ HVB.out).mono ?_;rintro e wC ⟨rfl,hxC⟩;rw [HNL.out];obtain ⟨d0,d1,d2,d3,d4,d5,d6,d7⟩:=(HB.out.keep hxC).cells)
     | (refine store_nd rfl (.tmp 4) (.tmp 41) rfl (g:=gz) (nodeC kk mm zz qq BB nn cc) rfl rfl (HNB.out.keep hxC) rfl rfl rfl ?_))
    exact bodyPost_ret (v:=.tuple #[.agg (nodeC kk mm zz qq BB nn cc).toArray,.nilIface]) (results_nd2 rfl rfl (Blk.row (HNB.out.keep hxC) _) rfl rfl) rfl (.ok_ HOK.out (Ext.rowX (Ext.trans HXB.out hxC) _ _ HGZ.out) rfl (((HVB.out.keep hxC).chg (rowChg _ _ _ (List.mem_singleton.2 rfl)) (by intro y hy;simp at hy;have:=HZA.out;omega)).mono (fun b _ h=>by have h:wa.heap.size≤b:=h;have:=HZA.out;have:=HGZ.out;show w.heap.size≤b;omega)))
   focus
    have HNL:=Lib.hid hnl
    have HOK:=Lib.hid (HO.out.trans (noNull_no hnl))
    clear hnl
    go_wp2_with fail
    go_at_call 6
    refine (HC.out _ HE0.out).mono ?_
    rintro e wA ⟨hxA,v,rfl,hv⟩
    obtain ⟨kk,mm,zz,qq,BB,nn,cc,rfl⟩:=nodeV_form hv
    have HMA:=Lib.hid (hM0.out.keep hxA)
    have HB:=Lib.hid (show NodeB (wA.setRow (gz+1) (nodeC kk mm zz qq BB nn cc).toArray) (gz+1) kk mm zz qq BB nn cc from Blk.row HMA.out _)
    have HVB:=Lib.hid ((hv.chg (rowChg wA (gz+1) (nodeC kk mm zz qq BB nn cc).toArray (List.mem_singleton.2 rfl)) (by intro y hy;simp at hy;have:=HZA.out;omega)))
    have HNB:=Lib.hid (Blk.rowFar (hN0.out.keep hxA) (nodeC kk mm zz qq BB nn cc).toArray hne6.out)
    have HXB:=Lib.hid ((Ext.trans hx0.out hxA).rowX (gz+1) (nodeC kk mm zz qq BB nn cc) (by have:=HGZ.out;omega))
    clear hxA hv
    go_upto_region 13 with (refine store_nd rfl (.tmp 6) (.tmp 22) rfl (g:=gz+1) (nodeC kk mm zz qq BB nn cc) rfl rfl HMA.out rfl rfl rfl ?_)
    generalize wA.setRow (gz+1) (nodeC kk mm zz qq BB nn cc).toArray=wB at *
    obtain ⟨b0,b1,b2,b3,b4,b5,b6,b7⟩:=HB.out.cells
    go_upto_region 14 with (go_at_call 24;refine (rxNullableN t.size t (Nat.le_refl _) _ _ _ HVB.out).mono ?_;rintro e wC ⟨rfl,hxC⟩;rw [HNL.out])
    have hNz:=Lib.hid (HNB.out.keep hxC)
    have HXC:=Lib.hid (Ext.trans HXB.out hxC)
    have HEc:=Lib.hid (HEW.out.keep HXC.out)
    clear hxC b0 b1 b2 b3 b4 b5 b6 b7
    obtain ⟨e1,e2,e3,e4,e5,e6⟩:=HEc.out.facts
    have hne1:¬ gz=1:=by intro e;have:=hNz.out.cell 0;rw [e,e6] at this;simp [errV] at this
    have HGW:=Lib.hid (Nat.le_refl gz)
    have hne2:¬ 1=gz:=fun e=>hne1 e.symm
    refine wp_region_dagS (E:=Chg [gz]) (F:=Ext) (z:=2) (late:=[]) (w0:=wC) (Φ:=fun i v w=>match i with | 0=>(v=.agg zN.toArray) | 1=>(v=errV E 14) | 2=>(Blk w gz 28 zN) | 3=>(v=errV E 14) | _=>True) (show Tryz.prog.follows .mixedOrders=true from Checked.mixed Tryz.checked) 42 rfl (by decide +kernel) (by decide +kernel) ?_ (by decide +kernel) ?_ ((Below.refl _ _).drew) ((Chg.refl _ _).drew) ?_ ?_ ?_ ⟨?_,?_,?_,?_,trivial⟩ ?_
    ·intro i v w w' h hE
     match i,h with
     | 0,h=>exact h
     | 1,h=>exact h
     | 2,h=>exact Blk.keep h hE
     | 3,h=>exact h
     | _+4,_=>trivial
    ·intro i v w w' hiz hla h hE
     match i,hiz,hla,h with
     | 0,_,_,h=>exact h
     | 1,_,_,h=>exact h
     | 2,hiz,_,_=>exact absurd rfl hiz
     | 3,_,_,h=>exact h
     | _+4,_,_,_=>trivial
    ·exact fun w w' h h'=>h.trans (.of_ext h')
    ·exact fun w w' h h'=>h.trans h'
    ·exact fun w w' h h'=>(Chg.of_ext h).trans h'
    ·
     intro ac wx hE hF hsz hdf h
     clear h hsz hdf
     go_wp2
     exact ⟨_,rfl,rfl,Ext.refl _⟩
    ·
     intro ac wx hE hF hsz hdf h
     clear h hsz hdf
     have e9:=hE.cell e6 (by simp;exact hne2)
     go_wp2
     exact ⟨_,rfl,rfl,Ext.refl _⟩
    ·
     intro ac wx hE hF hsz hdf h
     have e4:ac.tmps[4]?=some (.pointer (some ⟨gz,0,none⟩)):=by obtain ⟨v,h1,h2⟩:=h 4 (by decide +kernel);exact h1.trans (h2.symm.trans rfl)
     have e39:ac.tmps[39]?=some (.agg zN.toArray):=by obtain ⟨v,h1,h2⟩:=h 39 (by decide +kernel);rw [h1];exact congrArg some h2
     have hB9:=hNz.out.keep (hF (.inl rfl))
     clear h hsz hdf
     refine store_nd rfl (.tmp 4) (.tmp 39) rfl (g:=gz) zN ?_ ?_ hB9 rfl rfl rfl ?_
     ·simp [Act.eval,e4]
     ·simp [Act.eval,e39]
     ·go_wp2;exact ⟨Blk.row hB9 _,rowChg _ _ _ (by simp)⟩
    ·
     intro ac wx hE hF hsz hdf h
     have e40:ac.tmps[40]?=some (errV E 14):=by obtain ⟨v,h1,h2⟩:=h 40 (by decide +kernel);rw [h1];exact congrArg some h2
     clear h hsz hdf
     go_wp2
     exact ⟨_,rfl,rfl,Ext.refl _⟩
    ·intro ac w9 hE hsz hdf h hrest
     obtain ⟨v0,s0,g0⟩:=h 0 _ rfl
     have e0:=g0 39 rfl
     obtain rfl:v0=.agg zN.toArray:=s0
     obtain ⟨v1,s1,g1⟩:=h 1 _ rfl
     have e1:=g1 40 rfl
     obtain rfl:v1=errV E 14:=s1
     obtain ⟨v2,s2,-⟩:=h 2 _ rfl
     replace s2:Blk w9 gz 28 zN:=s2
     obtain ⟨v3,s3,g3⟩:=h 3 _ rfl
     have e3:=g3 5 rfl
     obtain rfl:v3=errV E 14:=s3
     have ha:=act_of [(39,.agg zN.toArray),(40,errV E 14),(5,errV E 14)] rfl hsz hdf (by intro p hp;simp only [List.mem_cons,List.not_mem_nil,or_false] at hp;rcases hp with rfl | rfl | rfl <;> first | exact e0 | exact e1 | exact e3) hrest
     clear h hrest hsz hdf e0 e1 e3 g0 g1 g3
     subst ha
     simp only [List.foldl_cons,List.foldl_nil,Act.put,List.setIfInBounds_toArray,List.set_cons_succ,List.set_cons_zero]
     go_wp2
     exact bodyPost_ret (v:=.tuple #[.agg zN.toArray,ev E 15]) (results_nd2 rfl rfl s2 rfl rfl) rfl (.err_ HOK.out (((Chg.of_ext (X:=[gz]) HXC.out).trans hE).new HGZ.out) rfl)
 have n2:(kind == 2)=false:=by rw [beq_eq_false_iff_ne];exact k2
 by_cases k3:kind=3
 focus
  subst k3
  have HO:=Lib.hid (of_3 l)
  have HC:=Lib.hid (rxParse E l)
  generalize parseR l=r at *
  go_enter Tryz.func7,Tryz.ntmps7
  go_upto_region 10 with fail
  try rw [hgz]
  generalize (w.alloc (.cells #[.int .i64 0,.int .i64 0,.bool false,.int .u64 0,.int .u64 0,.int .u64 0,.int .u64 0,.slice none 0 0] 28)).alloc (.cells #[.int .i64 0,.int .i64 0,.bool false,.int .u64 0,.int .u64 0,.int .u64 0,.int .u64 0,.slice none 0 0] 28)=wa at *
  have HZA:=Lib.hid (show gz+1<wa.heap.size from hM0.out.lt)
  cases r with
  | out =>
   go_wp2_with fail
   go_at_call 23
   refine (HC.out _ HE0.out).mono ?_
   rintro e wA ⟨hxA,hR⟩
   exact hR.elim
  | err k =>
   go_wp2_with fail
   go_at_call 23
   refine (HC.out _ HE0.out).mono ?_
   rintro e wA ⟨hxA,k',rfl,rfl⟩
   have HMA:=Lib.hid (hM0.out.keep hxA)
   have HNA:=Lib.hid (hN0.out.keep hxA)
   have HXA:=Lib.hid (Ext.trans hx0.out hxA)
   have hn:=fun w=>run_eql_iface_nil (P:=Tryz.prog) (w:=w) 30 (by kernel_rfl) 151 (.pointer (some (E k')))
   clear hxA
   unfold ev errV
   go_wp2_with (first
    | (refine store_nd rfl (.tmp 4) (.tmp 34) rfl (g:=gz) zN rfl rfl (Blk.rowFar HNA.out _ hne6.out) rfl rfl rfl ?_)
    | (refine store_nd rfl (.tmp 6) (.tmp 29) rfl (g:=gz+1) zN rfl rfl HMA.out rfl rfl rfl ?_))
   exact bodyPost_ret (v:=.tuple #[.agg zN.toArray,ev E (k' + 1)]) (results_nd2 rfl rfl (Blk.row (Blk.rowFar HNA.out _ hne6.out) _) rfl rfl) rfl (.err_ HO.out (Ext.rowX (Ext.rowX HXA.out _ _ (by have:=HGZ.out;omega)) _ _ HGZ.out) rfl)
  | ok t i gr =>
   cases hnl:t.nullable
   focus
    have HNL:=Lib.hid hnl
    have HOK:=Lib.hid (HO.out.trans (noNull_ok hnl))
    clear hnl
    go_wp2_with fail
    go_at_call 23
    refine (HC.out _ HE0.out).mono ?_
    rintro e wA ⟨hxA,v,rfl,hv⟩
    obtain ⟨kk,mm,zz,qq,BB,nn,cc,rfl⟩:=nodeV_form hv
    have HMA:=Lib.hid (hM0.out.keep hxA)
    have HB:=Lib.hid (show NodeB (wA.setRow (gz+1) (nodeC kk mm zz qq BB nn cc).toArray) (gz+1) kk mm zz qq BB nn cc from Blk.row HMA.out _)
    have HVB:=Lib.hid ((hv.chg (rowChg wA (gz+1) (nodeC kk mm zz qq BB nn cc).toArray (List.mem_singleton.2 rfl)) (by intro y hy;simp at hy;have:=HZA.out;omega)))
    have HNB:=Lib.hid (Blk.rowFar (hN0.out.keep hxA) (nodeC kk mm zz qq BB nn cc).toArray hne6.out)
    have HXB:=Lib.hid ((Ext.trans hx0.out hxA).rowX (gz+1) (nodeC kk mm zz qq BB nn cc) (by have:=HGZ.out;omega))
    clear hxA hv
    go_upto_region 13 with (refine store_nd rfl (.tmp 6) (.tmp 29) rfl (g:=gz+1) (nodeC kk mm zz qq BB nn cc) rfl rfl HMA.out rfl rfl rfl ?_)
    generalize wA.setRow (gz+1) (nodeC kk mm zz qq BB nn cc).toArray=wB at *
    obtain ⟨b0,b1,b2,b3,b4,b5,b6,b7⟩:=HB.out.cells
    go_wp2_with (first
     | (go_at_call 24;refine (rxNullableN t.size t (Nat.le_refl _) _ _ _ HVB.out).mono ?_;rintro e wC ⟨rfl,hxC⟩;rw [HNL.out];obtain ⟨d0,d1,d2,d3,d4,d5,d6,d7⟩:=(HB.out.keep hxC).cells)
     | (refine store_nd rfl (.tmp 4) (.tmp 41) rfl (g:=gz) (nodeC kk mm zz qq BB nn cc) rfl rfl (HNB.out.keep hxC) rfl rfl rfl ?_))
    exact bodyPost_ret (v:=.tuple #[.agg (nodeC kk mm zz qq BB nn cc).toArray,.nilIface]) (results_nd2 rfl rfl (Blk.row (HNB.out.keep hxC) _) rfl rfl) rfl (.ok_ HOK.out (Ext.rowX (Ext.trans HXB.out hxC) _ _ HGZ.out) rfl (((HVB.out.keep hxC).chg (rowChg _ _ _ (List.mem_singleton.2 rfl)) (by intro y hy;simp at hy;have:=HZA.out;omega)).mono (fun b _ h=>by have h:wa.heap.size≤b:=h;have:=HZA.out;have:=HGZ.out;show w.heap.size≤b;omega)))
   focus
    have HNL:=Lib.hid hnl
    have HOK:=Lib.hid (HO.out.trans (noNull_no hnl))
    clear hnl
    go_wp2_with fail
    go_at_call 23
    refine (HC.out _ HE0.out).mono ?_
    rintro e wA ⟨hxA,v,rfl,hv⟩
    obtain ⟨kk,mm,zz,qq,BB,nn,cc,rfl⟩:=nodeV_form hv
    have HMA:=Lib.hid (hM0.out.keep hxA)
    have HB:=Lib.hid (show NodeB (wA.setRow (gz+1) (nodeC kk mm zz qq BB nn cc).toArray) (gz+1) kk mm zz qq BB nn cc from Blk.row HMA.out _)
    have HVB:=Lib.hid ((hv.chg (rowChg wA (gz+1) (nodeC kk mm zz qq BB nn cc).toArray (List.mem_singleton.2 rfl)) (by intro y hy;simp at hy;have:=HZA.out;omega)))
    have HNB:=Lib.hid (Blk.rowFar (hN0.out.keep hxA) (nodeC kk mm zz qq BB nn cc).toArray hne6.out)
    have HXB:=Lib.hid ((Ext.trans hx0.out hxA).rowX (gz+1) (nodeC kk mm zz qq BB nn cc) (by have:=HGZ.out;omega))
    clear hxA hv
    go_upto_region 13 with (refine store_nd rfl (.tmp 6) (.tmp 29) rfl (g:=gz+1) (nodeC kk mm zz qq BB nn cc) rfl rfl HMA.out rfl rfl rfl ?_)
    generalize wA.setRow (gz+1) (nodeC kk mm zz qq BB nn cc).toArray=wB at *
    obtain ⟨b0,b1,b2,b3,b4,b5,b6,b7⟩:=HB.out.cells
    go_upto_region 14 with (go_at_call 24;refine (rxNullableN t.size t (Nat.le_refl _) _ _ _ HVB.out).mono ?_;rintro e wC ⟨rfl,hxC⟩;rw [HNL.out])
    have hNz:=Lib.hid (HNB.out.keep hxC)
    have HXC:=Lib.hid (Ext.trans HXB.out hxC)
    have HEc:=Lib.hid (HEW.out.keep HXC.out)
    clear hxC b0 b1 b2 b3 b4 b5 b6 b7
    obtain ⟨e1,e2,e3,e4,e5,e6⟩:=HEc.out.facts
    have hne1:¬ gz=1:=by intro e;have:=hNz.out.cell 0;rw [e,e6] at this;simp [errV] at this
    have HGW:=Lib.hid (Nat.le_refl gz)
    have hne2:¬ 1=gz:=fun e=>hne1 e.symm
    refine wp_region_dagS (E:=Chg [gz]) (F:=Ext) (z:=2) (late:=[]) (w0:=wC) (Φ:=fun i v w=>match i with | 0=>(v=.agg zN.toArray) | 1=>(v=errV E 14) | 2=>(Blk w gz 28 zN) | 3=>(v=errV E 14) | _=>True) (show Tryz.prog.follows .mixedOrders=true from Checked.mixed Tryz.checked) 42 rfl (by decide +kernel) (by decide +kernel) ?_ (by decide +kernel) ?_ ((Below.refl _ _).drew) ((Chg.refl _ _).drew) ?_ ?_ ?_ ⟨?_,?_,?_,?_,trivial⟩ ?_
    ·intro i v w w' h hE
     match i,h with
     | 0,h=>exact h
     | 1,h=>exact h
     | 2,h=>exact Blk.keep h hE
     | 3,h=>exact h
     | _+4,_=>trivial
    ·intro i v w w' hiz hla h hE
     match i,hiz,hla,h with
     | 0,_,_,h=>exact h
     | 1,_,_,h=>exact h
     | 2,hiz,_,_=>exact absurd rfl hiz
     | 3,_,_,h=>exact h
     | _+4,_,_,_=>trivial
    ·exact fun w w' h h'=>h.trans (.of_ext h')
    ·exact fun w w' h h'=>h.trans h'
    ·exact fun w w' h h'=>(Chg.of_ext h).trans h'
    ·
     intro ac wx hE hF hsz hdf h
     clear h hsz hdf
     go_wp2
     exact ⟨_,rfl,rfl,Ext.refl _⟩
    ·
     intro ac wx hE hF hsz hdf h
     clear h hsz hdf
     have e9:=hE.cell e6 (by simp;exact hne2)
     go_wp2
     exact ⟨_,rfl,rfl,Ext.refl _⟩
    ·
     intro ac wx hE hF hsz hdf h
     have e4:ac.tmps[4]?=some (.pointer (some ⟨gz,0,none⟩)):=by obtain ⟨v,h1,h2⟩:=h 4 (by decide +kernel);exact h1.trans (h2.symm.trans rfl)
     have e39:ac.tmps[39]?=some (.agg zN.toArray):=by obtain ⟨v,h1,h2⟩:=h 39 (by decide +kernel);rw [h1];exact congrArg some h2
     have hB9:=hNz.out.keep (hF (.inl rfl))
     clear h hsz hdf
     refine store_nd rfl (.tmp 4) (.tmp 39) rfl (g:=gz) zN ?_ ?_ hB9 rfl rfl rfl ?_
     ·simp [Act.eval,e4]
     ·simp [Act.eval,e39]
     ·go_wp2;exact ⟨Blk.row hB9 _,rowChg _ _ _ (by simp)⟩
    ·
     intro ac wx hE hF hsz hdf h
     have e40:ac.tmps[40]?=some (errV E 14):=by obtain ⟨v,h1,h2⟩:=h 40 (by decide +kernel);rw [h1];exact congrArg some h2
     clear h hsz hdf
     go_wp2
     exact ⟨_,rfl,rfl,Ext.refl _⟩
    ·intro ac w9 hE hsz hdf h hrest
     obtain ⟨v0,s0,g0⟩:=h 0 _ rfl
     have e0:=g0 39 rfl
     obtain rfl:v0=.agg zN.toArray:=s0
     obtain ⟨v1,s1,g1⟩:=h 1 _ rfl
     have e1:=g1 40 rfl
     obtain rfl:v1=errV E 14:=s1
     obtain ⟨v2,s2,-⟩:=h 2 _ rfl
     replace s2:Blk w9 gz 28 zN:=s2
     obtain ⟨v3,s3,g3⟩:=h 3 _ rfl
     have e3:=g3 5 rfl
     obtain rfl:v3=errV E 14:=s3
     have ha:=act_of [(39,.agg zN.toArray),(40,errV E 14),(5,errV E 14)] rfl hsz hdf (by intro p hp;simp only [List.mem_cons,List.not_mem_nil,or_false] at hp;rcases hp with rfl | rfl | rfl <;> first | exact e0 | exact e1 | exact e3) hrest
     clear h hrest hsz hdf e0 e1 e3 g0 g1 g3
     subst ha
     simp only [List.foldl_cons,List.foldl_nil,Act.put,List.setIfInBounds_toArray,List.set_cons_succ,List.set_cons_zero]
     go_wp2
     exact bodyPost_ret (v:=.tuple #[.agg zN.toArray,ev E 15]) (results_nd2 rfl rfl s2 rfl rfl) rfl (.err_ HOK.out (((Chg.of_ext (X:=[gz]) HXC.out).trans hE).new HGZ.out) rfl)
 have n3:(kind == 3)=false:=by rw [beq_eq_false_iff_ne];exact k3
 focus
  have HO:=Lib.hid (show ofG kind l=.err 9 by unfold ofG;rw [if_neg k1,if_neg k2,if_neg k3])
  clear k1 k2 k3
  go_enter Tryz.func7,Tryz.ntmps7
  go_upto_region 4 with fail
  try rw [hgz]
  generalize (w.alloc (.cells #[.int .i64 0,.int .i64 0,.bool false,.int .u64 0,.int .u64 0,.int .u64 0,.int .u64 0,.slice none 0 0] 28)).alloc (.cells #[.int .i64 0,.int .i64 0,.bool false,.int .u64 0,.int .u64 0,.int .u64 0,.int .u64 0,.slice none 0 0] 28)=wa at *
  have HZA:=Lib.hid (show gz+1<wa.heap.size from hM0.out.lt)
  have hk9:=HK0.out.cell (i:=8) (g:=0) (by simp) rfl
  have hn:=fun w=>run_eql_iface_nil (P:=Tryz.prog) (w:=w) 30 (by kernel_rfl) 151 (.pointer (some (E 8)))
  unfold errV at hk9
  go_wp2_with (refine store_nd rfl (.tmp 4) (.tmp 34) rfl (g:=gz) zN rfl rfl hN0.out rfl rfl rfl ?_)
  exact bodyPost_ret (v:=.tuple #[.agg zN.toArray,ev E 9]) (results_nd2 rfl rfl (Blk.row hN0.out _) rfl rfl) rfl (.err_ HO.out (Ext.rowX hx0.out _ _ HGZ.out) rfl)
end Go.Proofs.YtigmdlchbjanoaaGreatDoor
namespace Go.Proofs.YtigmdlchbjanoaaGreatDoor
open Go Go.RowKit
attribute [local irreducible] wd
theorem rowT_size (ts:List T):(rowT ts).size≤1+sizeL ts:=by
 match ts with
 | []=>show T.size (.node 3 0 false noP [])≤_;simp [T.size]
 | [t]=>show t.size≤_;simp [sizeL]
 | a :: b :: r=>show T.size (.node 3 0 false noP (a :: b :: r))≤_;simp [T.size]
theorem item_size (l:List UInt8):(itemG l).1.size≤2:=by
 cases l with
 | nil=>simp [itemG,allT,T.size,sizeL]
 | cons c r=>rw [itemG_cons];(repeat' split) <;> simp [allT,byteT,T.size,sizeL]
theorem items_size:∀ f l acc t i gr,itemsG f l acc=.ok t i gr→t.size≤1+sizeL acc+2*l.length:=by
 intro f
 induction f with
 | zero=>intro l acc t i gr h;rw [itemsG] at h;cases h
 | succ f ih =>
  intro l acc t i gr h
  rw [itemsG] at h
  by_cases hl:l=[]
  ·rw [if_pos hl] at h
   cases h
   have:=rowT_size acc
   omega
  ·rw [if_neg hl] at h
   by_cases he:(itemG l).2.2=0
   ·rw [if_pos he] at h
    have h1:=ih _ _ _ _ _ h
    have h2:=item_size l
    have h3:=item_pos hl he
    rw [sizeL_append,List.length_drop] at h1
    simp [sizeL] at h1
    omega
   ·rw [if_neg he] at h;cases h
theorem size_short {l:List UInt8} (h:sizeErr l=0):l.length≤120:=by
 unfold sizeErr at h
 by_cases h1:120<l.length
 ·rw [if_pos h1] at h;omega
 ·omega
theorem sizeL_bytes (l:List UInt8):sizeL (l.map byteT)=l.length:=by
 induction l with
 | nil=>simp [sizeL]
 | cons c r ih=>rw [List.map_cons,sizeL,ih];simp [byteT,T.size,sizeL];omega
theorem plain_size {l:List UInt8} {t:T} {i gr:Nat} (h:plainG l=.ok t i gr):t.size≤1000:=by
 unfold plainG at h
 by_cases hs:sizeErr l=0
 ·rw [if_pos hs] at h
  cases h
  have:=rowT_size (l.map byteT)
  have:=size_short hs
  rw [sizeL_bytes] at *
  omega
 ·rw [if_neg hs] at h;cases h
theorem parse_size {l:List UInt8} {t:T} {i gr:Nat} (h:parseG l=.ok t i gr):t.size≤1000:=by
 unfold parseG at h
 by_cases hs:sizeErr l=0
 ·rw [if_pos hs] at h
  have h1:=items_size _ _ _ _ _ _ h
  have:=size_short hs
  simp [sizeL] at h1
  omega
 ·rw [if_neg hs] at h;cases h
theorem of_size {kind:Int} {l:List UInt8} {t:T} {i gr:Nat} (h:ofG kind l=.ok t i gr):t.size≤1000000:=by
 have key:∀ r:PR,(∀ t i gr,r=.ok t i gr→t.size≤1000)→noNull r=.ok t i gr→t.size≤1000000:=by
  intro r hr h
  cases r with
  | out=>cases h
  | err k=>cases h
  | ok t' i' gr' =>
   cases hn:t'.nullable
   ·rw [noNull_ok hn] at h
    have:=hr _ _ _ h
    omega
   ·rw [noNull_no hn] at h;cases h
 by_cases h1:kind=1
 ·subst h1;exact key _ (fun t i gr=>plain_size) h
 by_cases h2:kind=2
 ·subst h2;exact key _ (fun t i gr=>parse_size) h
 by_cases h3:kind=3
 ·subst h3;exact key _ (fun t i gr h=>Nat.le_trans (parseR_size h) (by omega)) h
 ·have:ofG kind l=.err 9:=by unfold ofG;rw [if_neg h1,if_neg h2,if_neg h3]
  rw [this] at h;cases h
theorem cell_keep {w w':World} {a:Addr} {x:Value} (h:w.cell? a=some x) (hx:Ext w w'):w'.cell? a=some x:=(Below.cell hx (p:=a) (block_lt_of_cell h)).trans h
theorem ex24:parseG [97,42]=.ok (.node 3 0 false noP [byteT 97,.node 5 0 false noP [allT]]) 0 0:=rfl
theorem ex24q:quoteG [97,42]=[97,92,120,50,97]:=by decide
set_option maxHeartbeats 4000000 in
set_option maxRecDepth 20000 in
theorem alive24 (E:Nat→Addr) (w:World) (hE:Env E w) (hW:w.cell? ⟨2,2,none⟩=some (.string ⟨#[103,108,111,98]⟩)) :
  Calls Tryz.prog 4 #[] w fun e w'=>e=.returned (.bool true)∧Ext w w':=by
 have HP:=Lib.hid (glParse E [97,42] (by simp) w hE)
 have HQ:=Lib.hid (fun w=>glQuote [97,42] (by simp) w)
 have HW:=Lib.hid hW
 have HX:=Lib.hid ex24
 have HXQ:=Lib.hid ex24q
 clear hW hE
 go_enter Tryz.func4,Tryz.ntmps4
 go_wp2_with fail
 go_at_call 6
 refine HP.out.mono ?_
 rintro e w1 hR
 rw [HX.out] at hR
 obtain ⟨hx1,v,rfl,hv⟩:=hR
 unfold NodeV at hv
 obtain ⟨A,c,cs,rfl,hcp,hcm,hRd,hS,hK⟩:=hv
 obtain ⟨b,o,k',m',z',p',B',n',c',rfl,hkid,hk⟩:=kid_at hRd hK (i:=1) (by simp)
 have hk5:k'=5:=by
  have h0:NodeV _ w1 (.node 5 0 false noP [allT]) (nodeC k' m' z' p' B' n' c'):=hkid
  unfold NodeV at h0
  obtain ⟨_,_,_,e,_⟩:=h0
  simp [nodeC] at e
  exact e.1
 subst hk5
 have hx2:=Ext.new1 w1 (.cells (nodeC 3 0 false noP (some ⟨b,o,none⟩) 2 c).toArray 28)
 have hB:=NodeB.new w1 3 0 false noP (some ⟨b,o,none⟩) 2 c
 obtain ⟨d0,d1,d2,d3,d4,d5,d6,d7⟩:=hk.out _ hx2
 have HX2:=Lib.hid (Ext.trans hx1 hx2)
 have hW2:=cell_keep HW.out HX2.out
 have HB:=Lib.hid hB
 simp only [List.length_cons,List.length_nil,Nat.zero_add] at hcp
 have hc2:(2:Int)≤(c:Int):=by omega
 clear hx1 hx2 hk hkid hK hRd hS hB hcm d1 d2 d3 d4 d5 d6 d7
 simp only [Nat.one_mul] at d0
 unfold nodeC at d0 HX2 hW2 HB ⊢
 go_upto_region 2 with fail
 generalize w1.alloc (.cells #[.int .i64 3,.int .i64 0,.bool false,.int .u64 (wd noP 0:Nat),.int .u64 (wd noP 1:Nat),.int .u64 (wd noP 2:Nat),.int .u64 (wd noP 3:Nat),.slice (some ⟨b,o,none⟩) 2 c] 28)=w2 at *
 generalize w1.heap.size=gn at *
 obtain ⟨y0,y1,y2,y3,y4,y5,y6,y7⟩:=HB.out.cells
 go_wp2_with (first
  | (go_at_call 15;refine (glWord2 _ hW2).mono ?_;rintro e w3 ⟨rfl,rfl⟩)
  | (go_at_call 16;refine (HQ.out _).mono ?_;rintro e w4 ⟨rfl,hx4⟩;rw [HXQ.out]))
 go_ret
 exact ⟨rfl,Ext.trans HX2.out hx4⟩
theorem RRes.any {E:Nat→Addr} {w w':World} {r:PR} {e:Ending} (h:RRes E w r e w'):Ext w w' ∧ ∃ kk mm zz qq BB nn cc v,e=.returned (.tuple #[.agg (nodeC kk mm zz qq BB nn cc).toArray,v]):=by
 refine ⟨h.1,?_⟩
 cases r with
 | out=>exact h.2.elim
 | err k =>
  obtain ⟨_,k',rfl,rfl⟩:=h
  exact ⟨0,0,false,noP,none,0,0,ev E (k' + 1),by rw [node0];rfl⟩
 | ok t i gr =>
  obtain ⟨_,v,rfl,hv⟩:=h
  obtain ⟨kk,mm,zz,qq,BB,nn,cc,rfl⟩:=nodeV_form hv
  exact ⟨kk,mm,zz,qq,BB,nn,cc,_,rfl⟩
mutual
theorem same_self:∀ t:T,t.same t=true
 | .node _ _ _ p ks=>same_node.2 ⟨rfl,rfl,rfl,sameP_refl p,sameL_self ks⟩
theorem sameL_self:∀ ks:List T,sameL ks ks=true
 | []=>by unfold sameL;rfl
 | t :: ts=>by unfold sameL;rw [same_self t,sameL_self ts];rfl
end
end Go.Proofs.YtigmdlchbjanoaaGreatDoor
