/- Put together: Rp5. -/
import Derived.Test.YtigmdlchbjanoaaGreatDoorPGvC
namespace Go.Proofs.YtigmdlchbjanoaaGreatDoor
open Go Go.RowKit
theorem dkids_one {S:Nat→Prop} {w:World}:∀ {ks:List T} {cs:List Value},DKidsV S w ks cs→∀ u ∈ cs,u.oneCell'=true:=by
 intro ks
 induction ks with
 | nil=>intro cs h u hu;unfold DKidsV at h;subst h;cases hu
 | cons t ts ih =>
  intro cs h u hu
  unfold DKidsV at h
  obtain ⟨v,cs',rfl,h1,h2⟩:=h
  rcases List.mem_append.1 hu with h3 | h3
  ·exact dnode_one h1 u h3
  ·exact ih h2 u h3
theorem Blk.other {w:World} {g g':Nat} {e:TypeId} {cs:List Value} (h:Blk w g e cs) (hn:g ≠ g') (c:Array Value):Blk (w.setRow g' c) g e cs:=(setRow_other w g' g c hn).trans h
structure ClosedS (W:World) (g3 n:Nat) (cs l:List Value) (z a1 mk a2 bd st:Option Value) (w:World):Prop where
 two:st=none→TwoApp 38 W n cs l z a1 mk a2 w
 bd:∀ v,bd=some v→∃ A c,a2=some (.slice A (n+1) c)∧v=.agg (dnC 4 0 false (fun _=>false) A (n+1) c).toArray
 fin:∀ u,st=some u→∃ A c,Blk w g3 38 (dnC 4 0 false (fun _=>false) A (n+1) c)∧w.ownsRow W.heap.size 38 260 (.slice A (n+1) c) (n+1) (cs ++ l)∧Chg [g3] W w
set_option maxHeartbeats 8000000 in
set_option maxRecDepth 20000 in
theorem refClosed (S:Nat→Prop) (o:Op) (Aa Ai:Option Addr) (ca ci:Nat) (csa csi:List Value) (w:World) (hsm:o.alts.length≤1000000)
  (hRa:Rd w 260 Aa o.alts.length csa) (hKa:DKidsV S w o.alts csa) (hci:o.items.length≤ci) (hmi:ci≤maxLen) (hRi:Rd w 260 Ai o.items.length csi) (hKi:DKidsV S w o.items csi)
  (hSi:∀ b q x,Ai=some ⟨b,q,x⟩→0<o.items.length→S b) (hSn:∀ b,w.heap.size≤b→S b) :
  Calls Tryz.prog 54 #[.agg #[.int .i64 (o.num:Nat),.slice Aa o.alts.length ca,.slice Ai o.items.length ci]] w fun e w'=>∃ l:List Value,e=.returned (.agg l.toArray)∧DNodeV S w' (closeT o) l∧Ext w w':=by
 obtain ⟨num,alts,items⟩:=o
 dsimp only at hsm hRa hKa hci hmi hRi hKi hSi
 have hxA:=Ext.new1 w (.cells #[.int .i64 (num:Nat),.slice Aa alts.length ca,.slice Ai items.length ci] 98)
 have hxB:=Ext.new1 (w.alloc (.cells #[.int .i64 (num:Nat),.slice Aa alts.length ca,.slice Ai items.length ci] 98)) (.cells Tryz.zeroCells38 38)
 have hx1:=Ext.trans hxA hxB
 have HBX:=Lib.hid ((Blk.newL w 98 [.int .i64 (num:Nat),.slice Aa alts.length ca,.slice Ai items.length ci]).keep hxB)
 have HB2:=Lib.hid (show Blk ((w.alloc (.cells #[.int .i64 (num:Nat),.slice Aa alts.length ca,.slice Ai items.length ci] 98)).alloc (.cells Tryz.zeroCells38 38)) (w.heap.size+1) 38 Tryz.zeroCells38.toList from by
  have:=Blk.new (w.alloc (.cells #[.int .i64 (num:Nat),.slice Aa alts.length ca,.slice Ai items.length ci] 98)) 38 Tryz.zeroCells38
  rw [show (w.alloc (.cells #[.int .i64 (num:Nat),.slice Aa alts.length ca,.slice Ai items.length ci] 98)).heap.size=w.heap.size+1 by simp] at this
  exact this)
 have HX1:=Lib.hid hx1
 have HRi:=Lib.hid (hRi.keep hx1)
 have HKi:=Lib.hid (dkidsV_map (fun t v h=>DNodeV.keep h hx1) hKi)
 have hDN:=altC_dn hci hmi hRi hKi hSi
 obtain ⟨k0,m0,z0,p0,B0,n0,c0,hfo⟩:=dnodeV_form hDN
 have HDN:=Lib.hid hDN
 have HFO:=Lib.hid hfo
 have HRa:=Lib.hid hRa
 have HKa:=Lib.hid hKa
 have HSN:=Lib.hid hSn
 have HSM:=Lib.hid hsm
 have q0:=HBX.out.cell 0
 have q1:=HBX.out.cell 1
 have q2:=HBX.out.cell 2
 simp only [List.getElem?_cons_zero,List.getElem?_cons_succ] at q0 q1 q2
 clear hxA hxB hx1 hRi hKi hDN hfo hRa hKa hSn hSi hsm hci hmi
 obtain ⟨na,hna⟩:∃ na,alts.length=na:=⟨_,rfl⟩
 have HNA:=Lib.hid hna
 rw [hna] at HBX HB2 HX1 HRi HKi q0 q1 q2 ⊢
 clear hna
 go_enter Tryz.func54,Tryz.ntmps54
 go_upto_region 2 with (first
  | (refine store_dn_new rfl (.tmp 3) (.tmp 6) rfl rfl rfl zsize40 ?_)
  | (go_at_call 53;refine (refAlternative S items Ai ci csi _ HRi.out HKi.out).mono ?_;rintro e w2 ⟨rfl,hx2⟩;rw [HFO.out];have HX2:=Lib.hid hx2;clear hx2))
 have hx3:=Ext.trans (Ext.trans HX1.out HX2.out) (Ext.new1 w2 (.cells (dnC k0 m0 z0 p0 B0 n0 c0).toArray 38))
 have hsz:w.heap.size+1<w2.heap.size:=(HB2.out.keep HX2.out).lt
 have HB3:=Lib.hid (Blk.newL w2 38 (dnC k0 m0 z0 p0 B0 n0 c0))
 have hbx:=(HBX.out.keep HX2.out).keep (Ext.new1 w2 (.cells (dnC k0 m0 z0 p0 B0 n0 c0).toArray 38))
 have HB23:=Lib.hid ((HB2.out.keep HX2.out).keep (Ext.new1 w2 (.cells (dnC k0 m0 z0 p0 B0 n0 c0).toArray 38)))
 have HD3:=Lib.hid (show DNodeV (fun b=>S b∧b ≠ w.heap.size+1∧b ≠ w2.heap.size) (w2.alloc (.cells (dnC k0 m0 z0 p0 B0 n0 c0).toArray 38)) (mkCat items) (dnC k0 m0 z0 p0 B0 n0 c0) from by
  have hd:=HDN.out
  rw [HFO.out] at hd
  exact (hd.mono (fun b hb hs=>⟨hs,by omega,by omega⟩)).keep hx3)
 have HK3:=Lib.hid (show DKidsV (fun b=>S b∧b ≠ w.heap.size+1∧b ≠ w2.heap.size) (w2.alloc (.cells (dnC k0 m0 z0 p0 B0 n0 c0).toArray 38)) alts csa from
  dkidsV_map (fun t v h=>(h.mono (fun b hb hs=>⟨hs,by omega,by omega⟩)).keep hx3) HKa.out)
 have HR3:=Lib.hid (show Rd (w2.alloc (.cells (dnC k0 m0 z0 p0 B0 n0 c0).toArray 38)) 260 Aa na csa from by have:=HRa.out.keep hx3;rwa [HNA.out] at this)
 have HX3:=Lib.hid hx3
 have hlt3:w2.heap.size<(w2.alloc (.cells (dnC k0 m0 z0 p0 B0 n0 c0).toArray 38)).heap.size:=by simp
 clear q0 q1 q2
 have q0:=hbx.cell 0
 have q1:=hbx.cell 1
 simp only [List.getElem?_cons_zero,List.getElem?_cons_succ] at q0 q1
 clear HX1 HX2 HBX HB2 HRi HKi HDN HFO HRa HKa hx3 hbx
 generalize w2.alloc (.cells (dnC k0 m0 z0 p0 B0 n0 c0).toArray 38)=w3 at *
 generalize w2.heap.size=g3 at *
 obtain ⟨gA,hgA⟩:∃ gA,w.heap.size=gA:=⟨_,rfl⟩
 have HGA:=Lib.hid hgA
 rw [hgA] at HB23 HD3 HK3 hsz q0 q1 HSN ⊢
 clear hgA
 have HZ8:=Lib.hid (show Tryz.zeroCells38.toList.length=260 by rw [Array.length_toList];exact zsize40)
 by_cases hna:na=0
 ·have ha:alts=[]:=List.eq_nil_of_length_eq_zero (by rw [HNA.out,hna])
  subst hna
  have HT:=Lib.hid (show closeT ⟨num,alts,items⟩=if num=0 then mkCat items else .node 8 (num:Int) false noP [mkCat items] by unfold closeT;rw [if_pos ha])
  clear ha HK3 HR3 HNA
  by_cases hn:num=0
  ·have HT0:=Lib.hid (HT.out.trans (if_pos hn))
   subst hn
   go_wp2_with (first
    | (refine load_dn rfl (.tmp 3) rfl rfl HB3.out ?_)
    | (refine store_dn rfl (.tmp 2) (.tmp 27) rfl (g:=gA+1) rfl rfl HB23.out HZ8.out ?_))
   exact bodyPost_ret (v:=.agg (dnC k0 m0 z0 p0 B0 n0 c0).toArray) (results_dn rfl _ _ (gA+1) rfl (Blk.row HB23.out _)) rfl ⟨_,rfl,by rw [HT0.out];exact (HD3.out.chg (rowChg4 _ _ _) (fun x hx hs=>by simp at hx;exact hs.2.1 hx)).mono (fun _ _ hs=>hs.1),HX3.out.row _ _ (by have:=HGA.out;omega)⟩
  ·have HT0:=Lib.hid (HT.out.trans (if_neg hn))
   have hn':(0:Int)<(num:Int):=by omega
   have hx4:=Ext.new1 w3 (.cells (dnC k0 m0 z0 p0 B0 n0 c0).toArray 38)
   have HX4:=Lib.hid hx4
   have HB4:=Lib.hid (HB3.out.keep hx4)
   have HB24:=Lib.hid (HB23.out.keep hx4)
   have HR4:=Lib.hid (rd_newS w3 260 1 (dnC k0 m0 z0 p0 B0 n0 c0) 38 (by rw [dn_len]))
   clear hx4
   go_wp2_with (first
    | (refine store_dn rfl (.tmp 2) (.tmp 27) rfl (g:=gA+1) rfl rfl (HB24.out.other (by omega) _) HZ8.out ?_)
    | (refine load_dn rfl (.tmp 3) rfl rfl (Blk.row HB4.out _) ?_)
    | (refine store_dn rfl (.tmp 3) (.tmp 26) rfl (g:=g3) rfl rfl HB4.out (dn_len _ _ _ _ _ _ _) ?_)
    | (refine build_kmk rfl (.tmp 23) (.tmp 25) rfl rfl rfl ?_)
    | (refine mk_dn rfl (.tmp 24) rfl (dn_len _ _ _ _ _ _ _) rfl ?_)
    | (refine load_dn rfl (.tmp 3) rfl rfl HB3.out ?_))
   refine bodyPost_ret (v:=.agg (dnC 8 (num:Int) false (fun _=>false) (some ⟨w3.heap.size,0,none⟩) 1 1).toArray) (results_dn rfl _ _ (gA+1) rfl (Blk.row (HB24.out.other (by omega) _) _)) rfl ⟨_,rfl,?_,Ext.row (Ext.row (HX3.out.trans HX4.out) _ _ (by have:=HGA.out;omega)) _ _ (by have:=HGA.out;omega)⟩
   rw [HT0.out]
   have hd:=dnode_one4 (S:=fun b=>S b∧b ≠ gA+1∧b ≠ g3) (t:=mkCat items) 8 (num:Int) false HR4.out (Nat.le_refl 1) (by unfold maxLen;omega) (fun b o x e=>by
    have h9:b=w3.heap.size:=by simpa using (congrArg Addr.block (Option.some.inj e)).symm
    have h8:=HX3.out.size
    exact ⟨HSN.out b (by have:=HGA.out;omega),by omega,by omega⟩) (HD3.out.keep HX4.out)
   exact ((hd.chg (rowChg4 _ g3 _) (fun x hx hs=>by simp at hx;exact hs.2.2 hx)).chg (rowChg4 _ (gA+1) _) (fun x hx hs=>by simp at hx;exact hs.2.1 hx)).mono (fun _ _ hs=>hs.1)
 ·have ha:alts ≠ []:=fun e=>hna (by rw [← HNA.out,e];rfl)
  have hpos:(0:Int)<(na:Int):=by omega
  have HT:=Lib.hid (show closeT ⟨num,alts,items⟩=if num=0 then .node 4 0 false noP (alts ++ [mkCat items]) else .node 8 (num:Int) false noP [.node 4 0 false noP (alts ++ [mkCat items])] by unfold closeT;rw [if_neg ha])
  have HG:=Lib.hid (show gA+1<g3∧g3<w3.heap.size∧na≤1000000 from ⟨hsz,hlt3,by have:=HSM.out;have:=HNA.out;omega⟩)
  clear ha hsz hlt3
  go_upto_region 3 with fail
  refine wp_region_dagE (w:=w3) (fun f w=>ClosedS w3 g3 na csa (dnC k0 m0 z0 p0 B0 n0 c0) (f 0) (f 3) (f 5) (f 6) (f 7) (f 8) w) (fun i v=>match i with | 0=>True | 1=>v=.pointer (some ⟨gA,1,none⟩) | 2=>v=.slice Aa na ca | 3=>True | 4=>v=.agg (dnC k0 m0 z0 p0 B0 n0 c0).toArray | 5=>True | 6=>True | 7=>True | 8=>True | _=>True) (show Tryz.prog.follows .mixedOrders=true from Checked.mixed Tryz.checked) 28 rfl (by decide +kernel) (⟨fun _=>TwoApp.start ((Below.refl _ _).drew),fun v h=>(by cases h),fun u h=>(by cases h)⟩) ⟨?_,?_,?_,?_,?_,?_,?_,?_,?_,trivial⟩ ?_
  ·
   intro f ac wx hS hfi hon hoff hsz hdf h
   have n8:f 8=none:=hoff 8 _ rfl (by decide +kernel)
   clear h hsz hdf hon hoff
   have h2:=hS.two n8
   rw [hfi] at h2
   go_wp2
   exact ⟨_,rfl,trivial,fun _=>h2.doZ,hS.bd,fun u hu=>(by cases (n8.symm.trans hu))⟩
  ·
   intro f ac wx hS hfi hon hoff hsz hdf h
   have e1:ac.tmps[1]?=some (.pointer (some ⟨gA,0,none⟩)):=by obtain ⟨v,h1,h2⟩:=h 1 (by decide +kernel);exact h1.trans (h2.symm.trans rfl)
   clear h hsz hdf hon hoff
   go_wp2
   exact ⟨_,rfl,rfl,hS⟩
  ·
   intro f ac wx hS hfi hon hoff hsz hdf h
   have e12:ac.tmps[12]?=some (.pointer (some ⟨gA,1,none⟩)):=by obtain ⟨v,h1,h2,h3⟩:=h 12 (by decide +kernel);rw [h1];exact congrArg some h3
   have n8:f 8=none:=hoff 8 _ rfl (by decide +kernel)
   clear h hsz hdf hon hoff
   have y1:=((hS.two n8).ext.cell (p:=⟨gA,1,none⟩) (by have:=HG.out;show gA<_;omega)).trans q1
   go_wp2
   exact ⟨_,rfl,rfl,hS⟩
  ·
   intro f ac wx hS hfi hon hoff hsz hdf h
   obtain ⟨v11,e11,f11⟩:∃ v,ac.tmps[11]?=some v∧f 0=some v:=by obtain ⟨v,h1,h2,h3⟩:=h 11 (by decide +kernel);exact ⟨v,h1,h2⟩
   have e13:ac.tmps[13]?=some (.slice Aa na ca):=by obtain ⟨v,h1,h2,h3⟩:=h 13 (by decide +kernel);rw [h1];exact congrArg some h3
   have n8:f 8=none:=hoff 8 _ rfl (by decide +kernel)
   have n6:f 6=none:=hoff 6 _ rfl (by decide +kernel)
   clear h hsz hdf hon hoff
   have h2:=hS.two n8
   rw [hfi,n6,f11] at h2
   obtain ⟨gz,rfl,hgz,hbz⟩:=h2.hz _ rfl rfl
   refine wpList_app2 elemDn rfl (.tmp 11) (.tmp 13) rfl (base:=w3.heap.size) (v:=.slice (some ⟨gz,0,none⟩) 0 0) (n:=0) (xs:=[]) ?_ (by simpa using hbz.own (size:=260) hgz (Nat.le_refl 0) (by unfold maxLen;omega) rfl) h2.ext.size (A:=Aa) (m:=na) (c:=ca) (news:=csa) ?_ (HR3.out.keep h2.ext) (dkids_one HK3.out) (by have:=HG.out.2.2;omega) (by have:=HG.out.2.2;unfold maxLen;omega) ?_
   ·simp [Act.eval,e11]
   ·simp [Act.eval,e13]
   ·intro v' w' hown hg _ _
    rw [Nat.zero_add,List.nil_append] at hown
    go_wp2
    refine ⟨_,rfl,trivial,fun _=>?_,hS.bd,fun u hu=>(by cases (n8.symm.trans hu))⟩
    show TwoApp 38 _ _ _ _ (f 0) (some v') (f 5) (f 6) w'
    rw [f11,n6]
    exact h2.do1 (dn_len _ _ _ _ _ _ _) hown hg
  ·
   intro f ac wx hS hfi hon hoff hsz hdf h
   have e3:ac.tmps[3]?=some (.pointer (some ⟨g3,0,none⟩)):=by obtain ⟨v,h1,h2⟩:=h 3 (by decide +kernel);exact h1.trans (h2.symm.trans rfl)
   have n8:f 8=none:=hoff 8 _ rfl (by decide +kernel)
   clear h hsz hdf hon hoff
   have h2:=hS.two n8
   refine load_dn rfl (.tmp 3) rfl (g:=g3) (by simp [Act.eval,e3]) (HB3.out.keep h2.ext) ?_
   go_wp2
   exact ⟨_,rfl,rfl,hS⟩
  ·
   intro f ac wx hS hfi hon hoff hsz hdf h
   have e15:ac.tmps[15]?=some (.agg (dnC k0 m0 z0 p0 B0 n0 c0).toArray):=by obtain ⟨v,h1,h2,h3⟩:=h 15 (by decide +kernel);rw [h1];exact congrArg some h3
   have n8:f 8=none:=hoff 8 _ rfl (by decide +kernel)
   clear h hsz hdf hon hoff
   have h2:=hS.two n8
   rw [hfi] at h2
   refine mk_dn rfl (.tmp 15) rfl (v:=(dnC k0 m0 z0 p0 B0 n0 c0)) (dn_len _ _ _ _ _ _ _) (by simp [Act.eval,e15]) ?_
   go_wp2
   exact ⟨_,rfl,trivial,fun _=>h2.doM,hS.bd,fun u hu=>(by cases (n8.symm.trans hu))⟩
  ·
   intro f ac wx hS hfi hon hoff hsz hdf h
   obtain ⟨v14,e14,f14⟩:∃ v,ac.tmps[14]?=some v∧f 3=some v:=by obtain ⟨v,h1,h2,h3⟩:=h 14 (by decide +kernel);exact ⟨v,h1,h2⟩
   obtain ⟨v16,e16,f16⟩:∃ v,ac.tmps[16]?=some v∧f 5=some v:=by obtain ⟨v,h1,h2,h3⟩:=h 16 (by decide +kernel);exact ⟨v,h1,h2⟩
   have n8:f 8=none:=hoff 8 _ rfl (by decide +kernel)
   have n7:f 7=none:=hoff 7 _ rfl (by decide +kernel)
   clear h hsz hdf hon hoff
   have h2:=hS.two n8
   rw [hfi,f14,f16] at h2
   obtain ⟨gm,rfl,hgm,hbm⟩:=h2.hm _ rfl rfl
   refine wpList_app2 elemDn rfl (.tmp 14) (.tmp 16) rfl (base:=w3.heap.size) (v:=v14) (n:=na) (xs:=csa) ?_ (h2.h1 _ rfl rfl) h2.ext.size (A:=some ⟨gm,0,none⟩) (m:=1) (c:=1) (news:=(dnC k0 m0 z0 p0 B0 n0 c0)) ?_ (blk_rd1 hbm (dn_len _ _ _ _ _ _ _)) (dnode_one HD3.out) (by have:=HG.out.2.2;omega) (by have:=HG.out.2.2;unfold maxLen;omega) ?_
   ·simp [Act.eval,e14]
   ·simp [Act.eval,e16]
   ·intro v' w' hown hg _ _
    go_wp2
    refine ⟨_,rfl,trivial,fun _=>?_,fun v hv=>(by cases (n7.symm.trans hv)),fun u hu=>(by cases (n8.symm.trans hu))⟩
    show TwoApp 38 _ _ _ _ (f 0) (f 3) (f 5) (some v') w'
    rw [f14,f16]
    exact h2.do2 hown hg
  ·
   intro f ac wx hS hfi hon hoff hsz hdf h
   obtain ⟨v17,e17,f17⟩:∃ v,ac.tmps[17]?=some v∧f 6=some v:=by obtain ⟨v,h1,h2,h3⟩:=h 17 (by decide +kernel);exact ⟨v,h1,h2⟩
   have n8:f 8=none:=hoff 8 _ rfl (by decide +kernel)
   clear h hsz hdf hon hoff
   have h2:=hS.two n8
   obtain ⟨A9,c9,rfl,hc9,hm9,hr9⟩:=own_rd (h2.h2 _ f17)
   refine build_kk rfl (.tmp 17) rfl (A:=A9) (n:=na+1) (c:=c9) (by simp [Act.eval,e17]) ?_
   go_wp2
   exact ⟨_,rfl,trivial,fun _=>h2,fun v hv=>⟨A9,c9,f17,(Option.some.inj hv).symm⟩,fun u hu=>(by cases (n8.symm.trans hu))⟩
  ·
   intro f ac wx hS hfi hon hoff hsz hdf h
   have e3:ac.tmps[3]?=some (.pointer (some ⟨g3,0,none⟩)):=by obtain ⟨v,h1,h2⟩:=h 3 (by decide +kernel);exact h1.trans (h2.symm.trans rfl)
   obtain ⟨v18,e18,f18⟩:∃ v,ac.tmps[18]?=some v∧f 7=some v:=by obtain ⟨v,h1,h2,h3⟩:=h 18 (by decide +kernel);exact ⟨v,h1,h2⟩
   clear h hsz hdf hon hoff
   have h2:=hS.two hfi
   obtain ⟨A9,c9,f6,rfl⟩:=hS.bd _ f18
   have hown:=h2.h2 _ f6
   refine store_dn rfl (.tmp 3) (.tmp 18) rfl (g:=g3) (k:=4) (m:=0) (z:=false) (p:=fun _=>false) (A:=A9) (n:=na+1) (c:=c9) (by simp [Act.eval,e3]) (by simp [Act.eval,e18]) (HB3.out.keep h2.ext) (dn_len _ _ _ _ _ _ _) ?_
   go_wp2
   refine ⟨_,rfl,trivial,fun h=>absurd h (by simp [give]),hS.bd,fun _ _=>⟨A9,c9,Blk.row (HB3.out.keep h2.ext) _,own_chg hown (rowChg4 wx g3 _) (fun k hk hm=>?_),(Chg.of_ext h2.ext).trans (rowChg4 wx g3 _)⟩⟩
   have:=hown.lt k hk
   have:=HG.out.2.1
   simp at hm
   omega
  ·intro f ac w9 hS h hsz hdf hrest
   obtain ⟨v0,q0,s0,g0⟩:=h 0 _ rfl
   have e0:=g0 11 rfl
   clear s0
   obtain ⟨v1,q1,s1,g1⟩:=h 1 _ rfl
   have e1:=g1 12 rfl
   obtain rfl:v1=.pointer (some ⟨gA,1,none⟩):=s1
   obtain ⟨v2,q2,s2,g2⟩:=h 2 _ rfl
   have e2:=g2 13 rfl
   obtain rfl:v2=.slice Aa na ca:=s2
   obtain ⟨v3,q3,s3,g3⟩:=h 3 _ rfl
   have e3:=g3 14 rfl
   clear s3
   obtain ⟨v4,q4,s4,g4⟩:=h 4 _ rfl
   have e4:=g4 15 rfl
   obtain rfl:v4=.agg (dnC k0 m0 z0 p0 B0 n0 c0).toArray:=s4
   obtain ⟨v5,q5,s5,g5⟩:=h 5 _ rfl
   have e5:=g5 16 rfl
   clear s5
   obtain ⟨v6,q6,s6,g6⟩:=h 6 _ rfl
   have e6:=g6 17 rfl
   clear s6
   obtain ⟨v7,q7,s7,g7⟩:=h 7 _ rfl
   have e7:=g7 18 rfl
   clear s7
   obtain ⟨v8,q8,s8,g8⟩:=h 8 _ rfl
   clear s8 g8
   obtain ⟨A9,c9,hb9,ho9,hc9⟩:=hS.fin _ q8
   clear hS
   have ha:=act_of [(11,v0),(12,.pointer (some ⟨gA,1,none⟩)),(13,.slice Aa na ca),(14,v3),(15,.agg (dnC k0 m0 z0 p0 B0 n0 c0).toArray),(16,v5),(17,v6),(18,v7)] rfl hsz hdf (by intro p hp;simp only [List.mem_cons,List.not_mem_nil,or_false] at hp;rcases hp with rfl | rfl | rfl | rfl | rfl | rfl | rfl | rfl <;> first | exact e0 | exact e1 | exact e2 | exact e3 | exact e4 | exact e5 | exact e6 | exact e7) hrest
   clear h hrest hsz hdf e0 e1 e2 e3 e4 e5 e6 e7 g0 g1 g2 g3 g4 g5 g6 g7
   clear q0 q1 q2 q3 q4 q5 q6 q7 q8
   subst ha
   simp only [List.foldl_cons,List.foldl_nil,Act.put,List.setIfInBounds_toArray,List.set_cons_succ,List.set_cons_zero]
   obtain ⟨A8,c8,e8,hc8,hm8,hr8⟩:=own_rd ho9
   simp only [Value.slice.injEq] at e8
   obtain ⟨rfl,-,rfl⟩:=e8
   have HG3:=HG.out
   have HDN:=Lib.hid (show DNodeV (fun b=>S b∧b ≠ gA+1∧b ≠ g3) w9 (.node 4 0 false noP (alts ++ [mkCat items])) (dnC 4 0 false (fun _=>false) A9 (na+1) c9) from by
    have hk:=dkidsV_append HK3.out (dkidsV_one HD3.out)
    have hk9:=dkidsV_map (fun t v h=>DNodeV.chg h hc9 (fun x hx hs=>by simp at hx;exact hs.2.2 hx)) hk
    have hl:(alts ++ [mkCat items]).length=na+1:=by rw [List.length_append,HNA.out];rfl
    unfold DNodeV
    rw [hl]
    refine ⟨A9,c9,csa ++ (dnC k0 m0 z0 p0 B0 n0 c0),rfl,hc8,hm8,hr8,fun b o x e _=>?_,hk9⟩
    subst e
    have h9:w3.heap.size≤b:=(ho9.lt b rfl).1
    have hsz9:w.heap.size≤w3.heap.size:=HX3.out.size
    exact ⟨HSN.out b (by have:=HGA.out;omega),by omega,by omega⟩)
   have q0:w9.cell? ⟨gA,0,none⟩=some (.int .i64 (num:Nat)):=hc9.cell q0 (by simp;omega)
   have HB23:=Lib.hid (Blk.chg HB23.out hc9 (by simp;omega))
   have HX3:=Lib.hid (show Ext w w9 from ⟨hc9.os.trans HX3.out.os,hc9.tape.trans HX3.out.tape,hc9.output.trans HX3.out.output,Nat.le_trans HX3.out.size hc9.size,fun k hk=>(hc9.block k (Nat.lt_of_lt_of_le hk HX3.out.size) (by have:=HGA.out;simp;omega)).trans (HX3.out.block k hk)⟩)
   have hlt9:g3<w9.heap.size:=by have:=hc9.size;omega
   have hsz:gA+1<g3:=HG3.1
   have HB3:=Lib.hid hb9
   have HD3:=HDN
   clear hb9 ho9 hc9 hr8 HDN HK3 HR3 HNA q1 HG HG3 hc8 hm8
   by_cases hn:num=0
   ·have HT0:=Lib.hid (HT.out.trans (if_pos hn))
    subst hn
    go_wp2_with (first
     | (refine load_dn rfl (.tmp 3) rfl rfl HB3.out ?_)
     | (refine store_dn rfl (.tmp 2) (.tmp 27) rfl (g:=gA+1) rfl rfl HB23.out HZ8.out ?_))
    exact bodyPost_ret (v:=.agg (dnC 4 0 false (fun _=>false) A9 (na+1) c9).toArray) (results_dn rfl _ _ (gA+1) rfl (Blk.row HB23.out _)) rfl ⟨_,rfl,by rw [HT0.out];exact (HD3.out.chg (rowChg4 _ _ _) (fun x hx hs=>by simp at hx;exact hs.2.1 hx)).mono (fun _ _ hs=>hs.1),HX3.out.row _ _ (by have:=HGA.out;omega)⟩
   ·have HT0:=Lib.hid (HT.out.trans (if_neg hn))
    have hn':(0:Int)<(num:Int):=by omega
    have hx4:=Ext.new1 w9 (.cells (dnC 4 0 false (fun _=>false) A9 (na+1) c9).toArray 38)
    have HX4:=Lib.hid hx4
    have HB4:=Lib.hid (HB3.out.keep hx4)
    have HB24:=Lib.hid (HB23.out.keep hx4)
    have HR4:=Lib.hid (rd_newS w9 260 1 (dnC 4 0 false (fun _=>false) A9 (na+1) c9) 38 (by rw [dn_len]))
    clear hx4
    go_wp2_with (first
     | (refine store_dn rfl (.tmp 2) (.tmp 27) rfl (g:=gA+1) rfl rfl (HB24.out.other (by omega) _) HZ8.out ?_)
     | (refine load_dn rfl (.tmp 3) rfl rfl (Blk.row HB4.out _) ?_)
     | (refine store_dn rfl (.tmp 3) (.tmp 26) rfl (g:=g3) rfl rfl HB4.out (dn_len _ _ _ _ _ _ _) ?_)
     | (refine build_kmk rfl (.tmp 23) (.tmp 25) rfl rfl rfl ?_)
     | (refine mk_dn rfl (.tmp 24) rfl (dn_len _ _ _ _ _ _ _) rfl ?_)
     | (refine load_dn rfl (.tmp 3) rfl rfl HB3.out ?_))
    refine bodyPost_ret (v:=.agg (dnC 8 (num:Int) false (fun _=>false) (some ⟨w9.heap.size,0,none⟩) 1 1).toArray) (results_dn rfl _ _ (gA+1) rfl (Blk.row (HB24.out.other (by omega) _) _)) rfl ⟨_,rfl,?_,Ext.row (Ext.row (HX3.out.trans HX4.out) _ _ (by have:=HGA.out;omega)) _ _ (by have:=HGA.out;omega)⟩
    rw [HT0.out]
    have hd:=dnode_one4 (S:=fun b=>S b∧b ≠ gA+1∧b ≠ g3) (t:=.node 4 0 false noP (alts ++ [mkCat items])) 8 (num:Int) false HR4.out (Nat.le_refl 1) (by unfold maxLen;omega) (fun b o x e=>by
     have h9:b=w9.heap.size:=by simpa using (congrArg Addr.block (Option.some.inj e)).symm
     have h8:=HX3.out.size
     exact ⟨HSN.out b (by have:=HGA.out;omega),by omega,by omega⟩) (HD3.out.keep HX4.out)
    exact ((hd.chg (rowChg4 _ g3 _) (fun x hx hs=>by simp at hx;exact hs.2.2 hx)).chg (rowChg4 _ (gA+1) _) (fun x hx hs=>by simp at hx;exact hs.2.1 hx)).mono (fun _ _ hs=>hs.1)
end Go.Proofs.YtigmdlchbjanoaaGreatDoor
