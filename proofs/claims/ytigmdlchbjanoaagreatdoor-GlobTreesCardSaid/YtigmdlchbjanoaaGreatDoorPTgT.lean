/- Put together: Dn6. -/
import Derived.Test.YtigmdlchbjanoaaGreatDoorPTgS
import Derived.Test.YtigmdlchbjanoaaGreatDoorPTgR
import Derived.Test.YtigmdlchbjanoaaGreatDoorPTgA
namespace Go.Proofs.YtigmdlchbjanoaaGreatDoor
open Go Go.RowKit
set_option maxHeartbeats 16000000 in
set_option maxRecDepth 20000 in
theorem refSameT:∀ n,∀ t:T,t.size≤n→∀ u S S' w v v',DNodeV S w t v→DNodeV S' w u v' →
  Calls Tryz.prog 12 #[.agg v.toArray,.agg v'.toArray] w fun e w'=>e=.returned (.bool (t.same u))∧Ext w w':=by
 intro n
 induction n with
 | zero=>intro t ht;have:=size_pos t;omega
 | succ n ih =>
  intro t ht u S S' w v v' h h'
  cases t with
  | node k m z p ks =>
  cases u with
  | node k' m' z' p' ls =>
   obtain ⟨A,c,cs,rfl,h1,h2,h3,h5⟩:=h.kids
   obtain ⟨A',c',ds,rfl,i1,i2,i3,i5⟩:=h'.kids
   rw [size_node] at ht
   have hx1:=Ext.new1 w (.cells (dnC k m z p A ks.length c).toArray 38)
   have hx2:=Ext.new1 (w.alloc (.cells (dnC k m z p A ks.length c).toArray 38)) (.cells (dnC k' m' z' p' A' ls.length c').toArray 38)
   have hx0:=Lib.hid (Ext.trans hx1 hx2)
   have HR:=Lib.hid (h3.keep hx0.out)
   have HK:=Lib.hid (dkidsV_map (fun t v h=>DNodeV.keep h hx0.out) h5)
   have HR':=Lib.hid (i3.keep hx0.out)
   have HK':=Lib.hid (dkidsV_map (fun t v h=>DNodeV.keep h hx0.out) i5)
   have HB0:=Lib.hid ((DB.new w k m z p A ks.length c).keep hx2)
   have HB1:=Lib.hid (DB.new (w.alloc (.cells (dnC k m z p A ks.length c).toArray 38)) k' m' z' p' A' ls.length c')
   rw [show (w.alloc (.cells (dnC k m z p A ks.length c).toArray 38)).heap.size=w.heap.size+1 by simp] at HB1
   have heq:=Lib.hid (fun w=>eq_set p p' w)
   have hsm:T.same (.node k m z p ks) (.node k' m' z' p' ls)=((decide (k=k') && decide (m=m') && (z == z') && sameP p p') && sameL ks ls):=by rw [T.same]
   unfold maxLen at h2 i2
   have hkl:ks.length≤9223372036854775807:=by omega
   have HIH:=Lib.hid (show ∀ x ∈ ks,x.size≤n from fun x hx=>by have:=sizeL_mem hx;omega)
   clear h1 h2 h3 h5 i1 i2 i3 i5 h h' hx1 hx2 ht
   by_cases ek:k=k'
   rotate_left
   ·have eb:(k != k')=true:=by simp [ek]
    rw [decide_eq_false ek] at hsm
    simp only [Bool.false_and] at hsm
    clear ek
    rw [hsm]
    clear hsm
    go_enter Tryz.func12,Tryz.ntmps12
    go_upto_region 1 with fail
    generalize (w.alloc (.cells (dnC k m z p A ks.length c).toArray 38)).alloc (.cells (dnC k' m' z' p' A' ls.length c').toArray 38)=wb at *
    generalize w.heap.size+1=gB at *
    generalize w.heap.size=gA at *
    have y0:=HB0.out.kind
    have y1:=HB0.out.num
    have y2:=HB0.out.lazy
    have y7:=HB0.out.kids
    have x0:=HB1.out.kind
    have x1:=HB1.out.num
    have x2:=HB1.out.lazy
    have x7:=HB1.out.kids
    go_wp2
    go_ret
    exact ⟨by simp,hx0.out⟩
   subst ek
   by_cases em:m=m'
   rotate_left
   ·have eb:(m != m')=true:=by simp [em]
    rw [decide_eq_false em] at hsm
    simp only [Bool.false_and,Bool.and_false] at hsm
    clear em
    rw [hsm]
    clear hsm
    go_enter Tryz.func12,Tryz.ntmps12
    go_upto_region 1 with fail
    generalize (w.alloc (.cells (dnC k m z p A ks.length c).toArray 38)).alloc (.cells (dnC k m' z' p' A' ls.length c').toArray 38)=wb at *
    generalize w.heap.size+1=gB at *
    generalize w.heap.size=gA at *
    have y0:=HB0.out.kind
    have y1:=HB0.out.num
    have y2:=HB0.out.lazy
    have y7:=HB0.out.kids
    have x0:=HB1.out.kind
    have x1:=HB1.out.num
    have x2:=HB1.out.lazy
    have x7:=HB1.out.kids
    go_wp2
    go_ret
    exact ⟨by simp,hx0.out⟩
   subst em
   by_cases ez:z=z'
   rotate_left
   ·cases z <;> cases z'
    ·exact absurd rfl ez
    ·have e4:(false == true)=false:=rfl
     rw [e4] at hsm
     simp only [Bool.false_and,Bool.and_false] at hsm
     clear ez e4
     rw [hsm]
     clear hsm
     go_enter Tryz.func12,Tryz.ntmps12
     go_upto_region 1 with fail
     generalize (w.alloc (.cells (dnC k m false p A ks.length c).toArray 38)).alloc (.cells (dnC k m true p' A' ls.length c').toArray 38)=wb at *
     generalize w.heap.size+1=gB at *
     generalize w.heap.size=gA at *
     have y0:=HB0.out.kind
     have y1:=HB0.out.num
     have y2:=HB0.out.lazy
     have y7:=HB0.out.kids
     have x0:=HB1.out.kind
     have x1:=HB1.out.num
     have x2:=HB1.out.lazy
     have x7:=HB1.out.kids
     go_wp2
     go_ret
     exact ⟨by simp,hx0.out⟩
    ·have e4:(true == false)=false:=rfl
     rw [e4] at hsm
     simp only [Bool.false_and,Bool.and_false] at hsm
     clear ez e4
     rw [hsm]
     clear hsm
     go_enter Tryz.func12,Tryz.ntmps12
     go_upto_region 1 with fail
     generalize (w.alloc (.cells (dnC k m true p A ks.length c).toArray 38)).alloc (.cells (dnC k m false p' A' ls.length c').toArray 38)=wb at *
     generalize w.heap.size+1=gB at *
     generalize w.heap.size=gA at *
     have y0:=HB0.out.kind
     have y1:=HB0.out.num
     have y2:=HB0.out.lazy
     have y7:=HB0.out.kids
     have x0:=HB1.out.kind
     have x1:=HB1.out.num
     have x2:=HB1.out.lazy
     have x7:=HB1.out.kids
     go_wp2
     go_ret
     exact ⟨by simp,hx0.out⟩
    ·exact absurd rfl ez
   subst ez
   cases es:sameP p p'
   ·rw [es] at hsm
    simp only [Bool.false_and,Bool.and_false] at hsm
    have heq2:=heq.out
    rw [es] at heq2
    clear es
    rw [hsm]
    clear hsm
    go_enter Tryz.func12,Tryz.ntmps12
    go_upto_region 1 with fail
    generalize (w.alloc (.cells (dnC k m z p A ks.length c).toArray 38)).alloc (.cells (dnC k m z p' A' ls.length c').toArray 38)=wb at *
    generalize w.heap.size+1=gB at *
    generalize w.heap.size=gA at *
    have y0:=HB0.out.kind
    have y1:=HB0.out.num
    have y2:=HB0.out.lazy
    have y7:=HB0.out.kids
    have x0:=HB1.out.kind
    have x1:=HB1.out.num
    have x2:=HB1.out.lazy
    have x7:=HB1.out.kids
    go_wp2_with (first | (refine load_dsetH (j:=19) (b0:=false) (d:=25) rfl rfl rfl (.tmp 26) rfl (g:=gA) rfl HB0.out ?_) | (refine load_dsetH (j:=19) (b0:=false) (d:=25) rfl rfl rfl (.tmp 28) rfl (g:=gB) rfl HB1.out ?_))
    go_ret
    exact ⟨by simp,hx0.out⟩
   rw [es] at hsm
   simp only [decide_true,beq_self_eq_true,Bool.and_true,Bool.true_and] at hsm
   have heq2:=heq.out
   rw [es] at heq2
   clear es
   by_cases el:ks.length=ls.length
   rotate_left
   ·have eb:((ks.length:Int) != (ls.length:Int))=true:=by simp;omega
    have hF:sameL ks ls=false:=by
     cases h:sameL ks ls
     ·rfl
     ·exact absurd (same_len h) el
    rw [hF] at hsm
    clear hF el
    rw [hsm]
    clear hsm
    go_enter Tryz.func12,Tryz.ntmps12
    go_upto_region 1 with fail
    generalize (w.alloc (.cells (dnC k m z p A ks.length c).toArray 38)).alloc (.cells (dnC k m z p' A' ls.length c').toArray 38)=wb at *
    generalize w.heap.size+1=gB at *
    generalize w.heap.size=gA at *
    have y0:=HB0.out.kind
    have y1:=HB0.out.num
    have y2:=HB0.out.lazy
    have y7:=HB0.out.kids
    have x0:=HB1.out.kind
    have x1:=HB1.out.num
    have x2:=HB1.out.lazy
    have x7:=HB1.out.kids
    go_wp2_with (first | (refine load_dsetH (j:=19) (b0:=false) (d:=25) rfl rfl rfl (.tmp 26) rfl (g:=gA) rfl HB0.out ?_) | (refine load_dsetH (j:=19) (b0:=false) (d:=25) rfl rfl rfl (.tmp 28) rfl (g:=gB) rfl HB1.out ?_))
    go_ret
    exact ⟨by simp,hx0.out⟩
   have eb:((ks.length:Int) != (ls.length:Int))=false:=by rw [el];simp
   have HLEN:=Lib.hid el
   rw [hsm]
   clear hsm el
   go_enter Tryz.func12,Tryz.ntmps12
   go_upto_region 1 with fail
   generalize (w.alloc (.cells (dnC k m z p A ks.length c).toArray 38)).alloc (.cells (dnC k m z p' A' ls.length c').toArray 38)=wb at *
   generalize w.heap.size+1=gB at *
   generalize w.heap.size=gA at *
   have y0:=HB0.out.kind
   have y1:=HB0.out.num
   have y2:=HB0.out.lazy
   have y7:=HB0.out.kids
   have x0:=HB1.out.kind
   have x1:=HB1.out.num
   have x2:=HB1.out.lazy
   have x7:=HB1.out.kids
   go_wp2_with (first | (refine load_dsetH (j:=19) (b0:=false) (d:=25) rfl rfl rfl (.tmp 26) rfl (g:=gA) rfl HB0.out ?_) | (refine load_dsetH (j:=19) (b0:=false) (d:=25) rfl rfl rfl (.tmp 28) rfl (g:=gB) rfl HB1.out ?_))
   clear y0 y1 y2 y7 x0 x1 x2 x7 eb heq2
   go_loopg [44] (ks.length) (fun g a wr=>∃ i:Nat,i≤ks.length∧g=ks.length-i∧a=.int .i64 (i:Nat)∧sameL (ks.take i) (ls.take i)=true∧Ext wb wr)
   case atStart=>exact ⟨0,by omega,rfl,rfl,by rw [List.take_zero,List.take_zero,sameL],Ext.refl _⟩
   case round =>
    obtain ⟨iq,hi,rfl,rfl,hno,hx⟩:=hrel
    have HNO:=Lib.hid hno
    clear hno
    by_cases hlt:iq<ks.length
    ·have hlt2:iq<ls.length:=by rw [← HLEN.out];exact hlt
     obtain ⟨b,o,k1,m1,z1,p1,B1,n1,cc1,rfl,hv,hk⟩:=dkid_at HR.out HK.out hlt
     obtain ⟨b2,o2,k2,m2,z2,p2,B2,n2,cc2,rfl,hv2,hk2⟩:=dkid_at HR'.out HK'.out hlt2
     have HRG1:=Lib.hid hk.out
     have HRG2:=Lib.hid hk2.out
     have HXW:=Lib.hid hx
     have hlt':(iq:Int)<(ks.length:Int):=by omega
     have hlt2':(iq:Int)<(ls.length:Int):=by omega
     have hw2:IntKind.i64.wrap ((iq:Int)+1)=(iq:Int)+1:=wrap_id (by omega) (by omega)
     obtain ⟨x,hxe⟩:∃ x,ks[iq]'hlt=x:=⟨_,rfl⟩
     obtain ⟨y,hye⟩:∃ y,ls[iq]'hlt2=y:=⟨_,rfl⟩
     have HT:=Lib.hid (HIH.out x (hxe ▸ List.getElem_mem hlt))
     have HVX:=Lib.hid (show DNodeV S wr x (dnC k1 m1 z1 p1 B1 n1 cc1) from hxe ▸ hv.keep hx)
     have HVY:=Lib.hid (show DNodeV S' wr y (dnC k2 m2 z2 p2 B2 n2 cc2) from hye ▸ hv2.keep hx)
     have HTT:=Lib.hid (show sameL (ks.take (iq+1)) (ls.take (iq+1))=x.same y by rw [same_take hlt hlt2,HNO.out,hxe,hye];rfl)
     have HA:=Lib.hid (show sameL ks ls=true→x.same y=true by intro h;rw [← hxe,← hye];exact same_at h hlt hlt2)
     clear hv hv2 hk hk2 hxe hye hx
     cases hP:x.same y
     ·have HP:=Lib.hid hP
      have HF:=Lib.hid (show sameL ks ls=false from by
       cases h:sameL ks ls
       ·rfl
       ·have:=HA.out h;rw [hP] at this;cases this)
      clear hP
      go_upto_region 6 with fail
      refine wp_region_dag (E:=Ext) (w0:=wr) (Φ:=fun i v w=>match i with | 0=>(v=.pointer (some ⟨gA,259,none⟩)) | 1=>(v=.slice (some ⟨b,o,none⟩) ks.length c) | 2=>(v=.int .i64 (iq:Nat)) | 3=>(v=.pointer (some ⟨b,o+iq*260,none⟩)) | 4=>(v=.agg (dnC k1 m1 z1 p1 B1 n1 cc1).toArray) | 5=>(v=.pointer (some ⟨gB,259,none⟩)) | 6=>(v=.slice (some ⟨b2,o2,none⟩) ls.length c') | 7=>(v=.int .i64 (iq:Nat)) | 8=>(v=.pointer (some ⟨b2,o2+iq*260,none⟩)) | 9=>(v=.agg (dnC k2 m2 z2 p2 B2 n2 cc2).toArray) | 10=>(v=.bool false) | 11=>(v=.bool true) | _=>True) (show Tryz.prog.follows .mixedOrders=true from Checked.mixed Tryz.checked) 60 rfl (by decide +kernel) ?_ ((Below.refl _ _).drew) ?_ ⟨?_,?_,?_,?_,?_,?_,?_,?_,?_,?_,?_,?_,trivial⟩ ?_
      ·intro i v w w' h hE
       match i,h with
       | 0,h=>exact h
       | 1,h=>exact h
       | 2,h=>exact h
       | 3,h=>exact h
       | 4,h=>exact h
       | 5,h=>exact h
       | 6,h=>exact h
       | 7,h=>exact h
       | 8,h=>exact h
       | 9,h=>exact h
       | 10,h=>exact h
       | 11,h=>exact h
       | _+12,_=>trivial
      ·exact fun w w' h h'=>h.trans h'
      ·
       intro ac wx hE hsz hdf h
       have e2:ac.tmps[2]?=some (.pointer (some ⟨gA,0,none⟩)):=by obtain ⟨v,h1,h2⟩:=h 2 (by decide +kernel);exact h1.trans (h2.symm.trans rfl)
       clear h hsz hdf
       go_wp2
       exact ⟨_,rfl,rfl,Ext.refl _⟩
      ·
       intro ac wx hE hsz hdf h
       have e47:ac.tmps[47]?=some (.pointer (some ⟨gA,259,none⟩)):=by obtain ⟨v,h1,h2⟩:=h 47 (by decide +kernel);rw [h1];exact congrArg some h2
       clear h hsz hdf
       have y7:=(HB0.out.keep (Ext.trans HXW.out hE)).kids
       go_wp2
       exact ⟨_,rfl,rfl,Ext.refl _⟩
      ·
       intro ac wx hE hsz hdf h
       have e5:ac.tmps[5]?=some (.int .i64 (iq:Nat)):=by obtain ⟨v,h1,h2⟩:=h 5 (by decide +kernel);exact h1.trans (h2.symm.trans rfl)
       clear h hsz hdf
       go_wp2
       exact ⟨_,rfl,rfl,Ext.refl _⟩
      ·
       intro ac wx hE hsz hdf h
       have e48:ac.tmps[48]?=some (.slice (some ⟨b,o,none⟩) ks.length c):=by obtain ⟨v,h1,h2⟩:=h 48 (by decide +kernel);rw [h1];exact congrArg some h2
       have e49:ac.tmps[49]?=some (.int .i64 (iq:Nat)):=by obtain ⟨v,h1,h2⟩:=h 49 (by decide +kernel);rw [h1];exact congrArg some h2
       clear h hsz hdf
       go_wp2
       exact ⟨_,rfl,rfl,Ext.refl _⟩
      ·
       intro ac wx hE hsz hdf h
       have e50:ac.tmps[50]?=some (.pointer (some ⟨b,o+iq*260,none⟩)):=by obtain ⟨v,h1,h2⟩:=h 50 (by decide +kernel);rw [h1];exact congrArg some h2
       clear h hsz hdf
       refine load_el rfl (.tmp 50) rfl (b:=b) (q:=o+iq*260) ?_ (HRG1.out wx (Ext.trans HXW.out hE)) ?_
       ·simp [Act.eval,e50]
       ·go_wp2;exact ⟨_,rfl,rfl,Ext.refl _⟩
      ·
       intro ac wx hE hsz hdf h
       have e3:ac.tmps[3]?=some (.pointer (some ⟨gB,0,none⟩)):=by obtain ⟨v,h1,h2⟩:=h 3 (by decide +kernel);exact h1.trans (h2.symm.trans rfl)
       clear h hsz hdf
       go_wp2
       exact ⟨_,rfl,rfl,Ext.refl _⟩
      ·
       intro ac wx hE hsz hdf h
       have e52:ac.tmps[52]?=some (.pointer (some ⟨gB,259,none⟩)):=by obtain ⟨v,h1,h2⟩:=h 52 (by decide +kernel);rw [h1];exact congrArg some h2
       clear h hsz hdf
       have y7:=(HB1.out.keep (Ext.trans HXW.out hE)).kids
       go_wp2
       exact ⟨_,rfl,rfl,Ext.refl _⟩
      ·
       intro ac wx hE hsz hdf h
       have e5:ac.tmps[5]?=some (.int .i64 (iq:Nat)):=by obtain ⟨v,h1,h2⟩:=h 5 (by decide +kernel);exact h1.trans (h2.symm.trans rfl)
       clear h hsz hdf
       go_wp2
       exact ⟨_,rfl,rfl,Ext.refl _⟩
      ·
       intro ac wx hE hsz hdf h
       have e53:ac.tmps[53]?=some (.slice (some ⟨b2,o2,none⟩) ls.length c'):=by obtain ⟨v,h1,h2⟩:=h 53 (by decide +kernel);rw [h1];exact congrArg some h2
       have e54:ac.tmps[54]?=some (.int .i64 (iq:Nat)):=by obtain ⟨v,h1,h2⟩:=h 54 (by decide +kernel);rw [h1];exact congrArg some h2
       clear h hsz hdf
       go_wp2
       exact ⟨_,rfl,rfl,Ext.refl _⟩
      ·
       intro ac wx hE hsz hdf h
       have e55:ac.tmps[55]?=some (.pointer (some ⟨b2,o2+iq*260,none⟩)):=by obtain ⟨v,h1,h2⟩:=h 55 (by decide +kernel);rw [h1];exact congrArg some h2
       clear h hsz hdf
       refine load_el rfl (.tmp 55) rfl (b:=b2) (q:=o2+iq*260) ?_ (HRG2.out wx (Ext.trans HXW.out hE)) ?_
       ·simp [Act.eval,e55]
       ·go_wp2;exact ⟨_,rfl,rfl,Ext.refl _⟩
      ·
       intro ac wx hE hsz hdf h
       have e51:ac.tmps[51]?=some (.agg (dnC k1 m1 z1 p1 B1 n1 cc1).toArray):=by obtain ⟨v,h1,h2⟩:=h 51 (by decide +kernel);rw [h1];exact congrArg some h2
       have e56:ac.tmps[56]?=some (.agg (dnC k2 m2 z2 p2 B2 n2 cc2).toArray):=by obtain ⟨v,h1,h2⟩:=h 56 (by decide +kernel);rw [h1];exact congrArg some h2
       clear h hsz hdf
       go_wp2_with ((go_at_call 12;refine (ih _ HT.out y S S' wx (dnC k1 m1 z1 p1 B1 n1 cc1) (dnC k2 m2 z2 p2 B2 n2 cc2) (HVX.out.keep hE) (HVY.out.keep hE)).mono ?_;rintro e w9 ⟨rfl,hb9⟩;rw [HP.out]))
       exact ⟨_,rfl,rfl,hb9⟩
      ·
       intro ac wx hE hsz hdf h
       have e57:ac.tmps[57]?=some (.bool false):=by obtain ⟨v,h1,h2⟩:=h 57 (by decide +kernel);rw [h1];exact congrArg some h2
       clear h hsz hdf
       go_wp2
       exact ⟨_,rfl,rfl,Ext.refl _⟩
      ·intro ac w9 hE hsz hdf h hrest
       obtain ⟨v0,s0,g0⟩:=h 0 _ rfl
       have e0:=g0 47 rfl
       obtain rfl:v0=.pointer (some ⟨gA,259,none⟩):=s0
       obtain ⟨v1,s1,g1⟩:=h 1 _ rfl
       have e1:=g1 48 rfl
       obtain rfl:v1=.slice (some ⟨b,o,none⟩) ks.length c:=s1
       obtain ⟨v2,s2,g2⟩:=h 2 _ rfl
       have e2:=g2 49 rfl
       obtain rfl:v2=.int .i64 (iq:Nat):=s2
       obtain ⟨v3,s3,g3⟩:=h 3 _ rfl
       have e3:=g3 50 rfl
       obtain rfl:v3=.pointer (some ⟨b,o+iq*260,none⟩):=s3
       obtain ⟨v4,s4,g4⟩:=h 4 _ rfl
       have e4:=g4 51 rfl
       obtain rfl:v4=.agg (dnC k1 m1 z1 p1 B1 n1 cc1).toArray:=s4
       obtain ⟨v5,s5,g5⟩:=h 5 _ rfl
       have e5:=g5 52 rfl
       obtain rfl:v5=.pointer (some ⟨gB,259,none⟩):=s5
       obtain ⟨v6,s6,g6⟩:=h 6 _ rfl
       have e6:=g6 53 rfl
       obtain rfl:v6=.slice (some ⟨b2,o2,none⟩) ls.length c':=s6
       obtain ⟨v7,s7,g7⟩:=h 7 _ rfl
       have e7:=g7 54 rfl
       obtain rfl:v7=.int .i64 (iq:Nat):=s7
       obtain ⟨v8,s8,g8⟩:=h 8 _ rfl
       have e8:=g8 55 rfl
       obtain rfl:v8=.pointer (some ⟨b2,o2+iq*260,none⟩):=s8
       obtain ⟨v9,s9,g9⟩:=h 9 _ rfl
       have e9:=g9 56 rfl
       obtain rfl:v9=.agg (dnC k2 m2 z2 p2 B2 n2 cc2).toArray:=s9
       obtain ⟨v10,s10,g10⟩:=h 10 _ rfl
       have e10:=g10 57 rfl
       obtain rfl:v10=.bool false:=s10
       obtain ⟨v11,s11,g11⟩:=h 11 _ rfl
       have e11:=g11 58 rfl
       obtain rfl:v11=.bool true:=s11
       have ha:=act_of [(47,.pointer (some ⟨gA,259,none⟩)),(48,.slice (some ⟨b,o,none⟩) ks.length c),(49,.int .i64 (iq:Nat)),(50,.pointer (some ⟨b,o+iq*260,none⟩)),(51,.agg (dnC k1 m1 z1 p1 B1 n1 cc1).toArray),(52,.pointer (some ⟨gB,259,none⟩)),(53,.slice (some ⟨b2,o2,none⟩) ls.length c'),(54,.int .i64 (iq:Nat)),(55,.pointer (some ⟨b2,o2+iq*260,none⟩)),(56,.agg (dnC k2 m2 z2 p2 B2 n2 cc2).toArray),(57,.bool false),(58,.bool true)] rfl hsz hdf (by intro p hp;simp only [List.mem_cons,List.not_mem_nil,or_false] at hp;rcases hp with rfl | rfl | rfl | rfl | rfl | rfl | rfl | rfl | rfl | rfl | rfl | rfl <;> first | exact e0 | exact e1 | exact e2 | exact e3 | exact e4 | exact e5 | exact e6 | exact e7 | exact e8 | exact e9 | exact e10 | exact e11) hrest
       clear h hrest hsz hdf e0 e1 e2 e3 e4 e5 e6 e7 e8 e9 e10 e11 g0 g1 g2 g3 g4 g5 g6 g7 g8 g9 g10 g11
       subst ha
       simp only [List.foldl_cons,List.foldl_nil,Act.put,List.setIfInBounds_toArray,List.set_cons_succ,List.set_cons_zero]
       have hxe:=Lib.hid (Ext.trans hx0.out (Ext.trans HXW.out hE))
       clear hE
       go_wp2
       go_ret
       exact ⟨by rw [HF.out];rfl,hxe.out⟩
     ·have HP:=Lib.hid hP
      clear hP
      go_upto_region 6 with fail
      refine wp_region_dag (E:=Ext) (w0:=wr) (Φ:=fun i v w=>match i with | 0=>(v=.pointer (some ⟨gA,259,none⟩)) | 1=>(v=.slice (some ⟨b,o,none⟩) ks.length c) | 2=>(v=.int .i64 (iq:Nat)) | 3=>(v=.pointer (some ⟨b,o+iq*260,none⟩)) | 4=>(v=.agg (dnC k1 m1 z1 p1 B1 n1 cc1).toArray) | 5=>(v=.pointer (some ⟨gB,259,none⟩)) | 6=>(v=.slice (some ⟨b2,o2,none⟩) ls.length c') | 7=>(v=.int .i64 (iq:Nat)) | 8=>(v=.pointer (some ⟨b2,o2+iq*260,none⟩)) | 9=>(v=.agg (dnC k2 m2 z2 p2 B2 n2 cc2).toArray) | 10=>(v=.bool true) | 11=>(v=.bool false) | _=>True) (show Tryz.prog.follows .mixedOrders=true from Checked.mixed Tryz.checked) 60 rfl (by decide +kernel) ?_ ((Below.refl _ _).drew) ?_ ⟨?_,?_,?_,?_,?_,?_,?_,?_,?_,?_,?_,?_,trivial⟩ ?_
      ·intro i v w w' h hE
       match i,h with
       | 0,h=>exact h
       | 1,h=>exact h
       | 2,h=>exact h
       | 3,h=>exact h
       | 4,h=>exact h
       | 5,h=>exact h
       | 6,h=>exact h
       | 7,h=>exact h
       | 8,h=>exact h
       | 9,h=>exact h
       | 10,h=>exact h
       | 11,h=>exact h
       | _+12,_=>trivial
      ·exact fun w w' h h'=>h.trans h'
      ·
       intro ac wx hE hsz hdf h
       have e2:ac.tmps[2]?=some (.pointer (some ⟨gA,0,none⟩)):=by obtain ⟨v,h1,h2⟩:=h 2 (by decide +kernel);exact h1.trans (h2.symm.trans rfl)
       clear h hsz hdf
       go_wp2
       exact ⟨_,rfl,rfl,Ext.refl _⟩
      ·
       intro ac wx hE hsz hdf h
       have e47:ac.tmps[47]?=some (.pointer (some ⟨gA,259,none⟩)):=by obtain ⟨v,h1,h2⟩:=h 47 (by decide +kernel);rw [h1];exact congrArg some h2
       clear h hsz hdf
       have y7:=(HB0.out.keep (Ext.trans HXW.out hE)).kids
       go_wp2
       exact ⟨_,rfl,rfl,Ext.refl _⟩
      ·
       intro ac wx hE hsz hdf h
       have e5:ac.tmps[5]?=some (.int .i64 (iq:Nat)):=by obtain ⟨v,h1,h2⟩:=h 5 (by decide +kernel);exact h1.trans (h2.symm.trans rfl)
       clear h hsz hdf
       go_wp2
       exact ⟨_,rfl,rfl,Ext.refl _⟩
      ·
       intro ac wx hE hsz hdf h
       have e48:ac.tmps[48]?=some (.slice (some ⟨b,o,none⟩) ks.length c):=by obtain ⟨v,h1,h2⟩:=h 48 (by decide +kernel);rw [h1];exact congrArg some h2
       have e49:ac.tmps[49]?=some (.int .i64 (iq:Nat)):=by obtain ⟨v,h1,h2⟩:=h 49 (by decide +kernel);rw [h1];exact congrArg some h2
       clear h hsz hdf
       go_wp2
       exact ⟨_,rfl,rfl,Ext.refl _⟩
      ·
       intro ac wx hE hsz hdf h
       have e50:ac.tmps[50]?=some (.pointer (some ⟨b,o+iq*260,none⟩)):=by obtain ⟨v,h1,h2⟩:=h 50 (by decide +kernel);rw [h1];exact congrArg some h2
       clear h hsz hdf
       refine load_el rfl (.tmp 50) rfl (b:=b) (q:=o+iq*260) ?_ (HRG1.out wx (Ext.trans HXW.out hE)) ?_
       ·simp [Act.eval,e50]
       ·go_wp2;exact ⟨_,rfl,rfl,Ext.refl _⟩
      ·
       intro ac wx hE hsz hdf h
       have e3:ac.tmps[3]?=some (.pointer (some ⟨gB,0,none⟩)):=by obtain ⟨v,h1,h2⟩:=h 3 (by decide +kernel);exact h1.trans (h2.symm.trans rfl)
       clear h hsz hdf
       go_wp2
       exact ⟨_,rfl,rfl,Ext.refl _⟩
      ·
       intro ac wx hE hsz hdf h
       have e52:ac.tmps[52]?=some (.pointer (some ⟨gB,259,none⟩)):=by obtain ⟨v,h1,h2⟩:=h 52 (by decide +kernel);rw [h1];exact congrArg some h2
       clear h hsz hdf
       have y7:=(HB1.out.keep (Ext.trans HXW.out hE)).kids
       go_wp2
       exact ⟨_,rfl,rfl,Ext.refl _⟩
      ·
       intro ac wx hE hsz hdf h
       have e5:ac.tmps[5]?=some (.int .i64 (iq:Nat)):=by obtain ⟨v,h1,h2⟩:=h 5 (by decide +kernel);exact h1.trans (h2.symm.trans rfl)
       clear h hsz hdf
       go_wp2
       exact ⟨_,rfl,rfl,Ext.refl _⟩
      ·
       intro ac wx hE hsz hdf h
       have e53:ac.tmps[53]?=some (.slice (some ⟨b2,o2,none⟩) ls.length c'):=by obtain ⟨v,h1,h2⟩:=h 53 (by decide +kernel);rw [h1];exact congrArg some h2
       have e54:ac.tmps[54]?=some (.int .i64 (iq:Nat)):=by obtain ⟨v,h1,h2⟩:=h 54 (by decide +kernel);rw [h1];exact congrArg some h2
       clear h hsz hdf
       go_wp2
       exact ⟨_,rfl,rfl,Ext.refl _⟩
      ·
       intro ac wx hE hsz hdf h
       have e55:ac.tmps[55]?=some (.pointer (some ⟨b2,o2+iq*260,none⟩)):=by obtain ⟨v,h1,h2⟩:=h 55 (by decide +kernel);rw [h1];exact congrArg some h2
       clear h hsz hdf
       refine load_el rfl (.tmp 55) rfl (b:=b2) (q:=o2+iq*260) ?_ (HRG2.out wx (Ext.trans HXW.out hE)) ?_
       ·simp [Act.eval,e55]
       ·go_wp2;exact ⟨_,rfl,rfl,Ext.refl _⟩
      ·
       intro ac wx hE hsz hdf h
       have e51:ac.tmps[51]?=some (.agg (dnC k1 m1 z1 p1 B1 n1 cc1).toArray):=by obtain ⟨v,h1,h2⟩:=h 51 (by decide +kernel);rw [h1];exact congrArg some h2
       have e56:ac.tmps[56]?=some (.agg (dnC k2 m2 z2 p2 B2 n2 cc2).toArray):=by obtain ⟨v,h1,h2⟩:=h 56 (by decide +kernel);rw [h1];exact congrArg some h2
       clear h hsz hdf
       go_wp2_with ((go_at_call 12;refine (ih _ HT.out y S S' wx (dnC k1 m1 z1 p1 B1 n1 cc1) (dnC k2 m2 z2 p2 B2 n2 cc2) (HVX.out.keep hE) (HVY.out.keep hE)).mono ?_;rintro e w9 ⟨rfl,hb9⟩;rw [HP.out]))
       exact ⟨_,rfl,rfl,hb9⟩
      ·
       intro ac wx hE hsz hdf h
       have e57:ac.tmps[57]?=some (.bool true):=by obtain ⟨v,h1,h2⟩:=h 57 (by decide +kernel);rw [h1];exact congrArg some h2
       clear h hsz hdf
       go_wp2
       exact ⟨_,rfl,rfl,Ext.refl _⟩
      ·intro ac w9 hE hsz hdf h hrest
       obtain ⟨v0,s0,g0⟩:=h 0 _ rfl
       have e0:=g0 47 rfl
       obtain rfl:v0=.pointer (some ⟨gA,259,none⟩):=s0
       obtain ⟨v1,s1,g1⟩:=h 1 _ rfl
       have e1:=g1 48 rfl
       obtain rfl:v1=.slice (some ⟨b,o,none⟩) ks.length c:=s1
       obtain ⟨v2,s2,g2⟩:=h 2 _ rfl
       have e2:=g2 49 rfl
       obtain rfl:v2=.int .i64 (iq:Nat):=s2
       obtain ⟨v3,s3,g3⟩:=h 3 _ rfl
       have e3:=g3 50 rfl
       obtain rfl:v3=.pointer (some ⟨b,o+iq*260,none⟩):=s3
       obtain ⟨v4,s4,g4⟩:=h 4 _ rfl
       have e4:=g4 51 rfl
       obtain rfl:v4=.agg (dnC k1 m1 z1 p1 B1 n1 cc1).toArray:=s4
       obtain ⟨v5,s5,g5⟩:=h 5 _ rfl
       have e5:=g5 52 rfl
       obtain rfl:v5=.pointer (some ⟨gB,259,none⟩):=s5
       obtain ⟨v6,s6,g6⟩:=h 6 _ rfl
       have e6:=g6 53 rfl
       obtain rfl:v6=.slice (some ⟨b2,o2,none⟩) ls.length c':=s6
       obtain ⟨v7,s7,g7⟩:=h 7 _ rfl
       have e7:=g7 54 rfl
       obtain rfl:v7=.int .i64 (iq:Nat):=s7
       obtain ⟨v8,s8,g8⟩:=h 8 _ rfl
       have e8:=g8 55 rfl
       obtain rfl:v8=.pointer (some ⟨b2,o2+iq*260,none⟩):=s8
       obtain ⟨v9,s9,g9⟩:=h 9 _ rfl
       have e9:=g9 56 rfl
       obtain rfl:v9=.agg (dnC k2 m2 z2 p2 B2 n2 cc2).toArray:=s9
       obtain ⟨v10,s10,g10⟩:=h 10 _ rfl
       have e10:=g10 57 rfl
       obtain rfl:v10=.bool true:=s10
       obtain ⟨v11,s11,g11⟩:=h 11 _ rfl
       have e11:=g11 58 rfl
       obtain rfl:v11=.bool false:=s11
       have ha:=act_of [(47,.pointer (some ⟨gA,259,none⟩)),(48,.slice (some ⟨b,o,none⟩) ks.length c),(49,.int .i64 (iq:Nat)),(50,.pointer (some ⟨b,o+iq*260,none⟩)),(51,.agg (dnC k1 m1 z1 p1 B1 n1 cc1).toArray),(52,.pointer (some ⟨gB,259,none⟩)),(53,.slice (some ⟨b2,o2,none⟩) ls.length c'),(54,.int .i64 (iq:Nat)),(55,.pointer (some ⟨b2,o2+iq*260,none⟩)),(56,.agg (dnC k2 m2 z2 p2 B2 n2 cc2).toArray),(57,.bool true),(58,.bool false)] rfl hsz hdf (by intro p hp;simp only [List.mem_cons,List.not_mem_nil,or_false] at hp;rcases hp with rfl | rfl | rfl | rfl | rfl | rfl | rfl | rfl | rfl | rfl | rfl | rfl <;> first | exact e0 | exact e1 | exact e2 | exact e3 | exact e4 | exact e5 | exact e6 | exact e7 | exact e8 | exact e9 | exact e10 | exact e11) hrest
       clear h hrest hsz hdf e0 e1 e2 e3 e4 e5 e6 e7 e8 e9 e10 e11 g0 g1 g2 g3 g4 g5 g6 g7 g8 g9 g10 g11
       subst ha
       simp only [List.foldl_cons,List.foldl_nil,Act.put,List.setIfInBounds_toArray,List.set_cons_succ,List.set_cons_zero]
       have hxe:=Lib.hid (Ext.trans HXW.out hE)
       clear hE
       go_wp2
       go_roundg (ks.length-(iq+1))
       case measure=>omega
       case rel=>exact ⟨iq+1,by omega,rfl,by go_num,by rw [HTT.out,HP.out],hxe.out⟩
    ·obtain rfl:iq=ks.length:=by omega
     have hlt':¬ (ks.length:Int)<(ks.length:Int):=by omega
     have hno:=HNO.out
     rw [List.take_length,HLEN.out,List.take_length] at hno
     have HN:=Lib.hid hno
     have HXW:=Lib.hid hx
     clear hno hx
     go_wp2
     go_ret
     exact ⟨by rw [HN.out];rfl,Ext.trans hx0.out HXW.out⟩
end Go.Proofs.YtigmdlchbjanoaaGreatDoor
