/- Put together: Rx15, Rx16, Rx17, Rx18, Rx19. -/
import Derived.Test.YtigmdlchbjanoaaGreatDoorPTgN
import Derived.Deep.LoopGhost
import Derived.ScopeJumps
import Derived.WalkMore
import Derived.Test.YtigmdlchbjanoaaGreatDoorPTgM
namespace Go.Proofs.YtigmdlchbjanoaaGreatDoor
open Go Go.RowKit
attribute [local irreducible] wd
theorem elemNd:Elem Tryz.prog 26 28 (.agg zN.toArray) 8 80:=⟨Tryz.underlying26,by kernel_rfl,rfl,by omega⟩
def ItemsOK (E:Nat→Addr) (l:List UInt8) (f:Nat):Prop:=
 ∀ (p ne i gr:Nat) (w:World),itemsP l f ne i gr [] ≠ .out→i≤l.length→ne≤8→gr≤9→PS w p l i ne gr→Env E w→Calls Tryz.prog 70 #[.pointer (some ⟨p,0,none⟩)] w fun e w'=>PRes E p l ne w (itemsP l f ne i gr []) e w'
structure Row (w0:World) (gz:Nat) (kv:Value) (acc:List T) (w:World):Prop where
 own:∃ cs,w.ownsRow w0.heap.size 28 8 kv acc.length cs∧KidsV (fun b=>gz<b∧some b ≠ kv.ownBlock) w acc cs
 gt:∀ b,kv.ownBlock=some b→gz<b
structure RsNow (E:Nat→Addr) (p:Nat) (l:List UInt8) (ne i gr:Nat) (w0:World) (gz:Nat) (w:World):Prop where
 ps:PS w p l i ne gr
 ch:Chg [p] w0 w
 en:Env E w
 ze:Blk w gz 28 zN
theorem RsNow.keep {E:Nat→Addr} {p:Nat} {l:List UInt8} {ne i gr:Nat} {w0:World} {gz:Nat} {w w':World} (h:RsNow E p l ne i gr w0 gz w) (hx:Ext w w'):RsNow E p l ne i gr w0 gz w':=
 ⟨h.ps.keep hx,h.ch.trans (.of_ext hx),h.en.keep hx,h.ze.keep hx⟩
theorem Row.nil {w0 w:World} {gz:Nat}:Row w0 gz (.slice none 0 0) [] w:=⟨⟨[],⟨rfl,.inl ⟨rfl,rfl⟩⟩,by unfold KidsV;rfl⟩,fun b h=>by cases h⟩
theorem Row.ext {w0 w w':World} {gz:Nat} {kv:Value} {acc:List T} (h:Row w0 gz kv acc w) (hx:Ext w w'):Row w0 gz kv acc w':=by
 obtain ⟨⟨cs,h1,h2⟩,h3⟩:=h
 exact ⟨⟨cs,own_ext h1 hx,kidsV_map (fun t v h=>NodeV.keep h hx) h2⟩,h3⟩
theorem Row.chg {w0 w w':World} {gz p:Nat} {kv:Value} {acc:List T} (h:Row w0 gz kv acc w) (hx:Chg [p] w w') (hp:p<gz):Row w0 gz kv acc w':=by
 obtain ⟨⟨cs,h1,h2⟩,h3⟩:=h
 exact ⟨⟨cs,own_chg h1 hx (fun k hk=>by simp;intro e;have:=h3 k hk;omega),kidsV_map (fun t v h=>NodeV.chg h hx (by intro y hy;simp at hy;omega)) h2⟩,h3⟩
theorem Row.app {w0 w w':World} {gz:Nat} {kv kv':Value} {acc:List T} {t:T} {cs v:List Value} (_:w.ownsRow w0.heap.size 28 8 kv acc.length cs) (hk:KidsV (fun b=>gz<b∧some b ≠ kv.ownBlock) w acc cs) (hgt:∀ b,kv.ownBlock=some b→gz<b)
  (hv:NodeV (fun b=>gz<b∧some b ≠ kv.ownBlock) w t v) (hown:w'.ownsRow w0.heap.size 28 8 kv' (acc.length+1) (cs ++ v)) (hg:Grew w0.heap.size w w' kv) (hat:kv'.ownBlock=kv.ownBlock∨kv'.ownBlock=some w.heap.size) (hz:gz<w.heap.size):Row w0 gz kv' (acc ++ [t]) w':=by
 have key:∀ x u,NodeV (fun b=>gz<b∧some b ≠ kv.ownBlock) w x u→NodeV (fun b=>gz<b∧some b ≠ kv'.ownBlock) w' x u:=fun x u hx =>
  nodeV_stay hg.size (fun b hb hlt=>⟨⟨hb.1,by rcases hat with e | e;(rw [e];exact hb.2);(rw [e];intro e2;injection e2 with e2;omega)⟩,hg.by_.block b hlt hb.2⟩) x.size x (Nat.le_refl _) u hx
 refine ⟨⟨cs ++ v,by rw [List.length_append];exact hown,kidsV_append (kidsV_map key hk) (kidsV_one (key t v hv))⟩,fun b hb=>?_⟩
 rcases hat with e | e
 ·rw [e] at hb;exact hgt b hb
 ·rw [e] at hb;injection hb with hb;omega
theorem RsNow.grew {E:Nat→Addr} {p:Nat} {l:List UInt8} {ne i gr:Nat} {w0:World} {gz:Nat} {w w':World} {kv:Value} (h:RsNow E p l ne i gr w0 gz w) (hg:Grew w0.heap.size w w' kv) (hgt:∀ b,kv.ownBlock=some b→gz<b) (hpz:p<gz)
  {i0 ne0 gr0:Nat} (hE:Env E w0) (hP:PS w0 p l i0 ne0 gr0):RsNow E p l ne i gr w0 gz w':=by
 have hch:Chg [p] w0 w':=by
  obtain ⟨a1,a2,a3,a4,a5⟩:=hg.by_
  refine ⟨a1.trans h.ch.os,a2.trans h.ch.tape,a3.trans h.ch.output,Nat.le_trans h.ch.size a4,fun k hk hx=>?_⟩
  refine (a5 k (Nat.lt_of_lt_of_le hk h.ch.size) fun e=>?_).trans (h.ch.block k hk hx)
  have:=hg.from_ k e.symm
  omega
 exact ⟨Blk.grew h.ps hg (fun e=>by have:=hgt p e.symm;omega),hch,hE.chg hP hch,Blk.grew h.ze hg (fun e=>by have:=hgt gz e.symm;omega)⟩
set_option maxHeartbeats 8000000 in
set_option maxRecDepth 20000 in
theorem rxItems (E:Nat→Addr) (l:List UInt8) (hl:l.length≤10000) (f:Nat) (hI:∀ f',f' < f→ItemOK E l f'):ItemsOK E l f:=by
 intro p ne i gr w hno hi hne hgr hP hE
 have hpl:=hP.lt
 obtain ⟨gz,hgz⟩:∃ gz,w.heap.size=gz:=⟨_,rfl⟩
 have hN0:=Lib.hid (Blk.newA (w:=w) hgz 28 zN)
 have hx0:=Lib.hid (Ext.new1 w (.cells zN.toArray 28))
 have HP:=Lib.hid hP
 have HE:=Lib.hid hE
 have HPZ:=Lib.hid (show p<gz by omega)
 have HGZ:=Lib.hid hgz
 obtain ⟨R,hR⟩:∃ R,itemsP l f ne i gr []=R:=⟨_,rfl⟩
 have HRR:=Lib.hid hR
 have HNO:=Lib.hid (show R ≠ .out by rw [← hR];exact hno)
 clear hP hE hno hR
 unfold zN at hN0 hx0
 obtain ⟨pv,hpv⟩:∃ pv,pkV l i=pv:=⟨_,rfl⟩
 have HPV:=Lib.hid hpv
 clear hpv
 go_enter Tryz.func70,Tryz.ntmps70
 go_wp2_with (go_at_call 71;refine (rxPeek hi _ (HP.out.keep hx0.out)).mono ?_;rintro e w1 ⟨rfl,hx1⟩;rw [HPV.out])
 have HN1:=Lib.hid (show RsNow E p l ne i gr w gz w1 from ⟨(HP.out.keep hx0.out).keep hx1,.of_ext (Ext.trans hx0.out hx1),HE.out.keep (Ext.trans hx0.out hx1),hN0.out.keep hx1⟩)
 clear hx0 hN0 hx1
 go_loopg [4,5] f (fun g kv cv wr=>∃ (ik grk:Nat) (acc:List T),itemsP l g ne ik grk acc=R∧cv=.int .i64 (pkV l ik)∧ik≤l.length∧grk≤9∧acc.length≤ik∧Row w gz kv acc wr∧RsNow E p l ne ik grk w gz wr∧g≤f)
 case atStart=>exact ⟨i,gr,[],HRR.out,by rw [HPV.out],hi,hgr,Nat.zero_le _,Row.nil,HN1.out,Nat.le_refl _⟩
 case round =>
  obtain ⟨ik,grk,acc,hR,rfl,hik,hgk,hal,hRow,hNow,hgf⟩:=hrel
  have hgz2:=hgz
  clear hgz
  rcases gk with _ | g
  ·exact absurd (by rw [← hR];unfold itemsP;rfl) HNO.out
  rw [itemsP] at hR
  have HRow:=Lib.hid hRow
  have HNow:=Lib.hid hNow
  have HN1':=HN1
  clear hRow hNow HN1 HN1'
  by_cases hcont:∃ c,l[ik]?=some c∧¬ (c=124∨c=41)
  ·obtain ⟨c,hc,hcn⟩:=hcont
   have hlt:=(List.getElem?_eq_some_iff.1 hc).1
   rw [hc] at hR
   dsimp only at hR
   rw [if_neg hcn] at hR
   have hpk:=pk_some hc
   have hc0:decide ((0:Int)≤(c.toNat:Int))=true:=by simp
   have hc1:((c.toNat:Int) != 124)=true:=by
    rw [bne_iff_ne];intro e;exact hcn (.inl (UInt8.toNat_inj.1 (show c.toNat=124 by omega)))
   have hc2:((c.toNat:Int) != 41)=true:=by
    rw [bne_iff_ne];intro e;exact hcn (.inr (UInt8.toNat_inj.1 (show c.toNat=41 by omega)))
   have HPK:=Lib.hid hpk
   have HCN:=Lib.hid hcn
   obtain ⟨r1,hr1⟩:∃ r1,itemP l g ne ik grk=r1:=⟨_,rfl⟩
   have hno1:itemP l g ne ik grk ≠ .out:=fun e=>HNO.out (by rw [← hR,e])
   have HNO1:=Lib.hid hno1
   have HR1:=Lib.hid hr1
   have HGF:=Lib.hid hgf
   have HI:=Lib.hid (hI g (by omega))
   rw [hr1] at hR
   clear hcn hc hr1 hno1 hpk
   rw [HPK.out]
   cases r1 with
   | out=>exact absurd HR1.out HNO1.out
   | err k =>
    have HRk:=Lib.hid (show itemsP l f ne i gr []=.err k by rw [HRR.out,← hR])
    clear hR
    go_wp2_with fail
    go_at_call 80
    refine (HI.out p ne ik grk _ HNO1.out hlt hne hgk HNow.out.ps HNow.out.en).mono ?_
    rintro e w5 hP5
    rw [HR1.out] at hP5
    obtain ⟨hC5,rfl,hk⟩:=hP5
    obtain ⟨k,rfl⟩:∃ k',k=k' + 1:=⟨k-1,by omega⟩
    have hB5:=Lib.hid (HNow.out.ze.chg hC5 (by simp;have:=HPZ.out;omega))
    have hC:=Lib.hid (HNow.out.ch.trans hC5)
    have hn:=fun w=>run_eql_iface_nil (P:=Tryz.prog) (w:=w) 30 (by kernel_rfl) 151 (.pointer (some (E k)))
    have HK:=Lib.hid hk
    clear hk hC5
    unfold ev errV zN
    go_wp2_with (refine store_nd rfl (.tmp 2) (.tmp 29) rfl (g:=gz) zN rfl rfl (hB5.out.alloc _) rfl rfl rfl ?_)
    exact bodyPost_ret (v:=.tuple #[.agg zN.toArray,ev E (k+1)]) (results_nd2 rfl rfl (Blk.row (hB5.out.alloc _) _) rfl rfl) rfl (.err_ HRk.out (Chg.rowX (hC.out.trans (.of_ext (Ext.new1 _ _))) _ _ (by rw [HGZ.out];exact Nat.le_refl _)) rfl HK.out)
   | ok t i1 gr1 =>
    have hb1:=(bounds_all l g).item ne ik grk t i1 gr1 HR1.out
    have HB1:=Lib.hid (show ik<i1∧i1≤l.length from ⟨hb1.1,hb1.2.1⟩)
    have HRk:=Lib.hid hR
    clear hR hb1
    go_wp2_with fail
    go_at_call 80
    refine (HI.out p ne ik grk _ HNO1.out hlt hne hgk HNow.out.ps HNow.out.en).mono ?_
    rintro e w5 hP5
    rw [HR1.out] at hP5
    obtain ⟨hC5,v,rfl,hv,hp5,h95⟩:=hP5
    obtain ⟨k,m,z,q,B,n,c',rfl⟩:=nodeV_form hv
    have hsz5:=hC5.size
    have hzl:=HNow.out.ze.lt
    have hN5:RsNow E p l ne i1 gr1 w gz w5:=⟨hp5,HNow.out.ch.trans hC5,HNow.out.en.chg HNow.out.ps hC5,HNow.out.ze.chg hC5 (by simp;have:=HPZ.out;omega)⟩
    have hRow5:=HRow.out.chg hC5 HPZ.out
    have hv5:NodeV (fun b=>gz<b∧some b ≠ u4.ownBlock) w5 t (nodeC k m z q B n c'):=hv.mono (fun b _ h=>⟨by omega,fun e=>by
     obtain ⟨⟨cs,ho,_⟩,_⟩:=HRow.out
     have:=(ho.lt b e.symm).2
     omega⟩)
    have hx6:=Ext.new1 w5 (.cells (nodeC k m z q B n c').toArray 28)
    have HN6:=Lib.hid (hN5.keep hx6)
    have HRow6:=Lib.hid (hRow5.ext hx6)
    have HV6:=Lib.hid (hv5.keep hx6)
    have HB6:=Lib.hid (NodeB.new w5 k m z q B n c')
    have H9:=Lib.hid h95
    clear hC5 hp5 hv hsz5 hzl hN5 hRow5 hv5 hx6 h95 HNow HRow
    unfold nodeC at HN6 HRow6 HV6 HB6 ⊢
    go_upto_region 8 with fail
    generalize w5.alloc (.cells #[.int .i64 k,.int .i64 m,.bool z,.int .u64 (wd q 0:Nat),.int .u64 (wd q 1:Nat),.int .u64 (wd q 2:Nat),.int .u64 (wd q 3:Nat),.slice B n c'] 28)=w6 at *
    generalize w5.heap.size=g6 at *
    obtain ⟨b0,b1,b2,b3,b4,b5,b6,b7⟩:=HB6.out.cells
    obtain ⟨⟨cs,hown,hks⟩,hgt⟩:=HRow6.out
    have HOWN:=Lib.hid (own_ext hown (Ext.new1 w6 (.cells (nodeC k m z q B n c').toArray 28)))
    have HKS:=Lib.hid (kidsV_map (fun t v h=>NodeV.keep h (Ext.new1 w6 (.cells (nodeC k m z q B n c').toArray 28))) hks)
    have HGT:=Lib.hid hgt
    have HV7:=Lib.hid (HV6.out.keep (Ext.new1 w6 (.cells (nodeC k m z q B n c').toArray 28)))
    have HN7:=Lib.hid (HN6.out.keep (Ext.new1 w6 (.cells (nodeC k m z q B n c').toArray 28)))
    have hrd:Rd (w6.alloc (.cells (nodeC k m z q B n c').toArray 28)) 8 (some ⟨w6.heap.size,0,none⟩) 1 (nodeC k m z q B n c'):=by
     have:=Blk.rd (n:=1) (size:=8) (Blk.newA (w:=w6) rfl 28 (nodeC k m z q B n c')) 0 (by simp [nodeC])
     rw [List.drop_zero,List.take_of_length_le (by simp [nodeC])] at this
     exact this
    have HRD:=Lib.hid hrd
    have HSZ:=Lib.hid (show w.heap.size≤(w6.alloc (.cells (nodeC k m z q B n c').toArray 28)).heap.size by have:=HN6.out.ch.size;simp;omega)
    have HONE:=Lib.hid (show ∀ u ∈ nodeC k m z q B n c',u.oneCell'=true by intro u hu;simp [nodeC] at hu;rcases hu with rfl | rfl | rfl | rfl | rfl | rfl | rfl | rfl <;> rfl)
    have H63:=Lib.hid (show (acc.length+1)*80≤140737488355328 by omega)
    have H64:=Lib.hid (show acc.length+1≤maxLen by unfold maxLen;omega)
    have HZL:=Lib.hid HN7.out.ze.lt
    clear hown hks hgt hrd
    unfold nodeC at HOWN HKS HV7 HN7 HRD HSZ HZL
    go_wp2_with (first
     | (have:=hx9;exact absurd rfl (by assumption))
     | (have:=hat8;go_at_call 71;refine (rxPeek HB1.out.2 _ (HN7.out.grew hgr8 HGT.out HPZ.out HE.out HP.out).ps).mono ?_;rintro e w9 ⟨rfl,hx9⟩)
     | (refine wpList_app2 elemNd rfl (.tmp 31) (.tmp 33) rfl (v:=u4) (n:=acc.length) (xs:=cs) rfl HOWN.out HSZ.out (A:=some ⟨w6.heap.size,0,none⟩) (m:=1) (c:=1) (news:=nodeC k m z q B n c') rfl HRD.out HONE.out H63.out H64.out ?_;intro v8 w8 hown8 hgr8 _ hat8))
    go_roundg g
    case measure=>omega
    case rel=>exact ⟨i1,gr1,acc ++ [t],HRk.out,rfl,HB1.out.2,H9.out,by have:=HB1.out;simp;omega,(Row.app HOWN.out HKS.out HGT.out HV7.out hown8 hgr8 hat8 HZL.out).ext hx9,(HN7.out.grew hgr8 HGT.out HPZ.out HE.out HP.out).keep hx9,by have:=HGF.out;omega⟩
  ·have hRk:R=.ok (mkCat acc) ik grk:=by
    rw [← hR]
    cases hc:l[ik]? with
    | none=>rfl
    | some c =>
     dsimp only
     rw [if_pos]
     by_cases h:c=124∨c=41
     ·exact h
     ·exact absurd ⟨c,hc,h⟩ hcont
   have HRk:=Lib.hid (show itemsP l f ne i gr []=.ok (mkCat acc) ik grk by rw [HRR.out,hRk])
   have HCO:=Lib.hid hcont
   obtain ⟨⟨cs,hown,hks⟩,hgt⟩:=HRow.out
   obtain ⟨A,cp,hu4,hcp,hcm,hrd⟩:=own_rd hown
   subst hu4
   have HRD:=Lib.hid hrd
   have HKS:=Lib.hid hks
   have HGT:=Lib.hid hgt
   have hge:=Lib.hid (show ∀ b,(Value.slice A acc.length cp).ownBlock=some b→w.heap.size≤b from fun b hb=>(hown.lt b hb).1)
   clear hR hRk hcont hown hks hgt hrd
   go_upto_region 3 with fail
   go_cut [5,19] (fun _ v wx=>v=.bool false∧wx=wr)
   case first =>
    cases hc:l[ik]? with
    | none =>
     have HP0:=Lib.hid (pk_none hc)
     clear hc
     rw [HP0.out]
     go_wp2_with fail
     go_meet
     exact ⟨rfl,rfl⟩
    | some c =>
     have hor:c=124∨c=41:=by
      by_cases h:c=124∨c=41
      ·exact h
      ·exact absurd ⟨c,hc,h⟩ HCO.out
     have HP0:=Lib.hid (pk_some hc)
     clear hc
     rw [HP0.out]
     rcases hor with rfl | rfl
     ·go_wp2_with fail
      go_meet
      exact ⟨rfl,rfl⟩
     ·go_wp2_with fail
      go_meet
      exact ⟨rfl,rfl⟩
   case rest =>
    obtain ⟨rfl,hwc⟩:=hcut
    obtain rfl:wr=wc:=hwc.symm
    have HC:=Lib.hid HNow.out.ch
    have hpz:=Lib.hid (show p ≠ gz by have:=HPZ.out;omega)
    rcases acc with _ | ⟨t1,_ | ⟨t2,r⟩⟩
    ·go_wp2_with (refine store_nd rfl (.tmp 2) (.tmp 39) rfl (g:=gz) [.int .i64 1,.int .i64 0,.bool false,.int .u64 0,.int .u64 0,.int .u64 0,.int .u64 0,.slice none 0 0] rfl rfl HNow.out.ze rfl rfl rfl ?_)
     refine bodyPost_ret (v:=.tuple #[.agg ([.int .i64 1,.int .i64 0,.bool false,.int .u64 0,.int .u64 0,.int .u64 0,.int .u64 0,.slice none 0 0]:List Value).toArray,.nilIface]) (results_nd2 rfl rfl (Blk.row HNow.out.ze _) rfl rfl) rfl (.ok_ HRk.out (Chg.rowX HC.out _ _ (by rw [HGZ.out];exact Nat.le_refl _)) rfl ?_ (HNow.out.ps.rowFar _ hpz.out) hgk)
     show NodeV _ _ (.node 1 0 false noP []) _
     unfold NodeV
     exact ⟨none,0,[],(node0 _ _ _ _ _ _).symm,Nat.le_refl _,by unfold maxLen;omega,Rd.nil,fun _ _ _ e=>by (cases e),by unfold KidsV;rfl⟩
    ·obtain ⟨b,o,k',m',z',p',B,n',c',rfl,hv,hk⟩:=kid_at HRD.out HKS.out (i:=0) (by simp)
     obtain ⟨c0,c1,c2,c3,c4,c5,c6,c7⟩:=hk.out _ (Ext.refl _)
     simp only [Nat.zero_mul,Nat.add_zero] at c0 c1 c2 c3 c4 c5 c6 c7
     have HV:=Lib.hid (show NodeV _ wr t1 _ from hv)
     clear hv hk
     go_wp2_with (refine store_nd rfl (.tmp 2) (.tmp 44) rfl (g:=gz) (nodeC k' m' z' p' B n' c') rfl rfl HNow.out.ze rfl rfl rfl ?_)
     exact bodyPost_ret (v:=.tuple #[.agg (nodeC k' m' z' p' B n' c').toArray,.nilIface]) (results_nd2 rfl rfl (Blk.row HNow.out.ze _) rfl rfl) rfl (.ok_ HRk.out (Chg.rowX HC.out _ _ (by rw [HGZ.out];exact Nat.le_refl _)) rfl ((HV.out.chg (rowChg _ _ _ (List.mem_singleton.2 rfl)) (by intro y hy;simp at hy;omega)).mono (fun b _ h=>by rw [HGZ.out];omega)) (HNow.out.ps.rowFar _ hpz.out) hgk)
    ·have hn0:((r.length:Int)+1+1 == 0)=false:=by rw [beq_eq_false_iff_ne];omega
     have hn1:((r.length:Int)+1+1 == 1)=false:=by rw [beq_eq_false_iff_ne];omega
     go_wp2_with (refine store_nd rfl (.tmp 2) (.tmp 46) rfl (g:=gz) [.int .i64 3,.int .i64 0,.bool false,.int .u64 0,.int .u64 0,.int .u64 0,.int .u64 0,.slice A (r.length+1+1) cp] rfl rfl HNow.out.ze rfl rfl rfl ?_)
     refine bodyPost_ret (v:=.tuple #[.agg ([.int .i64 3,.int .i64 0,.bool false,.int .u64 0,.int .u64 0,.int .u64 0,.int .u64 0,.slice A (r.length+1+1) cp]:List Value).toArray,.nilIface]) (results_nd2 rfl rfl (Blk.row HNow.out.ze _) rfl rfl) rfl (.ok_ HRk.out (Chg.rowX HC.out _ _ (by rw [HGZ.out];exact Nat.le_refl _)) rfl ?_ (HNow.out.ps.rowFar _ hpz.out) hgk)
     have hbase:NodeV (fun b=>gz<b) wr (.node 3 0 false noP (t1 :: t2 :: r)) [.int .i64 3,.int .i64 0,.bool false,.int .u64 0,.int .u64 0,.int .u64 0,.int .u64 0,.slice A (r.length+1+1) cp]:=by
      unfold NodeV
      exact ⟨A,cp,cs,(node0 _ _ _ _ _ _).symm,hcp,hcm,HRD.out,fun b o x e _=>HGT.out b (by rw [e];cases x <;> first | rfl | (exfalso;obtain ⟨b',o',e',_⟩:=HRD.out.2 (by rw [HRD.out.1];simp;omega);rw [e] at e';cases e')),kidsV_map (fun t v h=>NodeV.mono h (fun _ _ h=>h.1)) HKS.out⟩
     exact (hbase.chg (rowChg _ _ _ (List.mem_singleton.2 rfl)) (by intro y hy;simp at hy;omega)).mono (fun b _ h=>by rw [HGZ.out];omega)
end Go.Proofs.YtigmdlchbjanoaaGreatDoor
namespace Go.Proofs.YtigmdlchbjanoaaGreatDoor
open Go Go.RowKit
attribute [local irreducible] wd
def AltsOK (E:Nat→Addr) (l:List UInt8) (f:Nat):Prop:=
 ∀ (p ne i gr:Nat) (w:World),altsP l f ne i gr [] ≠ .out→i≤l.length→ne≤8→gr≤9→PS w p l i ne gr→Env E w→Calls Tryz.prog 45 #[.pointer (some ⟨p,0,none⟩)] w fun e w'=>PRes E p l ne w (altsP l f ne i gr []) e w'
def pAt (w:World) (p:Nat):Nat:=(intOf ((w.cell? ⟨p,1,none⟩).getD undef)).toNat
theorem PS.pAt {w:World} {p:Nat} {l:List UInt8} {i ne gr:Nat} (h:PS w p l i ne gr):pAt w p=i:=by
 unfold Go.Proofs.YtigmdlchbjanoaaGreatDoor.pAt
 rw [h.cells.2.1]
 simp [intOf]
theorem RsNow.at_ {E:Nat→Addr} {p:Nat} {l:List UInt8} {ne i gr:Nat} {w0:World} {gz:Nat} {w:World} (h:RsNow E p l ne i gr w0 gz w) (hpz:p<gz) {x:Int} {i':Nat} (hx:x=(i':Nat)):RsNow E p l ne i' gr w0 gz (w.setCell ⟨p,1,none⟩ (.int .i64 x)):=
 ⟨h.ps.at_ hx,h.ch.setCell (by simp) _,h.en.chg h.ps ((Chg.refl _ _).setCell (by simp) _),Blk.far h.ze (by simp;omega) _⟩
theorem Row.at_ {w0 w:World} {gz p:Nat} {kv:Value} {acc:List T} (h:Row w0 gz kv acc w) (hp:p<gz) (u:Value):Row w0 gz kv acc (w.setCell ⟨p,1,none⟩ u):=h.chg ((Chg.refl [p] _).setCell (by simp) _) hp
def AltJ (E:Nat→Addr) (p:Nat) (l:List UInt8) (ne:Nat) (w0:World) (gz f:Nat) (R:PR) (a:Act) (w:World):Prop:=
 ∃ (u3 u5 u6 u7 u8 u9 u10 u11 u12 u13 u14 u15 u16 u17 u18 u19 u20 u21 u22 u23 u24 u25 u26 u27 u28 u29 u30 u31 u32 u33 u34 u35 u36 u37 kv:Value) (ik grk g:Nat) (acc:List T),a=⟨#[.pointer (some ⟨p,0,none⟩),undef,.pointer (some ⟨gz,0,none⟩),u3,kv,u5,u6,u7,u8,u9,u10,u11,u12,u13,u14,u15,u16,u17,u18,u19,u20,u21,u22,u23,u24,u25,u26,u27,u28,u29,u30,u31,u32,u33,u34,u35,u36,u37],[]⟩∧altsP l g ne ik grk acc=R∧ik≤l.length∧grk≤9∧acc.length≤ik∧Row w0 gz kv acc w∧RsNow E p l ne ik grk w0 gz w∧g≤f
set_option maxHeartbeats 8000000 in
set_option maxRecDepth 20000 in
theorem rxAlts (E:Nat→Addr) (l:List UInt8) (hl:l.length≤10000) (f:Nat) (hI:∀ f' < f,ItemsOK E l f'):AltsOK E l f:=by
 intro p ne i gr w hno hi hne hgr hP hE
 have hpl:=hP.lt
 obtain ⟨gz,hgz⟩:∃ gz,w.heap.size=gz:=⟨_,rfl⟩
 have hN0:=Lib.hid (Blk.newA (w:=w) hgz 28 zN)
 have hx0:=Lib.hid (Ext.new1 w (.cells zN.toArray 28))
 have HP:=Lib.hid hP
 have HE:=Lib.hid hE
 have HPZ:=Lib.hid (show p<gz by omega)
 have HGZ:=Lib.hid hgz
 have HI:=Lib.hid hI
 obtain ⟨R,hR⟩:∃ R,altsP l f ne i gr []=R:=⟨_,rfl⟩
 have HRR:=Lib.hid hR
 have HNO:=Lib.hid (show R ≠ .out by rw [← hR];exact hno)
 have HN:=Lib.hid (show RsNow E p l ne i gr w gz (w.alloc (.cells zN.toArray 28)) from ⟨hP.keep hx0.out,.of_ext hx0.out,hE.keep hx0.out,hN0.out⟩)
 clear hP hE hno hI hN0
 unfold zN at HN
 go_enter Tryz.func45,Tryz.ntmps45
 go_wp2_with fail
 refine wp_scope_jumps 0 (AltJ E p l ne w gz f R) (fun _ w=>l.length+1-pAt w p) rfl ?_ ?_
 focus
  go_upto_region 2 with fail
  generalize w.alloc (.cells #[.int .i64 0,.int .i64 0,.bool false,.int .u64 0,.int .u64 0,.int .u64 0,.int .u64 0,.slice none 0 0] 28)=wr at *
  go_step3
  have hRk:=HRR.out
  have hik:=hi
  have hgk:=hgr
  have hal:([]:List T).length≤i:=Nat.zero_le _
  have hRow:Row w gz (.slice none 0 0) [] wr:=Row.nil
  have hNow:=HN.out
  clear hR hgz hx0
  rcases f with _ | g
  ·exact absurd (by rw [← hRk];unfold altsP;rfl) HNO.out
  have HGF:=Lib.hid (Nat.lt_succ_self g)
  obtain ⟨r1,hr1⟩:∃ r1,itemsP l g ne i gr []=r1:=⟨_,rfl⟩
  rw [altsP,hr1] at hRk
  have hno1:itemsP l g ne i gr [] ≠ .out:=fun e=>HNO.out (by rw [← hRk,← hr1,e])
  have HNO1:=Lib.hid hno1
  have HR1:=Lib.hid hr1
  have HRow:=Lib.hid hRow
  have HNow:=Lib.hid hNow
  have HB:=Lib.hid (show i≤l.length∧gr≤9∧(([]:List T)).length≤i from ⟨hik,hgk,hal⟩)
  clear hr1 hno1 hRow hNow
  cases r1 with
  | out=>exact absurd HR1.out HNO1.out
  | err k =>
   have HRk:=Lib.hid (show altsP l (g+1) ne i gr []=.err k by rw [HRR.out,← hRk])
   clear hRk
   go_wp2_with fail
   go_at_call 70
   refine (HI.out g HGF.out p ne i gr _ HNO1.out HB.out.1 hne HB.out.2.1 HNow.out.ps HNow.out.en).mono ?_
   rintro e w5 hP5
   rw [HR1.out] at hP5
   obtain ⟨hC5,rfl,hk⟩:=hP5
   obtain ⟨k,rfl⟩:∃ k',k=k' + 1:=⟨k-1,by omega⟩
   have hB5:=Lib.hid (HNow.out.ze.chg hC5 (by simp;have:=HPZ.out;omega))
   have hC:=Lib.hid (HNow.out.ch.trans hC5)
   have hn:=fun w=>run_eql_iface_nil (P:=Tryz.prog) (w:=w) 30 (by kernel_rfl) 151 (.pointer (some (E k)))
   have HK:=Lib.hid hk
   clear hk hC5
   unfold ev errV zN
   go_wp2_with (refine store_nd rfl (.tmp 2) (.tmp 14) rfl (g:=gz) zN rfl rfl (hB5.out.alloc _) rfl rfl rfl ?_)
   exact bodyPost_ret (v:=.tuple #[.agg zN.toArray,ev E (k+1)]) (results_nd2 rfl rfl (Blk.row (hB5.out.alloc _) _) rfl rfl) rfl (.err_ HRk.out (Chg.rowX (hC.out.trans (.of_ext (Ext.new1 _ _))) _ _ (by rw [HGZ.out];exact Nat.le_refl _)) rfl HK.out)
  | ok t i1 gr1 =>
   dsimp only at hRk
   have hb1:=(bounds_all l g).items ne i gr [] t i1 gr1 HR1.out HB.out.1
   have HB1:=Lib.hid (show i≤i1∧i1≤l.length from ⟨hb1.1,hb1.2.1⟩)
   have HRk:=Lib.hid hRk
   clear hRk hb1
   go_wp2_with fail
   go_at_call 70
   refine (HI.out g HGF.out p ne i gr _ HNO1.out HB.out.1 hne HB.out.2.1 HNow.out.ps HNow.out.en).mono ?_
   rintro e w5 hP5
   rw [HR1.out] at hP5
   obtain ⟨hC5,v,rfl,hv,hp5,h95⟩:=hP5
   obtain ⟨k,m,z,q,B,n,c',rfl⟩:=nodeV_form hv
   have hsz5:=hC5.size
   have hzl:=HNow.out.ze.lt
   have hN5:RsNow E p l ne i1 gr1 w gz w5:=⟨hp5,HNow.out.ch.trans hC5,HNow.out.en.chg HNow.out.ps hC5,HNow.out.ze.chg hC5 (by simp;have:=HPZ.out;omega)⟩
   have hRow5:=HRow.out.chg hC5 HPZ.out
   have hv5:NodeV (fun b=>gz<b∧some b ≠ ((.slice none 0 0):Value).ownBlock) w5 t (nodeC k m z q B n c'):=hv.mono (fun b _ h=>⟨by omega,fun e=>by obtain ⟨⟨cs,ho,_⟩,_⟩:=HRow.out;have:=(ho.lt b e.symm).2;omega⟩)
   have hx6:=Ext.new1 w5 (.cells (nodeC k m z q B n c').toArray 28)
   have HN6:=Lib.hid (hN5.keep hx6)
   have HRow6:=Lib.hid (hRow5.ext hx6)
   have HV6:=Lib.hid (hv5.keep hx6)
   have HB6:=Lib.hid (NodeB.new w5 k m z q B n c')
   have H9:=Lib.hid h95
   clear hC5 hp5 hv hsz5 hzl hN5 hRow5 hv5 hx6 h95 HNow HRow
   unfold nodeC at HN6 HRow6 HV6 HB6 ⊢
   go_upto_region 5 with fail
   generalize w5.alloc (.cells #[.int .i64 k,.int .i64 m,.bool z,.int .u64 (wd q 0:Nat),.int .u64 (wd q 1:Nat),.int .u64 (wd q 2:Nat),.int .u64 (wd q 3:Nat),.slice B n c'] 28)=w6 at *
   generalize w5.heap.size=g6 at *
   obtain ⟨b0,b1,b2,b3,b4,b5,b6,b7⟩:=HB6.out.cells
   obtain ⟨⟨cs,hown,hks⟩,hgt⟩:=HRow6.out
   have HOWN:=Lib.hid (own_ext hown (Ext.new1 w6 (.cells (nodeC k m z q B n c').toArray 28)))
   have HKS:=Lib.hid (kidsV_map (fun t v h=>NodeV.keep h (Ext.new1 w6 (.cells (nodeC k m z q B n c').toArray 28))) hks)
   have HGT:=Lib.hid hgt
   have HV7:=Lib.hid (HV6.out.keep (Ext.new1 w6 (.cells (nodeC k m z q B n c').toArray 28)))
   have HN7:=Lib.hid (HN6.out.keep (Ext.new1 w6 (.cells (nodeC k m z q B n c').toArray 28)))
   have hrd:Rd (w6.alloc (.cells (nodeC k m z q B n c').toArray 28)) 8 (some ⟨w6.heap.size,0,none⟩) 1 (nodeC k m z q B n c'):=by have:=Blk.rd (n:=1) (size:=8) (Blk.newA (w:=w6) rfl 28 (nodeC k m z q B n c')) 0 (by simp [nodeC]);rw [List.drop_zero,List.take_of_length_le (by simp [nodeC])] at this;exact this
   have HRD:=Lib.hid hrd
   have HSZ:=Lib.hid (show w.heap.size≤(w6.alloc (.cells (nodeC k m z q B n c').toArray 28)).heap.size by have:=HN6.out.ch.size;simp;omega)
   have HONE:=Lib.hid (show ∀ u ∈ nodeC k m z q B n c',u.oneCell'=true by intro u hu;simp [nodeC] at hu;rcases hu with rfl | rfl | rfl | rfl | rfl | rfl | rfl | rfl <;> rfl)
   have HLA:=Lib.hid (show (([]:List T)).length≤10000 by have:=HB.out;omega)
   have H63:=Lib.hid (show ((([]:List T)).length+1)*80≤140737488355328 by have:=HLA.out;omega)
   have H64:=Lib.hid (show (([]:List T)).length+1≤maxLen by have:=HLA.out;unfold maxLen;omega)
   have HZL:=Lib.hid HN7.out.ze.lt
   clear hown hks hgt hrd
   unfold nodeC at HOWN HKS HV7 HN7 HRD HSZ HZL
   obtain ⟨pv,hpv⟩:∃ pv,pkV l i1=pv:=⟨_,rfl⟩
   have HPV:=Lib.hid hpv
   clear hpv
   go_upto_if 22 with (first | (have:=hat8;go_at_call 71;refine (rxPeek HB1.out.2 _ (HN7.out.grew hgr8 HGT.out HPZ.out HE.out HP.out).ps).mono ?_;rintro e w9 ⟨rfl,hx9⟩;rw [HPV.out]) | (refine wpList_app2 elemNd rfl (.tmp 16) (.tmp 18) rfl (v:=(.slice none 0 0)) (n:=(([]:List T)).length) (xs:=cs) rfl HOWN.out HSZ.out (A:=some ⟨w6.heap.size,0,none⟩) (m:=1) (c:=1) (news:=nodeC k m z q B n c') rfl HRD.out HONE.out H63.out H64.out ?_;intro v8 w8 hown8 hgr8 _ hat8))
   have HRow9:=Lib.hid ((Row.app HOWN.out HKS.out HGT.out HV7.out hown8 hgr8 hat8 HZL.out).ext hx9)
   have HN9:=Lib.hid ((HN7.out.grew hgr8 HGT.out HPZ.out HE.out HP.out).keep hx9)
   clear hown8 hgr8 hat8 hx9 HOWN HKS HGT HV7 HN7 HRD HSZ HZL HRow6 HV6 HB6 HN6 b0 b1 b2 b3 b4 b5 b6 b7 HONE
   generalize w9=wk at *
   by_cases hb:l[i1]?=some 124
   ·have hpe:pv=124:=by rw [← HPV.out];exact pk_is 124 hb 124 rfl
    have hpb:(pv == 124)=true:=by rw [hpe];rfl
    have hlt:=(List.getElem?_eq_some_iff.1 hb).1
    have hR2:=HRk.out
    rw [if_pos hb] at hR2
    have HR2:=Lib.hid hR2
    have hw1:IntKind.i64.wrap ((i1:Int)+1)=(i1:Int)+1:=wrap_id (by omega) (by omega)
    obtain ⟨p0,p1,p2,p3⟩:=HN9.out.ps.cells
    have f1:=HN9.out.ps.frozen 1
    clear hpe hR2 hb
    go_wp2_with fail
    go_step3
    exact ⟨rfl,⟨_,_,_,_,_,_,_,_,_,_,_,_,_,_,_,_,_,_,_,_,_,_,_,_,_,_,_,_,_,_,_,_,_,_,v8,i1+1,gr1,g,_,rfl,HR2.out,hlt,H9.out,by have:=HB.out;have:=HB1.out;simp only [List.length_append,List.length_singleton,List.length_nil];omega,HRow9.out.at_ HPZ.out _,HN9.out.at_ HPZ.out (by omega),Nat.le_of_lt HGF.out⟩⟩
   ·have hpn:=pk_not (i:=i1) 124 hb
    rw [HPV.out] at hpn
    have hpb:(pv == 124)=false:=hpn
    have hR2:=HRk.out
    rw [if_neg hb] at hR2
    obtain ⟨L,hL⟩:∃ L,([]:List T) ++ [t]=L:=⟨_,rfl⟩
    rw [hL] at hR2
    have HRf:=Lib.hid (show altsP l (g+1) ne i gr []=.ok (mkAlt L) i1 gr1 by rw [HRR.out,← hR2])
    have HRowL:=Lib.hid (show Row w gz v8 L wk from hL ▸ HRow9.out)
    have HLN:=Lib.hid (show L.length ≠ 0 by rw [← hL];simp)
    clear hpn hR2 hL hb
    obtain ⟨⟨cs2,hown,hks⟩,hgt⟩:=HRowL.out
    obtain ⟨A,cp,hu4,hcp,hcm,hrd⟩:=own_rd hown
    subst hu4
    have HRD:=Lib.hid hrd
    have HKS:=Lib.hid hks
    have HGT:=Lib.hid hgt
    clear hown hks hgt hrd
    have HC:=Lib.hid HN9.out.ch
    have hpz:=Lib.hid (show p ≠ gz by have:=HPZ.out;omega)
    rcases L with _ | ⟨t1,_ | ⟨t2,r⟩⟩
    ·exact absurd rfl HLN.out
    ·obtain ⟨b,o,k',m',z',p',B',n',c'',rfl,hv,hk⟩:=kid_at HRD.out HKS.out (i:=0) (by simp)
     obtain ⟨c0,c1,c2,c3,c4,c5,c6,c7⟩:=hk.out _ (Ext.refl _)
     simp only [Nat.zero_mul,Nat.add_zero] at c0 c1 c2 c3 c4 c5 c6 c7
     have HV:=Lib.hid (show NodeV _ wk t1 _ from hv)
     clear hv hk
     go_wp2_with (refine store_nd rfl (.tmp 2) (.tmp 35) rfl (g:=gz) (nodeC k' m' z' p' B' n' c'') rfl rfl HN9.out.ze rfl rfl rfl ?_)
     exact bodyPost_ret (v:=.tuple #[.agg (nodeC k' m' z' p' B' n' c'').toArray,.nilIface]) (results_nd2 rfl rfl (Blk.row HN9.out.ze _) rfl rfl) rfl (.ok_ HRf.out (Chg.rowX HC.out _ _ (by rw [HGZ.out];exact Nat.le_refl _)) rfl ((HV.out.chg (rowChg _ _ _ (List.mem_singleton.2 rfl)) (by intro y hy;simp at hy;omega)).mono (fun b _ h=>by rw [HGZ.out];omega)) (HN9.out.ps.rowFar _ hpz.out) H9.out)
    ·have hn1:((r.length:Int)+1+1 == 1)=false:=by rw [beq_eq_false_iff_ne];omega
     go_wp2_with (refine store_nd rfl (.tmp 2) (.tmp 37) rfl (g:=gz) [.int .i64 4,.int .i64 0,.bool false,.int .u64 0,.int .u64 0,.int .u64 0,.int .u64 0,.slice A (r.length+1+1) cp] rfl rfl HN9.out.ze rfl rfl rfl ?_)
     refine bodyPost_ret (v:=.tuple #[.agg ([.int .i64 4,.int .i64 0,.bool false,.int .u64 0,.int .u64 0,.int .u64 0,.int .u64 0,.slice A (r.length+1+1) cp]:List Value).toArray,.nilIface]) (results_nd2 rfl rfl (Blk.row HN9.out.ze _) rfl rfl) rfl (.ok_ HRf.out (Chg.rowX HC.out _ _ (by rw [HGZ.out];exact Nat.le_refl _)) rfl ?_ (HN9.out.ps.rowFar _ hpz.out) H9.out)
     have hbase:NodeV (fun b=>gz<b) wk (.node 4 0 false noP (t1 :: t2 :: r)) [.int .i64 4,.int .i64 0,.bool false,.int .u64 0,.int .u64 0,.int .u64 0,.int .u64 0,.slice A (r.length+1+1) cp]:=by
      unfold NodeV
      exact ⟨A,cp,cs2,(node0 _ _ _ _ _ _).symm,hcp,hcm,HRD.out,fun b o x e _=>HGT.out b (by rw [e];cases x <;> first | rfl | (exfalso;obtain ⟨b',o',e',_⟩:=HRD.out.2 (by rw [HRD.out.1];simp;omega);rw [e] at e';cases e')),kidsV_map (fun t v h=>NodeV.mono h (fun _ _ h=>h.1)) HKS.out⟩
     exact (hbase.chg (rowChg _ _ _ (List.mem_singleton.2 rfl)) (by intro y hy;simp at hy;omega)).mono (fun b _ h=>by rw [HGZ.out];omega)
 intro a wr hJ
 obtain ⟨u3,u5,u6,u7,u8,u9,u10,u11,u12,u13,u14,u15,u16,u17,u18,u19,u20,u21,u22,u23,u24,u25,u26,u27,u28,u29,u30,u31,u32,u33,u34,u35,u36,u37,kv,ik,grk,g,acc,rfl,hRk,hik,hgk,hal,hRow,hNow,hgf⟩:=hJ
 dsimp only
 have HMU:=Lib.hid hNow.ps.pAt
 clear hR hgz hx0 HN
 rcases g with _ | g
 ·exact absurd (by rw [← hRk];unfold altsP;rfl) HNO.out
 have HGF:=Lib.hid (show g<f from hgf)
 clear hgf
 obtain ⟨r1,hr1⟩:∃ r1,itemsP l g ne ik grk []=r1:=⟨_,rfl⟩
 rw [altsP,hr1] at hRk
 have hno1:itemsP l g ne ik grk [] ≠ .out:=fun e=>HNO.out (by rw [← hRk,← hr1,e])
 have HNO1:=Lib.hid hno1
 have HR1:=Lib.hid hr1
 have HRow:=Lib.hid hRow
 have HNow:=Lib.hid hNow
 have HB:=Lib.hid (show ik≤l.length∧grk≤9∧(acc).length≤ik from ⟨hik,hgk,hal⟩)
 clear hr1 hno1 hRow hNow
 cases r1 with
 | out=>exact absurd HR1.out HNO1.out
 | err k =>
  have HRk:=Lib.hid (show altsP l f ne i gr []=.err k by rw [HRR.out,← hRk])
  clear hRk
  go_wp2_with fail
  go_at_call 70
  refine (HI.out g HGF.out p ne ik grk _ HNO1.out HB.out.1 hne HB.out.2.1 HNow.out.ps HNow.out.en).mono ?_
  rintro e w5 hP5
  rw [HR1.out] at hP5
  obtain ⟨hC5,rfl,hk⟩:=hP5
  obtain ⟨k,rfl⟩:∃ k',k=k' + 1:=⟨k-1,by omega⟩
  have hB5:=Lib.hid (HNow.out.ze.chg hC5 (by simp;have:=HPZ.out;omega))
  have hC:=Lib.hid (HNow.out.ch.trans hC5)
  have hn:=fun w=>run_eql_iface_nil (P:=Tryz.prog) (w:=w) 30 (by kernel_rfl) 151 (.pointer (some (E k)))
  have HK:=Lib.hid hk
  clear hk hC5
  unfold ev errV zN
  go_wp2_with (refine store_nd rfl (.tmp 2) (.tmp 14) rfl (g:=gz) zN rfl rfl (hB5.out.alloc _) rfl rfl rfl ?_)
  exact bodyPost_ret (v:=.tuple #[.agg zN.toArray,ev E (k+1)]) (results_nd2 rfl rfl (Blk.row (hB5.out.alloc _) _) rfl rfl) rfl (.err_ HRk.out (Chg.rowX (hC.out.trans (.of_ext (Ext.new1 _ _))) _ _ (by rw [HGZ.out];exact Nat.le_refl _)) rfl HK.out)
 | ok t i1 gr1 =>
  dsimp only at hRk
  have hb1:=(bounds_all l g).items ne ik grk [] t i1 gr1 HR1.out HB.out.1
  have HB1:=Lib.hid (show ik≤i1∧i1≤l.length from ⟨hb1.1,hb1.2.1⟩)
  have HRk:=Lib.hid hRk
  clear hRk hb1
  go_wp2_with fail
  go_at_call 70
  refine (HI.out g HGF.out p ne ik grk _ HNO1.out HB.out.1 hne HB.out.2.1 HNow.out.ps HNow.out.en).mono ?_
  rintro e w5 hP5
  rw [HR1.out] at hP5
  obtain ⟨hC5,v,rfl,hv,hp5,h95⟩:=hP5
  obtain ⟨k,m,z,q,B,n,c',rfl⟩:=nodeV_form hv
  have hsz5:=hC5.size
  have hzl:=HNow.out.ze.lt
  have hN5:RsNow E p l ne i1 gr1 w gz w5:=⟨hp5,HNow.out.ch.trans hC5,HNow.out.en.chg HNow.out.ps hC5,HNow.out.ze.chg hC5 (by simp;have:=HPZ.out;omega)⟩
  have hRow5:=HRow.out.chg hC5 HPZ.out
  have hv5:NodeV (fun b=>gz<b∧some b ≠ (kv:Value).ownBlock) w5 t (nodeC k m z q B n c'):=hv.mono (fun b _ h=>⟨by omega,fun e=>by obtain ⟨⟨cs,ho,_⟩,_⟩:=HRow.out;have:=(ho.lt b e.symm).2;omega⟩)
  have hx6:=Ext.new1 w5 (.cells (nodeC k m z q B n c').toArray 28)
  have HN6:=Lib.hid (hN5.keep hx6)
  have HRow6:=Lib.hid (hRow5.ext hx6)
  have HV6:=Lib.hid (hv5.keep hx6)
  have HB6:=Lib.hid (NodeB.new w5 k m z q B n c')
  have H9:=Lib.hid h95
  clear hC5 hp5 hv hsz5 hzl hN5 hRow5 hv5 hx6 h95 HNow HRow
  unfold nodeC at HN6 HRow6 HV6 HB6 ⊢
  go_upto_region 5 with fail
  generalize w5.alloc (.cells #[.int .i64 k,.int .i64 m,.bool z,.int .u64 (wd q 0:Nat),.int .u64 (wd q 1:Nat),.int .u64 (wd q 2:Nat),.int .u64 (wd q 3:Nat),.slice B n c'] 28)=w6 at *
  generalize w5.heap.size=g6 at *
  obtain ⟨b0,b1,b2,b3,b4,b5,b6,b7⟩:=HB6.out.cells
  obtain ⟨⟨cs,hown,hks⟩,hgt⟩:=HRow6.out
  have HOWN:=Lib.hid (own_ext hown (Ext.new1 w6 (.cells (nodeC k m z q B n c').toArray 28)))
  have HKS:=Lib.hid (kidsV_map (fun t v h=>NodeV.keep h (Ext.new1 w6 (.cells (nodeC k m z q B n c').toArray 28))) hks)
  have HGT:=Lib.hid hgt
  have HV7:=Lib.hid (HV6.out.keep (Ext.new1 w6 (.cells (nodeC k m z q B n c').toArray 28)))
  have HN7:=Lib.hid (HN6.out.keep (Ext.new1 w6 (.cells (nodeC k m z q B n c').toArray 28)))
  have hrd:Rd (w6.alloc (.cells (nodeC k m z q B n c').toArray 28)) 8 (some ⟨w6.heap.size,0,none⟩) 1 (nodeC k m z q B n c'):=by have:=Blk.rd (n:=1) (size:=8) (Blk.newA (w:=w6) rfl 28 (nodeC k m z q B n c')) 0 (by simp [nodeC]);rw [List.drop_zero,List.take_of_length_le (by simp [nodeC])] at this;exact this
  have HRD:=Lib.hid hrd
  have HSZ:=Lib.hid (show w.heap.size≤(w6.alloc (.cells (nodeC k m z q B n c').toArray 28)).heap.size by have:=HN6.out.ch.size;simp;omega)
  have HONE:=Lib.hid (show ∀ u ∈ nodeC k m z q B n c',u.oneCell'=true by intro u hu;simp [nodeC] at hu;rcases hu with rfl | rfl | rfl | rfl | rfl | rfl | rfl | rfl <;> rfl)
  have HLA:=Lib.hid (show (acc).length≤10000 by have:=HB.out;omega)
  have H63:=Lib.hid (show ((acc).length+1)*80≤140737488355328 by have:=HLA.out;omega)
  have H64:=Lib.hid (show (acc).length+1≤maxLen by have:=HLA.out;unfold maxLen;omega)
  have HZL:=Lib.hid HN7.out.ze.lt
  clear hown hks hgt hrd
  unfold nodeC at HOWN HKS HV7 HN7 HRD HSZ HZL
  obtain ⟨pv,hpv⟩:∃ pv,pkV l i1=pv:=⟨_,rfl⟩
  have HPV:=Lib.hid hpv
  clear hpv
  go_upto_if 22 with (first | (have:=hat8;go_at_call 71;refine (rxPeek HB1.out.2 _ (HN7.out.grew hgr8 HGT.out HPZ.out HE.out HP.out).ps).mono ?_;rintro e w9 ⟨rfl,hx9⟩;rw [HPV.out]) | (refine wpList_app2 elemNd rfl (.tmp 16) (.tmp 18) rfl (v:=kv) (n:=(acc).length) (xs:=cs) rfl HOWN.out HSZ.out (A:=some ⟨w6.heap.size,0,none⟩) (m:=1) (c:=1) (news:=nodeC k m z q B n c') rfl HRD.out HONE.out H63.out H64.out ?_;intro v8 w8 hown8 hgr8 _ hat8))
  have HRow9:=Lib.hid ((Row.app HOWN.out HKS.out HGT.out HV7.out hown8 hgr8 hat8 HZL.out).ext hx9)
  have HN9:=Lib.hid ((HN7.out.grew hgr8 HGT.out HPZ.out HE.out HP.out).keep hx9)
  clear hown8 hgr8 hat8 hx9 HOWN HKS HGT HV7 HN7 HRD HSZ HZL HRow6 HV6 HB6 HN6 b0 b1 b2 b3 b4 b5 b6 b7 HONE
  generalize w9=wk at *
  by_cases hb:l[i1]?=some 124
  ·have hpe:pv=124:=by rw [← HPV.out];exact pk_is 124 hb 124 rfl
   have hpb:(pv == 124)=true:=by rw [hpe];rfl
   have hlt:=(List.getElem?_eq_some_iff.1 hb).1
   have hR2:=HRk.out
   rw [if_pos hb] at hR2
   have HR2:=Lib.hid hR2
   have hw1:IntKind.i64.wrap ((i1:Int)+1)=(i1:Int)+1:=wrap_id (by omega) (by omega)
   obtain ⟨p0,p1,p2,p3⟩:=HN9.out.ps.cells
   have f1:=HN9.out.ps.frozen 1
   clear hpe hR2 hb
   go_wp2_with fail
   go_step3
   exact ⟨rfl,⟨_,_,_,_,_,_,_,_,_,_,_,_,_,_,_,_,_,_,_,_,_,_,_,_,_,_,_,_,_,_,_,_,_,_,v8,i1+1,gr1,g,_,rfl,HR2.out,hlt,H9.out,by have:=HB.out;have:=HB1.out;simp only [List.length_append,List.length_singleton];omega,HRow9.out.at_ HPZ.out _,HN9.out.at_ HPZ.out (by omega),Nat.le_of_lt HGF.out⟩,by show _<_;rw [HMU.out,(HN9.out.at_ HPZ.out (x:=(i1:Int)+1) (i':=i1+1) (by omega)).ps.pAt];have:=HB1.out;omega⟩
  ·have hpn:=pk_not (i:=i1) 124 hb
   rw [HPV.out] at hpn
   have hpb:(pv == 124)=false:=hpn
   have hR2:=HRk.out
   rw [if_neg hb] at hR2
   obtain ⟨L,hL⟩:∃ L,acc ++ [t]=L:=⟨_,rfl⟩
   rw [hL] at hR2
   have HRf:=Lib.hid (show altsP l f ne i gr []=.ok (mkAlt L) i1 gr1 by rw [HRR.out,← hR2])
   have HRowL:=Lib.hid (show Row w gz v8 L wk from hL ▸ HRow9.out)
   have HLN:=Lib.hid (show L.length ≠ 0 by rw [← hL];simp)
   clear hpn hR2 hL hb
   obtain ⟨⟨cs2,hown,hks⟩,hgt⟩:=HRowL.out
   obtain ⟨A,cp,hu4,hcp,hcm,hrd⟩:=own_rd hown
   subst hu4
   have HRD:=Lib.hid hrd
   have HKS:=Lib.hid hks
   have HGT:=Lib.hid hgt
   clear hown hks hgt hrd
   have HC:=Lib.hid HN9.out.ch
   have hpz:=Lib.hid (show p ≠ gz by have:=HPZ.out;omega)
   rcases L with _ | ⟨t1,_ | ⟨t2,r⟩⟩
   ·exact absurd rfl HLN.out
   ·obtain ⟨b,o,k',m',z',p',B',n',c'',rfl,hv,hk⟩:=kid_at HRD.out HKS.out (i:=0) (by simp)
    obtain ⟨c0,c1,c2,c3,c4,c5,c6,c7⟩:=hk.out _ (Ext.refl _)
    simp only [Nat.zero_mul,Nat.add_zero] at c0 c1 c2 c3 c4 c5 c6 c7
    have HV:=Lib.hid (show NodeV _ wk t1 _ from hv)
    clear hv hk
    go_wp2_with (refine store_nd rfl (.tmp 2) (.tmp 35) rfl (g:=gz) (nodeC k' m' z' p' B' n' c'') rfl rfl HN9.out.ze rfl rfl rfl ?_)
    exact bodyPost_ret (v:=.tuple #[.agg (nodeC k' m' z' p' B' n' c'').toArray,.nilIface]) (results_nd2 rfl rfl (Blk.row HN9.out.ze _) rfl rfl) rfl (.ok_ HRf.out (Chg.rowX HC.out _ _ (by rw [HGZ.out];exact Nat.le_refl _)) rfl ((HV.out.chg (rowChg _ _ _ (List.mem_singleton.2 rfl)) (by intro y hy;simp at hy;omega)).mono (fun b _ h=>by rw [HGZ.out];omega)) (HN9.out.ps.rowFar _ hpz.out) H9.out)
   ·have hn1:((r.length:Int)+1+1 == 1)=false:=by rw [beq_eq_false_iff_ne];omega
    go_wp2_with (refine store_nd rfl (.tmp 2) (.tmp 37) rfl (g:=gz) [.int .i64 4,.int .i64 0,.bool false,.int .u64 0,.int .u64 0,.int .u64 0,.int .u64 0,.slice A (r.length+1+1) cp] rfl rfl HN9.out.ze rfl rfl rfl ?_)
    refine bodyPost_ret (v:=.tuple #[.agg ([.int .i64 4,.int .i64 0,.bool false,.int .u64 0,.int .u64 0,.int .u64 0,.int .u64 0,.slice A (r.length+1+1) cp]:List Value).toArray,.nilIface]) (results_nd2 rfl rfl (Blk.row HN9.out.ze _) rfl rfl) rfl (.ok_ HRf.out (Chg.rowX HC.out _ _ (by rw [HGZ.out];exact Nat.le_refl _)) rfl ?_ (HN9.out.ps.rowFar _ hpz.out) H9.out)
    have hbase:NodeV (fun b=>gz<b) wk (.node 4 0 false noP (t1 :: t2 :: r)) [.int .i64 4,.int .i64 0,.bool false,.int .u64 0,.int .u64 0,.int .u64 0,.int .u64 0,.slice A (r.length+1+1) cp]:=by
     unfold NodeV
     exact ⟨A,cp,cs2,(node0 _ _ _ _ _ _).symm,hcp,hcm,HRD.out,fun b o x e _=>HGT.out b (by rw [e];cases x <;> first | rfl | (exfalso;obtain ⟨b',o',e',_⟩:=HRD.out.2 (by rw [HRD.out.1];simp;omega);rw [e] at e';cases e')),kidsV_map (fun t v h=>NodeV.mono h (fun _ _ h=>h.1)) HKS.out⟩
    exact (hbase.chg (rowChg _ _ _ (List.mem_singleton.2 rfl)) (by intro y hy;simp at hy;omega)).mono (fun b _ h=>by rw [HGZ.out];omega)
end Go.Proofs.YtigmdlchbjanoaaGreatDoor
namespace Go.Proofs.YtigmdlchbjanoaaGreatDoor
open Go Go.RowKit
attribute [local irreducible] wd
theorem bracket_kind (l:List UInt8) (f ne i gr:Nat):bracketP l (f+1) ne i gr=if ne=8 then .err 11 else match kindP l (i+1) gr with
  | .err k=>.err k
  | .ok num i2 gr2=>closeP l (altsP l f (ne+1) i2 gr2 []) num:=by
 unfold bracketP kindP
 by_cases h8:ne=8
 ·rw [if_pos h8,if_pos h8]
 ·rw [if_neg h8,if_neg h8]
  by_cases hq:l[i+1]?=some 63
  ·rw [if_pos hq,if_pos hq]
   cases hc:l[i+1+1]? with
   | none=>rfl
   | some c =>
    show (if c=58 then _ else _)=_
    simp only
    by_cases h58:c=58
    ·simp only [if_pos h58]
    ·simp only [if_neg h58]
  ·rw [if_neg hq,if_neg hq]
   by_cases h9:gr=9
   ·simp only [if_pos h9]
   ·simp only [if_neg h9]
theorem kind_fits {l:List UInt8} {i gr num i2 gr2:Nat} (h:kindP l i gr=.ok num i2 gr2) (hi:i≤l.length) (hg:gr≤9):i≤i2∧i2≤l.length∧gr2≤9∧num≤9:=by
 unfold kindP at h
 split at h
 ·split at h
  ·cases h
  ·rename_i c hc
   have:=(List.getElem?_eq_some_iff.1 hc).1
   split at h <;> cases h
   omega
 ·split at h <;> cases h
  omega
theorem ItNow.nest {E:Nat→Addr} {p:Nat} {l:List UInt8} {ne i gr:Nat} {w0:World} {gz gb:Nat} {t:T} {k m:Int} {z:Bool} {q:Nat→Bool} {B:Option Addr} {n c:Nat} {w:World} (h:ItNow E p l ne i gr w0 gz gb t k m z q B n c w) (hpz:p<gz) (hpb:p<gb) {x:Int} {n':Nat} (hx:x=(n':Nat)) :
  ItNow E p l n' i gr w0 gz gb t k m z q B n c (w.setCell ⟨p,2,none⟩ (.int .i64 x)):=
 ⟨h.ps.nest hx,h.ch.setCell (by simp) _,h.en.chg h.ps ((Chg.refl _ _).setCell (by simp) _),Blk.far h.ze (by simp;omega) _,Blk.far h.bo (by simp;omega) _,h.vv.chg ((Chg.refl [p] _).setCell (by simp) _) (by intro y hy;simp at hy;omega)⟩
set_option maxHeartbeats 8000000 in
set_option maxRecDepth 20000 in
theorem rxBracket (E:Nat→Addr) (l:List UInt8) (hl:l.length≤10000) (f:Nat) (hA:AltsOK E l f):BracketOK E l (f+1):=by
 intro p ne i gr w hno hi hne hgr hP hE
 have hpl:=hP.lt
 obtain ⟨gz,hgz⟩:∃ gz,w.heap.size=gz:=⟨_,rfl⟩
 have hN0:=Lib.hid (Blk.newA (w:=w) hgz 28 zN)
 have hx0:=Lib.hid (Ext.new1 w (.cells zN.toArray 28))
 have HP:=Lib.hid hP
 have HE:=Lib.hid hE
 have HPZ:=Lib.hid (show p<gz by omega)
 have HGZ:=Lib.hid hgz
 have HA:=Lib.hid hA
 obtain ⟨R,hR⟩:∃ R,bracketP l (f+1) ne i gr=R:=⟨_,rfl⟩
 have HRR:=Lib.hid hR
 have HRK:=Lib.hid (bracket_kind l f ne i gr)
 have HNO:=Lib.hid hno
 clear hP hE hno hA hR
 unfold zN at hN0 hx0
 go_enter Tryz.func89,Tryz.ntmps89
 go_upto_region 1 with fail
 generalize w.alloc (.cells #[.int .i64 0,.int .i64 0,.bool false,.int .u64 0,.int .u64 0,.int .u64 0,.int .u64 0,.slice none 0 0] 28)=wa at *
 have HPa:=Lib.hid (HP.out.keep hx0.out)
 have HEa:=Lib.hid (HE.out.keep hx0.out)
 obtain ⟨c0,c1,c2,c3⟩:=HPa.out.cells
 have f1:=HPa.out.frozen 1
 have f2:=HPa.out.frozen 2
 by_cases h8:ne=8
 ·have HK:=Lib.hid (show bracketP l (f+1) ne i gr=.err 11 by rw [HRK.out,if_pos h8])
  have hb:((ne:Int) == 8)=true:=by rw [h8];rfl
  subst h8
  obtain ⟨e1,e2,e3,e4,e5,e6⟩:=HEa.out.facts
  have hne1:¬ gz=12:=by intro e;have:=hN0.out.cell 0;rw [e,e5] at this;simp [errV] at this
  go_upto_region 2 with fail
  have HGW:=Lib.hid (Nat.le_refl gz)
  have hne2:¬ 12=gz:=fun e=>hne1 e.symm
  refine wp_region_dagS (E:=Chg [gz]) (F:=Ext) (z:=2) (late:=[]) (w0:=wa) (Φ:=fun i v w=>match i with | 0=>(v=.agg zN.toArray) | 1=>(v=errV E 10) | 2=>(Blk w gz 28 zN) | 3=>(v=errV E 10) | _=>True) (show Tryz.prog.follows .mixedOrders=true from Checked.mixed Tryz.checked) 74 rfl (by decide +kernel) (by decide +kernel) ?_ (by decide +kernel) ?_ ((Below.refl _ _).drew) ((Chg.refl _ _).drew) ?_ ?_ ?_ ⟨?_,?_,?_,?_,trivial⟩ ?_
  ·intro i v w w' h hE
   match i,h with
   | 0,h=>exact h
   | 1,h=>exact h
   | 2,h=>exact Blk.keep h hE
   | 3,h=>exact h
   | _+4,_=>trivial
  ·intro i v w w' hiz hla h hE
   match i,hiz,hla,h with
   | 0,_,_,h=>exact h
   | 1,_,_,h=>exact h
   | 2,hiz,_,_=>exact absurd rfl hiz
   | 3,_,_,h=>exact h
   | _+4,_,_,_=>trivial
  ·exact fun w w' h h'=>h.trans (.of_ext h')
  ·exact fun w w' h h'=>h.trans h'
  ·exact fun w w' h h'=>(Chg.of_ext h).trans h'
  ·
   intro ac wx hE hF hsz hdf h
   clear h hsz hdf
   go_wp2
   exact ⟨_,rfl,rfl,Ext.refl _⟩
  ·
   intro ac wx hE hF hsz hdf h
   clear h hsz hdf
   have e9:=hE.cell e5 (by simp;exact hne2)
   go_wp2
   exact ⟨_,rfl,rfl,Ext.refl _⟩
  ·
   intro ac wx hE hF hsz hdf h
   have e2:ac.tmps[2]?=some (.pointer (some ⟨gz,0,none⟩)):=by obtain ⟨v,h1,h2⟩:=h 2 (by decide +kernel);exact h1.trans (h2.symm.trans rfl)
   have e12:ac.tmps[12]?=some (.agg zN.toArray):=by obtain ⟨v,h1,h2⟩:=h 12 (by decide +kernel);rw [h1];exact congrArg some h2
   have hB9:=hN0.out.keep (hF (.inl rfl))
   clear h hsz hdf
   refine store_nd rfl (.tmp 2) (.tmp 12) rfl (g:=gz) zN ?_ ?_ hB9 rfl rfl rfl ?_
   ·simp [Act.eval,e2]
   ·simp [Act.eval,e12]
   ·go_wp2;exact ⟨Blk.row hB9 _,rowChg _ _ _ (by simp)⟩
  ·
   intro ac wx hE hF hsz hdf h
   have e13:ac.tmps[13]?=some (errV E 10):=by obtain ⟨v,h1,h2⟩:=h 13 (by decide +kernel);rw [h1];exact congrArg some h2
   clear h hsz hdf
   go_wp2
   exact ⟨_,rfl,rfl,Ext.refl _⟩
  ·intro ac w9 hE hsz hdf h hrest
   obtain ⟨v0,s0,g0⟩:=h 0 _ rfl
   have e0:=g0 12 rfl
   obtain rfl:v0=.agg zN.toArray:=s0
   obtain ⟨v1,s1,g1⟩:=h 1 _ rfl
   have e1:=g1 13 rfl
   obtain rfl:v1=errV E 10:=s1
   obtain ⟨v2,s2,-⟩:=h 2 _ rfl
   replace s2:Blk w9 gz 28 zN:=s2
   obtain ⟨v3,s3,g3⟩:=h 3 _ rfl
   have e3:=g3 3 rfl
   obtain rfl:v3=errV E 10:=s3
   have ha:=act_of [(12,.agg zN.toArray),(13,errV E 10),(3,errV E 10)] rfl hsz hdf (by intro p hp;simp only [List.mem_cons,List.not_mem_nil,or_false] at hp;rcases hp with rfl | rfl | rfl <;> first | exact e0 | exact e1 | exact e3) hrest
   clear h hrest hsz hdf e0 e1 e3 g0 g1 g3
   subst ha
   simp only [List.foldl_cons,List.foldl_nil,Act.put,List.setIfInBounds_toArray,List.set_cons_succ,List.set_cons_zero]
   go_wp2
   exact bodyPost_ret (v:=.tuple #[.agg zN.toArray,ev E 11]) (results_nd2 rfl rfl s2 rfl rfl) rfl (.err_ HK.out ((Chg.of_ext (X:=[p]) hx0.out).trans' hE (by rw [HGZ.out];exact Nat.le_refl _)) rfl (by omega))
 ·have hb:((ne:Int) == 8)=false:=by rw [beq_eq_false_iff_ne];omega
  have HK:=Lib.hid (show bracketP l (f+1) ne i gr=_ by rw [HRK.out,if_neg h8])
  have hw1:IntKind.i64.wrap ((i:Int)+1)=(i:Int)+1:=wrap_id (by omega) (by omega)
  have hw2:IntKind.i64.wrap ((ne:Int)+1)=(ne:Int)+1:=wrap_id (by omega) (by omega)
  go_upto_region 5 with fail
  have HP2:=Lib.hid ((HPa.out.at_ (x:=(i:Int)+1) (i':=i+1) (by omega)).nest (x:=(ne:Int)+1) (n':=ne+1) (by omega))
  have HC2:=Lib.hid (((Chg.of_ext (X:=[p]) hx0.out).setCell (p:=⟨p,1,none⟩) (by simp) (.int .i64 ((i:Int)+1))).setCell (p:=⟨p,2,none⟩) (by simp) (.int .i64 ((ne:Int)+1)))
  have HE2:=Lib.hid (HE.out.chg HP.out HC2.out)
  have HN2:=Lib.hid (Blk.far (Blk.far hN0.out (p:=⟨p,1,none⟩) (by simp;have:=HPZ.out;omega) (.int .i64 ((i:Int)+1))) (p:=⟨p,2,none⟩) (by simp;have:=HPZ.out;omega) (.int .i64 ((ne:Int)+1)))
  clear c0 c1 c2 c3 f1 f2 hx0 hN0
  generalize (wa.setCell ⟨p,1,none⟩ (.int .i64 ((i:Int)+1))).setCell ⟨p,2,none⟩ (.int .i64 ((ne:Int)+1))=wb at *
  have HI1:=Lib.hid (show i+1≤l.length by omega)
  have HN8:=Lib.hid (show ne+1≤8 by omega)
  obtain ⟨kr,hkr⟩:∃ kr,kindP l (i+1) gr=kr:=⟨_,rfl⟩
  have HK1:=HK.out
  rw [hkr] at HK1
  have HKR:=Lib.hid hkr
  clear hb h8 hkr HRK
  cases kr with
  | err k =>
   have HKE:=Lib.hid (show bracketP l (f+1) ne i gr=.err k from HK1)
   clear HK1 HK
   go_wp2_with fail
   go_at_call 92
   refine (rxKind E hl HI1.out hgr _ HE2.out HP2.out).mono ?_
   rintro e w5 hR
   rw [HKR.out] at hR
   obtain ⟨hC5,rfl,hk⟩:=hR
   obtain ⟨k,rfl⟩:∃ k',k=k' + 1:=⟨k-1,by omega⟩
   have hB5:=Lib.hid (HN2.out.chg hC5 (by simp;have:=HPZ.out;omega))
   have hC:=Lib.hid (HC2.out.trans hC5)
   have hn:=fun w=>run_eql_iface_nil (P:=Tryz.prog) (w:=w) 30 (by kernel_rfl) 151 (.pointer (some (E k)))
   have HKK:=Lib.hid (show k+1=2∨k+1=3∨k+1=5∨k+1=11∨k+1=15 by omega)
   clear hk hC5
   unfold ev errV
   go_wp2_with (refine store_nd rfl (.tmp 2) (.tmp 35) rfl (g:=gz) zN rfl rfl hB5.out rfl rfl rfl ?_)
   exact bodyPost_ret (v:=.tuple #[.agg zN.toArray,ev E (k+1)]) (results_nd2 rfl rfl (Blk.row hB5.out _) rfl rfl) rfl (.err_ HKE.out (Chg.rowX hC.out _ _ (by rw [HGZ.out];exact Nat.le_refl _)) rfl HKK.out)
  | ok num i2 gr2 =>
   have HKE:=Lib.hid (show bracketP l (f+1) ne i gr=closeP l (altsP l f (ne+1) i2 gr2 []) num from HK1)
   clear HK1 HK
   have HKF:=Lib.hid (kind_fits HKR.out HI1.out hgr)
   obtain ⟨r1,hr1⟩:∃ r1,altsP l f (ne+1) i2 gr2 []=r1:=⟨_,rfl⟩
   have hno1:altsP l f (ne+1) i2 gr2 [] ≠ .out:=fun e=>HNO.out (by rw [HKE.out,e];rfl)
   have HNO1:=Lib.hid hno1
   have HR1:=Lib.hid hr1
   clear hno1 hr1
   go_upto_region 6 with (go_at_call 92;refine (rxKind E hl HI1.out hgr _ HE2.out HP2.out).mono ?_;rintro e w5 hR;rw [HKR.out] at hR;obtain ⟨hC5,rfl,hp5,h95⟩:=hR)
   have HP5:=Lib.hid hp5
   have HE5:=Lib.hid (HE2.out.chg HP2.out hC5)
   have HN5:=Lib.hid (HN2.out.chg hC5 (by simp;have:=HPZ.out;omega))
   have HC5:=Lib.hid (HC2.out.trans hC5)
   clear hp5 hC5 h95
   cases r1 with
   | out=>exact absurd HR1.out HNO1.out
   | err k =>
    have HKE2:=Lib.hid (show bracketP l (f+1) ne i gr=.err k by rw [HKE.out,HR1.out];rfl)
    go_wp2_with fail
    go_at_call 45
    refine (HA.out p (ne+1) i2 gr2 _ HNO1.out HKF.out.2.1 HN8.out HKF.out.2.2.1 HP5.out HE5.out).mono ?_
    rintro e w6 hR
    rw [HR1.out] at hR
    obtain ⟨hC6,rfl,hk⟩:=hR
    obtain ⟨k,rfl⟩:∃ k',k=k' + 1:=⟨k-1,by omega⟩
    have hB6:=Lib.hid (HN5.out.chg hC6 (by simp;have:=HPZ.out;omega))
    have hC:=Lib.hid (HC5.out.trans hC6)
    have hn:=fun w=>run_eql_iface_nil (P:=Tryz.prog) (w:=w) 30 (by kernel_rfl) 151 (.pointer (some (E k)))
    have HKK:=Lib.hid hk
    clear hk hC6
    unfold ev errV zN
    go_wp2_with (refine store_nd rfl (.tmp 2) (.tmp 45) rfl (g:=gz) zN rfl rfl (hB6.out.alloc _) rfl rfl rfl ?_)
    exact bodyPost_ret (v:=.tuple #[.agg zN.toArray,ev E (k+1)]) (results_nd2 rfl rfl (Blk.row (hB6.out.alloc _) _) rfl rfl) rfl (.err_ HKE2.out (Chg.rowX (hC.out.trans (.of_ext (Ext.new1 _ _))) _ _ (by rw [HGZ.out];exact Nat.le_refl _)) rfl HKK.out)
   | ok t i1 gr1 =>
    have hb1:=(bounds_all l f).alts (ne+1) i2 gr2 [] t i1 gr1 HR1.out HKF.out.2.1
    have HB1:=Lib.hid (show i1≤l.length from hb1.2.1)
    have HCL:=Lib.hid (show bracketP l (f+1) ne i gr=closeP l (.ok t i1 gr1) num by rw [HKE.out,HR1.out])
    clear hb1
    go_wp2_with fail
    go_at_call 45
    refine (HA.out p (ne+1) i2 gr2 _ HNO1.out HKF.out.2.1 HN8.out HKF.out.2.2.1 HP5.out HE5.out).mono ?_
    rintro e w6 hR
    rw [HR1.out] at hR
    obtain ⟨hC6,v,rfl,hv,hp6,h96⟩:=hR
    obtain ⟨k,m,z,q,B,n,c,rfl⟩:=nodeV_form hv
    have hsz6:=hC6.size
    have hzl:=HN5.out.lt
    have hN:ItNow E p l (ne+1) i1 gr1 w gz w6.heap.size t k m z q B n c (w6.alloc (.cells (nodeC k m z q B n c).toArray 28)):=
     ⟨hp6.keep (Ext.new1 _ _),(HC5.out.trans hC6).trans (.of_ext (Ext.new1 _ _)),(HE5.out.chg HP5.out hC6).keep (Ext.new1 _ _),(HN5.out.chg hC6 (by simp;have:=HPZ.out;omega)).keep (Ext.new1 _ _),NodeB.new _ _ _ _ _ _ _ _,
      (hv.mono (fun b hb h=>⟨by omega,by omega⟩)).keep (Ext.new1 _ _)⟩
    have HN:=Lib.hid hN
    have H9:=Lib.hid h96
    have HGG:=Lib.hid (show gz<w6.heap.size by omega)
    clear hN hv hp6 hC6 h96 hsz6 hzl HN5 HC5 HE5 HP5
    unfold nodeC at HN ⊢
    go_upto_region 11 with fail
    generalize w6.alloc (.cells #[.int .i64 k,.int .i64 m,.bool z,.int .u64 (wd q 0:Nat),.int .u64 (wd q 1:Nat),.int .u64 (wd q 2:Nat),.int .u64 (wd q 3:Nat),.slice B n c] 28)=wb2 at *
    generalize w6.heap.size=gb at *
    have HPB:=Lib.hid (show p<gb from by have:=HGG.out;have:=HPZ.out;omega)
    cases hc:l[i1]? with
    | none =>
     have HPK:=Lib.hid (pk_none hc)
     have HCE:=Lib.hid (show bracketP l (f+1) ne i gr=.err 3 by rw [HCL.out];unfold closeP;simp only [hc])
     clear hc
     go_upto_region 12 with (go_at_call 71;refine (rxPeek HB1.out _ HN.out.ps).mono ?_;rintro e w7 ⟨rfl,hx7⟩;rw [HPK.out])
     have HN7:=Lib.hid (HN.out.keep hx7)
     obtain ⟨e1,e2,e3,e4,e5,e6⟩:=HN7.out.en.facts
     have hne1:¬ gz=7:=by intro e;have:=HN7.out.ze.cell 0;rw [e,e2] at this;simp [errV,zN] at this
     have hNz:=Lib.hid HN7.out.ze
     have hCz:=Lib.hid HN7.out.ch
     have HGW:=Lib.hid (Nat.le_refl gz)
     have hne2:¬ 7=gz:=fun e=>hne1 e.symm
     clear hne1
     refine wp_region_dagS (E:=Chg [gz]) (F:=Ext) (z:=2) (late:=[]) (w0:=w7) (Φ:=fun i v w=>match i with | 0=>(v=.agg zN.toArray) | 1=>(v=errV E 2) | 2=>(Blk w gz 28 zN) | 3=>(v=errV E 2) | _=>True) (show Tryz.prog.follows .mixedOrders=true from Checked.mixed Tryz.checked) 74 rfl (by decide +kernel) (by decide +kernel) ?_ (by decide +kernel) ?_ ((Below.refl _ _).drew) ((Chg.refl _ _).drew) ?_ ?_ ?_ ⟨?_,?_,?_,?_,trivial⟩ ?_
     ·intro i v w w' h hE
      match i,h with
      | 0,h=>exact h
      | 1,h=>exact h
      | 2,h=>exact Blk.keep h hE
      | 3,h=>exact h
      | _+4,_=>trivial
     ·intro i v w w' hiz hla h hE
      match i,hiz,hla,h with
      | 0,_,_,h=>exact h
      | 1,_,_,h=>exact h
      | 2,hiz,_,_=>exact absurd rfl hiz
      | 3,_,_,h=>exact h
      | _+4,_,_,_=>trivial
     ·exact fun w w' h h'=>h.trans (.of_ext h')
     ·exact fun w w' h h'=>h.trans h'
     ·exact fun w w' h h'=>(Chg.of_ext h).trans h'
     ·
      intro ac wx hE hF hsz hdf h
      clear h hsz hdf
      go_wp2
      exact ⟨_,rfl,rfl,Ext.refl _⟩
     ·
      intro ac wx hE hF hsz hdf h
      clear h hsz hdf
      have e9:=hE.cell e2 (by simp;exact hne2)
      go_wp2
      exact ⟨_,rfl,rfl,Ext.refl _⟩
     ·
      intro ac wx hE hF hsz hdf h
      have e2:ac.tmps[2]?=some (.pointer (some ⟨gz,0,none⟩)):=by obtain ⟨v,h1,h2⟩:=h 2 (by decide +kernel);exact h1.trans (h2.symm.trans rfl)
      have e51:ac.tmps[51]?=some (.agg zN.toArray):=by obtain ⟨v,h1,h2⟩:=h 51 (by decide +kernel);rw [h1];exact congrArg some h2
      have hB9:=hNz.out.keep (hF (.inl rfl))
      clear h hsz hdf
      refine store_nd rfl (.tmp 2) (.tmp 51) rfl (g:=gz) zN ?_ ?_ hB9 rfl rfl rfl ?_
      ·simp [Act.eval,e2]
      ·simp [Act.eval,e51]
      ·go_wp2;exact ⟨Blk.row hB9 _,rowChg _ _ _ (by simp)⟩
     ·
      intro ac wx hE hF hsz hdf h
      have e52:ac.tmps[52]?=some (errV E 2):=by obtain ⟨v,h1,h2⟩:=h 52 (by decide +kernel);rw [h1];exact congrArg some h2
      clear h hsz hdf
      go_wp2
      exact ⟨_,rfl,rfl,Ext.refl _⟩
     ·intro ac w9 hE hsz hdf h hrest
      obtain ⟨v0,s0,g0⟩:=h 0 _ rfl
      have e0:=g0 51 rfl
      obtain rfl:v0=.agg zN.toArray:=s0
      obtain ⟨v1,s1,g1⟩:=h 1 _ rfl
      have e1:=g1 52 rfl
      obtain rfl:v1=errV E 2:=s1
      obtain ⟨v2,s2,-⟩:=h 2 _ rfl
      replace s2:Blk w9 gz 28 zN:=s2
      obtain ⟨v3,s3,g3⟩:=h 3 _ rfl
      have e3:=g3 3 rfl
      obtain rfl:v3=errV E 2:=s3
      have ha:=act_of [(51,.agg zN.toArray),(52,errV E 2),(3,errV E 2)] rfl hsz hdf (by intro p hp;simp only [List.mem_cons,List.not_mem_nil,or_false] at hp;rcases hp with rfl | rfl | rfl <;> first | exact e0 | exact e1 | exact e3) hrest
      clear h hrest hsz hdf e0 e1 e3 g0 g1 g3
      subst ha
      simp only [List.foldl_cons,List.foldl_nil,Act.put,List.setIfInBounds_toArray,List.set_cons_succ,List.set_cons_zero]
      go_wp2
      exact bodyPost_ret (v:=.tuple #[.agg zN.toArray,ev E 3]) (results_nd2 rfl rfl s2 rfl rfl) rfl (.err_ HCE.out (hCz.out.trans' hE (by rw [HGZ.out];exact Nat.le_refl _)) rfl (by omega))
    | some ch =>
     have hi1:=(List.getElem?_eq_some_iff.1 hc).1
     have HPK:=Lib.hid (pk_some hc)
     have hpos:¬ ((ch.toNat:Int)<0):=by omega
     have hpd:decide ((ch.toNat:Int)<0)=false:=by simp
     have HCE:=Lib.hid (show bracketP l (f+1) ne i gr=.ok (if num=0 then t else .node 8 (num:Int) false noP [t]) (i1+1) gr1 by rw [HCL.out];unfold closeP;simp only [hc])
     have hw3:IntKind.i64.wrap ((i1:Int)+1)=(i1:Int)+1:=wrap_id (by omega) (by omega)
     have hw4:IntKind.i64.wrap ((ne:Int)+1-1)=(ne:Int):=by rw [wrap_id (by omega) (by omega)];omega
     have hw5:IntKind.i64.wrap (ne:Int)=(ne:Int):=wrap_id (by omega) (by omega)
     clear hc
     go_upto_region 13 with (go_at_call 71;refine (rxPeek HB1.out _ HN.out.ps).mono ?_;rintro e w7 ⟨rfl,hx7⟩;rw [HPK.out])
     have HN7:=Lib.hid (HN.out.keep hx7)
     obtain ⟨p0,p1,p2,p3⟩:=HN7.out.ps.cells
     have f1:=HN7.out.ps.frozen 1
     have f2:=HN7.out.ps.frozen 2
     simp only [Int.natCast_add,Int.cast_ofNat_Int] at p2
     go_upto_region 15 with fail
     have HN8b:=Lib.hid ((HN7.out.at_ HPZ.out HPB.out (x:=(i1:Int)+1) (i':=i1+1) (by omega)).nest HPZ.out HPB.out (x:=(ne:Int)) (n':=ne) rfl)
     clear p0 p1 p2 p3 f1 f2 hpos hpd
     generalize (w7.setCell ⟨p,1,none⟩ (.int .i64 ((i1:Int)+1))).setCell ⟨p,2,none⟩ (.int .i64 (ne:Int))=w8 at *
     obtain ⟨b0,b1,b2,b3,b4,b5,b6,b7⟩:=HN8b.out.bo.cells
     have hpz:=Lib.hid (show p ≠ gz by have:=HPZ.out;omega)
     by_cases hn0:num=0
     ·subst hn0
      have HRF:=Lib.hid (show bracketP l (f+1) ne i gr=.ok t (i1+1) gr1 from HCE.out)
      go_wp2_with (refine store_nd rfl (.tmp 2) (.tmp 69) rfl (g:=gz) (nodeC k m z q B n c) rfl rfl HN8b.out.ze rfl rfl rfl ?_)
      exact bodyPost_ret (v:=.tuple #[.agg (nodeC k m z q B n c).toArray,.nilIface]) (results_nd2 rfl rfl (Blk.row HN8b.out.ze _) rfl rfl) rfl (.ok_ HRF.out (Chg.rowX HN8b.out.ch _ _ (by rw [HGZ.out];exact Nat.le_refl _)) rfl ((HN8b.out.vv.chg (rowChg _ _ _ (List.mem_singleton.2 rfl)) (by intro y hy;simp at hy;omega)).mono (fun b _ h=>by rw [HGZ.out];omega)) (HN8b.out.ps.rowFar _ hpz.out) H9.out)
     ·have HRF:=Lib.hid (show bracketP l (f+1) ne i gr=.ok (.node 8 (num:Int) false noP [t]) (i1+1) gr1 by rw [HCE.out,if_neg hn0])
      have hnb:((num:Int) == 0)=false:=by rw [beq_eq_false_iff_ne];omega
      have HKID:=Lib.hid (one_kid (S':=fun b=>gz<b) HN8b.out.vv 8 (num:Int) false (fun b _ h=>h.1) HN8b.out.ze.lt)
      go_wp2_with (refine store_nd rfl (.tmp 2) (.tmp 73) rfl (g:=gz) [.int .i64 8,.int .i64 (num:Int),.bool false,.int .u64 0,.int .u64 0,.int .u64 0,.int .u64 0,.slice (some ⟨w8.heap.size,0,none⟩) 1 1] rfl rfl (HN8b.out.ze.alloc _) rfl rfl rfl ?_)
      exact bodyPost_ret (v:=.tuple #[.agg ([.int .i64 8,.int .i64 (num:Int),.bool false,.int .u64 0,.int .u64 0,.int .u64 0,.int .u64 0,.slice (some ⟨w8.heap.size,0,none⟩) 1 1]:List Value).toArray,.nilIface]) (results_nd2 rfl rfl (Blk.row (HN8b.out.ze.alloc _) _) rfl rfl) rfl (.ok_ HRF.out (Chg.rowX (HN8b.out.ch.trans (.of_ext (Ext.new1 _ _))) _ _ (by rw [HGZ.out];exact Nat.le_refl _)) rfl ((HKID.out.chg (rowChg _ _ _ (List.mem_singleton.2 rfl)) (by intro y hy;simp at hy;omega)).mono (fun b _ h=>by rw [HGZ.out];omega)) ((HN8b.out.ps.keep (Ext.new1 _ _)).rowFar _ hpz.out) H9.out)
end Go.Proofs.YtigmdlchbjanoaaGreatDoor
namespace Go.Proofs.YtigmdlchbjanoaaGreatDoor
open Go Go.RowKit
theorem rxParser (E:Nat→Addr) (l:List UInt8) (hl:l.length≤10000):∀ f,BracketOK E l f∧AtomOK E l f∧ItemOK E l f∧ItemsOK E l f∧AltsOK E l f:=by
 intro f
 induction f using Nat.strongRecOn with
 | ind f ih =>
  have hI:ItemsOK E l f:=rxItems E l hl f (fun f' h=>(ih f' h).2.2.1)
  have hA:AltsOK E l f:=rxAlts E l hl f (fun f' h=>(ih f' h).2.2.2.1)
  rcases f with _ | f
  ·exact ⟨fun p ne i gr w h=>absurd (by unfold bracketP;rfl) h,fun p ne i gr w h=>absurd (by unfold atomP;rfl) h,fun p ne i gr w h=>absurd (by unfold itemP;rfl) h,hI,hA⟩
  ·obtain ⟨h1,h2,h3,h4,h5⟩:=ih f (Nat.lt_succ_self f)
   exact ⟨rxBracket E l hl f h5,rxAtom E l hl f h1,rxItem E l hl f h2,hI,hA⟩
end Go.Proofs.YtigmdlchbjanoaaGreatDoor
namespace Go.Proofs.YtigmdlchbjanoaaGreatDoor
open Go Go.RowKit
attribute [local irreducible] wd
def RRes (E:Nat→Addr) (w:World) (r:PR) (e:Ending) (w':World):Prop:=
 Ext w w' ∧ match r with
  | .out=>False
  | .err k=>∃ k',k=k' + 1∧e=.returned (.tuple #[.agg zN.toArray,ev E k])
  | .ok t _ _=>∃ v:List Value,e=.returned (.tuple #[.agg v.toArray,.nilIface])∧NodeV (fun b=>w.heap.size≤b) w' t v
theorem RRes.err_ {E:Nat→Addr} {w w':World} {r:PR} {e:Ending} {k:Nat} (hr:r=.err (k+1)) (hc:Ext w w') (he:e=.returned (.tuple #[.agg zN.toArray,ev E (k+1)])):RRes E w r e w':=by
 subst hr;exact ⟨hc,k,rfl,he⟩
theorem RRes.ok_ {E:Nat→Addr} {w w':World} {r:PR} {e:Ending} {t:T} {i gr:Nat} {v:List Value} (hr:r=.ok t i gr) (hc:Ext w w') (he:e=.returned (.tuple #[.agg v.toArray,.nilIface])) (hv:NodeV (fun b=>w.heap.size≤b) w' t v):RRes E w r e w':=by
 subst hr;exact ⟨hc,v,he,hv⟩
theorem Chg.new {p:Nat} {w w':World} (h:Chg [p] w w') (hp:w.heap.size≤p):Ext w w':=h.below (Ext.refl _) (Nat.le_refl _) (by intro y hy;simp at hy;omega)
def finP (l:List UInt8) (r:PR):PR:=
 match r with
 | .out=>.out
 | .err k=>.err k
 | .ok t i gr=>if i<l.length then .err 5 else .ok t i gr
theorem parseR_fin {l:List UInt8} (h:¬ 120<l.length):parseR l=finP l (altsP l (5*l.length+5) 0 0 0 []):=by
 unfold parseR finP
 rw [if_neg h]
 cases altsP l (5*l.length+5) 0 0 0 [] <;> rfl
set_option maxHeartbeats 8000000 in
set_option maxRecDepth 20000 in
theorem rxParse (E:Nat→Addr) (l:List UInt8) (w:World) (hE:Env E w):Calls Tryz.prog 23 #[.string ⟨l.toArray⟩] w fun e w'=>RRes E w (parseR l) e w':=by
 obtain ⟨gz,hgz⟩:∃ gz,w.heap.size=gz:=⟨_,rfl⟩
 have hN0:=Lib.hid (Blk.newA (w:=w) hgz 28 zN)
 have hx0:=Lib.hid (Ext.new1 w (.cells zN.toArray 28))
 have HE:=Lib.hid hE
 have HGZ:=Lib.hid hgz
 clear hE
 unfold zN at hN0 hx0
 by_cases hlen:120<l.length
 focus
  have HK:=Lib.hid (show parseR l=.err 4 by unfold parseR;rw [if_pos hlen])
  have hl1:(120:Int)<(l.length:Int):=by omega
  have hl2:(l.length:Int) > 120:=hl1
  have hl3:decide ((l.length:Int) > 120)=true:=decide_eq_true hl2
  go_enter Tryz.func23,Tryz.ntmps23
  go_upto_region 2 with fail
  generalize w.alloc (.cells #[.int .i64 0,.int .i64 0,.bool false,.int .u64 0,.int .u64 0,.int .u64 0,.int .u64 0,.slice none 0 0] 28)=wa at *
  have HEa:=Lib.hid (HE.out.keep hx0.out)
  obtain ⟨e1,e2,e3,e4,e5,e6⟩:=HEa.out.facts
  have hne1:¬ gz=3:=by intro e;have:=hN0.out.cell 0;rw [e,e3] at this;simp [errV] at this
  have HGW:=Lib.hid (Nat.le_refl gz)
  have hne2:¬ 3=gz:=fun e=>hne1 e.symm
  refine wp_region_dagS (E:=Chg [gz]) (F:=Ext) (z:=2) (late:=[]) (w0:=wa) (Φ:=fun i v w=>match i with | 0=>(v=.agg zN.toArray) | 1=>(v=errV E 3) | 2=>(Blk w gz 28 zN) | 3=>(v=errV E 3) | _=>True) (show Tryz.prog.follows .mixedOrders=true from Checked.mixed Tryz.checked) 36 rfl (by decide +kernel) (by decide +kernel) ?_ (by decide +kernel) ?_ ((Below.refl _ _).drew) ((Chg.refl _ _).drew) ?_ ?_ ?_ ⟨?_,?_,?_,?_,trivial⟩ ?_
  ·intro i v w w' h hE
   match i,h with
   | 0,h=>exact h
   | 1,h=>exact h
   | 2,h=>exact Blk.keep h hE
   | 3,h=>exact h
   | _+4,_=>trivial
  ·intro i v w w' hiz hla h hE
   match i,hiz,hla,h with
   | 0,_,_,h=>exact h
   | 1,_,_,h=>exact h
   | 2,hiz,_,_=>exact absurd rfl hiz
   | 3,_,_,h=>exact h
   | _+4,_,_,_=>trivial
  ·exact fun w w' h h'=>h.trans (.of_ext h')
  ·exact fun w w' h h'=>h.trans h'
  ·exact fun w w' h h'=>(Chg.of_ext h).trans h'
  ·
   intro ac wx hE hF hsz hdf h
   clear h hsz hdf
   go_wp2
   exact ⟨_,rfl,rfl,Ext.refl _⟩
  ·
   intro ac wx hE hF hsz hdf h
   clear h hsz hdf
   have e9:=hE.cell e3 (by simp;exact hne2)
   go_wp2
   exact ⟨_,rfl,rfl,Ext.refl _⟩
  ·
   intro ac wx hE hF hsz hdf h
   have e2:ac.tmps[2]?=some (.pointer (some ⟨gz,0,none⟩)):=by obtain ⟨v,h1,h2⟩:=h 2 (by decide +kernel);exact h1.trans (h2.symm.trans rfl)
   have e10:ac.tmps[10]?=some (.agg zN.toArray):=by obtain ⟨v,h1,h2⟩:=h 10 (by decide +kernel);rw [h1];exact congrArg some h2
   have hB9:=hN0.out.keep (hF (.inl rfl))
   clear h hsz hdf
   refine store_nd rfl (.tmp 2) (.tmp 10) rfl (g:=gz) zN ?_ ?_ hB9 rfl rfl rfl ?_
   ·simp [Act.eval,e2]
   ·simp [Act.eval,e10]
   ·go_wp2;exact ⟨Blk.row hB9 _,rowChg _ _ _ (by simp)⟩
  ·
   intro ac wx hE hF hsz hdf h
   have e11:ac.tmps[11]?=some (errV E 3):=by obtain ⟨v,h1,h2⟩:=h 11 (by decide +kernel);rw [h1];exact congrArg some h2
   clear h hsz hdf
   go_wp2
   exact ⟨_,rfl,rfl,Ext.refl _⟩
  ·intro ac w9 hE hsz hdf h hrest
   obtain ⟨v0,s0,g0⟩:=h 0 _ rfl
   have e0:=g0 10 rfl
   obtain rfl:v0=.agg zN.toArray:=s0
   obtain ⟨v1,s1,g1⟩:=h 1 _ rfl
   have e1:=g1 11 rfl
   obtain rfl:v1=errV E 3:=s1
   obtain ⟨v2,s2,-⟩:=h 2 _ rfl
   replace s2:Blk w9 gz 28 zN:=s2
   obtain ⟨v3,s3,g3⟩:=h 3 _ rfl
   have e3:=g3 3 rfl
   obtain rfl:v3=errV E 3:=s3
   have ha:=act_of [(10,.agg zN.toArray),(11,errV E 3),(3,errV E 3)] rfl hsz hdf (by intro p hp;simp only [List.mem_cons,List.not_mem_nil,or_false] at hp;rcases hp with rfl | rfl | rfl <;> first | exact e0 | exact e1 | exact e3) hrest
   clear h hrest hsz hdf e0 e1 e3 g0 g1 g3
   subst ha
   simp only [List.foldl_cons,List.foldl_nil,Act.put,List.setIfInBounds_toArray,List.set_cons_succ,List.set_cons_zero]
   go_wp2
   exact bodyPost_ret (v:=.tuple #[.agg zN.toArray,ev E 4]) (results_nd2 rfl rfl s2 rfl rfl) rfl (.err_ HK.out (((Chg.of_ext (X:=[gz]) hx0.out).trans hE).new (by rw [HGZ.out];exact Nat.le_refl _)) rfl)
 have hl1:¬ ((120:Int)<(l.length:Int)):=by omega
 have hl2:¬ ((l.length:Int) > 120):=hl1
 have hl3:decide ((l.length:Int) > 120)=false:=decide_eq_false hl2
 obtain ⟨r1,hr1⟩:∃ r1,altsP l (5*l.length+5) 0 0 0 []=r1:=⟨_,rfl⟩
 have HNO1:=Lib.hid (show altsP l (5*l.length+5) 0 0 0 [] ≠ .out from (no_out l l.length 0 (Nat.zero_le _) (Nat.sub_le _ _)).2.2.2.2 _ 0 0 [] (Nat.le_refl _))
 have HA:=Lib.hid (rxParser E l (by omega) (5*l.length+5)).2.2.2.2
 have HR1:=Lib.hid hr1
 have HPR:=Lib.hid (show parseR l=finP l r1 by rw [parseR_fin hlen,hr1])
 clear hr1
 go_enter Tryz.func23,Tryz.ntmps23
 go_upto_region 3 with fail
 generalize w.alloc (.cells #[.int .i64 0,.int .i64 0,.bool false,.int .u64 0,.int .u64 0,.int .u64 0,.int .u64 0,.slice none 0 0] 28)=wa at *
 have hza:=Lib.hid (show gz<wa.heap.size from hN0.out.lt)
 obtain ⟨p,hp⟩:∃ p,wa.heap.size=p:=⟨_,rfl⟩
 have HPZ:=Lib.hid (show gz<p by rw [← hp];exact hza.out)
 have hPS:=Lib.hid (show PS (wa.alloc (.cells #[.string ⟨l.toArray⟩,.int .i64 0,.int .i64 0,.int .i64 0] 90)) p l 0 0 0 from Blk.newA hp _ [.string ⟨l.toArray⟩,.int .i64 0,.int .i64 0,.int .i64 0])
 go_upto_region 4 with fail
 have hx1:=Lib.hid (Ext.trans hx0.out (Ext.new1 wa (.cells #[.string ⟨l.toArray⟩,.int .i64 0,.int .i64 0,.int .i64 0] 90)))
 have hN1:=Lib.hid (hN0.out.alloc (.cells #[.string ⟨l.toArray⟩,.int .i64 0,.int .i64 0,.int .i64 0] 90))
 have HE1:=Lib.hid (HE.out.keep hx1.out)
 generalize wa.alloc (.cells #[.string ⟨l.toArray⟩,.int .i64 0,.int .i64 0,.int .i64 0] 90)=wb at *
 rw [hp] at *
 clear hx0 hN0 hza
 cases r1 with
 | out=>exact absurd HR1.out HNO1.out
 | err k =>
  have HKE:=Lib.hid (show parseR l=.err k from HPR.out)
  go_wp2_with fail
  go_at_call 45
  refine (HA.out p 0 0 0 _ HNO1.out (Nat.zero_le _) (Nat.zero_le _) (Nat.zero_le _) hPS.out HE1.out).mono ?_
  rintro e w6 hR
  rw [HR1.out] at hR
  obtain ⟨hC6,rfl,hk⟩:=hR
  obtain ⟨k,rfl⟩:∃ k',k=k' + 1:=⟨k-1,by omega⟩
  have hB6:=Lib.hid (hN1.out.chg hC6 (by simp;have:=HPZ.out;omega))
  have hC:=Lib.hid ((Chg.of_ext (X:=[p]) hx1.out).trans hC6)
  have hn:=fun w=>run_eql_iface_nil (P:=Tryz.prog) (w:=w) 30 (by kernel_rfl) 151 (.pointer (some (E k)))
  clear hk hC6
  unfold ev errV zN
  go_wp2_with (refine store_nd rfl (.tmp 2) (.tmp 23) rfl (g:=gz) zN rfl rfl (hB6.out.alloc _) rfl rfl rfl ?_)
  exact bodyPost_ret (v:=.tuple #[.agg zN.toArray,ev E (k+1)]) (results_nd2 rfl rfl (Blk.row (hB6.out.alloc _) _) rfl rfl) rfl (.err_ HKE.out ((Chg.rowX (hC.out.trans (.of_ext (Ext.new1 _ _))) _ _ (by rw [HGZ.out];exact Nat.le_refl _)).new (by rw [HGZ.out];have:=HPZ.out;omega)) rfl)
 | ok t i1 gr1 =>
  have hb1:=(bounds_all l (5*l.length+5)).alts 0 0 0 [] t i1 gr1 HR1.out (Nat.zero_le _)
  have HB1:=Lib.hid (show i1≤l.length from hb1.2.1)
  clear hb1
  go_wp2_with fail
  go_at_call 45
  refine (HA.out p 0 0 0 _ HNO1.out (Nat.zero_le _) (Nat.zero_le _) (Nat.zero_le _) hPS.out HE1.out).mono ?_
  rintro e w6 hR
  rw [HR1.out] at hR
  obtain ⟨hC6,v,rfl,hv,hp6,h96⟩:=hR
  obtain ⟨k,m,z,q,B,n,c,rfl⟩:=nodeV_form hv
  have hsz6:=hC6.size
  have hzl:=hN1.out.lt
  have hN:ItNow E p l 0 i1 gr1 wb gz w6.heap.size t k m z q B n c (w6.alloc (.cells (nodeC k m z q B n c).toArray 28)):=
   ⟨hp6.keep (Ext.new1 _ _),hC6.trans (.of_ext (Ext.new1 _ _)),(HE1.out.chg hPS.out hC6).keep (Ext.new1 _ _),(hN1.out.chg hC6 (by simp;have:=HPZ.out;omega)).keep (Ext.new1 _ _),NodeB.new _ _ _ _ _ _ _ _,
    (hv.mono (fun b hb h=>⟨by omega,by omega⟩)).keep (Ext.new1 _ _)⟩
  have HN:=Lib.hid hN
  have HGG:=Lib.hid (show gz<w6.heap.size by omega)
  clear hN hv hp6 hC6 h96 hsz6 hzl hN1 HE1 hPS
  unfold nodeC at HN ⊢
  go_upto_region 7 with fail
  generalize w6.alloc (.cells #[.int .i64 k,.int .i64 m,.bool z,.int .u64 (wd q 0:Nat),.int .u64 (wd q 1:Nat),.int .u64 (wd q 2:Nat),.int .u64 (wd q 3:Nat),.slice B n c] 28)=wc at *
  generalize w6.heap.size=gb at *
  obtain ⟨p0,p1,p2,p3⟩:=HN.out.ps.cells
  by_cases hlt:i1<l.length
  focus
   have HCE:=Lib.hid (show parseR l=.err 5 by rw [HPR.out];unfold finP;simp only [if_pos hlt])
   have hq1:(i1:Int)<(l.length:Int):=by omega
   have hq2:decide ((i1:Int)<(l.length:Int))=true:=decide_eq_true hq1
   go_upto_region 8 with fail
   obtain ⟨e1,e2,e3,e4,e5,e6⟩:=HN.out.en.facts
   have hne1:¬ gz=4:=by intro e;have:=HN.out.ze.cell 0;rw [e,e4] at this;simp [errV,zN] at this
   have hNz:=Lib.hid HN.out.ze
   have hCz:=Lib.hid (((Chg.of_ext (X:=[p]) hx1.out).trans HN.out.ch).new (by rw [HGZ.out];have:=HPZ.out;omega))
   have HGW:=Lib.hid (Nat.le_refl gz)
   have hne2:¬ 4=gz:=fun e=>hne1 e.symm
   clear hne1 p0 p1 p2 p3
   refine wp_region_dagS (E:=Chg [gz]) (F:=Ext) (z:=2) (late:=[]) (w0:=wc) (Φ:=fun i v w=>match i with | 0=>(v=.agg zN.toArray) | 1=>(v=errV E 4) | 2=>(Blk w gz 28 zN) | 3=>(v=errV E 4) | _=>True) (show Tryz.prog.follows .mixedOrders=true from Checked.mixed Tryz.checked) 36 rfl (by decide +kernel) (by decide +kernel) ?_ (by decide +kernel) ?_ ((Below.refl _ _).drew) ((Chg.refl _ _).drew) ?_ ?_ ?_ ⟨?_,?_,?_,?_,trivial⟩ ?_
   ·intro i v w w' h hE
    match i,h with
    | 0,h=>exact h
    | 1,h=>exact h
    | 2,h=>exact Blk.keep h hE
    | 3,h=>exact h
    | _+4,_=>trivial
   ·intro i v w w' hiz hla h hE
    match i,hiz,hla,h with
    | 0,_,_,h=>exact h
    | 1,_,_,h=>exact h
    | 2,hiz,_,_=>exact absurd rfl hiz
    | 3,_,_,h=>exact h
    | _+4,_,_,_=>trivial
   ·exact fun w w' h h'=>h.trans (.of_ext h')
   ·exact fun w w' h h'=>h.trans h'
   ·exact fun w w' h h'=>(Chg.of_ext h).trans h'
   ·
    intro ac wx hE hF hsz hdf h
    clear h hsz hdf
    go_wp2
    exact ⟨_,rfl,rfl,Ext.refl _⟩
   ·
    intro ac wx hE hF hsz hdf h
    clear h hsz hdf
    have e9:=hE.cell e4 (by simp;exact hne2)
    go_wp2
    exact ⟨_,rfl,rfl,Ext.refl _⟩
   ·
    intro ac wx hE hF hsz hdf h
    have e2:ac.tmps[2]?=some (.pointer (some ⟨gz,0,none⟩)):=by obtain ⟨v,h1,h2⟩:=h 2 (by decide +kernel);exact h1.trans (h2.symm.trans rfl)
    have e33:ac.tmps[33]?=some (.agg zN.toArray):=by obtain ⟨v,h1,h2⟩:=h 33 (by decide +kernel);rw [h1];exact congrArg some h2
    have hB9:=hNz.out.keep (hF (.inl rfl))
    clear h hsz hdf
    refine store_nd rfl (.tmp 2) (.tmp 33) rfl (g:=gz) zN ?_ ?_ hB9 rfl rfl rfl ?_
    ·simp [Act.eval,e2]
    ·simp [Act.eval,e33]
    ·go_wp2;exact ⟨Blk.row hB9 _,rowChg _ _ _ (by simp)⟩
   ·
    intro ac wx hE hF hsz hdf h
    have e34:ac.tmps[34]?=some (errV E 4):=by obtain ⟨v,h1,h2⟩:=h 34 (by decide +kernel);rw [h1];exact congrArg some h2
    clear h hsz hdf
    go_wp2
    exact ⟨_,rfl,rfl,Ext.refl _⟩
   ·intro ac w9 hE hsz hdf h hrest
    obtain ⟨v0,s0,g0⟩:=h 0 _ rfl
    have e0:=g0 33 rfl
    obtain rfl:v0=.agg zN.toArray:=s0
    obtain ⟨v1,s1,g1⟩:=h 1 _ rfl
    have e1:=g1 34 rfl
    obtain rfl:v1=errV E 4:=s1
    obtain ⟨v2,s2,-⟩:=h 2 _ rfl
    replace s2:Blk w9 gz 28 zN:=s2
    obtain ⟨v3,s3,g3⟩:=h 3 _ rfl
    have e3:=g3 3 rfl
    obtain rfl:v3=errV E 4:=s3
    have ha:=act_of [(33,.agg zN.toArray),(34,errV E 4),(3,errV E 4)] rfl hsz hdf (by intro p hp;simp only [List.mem_cons,List.not_mem_nil,or_false] at hp;rcases hp with rfl | rfl | rfl <;> first | exact e0 | exact e1 | exact e3) hrest
    clear h hrest hsz hdf e0 e1 e3 g0 g1 g3
    subst ha
    simp only [List.foldl_cons,List.foldl_nil,Act.put,List.setIfInBounds_toArray,List.set_cons_succ,List.set_cons_zero]
    go_wp2
    exact bodyPost_ret (v:=.tuple #[.agg zN.toArray,ev E 5]) (results_nd2 rfl rfl s2 rfl rfl) rfl (.err_ HCE.out (((Chg.of_ext (X:=[gz]) hCz.out).trans hE).new (by rw [HGZ.out];exact Nat.le_refl _)) rfl)
  have HCE:=Lib.hid (show parseR l=.ok t i1 gr1 by rw [HPR.out];unfold finP;simp only [if_neg hlt])
  have hq1:¬ ((i1:Int)<(l.length:Int)):=by omega
  have hq2:decide ((i1:Int)<(l.length:Int))=false:=decide_eq_false hq1
  have hpz:=Lib.hid (show p ≠ gz by have:=HPZ.out;omega)
  obtain ⟨b0,b1,b2,b3,b4,b5,b6,b7⟩:=HN.out.bo.cells
  have hC:=Lib.hid ((Chg.of_ext (X:=[p]) hx1.out).trans HN.out.ch)
  go_wp2_with (refine store_nd rfl (.tmp 2) (.tmp 35) rfl (g:=gz) (nodeC k m z q B n c) rfl rfl HN.out.ze rfl rfl rfl ?_)
  exact bodyPost_ret (v:=.tuple #[.agg (nodeC k m z q B n c).toArray,.nilIface]) (results_nd2 rfl rfl (Blk.row HN.out.ze _) rfl rfl) rfl (.ok_ HCE.out ((Chg.rowX hC.out _ _ (by rw [HGZ.out];exact Nat.le_refl _)).new (by rw [HGZ.out];have:=HPZ.out;omega)) rfl ((HN.out.vv.chg (rowChg _ _ _ (List.mem_singleton.2 rfl)) (by intro y hy;simp at hy;omega)).mono (fun b _ h=>by rw [HGZ.out];omega)))
end Go.Proofs.YtigmdlchbjanoaaGreatDoor
