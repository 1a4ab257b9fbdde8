/- Put together: Gl5, Gl6. -/
import Derived.Test.YtigmdlchbjanoaaGreatDoorPGvL
namespace Go.Proofs.YtigmdlchbjanoaaGreatDoor
open Go Go.RowKit
attribute [local irreducible] wd
set_option maxHeartbeats 2000000 in
set_option maxRecDepth 20000 in
theorem glIsPlain (c:UInt8) (w:World):Calls Tryz.prog 36 #[.int .u8 (c.toNat:Nat)] w fun e w'=>e=.returned (.bool (plainB c))∧w'=w:=by
 have h256:=UInt8.toNat_lt c
 obtain ⟨n,hn⟩:∃ n,c.toNat=n:=⟨_,rfl⟩
 have HPL:plainB c=((decide (97≤n) && decide (n≤122)) || (decide (65≤n) && decide (n≤90)) || (decide (48≤n) && decide (n≤57)) || n == 32 || n == 95):=by unfold plainB;rw [hn]
 rw [HPL,hn]
 rw [hn] at h256
 clear HPL hn
 go_enter Tryz.func36,Tryz.ntmps36
 go_wp2
 all_goals
  go_ret
  refine ⟨congrArg (fun b=>Ending.returned (Value.bool b)) ?_,rfl⟩
  rw [Bool.eq_iff_iff]
  simp
  try omega
structure Nr (C b:Nat) (w w':World):Prop where
 os:w'.os=w.os
 tape:w'.tape=w.tape
 output:w'.output=w.output
 size:w.heap.size≤w'.heap.size
 block:∀ k,k<C→k ≠ b→w'.heap[k]?=w.heap[k]?
theorem Nr.refl (C b:Nat) (w:World):Nr C b w w:=⟨rfl,rfl,rfl,Nat.le_refl _,fun _ _ _=>rfl⟩
theorem Nr.trans {C b:Nat} {w w' w2:World} (h:Nr C b w w') (h':Nr C b w' w2):Nr C b w w2:=
 ⟨h'.os.trans h.os,h'.tape.trans h.tape,h'.output.trans h.output,Nat.le_trans h.size h'.size,fun k hk hb=>(h'.block k hk hb).trans (h.block k hk hb)⟩
theorem Nr.ext {C b:Nat} {w0 w w':World} (h0:Ext w0 w) (h:Nr C b w w') (hC:w0.heap.size≤C) (hb:w0.heap.size≤b):Ext w0 w':=
 ⟨h.os.trans h0.os,h.tape.trans h0.tape,h.output.trans h0.output,Nat.le_trans h0.size h.size,fun k hk=>(h.block k (by omega) (by omega)).trans (h0.block k hk)⟩
theorem Nr.of_ext {C b:Nat} {w w':World} (h:Ext w w') (hC:C≤w.heap.size):Nr C b w w':=⟨h.os,h.tape,h.output,h.size,fun k hk _=>h.block k (by omega)⟩
theorem Nr.set {C b j:Nat} {w:World} (u:Value):Nr C b w (w.setCell ⟨b,j,none⟩ u):=⟨rfl,rfl,rfl,by simp [World.setCell],fun _ _ hk=>Below.heap_setCell _ _ _ _ hk⟩
def BQ (w:World) (C b:Nat) (l:List UInt8):Prop:=b<C∧C≤w.heap.size∧∃ p v,(p=none∨p=some ⟨b,0,none⟩)∧Blk w b 75 [.pointer p,v]∧w.ownsRow C 5 1 v (Lib.byteCells l).length (Lib.byteCells l)
theorem own_far {w:World} {C b n:Nat} {e:TypeId} {v:Value} {xs:List Value} (hb:b<C) (h:w.ownsRow C e 1 v n xs):v.ownBlock ≠ some b:=fun e=>by have:=(h.lt b e).1;omega
theorem BQ.at_ {w:World} {C b:Nat} {l:List UInt8} (h:BQ w C b l):BldAt w b b l:=by
 obtain ⟨hb,_,p,v,hp,hk,ho⟩:=h
 rcases hp with rfl | rfl
 ·exact .inl ⟨Nat.le_refl _,v,hk,own_mono ho (Nat.le_of_lt hb),own_far hb ho⟩
 ·exact .inr ⟨Nat.le_refl _,v,hk,own_mono ho (Nat.le_of_lt hb),own_far hb ho⟩
theorem bqCheck {C b:Nat} {l:List UInt8} (w:World) (h:BQ w C b l) :
  Calls Tryz.prog 57 #[.pointer (some ⟨b,0,none⟩)] w fun e w'=>e=.returned (.tuple #[])∧Nr C b w w' ∧ ∃ v,Blk w' b 75 [.pointer (some ⟨b,0,none⟩),v]∧w'.ownsRow C 5 1 v (Lib.byteCells l).length (Lib.byteCells l):=by
 obtain ⟨hb,hC,p,v,hp,hk,ho⟩:=h
 rcases hp with rfl | rfl
 ·have h0:Lib.BuilderAt 75 5 b b (.pointer none) (Lib.byteCells l) w:=⟨Nat.le_refl _,v,hk,own_mono ho (Nat.le_of_lt hb),own_far hb ho⟩
  refine (bldCheck_fresh b w h0.cell0 h0.shape h0.frozen0).mono ?_
  rintro e w' ⟨rfl,rfl⟩
  exact ⟨rfl,Nr.set _,v,Blk.set_ hk 0 _,own_chg ho ((Chg.refl [b] w).setCell (p:=⟨b,0,none⟩) (by simp) _) (fun k hk'=>by have:=(ho.lt k hk').1;simp;omega)⟩
 ·have h0:Lib.BuilderAt 75 5 b b (.pointer (some ⟨b,0,none⟩)) (Lib.byteCells l) w:=⟨Nat.le_refl _,v,hk,own_mono ho (Nat.le_of_lt hb),own_far hb ho⟩
  refine (bldCheck_used b w h0.cell0).mono ?_
  rintro e w' ⟨rfl,rfl⟩
  exact ⟨rfl,Nr.refl _ _ _,v,hk,ho⟩
theorem bq_put {C b:Nat} {l t:List UInt8} {w0 w w2:World} {v v':Value} {cs:List Value} (hb:b<C) (hC:C≤w.heap.size) (hn:Nr C b w0 w) (hbk:Blk w b 75 [.pointer (some ⟨b,0,none⟩),v]) (hown:w.ownsRow C 5 1 v (Lib.byteCells l).length (Lib.byteCells l))
  (hcs:Lib.byteCells (l ++ t)=cs) (hg:w.grownBy w2 v.ownBlock) (hown':w2.ownsRow C 5 1 v' cs.length cs):BQ (w2.setCell ⟨b,1,none⟩ v') C b (l ++ t)∧Nr C b w0 (w2.setCell ⟨b,1,none⟩ v'):=by
 subst hcs
 have hbl:b<w.heap.size:=by omega
 have hb2:Blk w2 b 75 [.pointer (some ⟨b,0,none⟩),v]:=(hg.block b hbl (fun e=>own_far hb hown e.symm)).trans hbk
 refine ⟨⟨hb,by simp [World.setCell];exact Nat.le_trans hC hg.size,_,v',.inr rfl,Blk.set_ hb2 1 _,own_chg hown' ((Chg.refl [b] w2).setCell (p:=⟨b,1,none⟩) (by simp) _) (fun k hk'=>by have:=(hown'.lt k hk').1;simp;omega)⟩,(hn.trans ⟨hg.os,hg.tape,hg.output,hg.size,fun k hk hkb=>hg.block k (by omega) (fun e=>by have:=(hown.lt k e.symm).1;omega)⟩).trans (Nr.set _)⟩
set_option maxHeartbeats 2000000 in
set_option maxRecDepth 100000 in
theorem bqByte {C b:Nat} {l:List UInt8} (c:UInt8) (w:World) (h:BQ w C b l) (hlen:l.length≤1000000) :
  Calls Tryz.prog 37 #[.pointer (some ⟨b,0,none⟩),.int .u8 (c.toNat:Nat)] w fun e w'=>e=.returned .nilIface∧BQ w' C b (l ++ [c])∧Nr C b w w':=by
 have HLN:=Lib.hid hlen
 have H:=Lib.hid (bqCheck w h)
 have HB:=Lib.hid h.1
 have HC:=Lib.hid h.2.1
 clear h
 go_enter Tryz.func37,Tryz.ntmps37
 go_wp2_with (go_at_call 57;refine H.out.mono ?_)
 rintro e w1 ⟨rfl,hn1,v,hbk,hown⟩
 have hlt:b<w1.heap.size:=hbk.lt
 have c0:w1.cell? ⟨b,0,none⟩=some (.pointer (some ⟨b,0,none⟩)):=by rw [Lib.cell_of_heap hbk];rfl
 have c1:w1.cell? ⟨b,1,none⟩=some v:=by rw [Lib.cell_of_heap hbk];rfl
 have hxa:=Ext.new1 w1 (.cells #[.int .u8 (c.toNat:Nat)] 5)
 have hown2:=Lib.hid (own_ext hown hxa)
 have hbk2:=Lib.hid (hbk.keep hxa)
 have HC1:=Lib.hid (Nat.le_trans HC.out hn1.size)
 have HN2:=Lib.hid (hn1.trans (Nr.of_ext hxa HC1.out))
 have HC2:=Lib.hid (Nat.le_trans HC1.out hxa.size)
 have HNE:=Lib.hid (own_far HB.out hown)
 have HBL:=Lib.hid (show (Lib.byteCells l).length=l.length from Lib.byteCells_length l)
 clear hbk hown hn1 hxa
 go_upto_region 2 with fail
 go_wp2_with (refine wpList_app2 Tryz.elemB rfl (.tmp 11) (.tmp 13) rfl (v:=v) (n:=(Lib.byteCells l).length) (xs:=Lib.byteCells l) rfl hown2.out HC2.out (A:=some ⟨w1.heap.size,0,none⟩) (m:=1) (c:=1) (news:=[.int .u8 (c.toNat:Nat)]) rfl (rd_newS w1 1 1 [.int .u8 (c.toNat:Nat)] 5 rfl) (by intro u hu;simp at hu;subst hu;rfl) (by have:=HLN.out;rw [HBL.out];omega) (by have:=HLN.out;rw [HBL.out];unfold maxLen;omega) ?_;intro v8 w8 hown8 hgr8 _ hat8;have hbk8:=(hgr8.by_.block b (Nat.lt_of_lt_of_le hlt (by simp)) (fun e=>HNE.out e.symm)).trans hbk2.out;have d0:w8.cell? ⟨b,0,none⟩=some (.pointer (some ⟨b,0,none⟩)):=(by rw [Lib.cell_of_heap hbk8];rfl);have d1:w8.cell? ⟨b,1,none⟩=some v:=(by rw [Lib.cell_of_heap hbk8];rfl);have f1:w8.frozen? ⟨b,1,none⟩=false:=Lib.frozen_of_heap hbk8 1;obtain ⟨A8,n8,rfl,hn8,hm8,hr8⟩:=own_rd hown8;clear hn8 hm8 hr8)
 go_ret
 exact ⟨rfl,bq_put (cs:=Lib.byteCells l ++ [.int .u8 (c.toNat:Nat)]) HB.out HC2.out HN2.out hbk2.out hown2.out (by simp [Lib.byteCells]) hgr8.by_ (by rw [List.length_append];exact hown8)⟩
set_option maxHeartbeats 2000000 in
set_option maxRecDepth 100000 in
theorem bqStr {C b:Nat} {l:List UInt8} (t:List UInt8) (w:World) (h:BQ w C b l) (hlen:l.length+t.length≤1000000) :
  Calls Tryz.prog 38 #[.pointer (some ⟨b,0,none⟩),.string ⟨t.toArray⟩] w fun e w'=>e=.returned (.tuple #[.int .i64 t.length,.nilIface])∧BQ w' C b (l ++ t)∧Nr C b w w':=by
 obtain ⟨i0,hi,hz0,hz1,hz2⟩:=info_parts byte_info
 have HLN:=Lib.hid hlen
 have H:=Lib.hid (bqCheck w h)
 have HB:=Lib.hid h.1
 have HC:=Lib.hid h.2.1
 have HBL:=Lib.hid (show (Lib.byteCells l).length=l.length from Lib.byteCells_length l)
 clear h
 go_enter Tryz.func38,Tryz.ntmps38
 go_wp2_with (go_at_call 57;refine H.out.mono ?_)
 rintro e w1 ⟨rfl,hn1,v,hbk,hown⟩
 have hlt:b<w1.heap.size:=hbk.lt
 have c0:w1.cell? ⟨b,0,none⟩=some (.pointer (some ⟨b,0,none⟩)):=by rw [Lib.cell_of_heap hbk];rfl
 have c1:w1.cell? ⟨b,1,none⟩=some v:=by rw [Lib.cell_of_heap hbk];rfl
 have HC1:=Lib.hid (Nat.le_trans HC.out hn1.size)
 go_wp2_with (at_builtin;refine Lib.wpList_append_own_string _ rfl _ _ 52 9 rfl C 5 i0 Tryz.underlying52 Tryz.underlying9 hi hz0 hz1 hz2 _ _ _ rfl hown ⟨t.toArray⟩ rfl ?c3 ?c4 ?c5 ?_)
 case c3=>have:=HLN.out;rw [HBL.out];show l.length+t.length≤_;unfold maxLen;omega
 case c4=>have:=HLN.out;rw [HBL.out];show l.length+t.length≤_;omega
 case c5=>exact HC1.out
 intro v' w2 hown' hgrow _
 have hb2:Blk w2 b 75 [.pointer (some ⟨b,0,none⟩),v]:=(hgrow.block b hlt (fun e=>own_far HB.out hown e.symm)).trans hbk
 have d0:w2.cell? ⟨b,0,none⟩=some (.pointer (some ⟨b,0,none⟩)):=by rw [Lib.cell_of_heap hb2];rfl
 have d1:w2.cell? ⟨b,1,none⟩=some v:=by rw [Lib.cell_of_heap hb2];rfl
 have f1:w2.frozen? ⟨b,1,none⟩=false:=Lib.frozen_of_heap hb2 1
 obtain ⟨ao,n',cap,rfl⟩:∃ ao n' cap,v'=.slice ao n' cap:=by
  rcases hown'.2 with ⟨hv,_⟩ | ⟨g,cap,cur,hv,_⟩
  ·exact ⟨_,_,_,hv⟩
  ·exact ⟨_,_,_,hv⟩
 go_wp2
 go_ret2
 have e1:Lib.byteCells (l ++ t)=Lib.byteCells l ++ Lib.strCells ⟨t.toArray⟩:=by simp [Lib.byteCells,Lib.strCells]
 exact ⟨rfl,bq_put HB.out HC1.out hn1 hbk hown e1 hgrow (by rw [List.length_append,Lib.strCells_length];exact hown')⟩
end Go.Proofs.YtigmdlchbjanoaaGreatDoor
namespace Go.Proofs.YtigmdlchbjanoaaGreatDoor
open Go Go.RowKit
attribute [local irreducible] wd
theorem rd_same {w w':World} {b n:Nat} {cs:List Value} (h:Rd w 1 (some ⟨b,0,none⟩) n cs) (hs:w.heap.size≤w'.heap.size) (hb:w'.heap[b]?=w.heap[b]?):Rd w' 1 (some ⟨b,0,none⟩) n cs:=
 ⟨h.1,fun hn=>by
  obtain ⟨b',o,e,hlt,hc⟩:=h.2 hn
  cases e
  exact ⟨b,0,rfl,Nat.lt_of_lt_of_le hlt hs,fun j u hu=>by rw [← hc j u hu];unfold World.cell?;rw [hb]⟩⟩
theorem quote_take {l:List UInt8} {k:Nat} (h:k<l.length):quoteG (l.take (k+1))=quoteG (l.take k) ++ quoteC l[k]:=by
 unfold quoteG
 rw [List.take_succ_eq_append_getElem h,List.flatMap_append]
 simp
theorem quote_len4 (l:List UInt8):(quoteG l).length≤4*l.length:=by
 induction l with
 | nil=>simp [quoteG]
 | cons c r ih =>
  have e:quoteG (c :: r)=quoteC c ++ quoteG r:=by unfold quoteG;rw [List.flatMap_cons]
  have:(quoteC c).length≤4:=by unfold quoteC;split <;> simp
  rw [e,List.length_append,List.length_cons]
  omega
set_option maxHeartbeats 8000000 in
set_option maxRecDepth 20000 in
theorem glQuote (l:List UInt8) (hl:l.length≤10000) (w:World) :
  Calls Tryz.prog 16 #[.string ⟨l.toArray⟩] w fun e w'=>e=.returned (.string ⟨(quoteG l).toArray⟩)∧Ext w w':=by
 obtain ⟨gz,hgz⟩:∃ gz,w.heap.size=gz:=⟨_,rfl⟩
 have hN0:=Lib.hid (Blk.newA (w:=w) hgz 75 [.pointer none,.slice none 0 0])
 have hx0:=Lib.hid (Ext.new1 w (.cells #[.pointer none,.slice none 0 0] 75))
 have HGZ:=Lib.hid (Nat.le_of_eq hgz)
 go_enter Tryz.func16,Tryz.ntmps16
 go_upto_region 2 with fail
 generalize w.alloc (.cells #[.pointer none,.slice none 0 0] 75)=w1 at *
 obtain ⟨cap,w2,hconv,hrd,hb2,_,_⟩:=conv_bytes (P:=Tryz.prog) w1 Tryz.underlying9 Tryz.underlying52 Tryz.underlying5 l (by omega)
 have HRD:=Lib.hid hrd
 have HX2:=Lib.hid (Ext.trans hx0.out hb2)
 have HN2:=Lib.hid (hN0.out.keep hb2)
 have HGB:=Lib.hid (show l ≠ []→w1.heap.size<w2.heap.size from fun h0=>by
  obtain ⟨b',o,e,hlt,_⟩:=hrd.2 (by simp [bytesV];exact List.length_pos_iff.2 h0)
  cases e
  exact hlt)
 have HZ1:=Lib.hid (show gz<w1.heap.size from hN0.out.lt)
 go_upto_region 3 with fail
 clear hconv hrd hb2 hN0 hx0
 generalize w1.heap.size=gb at *
 have HQ2:=Lib.hid (show BQ w2 w2.heap.size gz (quoteG []) from ⟨HN2.out.lt,Nat.le_refl _,none,.slice none 0 0,.inl rfl,HN2.out,⟨rfl,.inl ⟨rfl,rfl⟩⟩⟩)
 go_loopg [9] l.length (fun gg iv wr=>∃ k:Nat,k≤l.length∧gg=l.length-k∧iv=.int .i64 (k:Nat)∧BQ wr w2.heap.size gz (quoteG (l.take k))∧Nr w2.heap.size gz w2 wr)
 case atStart=>exact ⟨0,Nat.zero_le _,by simp,rfl,HQ2.out,Nr.refl _ _ _⟩
 case round =>
  obtain ⟨iq,hi,rfl,rfl,hq,hn⟩:=hrel
  have HQ:=Lib.hid hq
  have HN:=Lib.hid hn
  have HQL:=Lib.hid (show (quoteG (l.take iq)).length+8≤1000000 by have:=quote_len4 (l.take iq);rw [List.length_take] at this;omega)
  clear hq hn HQ2
  by_cases hlt:iq<l.length
  ·have hcell:wr.cell? ⟨gb,iq,none⟩=some (.int .u8 (l[iq].toNat:Int)):=by
    have hne:l ≠ []:=fun e=>by subst e;simp at hlt
    obtain ⟨b,o,e,_,hc⟩:=(rd_same HRD.out HN.out.size (HN.out.block gb (HGB.out hne) (by have:=HZ1.out;omega))).2 (by simp [bytesV];omega)
    cases e
    have:=hc iq _ (List.getElem?_eq_getElem (by simp [bytesV];omega))
    simpa [bytesV,U8] using this
   have hwi:IntKind.i64.wrap ((iq:Int)+1)=(iq:Int)+1:=wrap_id (by omega) (by omega)
   have HT:=Lib.hid (quote_take hlt)
   generalize l[iq]'hlt=c at *
   have h256:=UInt8.toNat_lt c
   generalize quoteG (l.take iq)=lq at *
   cases hp:plainB c
   ·have HP:=Lib.hid hp
    have HQC:=Lib.hid (show quoteC c=[92,120,hexC (c.toNat / 16),hexC (c.toNat % 16)] by unfold quoteC;rw [if_neg (by rw [hp];simp)])
    have hx0:∀ w,(Instr.index 9 (.string ⟨hexL.toArray⟩) (.int .u8 ((c.toNat:Int) / 16))).run Tryz.prog w=.ok (.int .u8 (hexC (c.toNat / 16)).toNat) w:=fun w=>ix_str (t:=9) Tryz.underlying9 hexL .u8 (c.toNat / 16) _ (hexL_at _ (by omega)) w
    have hx1:∀ w,(Instr.index 9 (.string ⟨hexL.toArray⟩) (.int .u8 ((c.toNat:Int) % 16))).run Tryz.prog w=.ok (.int .u8 (hexC (c.toNat % 16)).toNat) w:=fun w=>ix_str (t:=9) Tryz.underlying9 hexL .u8 (c.toNat % 16) _ (hexL_at _ (by omega)) w
    have hm:bits BinOp.and IntKind.u8 (c.toNat:Int) 15=(c.toNat:Int) % 16:=(u8_and_nat c.toNat 15 h256 (by omega)).trans (by rw [Nat.and_two_pow_sub_one_eq_mod c.toNat 4];rfl)
    unfold hexL at hx0 hx1
    generalize hexC (c.toNat / 16)=x at *
    generalize hexC (c.toNat % 16)=y at *
    clear hp
    go_upto_region 6 with (go_at_call 36;refine (glIsPlain c _).mono ?_;rintro e wA ⟨rfl,rfl⟩;rw [HP.out])
    refine (bqStr [92,120] _ HQ.out (by have:=HQL.out;simp;omega)).mono ?_
    rintro e wB ⟨rfl,hq1,hn1⟩
    go_wp2_with (first
     | (have:=hq2;go_at_call 37;refine (bqByte y _ hq2 (by have:=HQL.out;simp;omega)).mono ?_;rintro e wD ⟨rfl,hq3,hn3⟩)
     | (go_at_call 37;refine (bqByte x _ hq1 (by have:=HQL.out;simp;omega)).mono ?_;rintro e wC ⟨rfl,hq2,hn2⟩))
    go_roundg (l.length-(iq+1))
    case measure=>omega
    case rel=>exact ⟨iq+1,by omega,rfl,rfl,by rw [HT.out,HQC.out];simpa using hq3,((HN.out.trans hn1).trans hn2).trans hn3⟩
   ·have HP:=Lib.hid hp
    have HQC:=Lib.hid (show quoteC c=[c] by unfold quoteC;rw [if_pos hp])
    clear hp
    go_wp2_with (first
     | (go_at_call 36;refine (glIsPlain c _).mono ?_;rintro e wA ⟨rfl,rfl⟩;rw [HP.out])
     | (go_at_call 37;refine (bqByte c _ HQ.out (by have:=HQL.out;omega)).mono ?_;rintro e wB ⟨rfl,hq1,hn1⟩))
    go_roundg (l.length-(iq+1))
    case measure=>omega
    case rel=>exact ⟨iq+1,by omega,rfl,rfl,by rw [HT.out,HQC.out];exact hq1,HN.out.trans hn1⟩
  ·obtain rfl:iq=l.length:=by omega
   have HT:=Lib.hid (show BldAt wr gz gz (quoteG l) by have:=HQ.out.at_;rwa [List.take_length] at this)
   have HSZ:=Lib.hid (show gz≤wr.heap.size from Nat.le_trans (Nat.le_of_lt HN2.out.lt) HN.out.size)
   go_wp2_with (go_at_call 39;refine (bldText gz gz (quoteG l) _ HT.out HSZ.out).mono ?_;rintro e wZ ⟨rfl,hbz⟩)
   go_ret
   have hx3:Ext w wr:=HN.out.ext HX2.out HX2.out.size HGZ.out
   exact ⟨rfl,Below.trans hx3 (hbz.mono HGZ.out)⟩
set_option maxHeartbeats 2000000 in
set_option maxRecDepth 20000 in
theorem glWord2 (w:World) (h:w.cell? ⟨2,2,none⟩=some (.string ⟨#[103,108,111,98]⟩)) :
  Calls Tryz.prog 15 #[.int .i64 2] w fun e w'=>e=.returned (.string ⟨#[103,108,111,98]⟩)∧w'=w:=by
 go_enter Tryz.func15,Tryz.ntmps15
 go_wp2
 go_ret
 exact ⟨rfl,rfl⟩
end Go.Proofs.YtigmdlchbjanoaaGreatDoor
