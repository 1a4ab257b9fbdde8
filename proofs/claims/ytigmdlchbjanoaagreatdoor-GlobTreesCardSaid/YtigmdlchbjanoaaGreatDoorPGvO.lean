/- Put together: Gt1, Gt2, Gt3. -/
import Derived.Test.YtigmdlchbjanoaaGreatDoorPGvE
import Derived.Test.YtigmdlchbjanoaaGreatDoorPGvK
import Derived.Deep.DeepCutAuto
namespace Go.Proofs.YtigmdlchbjanoaaGreatDoor
open Go Go.RowKit
def putL:List Value→Nat→List Value→List Value
 | l,_,[]=>l
 | l,o,v :: vs=>putL (l.set o v) (o+1) vs
theorem putL_out:∀ (vs l:List Value) (o j:Nat),(j<o∨o+vs.length≤j)→(putL l o vs)[j]?=l[j]?:=by
 intro vs
 induction vs with
 | nil=>intro l o j _;rfl
 | cons v vs ih =>
  intro l o j h
  rw [List.length_cons] at h
  rw [putL,ih _ _ _ (by omega),List.getElem?_set,if_neg (by omega)]
theorem putL_in:∀ (vs l:List Value) (o j:Nat),j<vs.length→o+j<l.length→(putL l o vs)[o+j]?=vs[j]?:=by
 intro vs
 induction vs with
 | nil=>intro l o j h;simp at h
 | cons v vs ih =>
  intro l o j h hl
  rw [putL]
  cases j with
  | zero =>
   simp only [Nat.add_zero] at hl ⊢
   rw [putL_out _ _ _ _ (by omega),List.getElem?_set,if_pos rfl,if_pos hl];rfl
  | succ j =>
   rw [List.length_cons] at h
   rw [show o+(j+1)=o+1+j by omega,ih _ _ _ (by omega) (by rw [List.length_set];omega)]
   rfl
theorem blk_setCells {g:Nat} {e:TypeId}:∀ (vs:List Value) (o:Nat) (w:World) (cs:List Value),Blk w g e cs→Blk (w.setCells g o vs) g e (putL cs o vs):=by
 intro vs
 induction vs with
 | nil=>intro o w cs h;exact h
 | cons v vs ih=>intro o w cs h;rw [World.setCells,putL];exact ih _ _ _ (h.set_ o v)
theorem chg_setCells {g:Nat}:∀ (vs:List Value) (o:Nat) (w:World),Chg [g] w (w.setCells g o vs):=by
 intro vs
 induction vs with
 | nil=>intro o w;exact Chg.refl _ _
 | cons v vs ih=>intro o w;rw [World.setCells];exact (cell_chg v).trans (ih _ _)
theorem dn_putset (k m:Int) (z:Bool) (p q:Nat→Bool) (A:Option Addr) (n c:Nat):putL (dnC k m z p A n c) 3 (bcs q).toList=dnC k m z q A n c:=by
 have hs:(bcs q).toList.length=256:=by rw [Array.length_toList];exact bcs_size q
 apply List.ext_getElem?
 intro j
 by_cases h:j<3∨259≤j
 ·rw [putL_out _ _ _ _ (by rw [hs];omega),dn_at,dn_at]
  by_cases h0:j=0
  ·rw [if_pos h0,if_pos h0]
  by_cases h1:j=1
  ·rw [if_neg h0,if_neg h0,if_pos h1,if_pos h1]
  by_cases h2:j=2
  ·rw [if_neg h0,if_neg h0,if_neg h1,if_neg h1,if_pos h2,if_pos h2]
  rw [if_neg h0,if_neg h0,if_neg h1,if_neg h1,if_neg h2,if_neg h2,if_neg (show ¬ j<259 by omega),if_neg (show ¬ j<259 by omega)]
 ·obtain ⟨i,rfl⟩:∃ i,j=3+i:=⟨j-3,by omega⟩
  rw [putL_in _ _ _ _ (by rw [hs];omega) (by rw [dn_len];omega),dn_set _ _ _ _ _ _ _ (by omega),Array.getElem?_toList]
  exact bcs_get q (by omega)
theorem blk_there {w:World} {g o n:Nat} {e:TypeId} {cs:List Value} (h:Blk w g e cs) (hn:o+n≤cs.length):w.there g o n:=fun j hj =>
 ⟨by rw [h.cell (o+j),List.getElem?_eq_getElem (by omega)];rfl,h.frozen (o+j)⟩
section
variable {w:World} {ops:Array Oper} {rest:List Oper} {o:Oper} {a:Act} {Q:Exit→Act→World→Prop}
theorem store_dset (hgd:o.guard=none) (x y:Operand) (ho:o.op=.store 35 x y)
  {g:Nat} {k m:Int} {z:Bool} {p q:Nat→Bool} {A:Option Addr} {n c:Nat} (hx:a.eval x=.pointer (some ⟨g,3,none⟩)) (hy:a.eval y=.agg (bcs q)) (hg:Blk w g 38 (dnC k m z p A n c))
  (h:wpList Tryz.prog ops Q rest (a.put o.dst undef) (w.setCells g 3 (bcs q).toList)):wpList Tryz.prog ops Q (o :: rest) a w:=
 wpList_store_mid hgd _ x y ho g 3 (bcs q) hx hy (blk_there hg (by rw [bcs_size,dn_len];omega)) (by rw [bcs_size];exact set_size) (bcs_one q) h
end
theorem setset {w:World} {g:Nat} {k m:Int} {z:Bool} {p:Nat→Bool} (q:Nat→Bool) {A:Option Addr} {n c:Nat} (hg:Blk w g 38 (dnC k m z p A n c)) :
  Blk (w.setCells g 3 (bcs q).toList) g 38 (dnC k m z q A n c):=by
 have:=blk_setCells (bcs q).toList 3 w _ hg
 rwa [dn_putset] at this
structure AppD (B gz:Nat) (kv:Value) (acc:List T) (w:World) (v:Value) (w':World):Prop where
 row:DRow B gz v acc w'
 chg:Chg kv.ownBlock.toList w w'
 gt:∀ b,kv.ownBlock=some b→gz<b
theorem AppD.keep {B gz g:Nat} {kv v:Value} {acc:List T} {w w':World} {e:TypeId} {l:List Value} (h:AppD B gz kv acc w v w') (hb:Blk w g e l) (hg:g≤gz):Blk w' g e l:=
 hb.chg h.chg (fun hm=>by have:=h.gt g (by simpa using hm);omega)
theorem AppD.ext {B gz:Nat} {kv v:Value} {acc:List T} {w0 w w':World} (h:AppD B gz kv acc w v w') (hx:Ext w0 w) (hg:w0.heap.size≤gz):Ext w0 w':=
 ⟨h.chg.os.trans hx.os,h.chg.tape.trans hx.tape,h.chg.output.trans hx.output,Nat.le_trans hx.size h.chg.size,fun k hk=>(h.chg.block k (Nat.lt_of_lt_of_le hk hx.size) (fun hm=>by have:=h.gt k (by simpa using hm);omega)).trans (hx.block k hk)⟩
theorem rowT_cat {ks:List T} (h:ks ≠ []):rowT ks=mkCat ks:=by
 rcases ks with _ | ⟨t,_ | ⟨t2,ks⟩⟩
 ·exact absurd rfl h
 ·rfl
 ·rfl
set_option maxHeartbeats 2000000 in
set_option maxRecDepth 20000 in
theorem refJoined (S:Nat→Prop) (ks:List T) (hne:ks ≠ []) (A:Option Addr) (c:Nat) (cs:List Value) (w:World) (hR:Rd w 260 A ks.length cs) (hK:DKidsV S w ks cs) :
  Calls Tryz.prog 26 #[.slice A ks.length c] w fun e w'=>e=.returned (.agg (altC ks.length A c cs).toArray)∧Ext w w':=by
 have hx0:=Ext.new1 w (.cells Tryz.zeroCells38 38)
 have HR:=Lib.hid hR
 have HK:=Lib.hid hK
 have HX0:=Lib.hid hx0
 clear hR hK hx0
 rcases ks with _ | ⟨t,_ | ⟨t2,ks⟩⟩
 ·exact absurd rfl hne
 ·clear hne
  obtain ⟨b,o,k,m,z,p,B,n,c',rfl,hv,hrow⟩:=dkid_at HR.out HK.out (i:=0) (by simp)
  have hcs:cs=dnC k m z p B n c':=by
   obtain ⟨v,hv1,hv2⟩:=dkidsV_at HK.out (i:=0) (by simp)
   have hl:=dkidsV_len HK.out
   have hl1:=dnodeV_len hv
   apply List.ext_getElem?
   intro j
   by_cases hj:j<260
   ·have h9:=(hrow.out w (Ext.refl _)) j
    obtain ⟨x,hx⟩:∃ x,(dnC k m z p B n c')[j]?=some x:=⟨_,List.getElem?_eq_getElem (by omega)⟩
    obtain ⟨b',o',hbo,_,hcell⟩:=HR.out.2 (by rw [hl];simp)
    cases hbo
    obtain ⟨y,hy⟩:∃ y,cs[j]?=some y:=⟨_,List.getElem?_eq_getElem (by rw [hl];simpa using hj)⟩
    have h10:=hcell j y hy
    have h11:=h9 x hx
    rw [show o+0*260+j=o+j by omega,h10] at h11
    rw [hy,hx,h11]
   ·rw [List.getElem?_eq_none (by rw [hl];simp;omega),List.getElem?_eq_none (by omega)]
  have HE:=Lib.hid (show altC [t].length (some ⟨b,o,none⟩) c cs=dnC k m z p B n c' from hcs)
  rw [HE.out]
  have hel:=hrow.out _ HX0.out
  rw [show o+0*260=o by omega] at hel
  have HEL:=Lib.hid hel
  have hL:[t].length=1:=rfl
  rw [hL]
  clear hv hrow hel hcs hL HE HR HK
  go_enter Tryz.func26,Tryz.ntmps26
  go_wp2_with (first
   | (refine load_el rfl (.tmp 7) rfl rfl HEL.out ?_)
   | (refine store_dn_new rfl (.tmp 2) (.tmp 8) rfl rfl rfl zsize40 ?_))
  refine bodyPost_ret (results_dn rfl _ _ w.heap.size rfl (DB.new w _ _ _ _ _ _ _)) rfl ⟨rfl,Ext.new1 _ _⟩
 ·clear hne
  have hN1:¬ (((t :: t2 :: ks).length:Int)=1):=by simp;omega
  have HE:=Lib.hid (show altC (t :: t2 :: ks).length A c cs=dnC 3 0 false noP A (t :: t2 :: ks).length c by unfold altC;rw [if_neg (by simp),if_neg (by simp)])
  rw [HE.out]
  clear HE HR HK
  generalize (t :: t2 :: ks).length=L at *
  go_enter Tryz.func26,Tryz.ntmps26
  go_wp2_with (first
   | (refine store_dn_new rfl (.tmp 2) (.tmp 10) rfl rfl rfl zsize40 ?_)
   | (refine build_kk rfl (.tmp 9) rfl rfl ?_))
  refine bodyPost_ret (results_dn rfl _ _ w.heap.size rfl (DB.new w _ _ _ _ _ _ _)) rfl ⟨rfl,Ext.new1 _ _⟩
end Go.Proofs.YtigmdlchbjanoaaGreatDoor
namespace Go.Proofs.YtigmdlchbjanoaaGreatDoor
open Go Go.RowKit
def GI (l:List UInt8) (R:PR) (w:World) (gA g:Nat) (lv iv:Value) (wr:World):Prop:=
 ∃ (acc:List T) (i:Nat),g=l.length-i∧iv=.int .i64 (i:Nat)∧i≤l.length∧acc.length≤i∧(i ≠ 0→acc ≠ [])∧DRow (gA+1) gA lv acc wr∧DG l i acc R∧Ext w wr ∧
  Blk wr w.heap.size 38 Tryz.zeroCells38.toList∧Blk wr gA 38 (dnC 2 0 false (fun j=>decide (j≤255)) none 0 0)∧w.heap.size<gA
def GM (l:List UInt8) (R:PR) (w wr:World) (gA i:Nat) (acc:List T) (lv:Value) (a:Act) (wm:World):Prop:=
 ∃ (er sz g9:Nat) (k:Int) (p:Nat→Bool) (B:Option Addr) (n c:Nat) (t:T),
  Fr 105 [(0,.string ⟨l.toArray⟩),(2,.pointer (some ⟨w.heap.size,0,none⟩)),(4,.pointer (some ⟨gA,0,none⟩)),(5,lv),(6,.int .i64 (i:Nat)),(7,.int .i64 (sz:Nat)),(8,.int .i64 (er:Nat)),(9,.pointer (some ⟨g9,0,none⟩))] a ∧
  Ext wr wm∧Blk wm g9 38 (dnC k 0 false p B n c)∧(er ≠ 0→R=.err er) ∧
  (er=0→DG l (i+sz) (acc ++ [t]) R∧1≤sz∧i+sz≤l.length∧DNodeV (fun b=>gA<b∧some b ≠ lv.ownBlock) wm t (dnC k 0 false p B n c))
theorem dnode_kind {S:Nat→Prop} {w:World} {t:T} {k m:Int} {z:Bool} {p:Nat→Bool} {A:Option Addr} {n c:Nat} (h:DNodeV S w t (dnC k m z p A n c)):t.kind=k:=by
 cases t
 unfold DNodeV at h
 obtain ⟨_,_,_,e,_⟩:=h
 exact (dn_k e).1.symm
theorem wp_cutQ {P:Program} {s:Code} {Q:Exit→Act→World→Prop} {a:Act} {w:World} (R:Act→World→Prop) (rest:∀ a' w',R a' w' → Q .normal a' w')
  (first:∀ (J K':Act→World→Prop),(∀ a' w',R a' w' → J a' w')→(∀ a' w',Met J a' w' → K' a' w')→s.wp P (Exit.then K' Q) a w):s.wp P Q a w:=by
 refine wp_mono (first R R (fun _ _ q=>q) (fun _ _ q=>q)) ?_
 intro e a' w' hq
 cases e with
 | normal=>exact rest _ _ hq
 | exit id=>exact hq
 | goto l=>exact hq
 | ret=>exact hq
 | panic ch=>exact hq
 | outgrown=>exact hq
theorem ext_chg {w0 w w':World} {g:Nat} (h:Ext w0 w) (hc:Chg [g] w w') (hg:w0.heap.size≤g):Ext w0 w':=
 ⟨hc.os.trans h.os,hc.tape.trans h.tape,hc.output.trans h.output,Nat.le_trans h.size hc.size,fun k hk=>(hc.block k (Nat.lt_of_lt_of_le hk h.size) (by simp;omega)).trans (h.block k hk)⟩
set_option maxHeartbeats 40000000 in
set_option maxRecDepth 20000 in
theorem refParse24 (l:List UInt8) (w:World) :
  Calls Tryz.prog 9 #[.string ⟨l.toArray⟩] w fun e w'=>RefRes w (parseG l) e w':=by
 obtain ⟨R,hR⟩:∃ R,parseG l=R:=⟨_,rfl⟩
 by_cases hlen:120<l.length
 ·have hR4:parseG l=.err 4:=by unfold parseG sizeErr;rw [if_pos hlen];rfl
  rw [hR4]
  have hlen':(120:Int)<(l.length:Int):=by omega
  clear hR hR4
  go_enter Tryz.func9,Tryz.ntmps9
  go_wp2_with (first
   | (refine build_z rfl rfl ?_)
   | (refine store_dn_new rfl (.tmp 2) (.tmp 13) rfl rfl rfl zsize40 ?_))
  exact bodyPost_ret (v:=.tuple #[.agg (dnC 0 0 false (fun _=>false) none 0 0).toArray,.int .i64 4]) (results_dn2 rfl rfl (Blk.newL w _ _) (dn_len _ _ _ _ _ _ _) rfl) rfl ⟨Ext.new1 _ _,rfl⟩
 by_cases hnil:l=[]
 ·subst hnil
  have hR4:parseG []=.err 15:=rfl
  rw [hR4]
  clear hR hR4 hlen
  go_enter Tryz.func9,Tryz.ntmps9
  go_wp2_with (first
   | (refine build_z rfl rfl ?_)
   | (refine store_dn_new rfl (.tmp 2) (.tmp 17) rfl rfl rfl zsize40 ?_))
  exact bodyPost_ret (v:=.tuple #[.agg (dnC 0 0 false (fun _=>false) none 0 0).toArray,.int .i64 15]) (results_dn2 rfl rfl (Blk.newL w _ _) (dn_len _ _ _ _ _ _ _) rfl) rfl ⟨Ext.new1 _ _,rfl⟩
 have hsz0:sizeErr l=0:=by unfold sizeErr;rw [if_neg hlen,if_neg hnil]
 have hdg:=dg_start hsz0
 rw [hR] at hdg ⊢
 have hlen':¬ (120:Int)<(l.length:Int):=by omega
 have hnil':¬ (l.length:Int)=0:=by
  intro h
  exact hnil (List.length_eq_zero_iff.1 (by omega))
 have hz8:Tryz.zeroCells38.toList.length=260:=by rw [Array.length_toList];exact zsize40
 have HZ8:=Lib.hid hz8
 have HDG:=Lib.hid hdg
 have HL:=Lib.hid (show l.length≤120 by omega)
 have HB0:=Lib.hid (Blk.new w 38 Tryz.zeroCells38)
 have HX0:=Lib.hid (Ext.new1 w (.cells Tryz.zeroCells38 38))
 clear hR hdg hz8 hsz0 hlen hnil
 go_enter Tryz.func9,Tryz.ntmps9
 go_upto_region 6 with (first
  | (go_at_call 27;refine (refFrom 0 255 (by omega) (by omega) _).mono ?_;rintro e w1 ⟨rfl,hx1⟩)
  | (refine build_ks rfl (.tmp 18) rfl (p:=(fun j=>decide (j≤255))) rfl ?_)
  | (refine store_dn_new rfl (.tmp 4) (.tmp 19) rfl rfl rfl zsize40 ?_))
 have hba:=Blk.newL w1 38 (dnC 2 0 false (fun j=>decide (j≤255)) none 0 0)
 have hxa:=Ext.new1 w1 (.cells (dnC 2 0 false (fun j=>decide (j≤255)) none 0 0).toArray 38)
 have hbz:=(HB0.out.keep hx1).keep hxa
 have hx2:=(HX0.out.trans hx1).trans hxa
 have hgA:w.heap.size<w1.heap.size:=by have:=hx1.size;simp at this;omega
 have hsz2:(w1.alloc (.cells (dnC 2 0 false (fun j=>decide (j≤255)) none 0 0).toArray 38)).heap.size=w1.heap.size+1:=by simp
 generalize w1.alloc (.cells (dnC 2 0 false (fun j=>decide (j≤255)) none 0 0).toArray 38)=w2 at *
 generalize w1.heap.size=gA at *
 clear hxa hx1
 have HBA:=Lib.hid hba
 have HBZ:=Lib.hid hbz
 have HX2:=Lib.hid hx2
 have HGA:=Lib.hid hgA
 have HS2:=Lib.hid hsz2
 clear hba hbz hx2 HX0 HB0 hgA hsz2
 go_wp2
 refine wp_loop_ghost_k (fun g a wr=>∃ lv iv,Fr 105 [(0,.string ⟨l.toArray⟩),(2,.pointer (some ⟨w.heap.size,0,none⟩)),(4,.pointer (some ⟨gA,0,none⟩)),(5,lv),(6,iv)] a∧GI l R w gA g lv iv wr) (l.length) ?_ ?_
 ·have hxe:=Ext.new1 w2 (.cells #[] 38)
  refine ⟨.slice (some ⟨w2.heap.size,0,none⟩) 0 0,.int .i64 (0:Nat),Fr.cons (Fr.cons (Fr.cons (Fr.cons (Fr.cons (Fr.start ?_ ?_) ?_) ?_) ?_) ?_) ?_,?_⟩
  iterate 7 exact rfl
  refine ⟨[],0,by simp,rfl,by omega,by simp,fun h=>absurd rfl h,⟨⟨[],?_,by unfold DKidsV;rfl⟩,fun b hb=>?_⟩,HDG.out,HX2.out.trans hxe,HBZ.out.keep hxe,HBA.out.keep hxe,HGA.out⟩
  ·exact (Blk.newL w2 38 []).own (base:=gA+1) (n:=0) (cap:=0) (size:=260) (by rw [HS2.out];omega) (Nat.le_refl _) (by unfold maxLen;omega) rfl
  ·have:=HS2.out
   simp [Value.ownBlock] at hb
   omega
 ·intro gk a0 wr hI J K hJ hK
  obtain ⟨lv,iv,F0,acc,i,rfl,rfl,hil,hac,hne,hrow,hdg,hex,hbz,hba,hgA⟩:=hI
  have HJ:=Lib.hid hJ
  have HKK:=Lib.hid hK
  clear hJ hK HDG HBA HBZ HX2 HGA HS2
  obtain ⟨⟨cs,hown,hkd⟩,hgt⟩:=hrow
  obtain ⟨Al,cl,rfl,hcl,hml,hRl⟩:=own_rd hown
  obtain ⟨L,hL⟩:∃ L,acc.length=L:=⟨_,rfl⟩
  rw [hL] at hown hcl hRl hac F0 hkd hgt
  have HDG:=Lib.hid hdg
  have HOWN:=Lib.hid hown
  have HKD:=Lib.hid hkd
  have HGT:=Lib.hid hgt
  have HRL:=Lib.hid hRl
  have HEX:=Lib.hid hex
  have HBZ:=Lib.hid hbz
  have HBA:=Lib.hid hba
  have HGA:=Lib.hid hgA
  have HLL:=Lib.hid hL
  have HNE:=Lib.hid hne
  have hw9:IntKind.i64.wrap ((i:Int)+1)=(i:Int)+1:=wrap_id (by have:=HL.out;omega) (by have:=HL.out;omega)
  clear hdg hown hkd hgt hRl hex hbz hba hgA hL hne
  by_cases hlt:i<l.length
  ·have hlt':(i:Int)<(l.length:Int):=by omega
   obtain ⟨c,hc⟩:∃ c,l[i]'hlt=c:=⟨_,rfl⟩
   have HLI:=Lib.hid (show l[i]?=some c by rw [List.getElem?_eq_getElem hlt,hc])
   go_upto_region 8 with fail
   refine fr_region ?_
   refine fr_mv F0 6 21 (.inl rfl) rfl rfl (by decide) rfl fun _ F1=>?_
   clear F0
   refine fr_mv F1 0 22 (.inl rfl) rfl rfl (by decide) rfl fun _ F2=>?_
   clear F1
   refine fr2 F2 23 (.int .i64 (l.length:Nat)) wr rfl (by decide) ?_ fun _ F3=>?_
   ·have e22:=F2.kn 22 _ rfl;go_wp2;exact ⟨_,rfl,rfl,rfl⟩
   clear F2
   refine fr2 F3 24 (.bool true) wr rfl (by decide) ?_ fun _ F4=>?_
   ·have e21:=F3.kn 21 _ rfl;have e23:=F3.kn 23 _ rfl;go_wp2;exact ⟨_,rfl,rfl,rfl⟩
   clear F3
   refine fr_end ?_
   go_upto_if 24 with fail
   refine wp_cond_true (F4.ev (t:=24) rfl) ?_
   go_upto_region 9 with fail
   refine fr_region ?_
   refine fr_as F4 7 (.inr rfl) rfl rfl (by decide) fun _ F5=>?_
   clear F4
   refine fr_as F5 8 (.inr rfl) rfl rfl (by decide) fun _ F6=>?_
   clear F5
   refine fr_end ?_
   go_upto_region 10 with fail
   refine fr_region ?_
   refine fr_mv F6 0 25 (.inl rfl) rfl rfl (by decide) rfl fun _ F7=>?_
   clear F6
   refine fr_mv F7 6 26 (.inl rfl) rfl rfl (by decide) rfl fun _ F8=>?_
   clear F7
   refine fr_mv F8 6 27 (.inl rfl) rfl rfl (by decide) rfl fun _ F9=>?_
   clear F8
   refine fr2 F9 28 (.int .i64 ((i:Int)+1)) wr rfl (by decide) ?_ fun _ F10=>?_
   ·have e27:=F9.kn 27 _ rfl;go_wp2;exact ⟨_,rfl,rfl,rfl⟩
   clear F9
   refine fr2 F10 29 (.string ⟨((l.take (i+1)).drop i).toArray⟩) wr rfl (by decide) ?_ fun _ F11=>?_
   ·have e25:=F10.kn 25 _ rfl;have e26:=F10.kn 26 _ rfl;have e28:=F10.kn 28 _ rfl;go_wp2;exact ⟨_,rfl,rfl,rfl⟩
   clear F10
   refine fr_op F11 30 rfl (by decide) (AtX (bp (fun j=>((l.take (i+1)).drop i).any fun c=>c.toNat == j)) wr) ?_ ?_
   ·have e29:=F11.kn 29 _ rfl
    go_wp2_with (go_at_call 25;refine (refIn ((l.take (i+1)).drop i) (by have:=HL.out;rw [List.length_drop,List.length_take];omega) _).mono ?_;rintro e w9 ⟨rfl,hx9⟩)
    exact ⟨_,rfl,rfl,hx9⟩
   rintro a12 _ w1 ⟨rfl,hx1⟩ F12
   clear F11
   refine fr2 F12 31 (.agg (dnC 2 0 false (fun j=>((l.take (i+1)).drop i).any fun c=>c.toNat == j) none 0 0).toArray) w1 rfl (by decide) ?_ fun _ F13=>?_
   ·have e30:=F12.kn 30 _ rfl
    refine build_ks rfl (.tmp 30) rfl (p:=(fun j=>((l.take (i+1)).drop i).any fun c=>c.toNat == j)) (F12.ev (t:=30) rfl) ?_
    exact ⟨_,rfl,rfl,rfl⟩
   clear F12
   refine fr_op F13 9 rfl (by decide) (At2 (.pointer (some ⟨w1.heap.size,0,none⟩)) (w1.alloc (.cells Tryz.zeroCells38 38))) ?_ ?_
   ·go_wp2
    exact ⟨_,rfl,rfl,rfl⟩
   rintro a14 _ _ ⟨rfl,rfl⟩ F14
   clear F13
   refine fr_op0 F14 rfl (fun w'=>Ext w1 w' ∧ Blk w' w1.heap.size 38 (dnC 2 0 false (fun j=>((l.take (i+1)).drop i).any fun c=>c.toNat == j) none 0 0)) ?_ ?_
   ·have e9:=F14.kn 9 _ rfl
    have e31:=F14.kn 31 _ rfl
    refine store_dn_new rfl (.tmp 9) (.tmp 31) rfl (F14.ev (t:=9) rfl) (F14.ev (t:=31) rfl) zsize40 ?_
    exact ⟨_,rfl,Ext.new1 _ _,Blk.newL _ _ _⟩
   rintro a15 w2 ⟨hx2,hb9⟩ F15
   clear F14
   refine fr_end ?_
   have hxW:=hx1.trans hx2
   have hg9:wr.heap.size≤w1.heap.size:=hx1.size
   clear hx1 hx2
   go_upto_region 11 with fail
   refine fr_region ?_
   refine fr_mv F15 0 32 (.inl rfl) rfl rfl (by decide) rfl fun _ F16=>?_
   clear F15
   refine fr_mv F16 6 33 (.inl rfl) rfl rfl (by decide) rfl fun _ F17=>?_
   clear F16
   refine fr2 F17 34 (.int .u8 (c.toNat:Nat)) w2 rfl (by decide) ?_ fun _ F18=>?_
   ·have e32:=F17.kn 32 _ rfl;have e33:=F17.kn 33 _ rfl;go_wp2;exact ⟨_,rfl,rfl,rfl⟩
   clear F17
   refine fr_end ?_
   go_upto_region 12 with fail
   obtain ⟨b42,h42⟩:∃ b,((c.toNat:Int) == 42)=b:=⟨_,rfl⟩
   refine fr_region ?_
   refine fr2 F18 36 (.bool b42) w2 rfl (by decide) ?_ fun _ F19=>?_
   ·have e34:=F18.kn 34 _ rfl
    go_wp2
    first | exact ⟨_,rfl,rfl,rfl⟩ | exact ⟨_,rfl,by rw [← h42],rfl⟩
   clear F18
   refine fr_mv F19 36 35 (.inr rfl) rfl rfl (by decide) rfl fun _ F20=>?_
   clear F19
   refine fr_end ?_
   go_upto_if 35 with fail
   refine wp_cutQ (fun a' w'=>GM l R w wr gA i acc (.slice Al L cl) a' w') ?_ ?_
   ·intro am wm hm
    dsimp only [Exit.inBlock,Exit.then]
    obtain ⟨er,sz,g9,k9,p9,B9,n9,c9,t9,F0,hxm,hbm,her,hok⟩:=hm
    clear F20
    have HER:=Lib.hid her
    have HOK:=Lib.hid hok
    clear her hok
    by_cases he:er=0
    rotate_left
    ·have hne:((er:Int) != 0)=true:=by simp;omega
     have hR:=HER.out he
     subst hR
     have HE:=Lib.hid he
     clear he
     go_upto_region 22 with fail
     refine fr_region ?_
     refine fr_mv F0 8 92 (.inl rfl) rfl rfl (by decide) rfl fun _ F1=>?_
     clear F0
     refine fr2 F1 93 (.bool true) wm rfl (by decide) ?_ fun _ F2=>?_
     ·have e92:=F1.kn 92 _ rfl;go_wp2;exact ⟨_,rfl,rfl,rfl⟩
     clear F1
     refine fr_end ?_
     go_upto_if 93 with fail
     refine wp_cond_true (F2.ev (t:=93) rfl) ?_
     go_upto_region 23 with fail
     refine fr_region ?_
     refine fr2 F2 94 (.agg (dnC 0 0 false (fun _=>false) none 0 0).toArray) wm rfl (by decide) ?_ fun _ F3=>?_
     ·refine build_z rfl rfl ?_
      exact ⟨_,rfl,rfl,rfl⟩
     clear F2
     refine fr_mv F3 8 95 (.inl rfl) rfl rfl (by decide) rfl fun _ F4=>?_
     clear F3
     refine fr_op0 F4 rfl (At1 ((wm.setRow w.heap.size (dnC 0 0 false (fun _=>false) none 0 0).toArray))) ?_ ?_
     ·have e2:=F4.kn 2 _ rfl
      have e94:=F4.kn 94 _ rfl
      refine store_dn rfl (.tmp 2) (.tmp 94) rfl (g:=w.heap.size) (F4.ev (t:=2) rfl) (F4.ev (t:=94) rfl) (HBZ.out.keep hxm) HZ8.out ?_
      exact ⟨_,rfl,rfl⟩
     rintro a5 _ rfl F5
     clear F4
     refine fr_mv F5 95 3 (.inr rfl) rfl rfl (by decide) rfl fun _ F6=>?_
     clear F5
     refine fr_end ?_
     go_wp2
     exact bodyPost_ret (v:=.tuple #[.agg (dnC 0 0 false (fun _=>false) none 0 0).toArray,.int .i64 (er:Nat)]) (results_dn2 rfl (F6.gd (t:=2) rfl) (Blk.row (HBZ.out.keep hxm) _) (dn_len _ _ _ _ _ _ _) (F6.gd (t:=3) rfl)) F6.defers ⟨Ext.row (HEX.out.trans hxm) _ _ (Nat.le_refl _),rfl⟩
    subst he
    obtain ⟨hdg9,hsz1,hszl,hdn⟩:=HOK.out rfl
    have HDG9:=Lib.hid hdg9
    have HDN:=Lib.hid hdn
    clear hdg9 hdn HOK HER
    go_upto_region 22 with fail
    refine fr_region ?_
    refine fr_mv F0 8 92 (.inl rfl) rfl rfl (by decide) rfl fun _ F1=>?_
    clear F0
    refine fr2 F1 93 (.bool false) wm rfl (by decide) ?_ fun _ F2=>?_
    ·have e92:=F1.kn 92 _ rfl;go_wp2;exact ⟨_,rfl,rfl,rfl⟩
    clear F1
    refine fr_end ?_
    go_upto_if 93 with fail
    refine wp_cond_false (F2.ev (t:=93) rfl) ?_
    go_upto_region 24 with fail
    refine fr_region ?_
    refine fr_mv F2 5 96 (.inl rfl) rfl rfl (by decide) rfl fun _ F3=>?_
    clear F2
    refine fr2 F3 97 (.agg (dnC k9 0 false p9 B9 n9 c9).toArray) wm rfl (by decide) ?_ fun _ F4=>?_
    ·have e9:=F3.kn 9 _ rfl
     refine load_dn rfl (.tmp 9) rfl (F3.ev (t:=9) rfl) hbm ?_
     exact ⟨_,rfl,rfl,rfl⟩
    clear F3
    refine fr_op F4 98 rfl (by decide) (fun v w'=>∃ gR,v=.slice (some ⟨gR,0,none⟩) 1 1∧Ext wm w' ∧ Rd w' 260 (some ⟨gR,0,none⟩) 1 (dnC k9 0 false p9 B9 n9 c9)∧wm.heap.size<w'.heap.size) ?_ ?_
    ·have e97:=F4.kn 97 _ rfl
     refine mk_dn rfl (.tmp 97) rfl (v:=(dnC k9 0 false p9 B9 n9 c9)) (dn_len _ _ _ _ _ _ _) (F4.ev (t:=97) rfl) ?_
     exact ⟨_,rfl,_,rfl,Ext.new1 _ _,rd_newS _ 260 1 _ _ (by rw [dn_len]),by simp⟩
    rintro a5 _ wn ⟨gR,rfl,hxn,hrR,hsn⟩ F5
    clear F4
    refine fr_op F5 99 rfl (by decide) (fun v w'=>AppD (gA+1) gA (.slice Al L cl) (acc ++ [t9]) wn v w') ?_ ?_
    ·have e96:=F5.kn 96 _ rfl
     have e98:=F5.kn 98 _ rfl
     have hxq:=hxm.trans hxn
     have hown:=own_ext HOWN.out hxq
     refine wpList_app2 elemDn rfl (.tmp 96) (.tmp 98) rfl (base:=gA+1) (v:=.slice Al L cl) (n:=L) (xs:=cs) (F5.ev (t:=96) rfl) hown (by have:=HBA.out.lt;have:=hxq.size;omega) (A:=some ⟨gR,0,none⟩) (m:=1) (c:=1) (news:=(dnC k9 0 false p9 B9 n9 c9)) (F5.ev (t:=98) rfl) hrR (dn_ones _ _ _ _ _ _ _) (by have:=HL.out;omega) (by unfold maxLen;have:=HL.out;omega) ?_
     intro v' w' hown' hg _ hat
     exact ⟨_,rfl,DRow.app (dkidsV_map (fun t v h=>DNodeV.keep h hxq) HKD.out) HGT.out (DNodeV.keep HDN.out hxn) (by rw [HLL.out];exact hown') hg hat (by have:=HBA.out.lt;have:=hxq.size;omega),grew_chg hg,HGT.out⟩
    rintro a6 lv9 w9 hap F6
    clear F5
    refine fr_mv F6 99 5 (.inr rfl) rfl rfl (by decide) rfl fun _ F7=>?_
    clear F6
    refine fr_end ?_
    obtain ⟨i1,hi1⟩:∃ i1,i+sz=i1:=⟨_,rfl⟩
    have hi3:i1≤120:=by have:=HL.out;omega
    have HI1:=Lib.hid hi1
    clear hi1
    go_upto_region 25 with fail
    refine fr_region ?_
    refine fr_mv F7 6 100 (.inl rfl) rfl rfl (by decide) rfl fun _ F8=>?_
    clear F7
    refine fr_mv F8 7 101 (.inl rfl) rfl rfl (by decide) rfl fun _ F9=>?_
    clear F8
    refine fr2 F9 102 (.int .i64 (i1:Nat)) w9 rfl (by decide) ?_ fun _ F10=>?_
    ·have e100:=F9.kn 100 _ rfl
     have e101:=F9.kn 101 _ rfl
     have h9:=HI1.out
     have hw:IntKind.i64.wrap ((i:Int)+(sz:Int))=(i:Int)+(sz:Int):=wrap_id (by omega) (by omega)
     go_wp2
     first | exact ⟨_,rfl,rfl,rfl⟩ | exact ⟨_,rfl,congrArg (Value.int .i64) (by omega),rfl⟩
    clear F9
    refine fr_mv F10 102 6 (.inr rfl) rfl rfl (by decide) rfl fun _ F11=>?_
    clear F10
    refine fr_end ?_
    go_wp2
    have hi1':=HI1.out
    have hxq:=hxm.trans hxn
    have hdg9:=HDG9.out
    rw [hi1'] at hdg9
    refine HKK.out _ _ (Handed.intro (l.length-i1) (by omega) (HJ.out _ _ _ ⟨_,_,Fr.cons (Fr.cons (Fr.cons (Fr.cons (Fr.cons F11.nil (F11.kn 6 _ rfl)) (F11.kn 5 _ rfl)) (F11.kn 4 _ rfl)) (F11.kn 2 _ rfl)) (F11.kn 0 _ rfl),acc ++ [t9],i1,rfl,rfl,by omega,by have:=HLL.out;simp;omega,fun _=>by simp,hap.row,hdg9,hap.ext (HEX.out.trans hxq) (by have:=HGA.out;omega),hap.keep (HBZ.out.keep hxq) (by have:=HGA.out;omega),hap.keep (HBA.out.keep hxq) (Nat.le_refl _),HGA.out⟩))
   ·intro J' K' hJ' hK'
    have HM:=Lib.hid (fun a' w' h=>hK' a' w' (Met.intro (hJ' a' w' h)))
    clear hJ' hK'
    by_cases k42:c=42
    ·have hb42:b42=true:=by rw [← h42,k42];rfl
     subst hb42
     by_cases hi0:i=0
     ·subst hi0
      have hov:¬ overB l 0 acc:=fun h=>absurd h.1 (by omega)
      go_upto_if 35 with fail
      refine wp_cond_true (F20.ev (t:=35) rfl) ?_
      go_upto_region 13 with fail
      refine fr_region ?_
      refine fr_mv F20 6 37 (.inl rfl) rfl rfl (by decide) rfl fun _ F21=>?_
      clear F20
      refine fr2 F21 38 (.bool false) w2 rfl (by decide) ?_ fun _ F22=>?_
      ·have e37:=F21.kn 37 _ rfl;go_wp2;exact ⟨_,rfl,rfl,rfl⟩
      clear F21
      refine fr_mv F22 38 39 (.inl rfl) rfl rfl (by decide) rfl fun _ F23=>?_
      clear F22
      refine fr2 F23 40 (undef) w2 rfl (by decide) ?_ fun _ F24=>?_
      ·have e39:=F23.kn 39 _ rfl;go_wp2;exact ⟨_,rfl,rfl,rfl⟩
      clear F23
      refine fr2 F24 41 (undef) w2 rfl (by decide) ?_ fun _ F25=>?_
      ·have e39:=F24.kn 39 _ rfl;go_wp2;exact ⟨_,rfl,rfl,rfl⟩
      clear F24
      refine fr2 F25 42 (undef) w2 rfl (by decide) ?_ fun _ F26=>?_
      ·have e39:=F25.kn 39 _ rfl;go_wp2;exact ⟨_,rfl,rfl,rfl⟩
      clear F25
      refine fr2 F26 43 (undef) w2 rfl (by decide) ?_ fun _ F27=>?_
      ·have e39:=F26.kn 39 _ rfl;go_wp2;exact ⟨_,rfl,rfl,rfl⟩
      clear F26
      refine fr2 F27 44 (undef) w2 rfl (by decide) ?_ fun _ F28=>?_
      ·have e39:=F27.kn 39 _ rfl;go_wp2;exact ⟨_,rfl,rfl,rfl⟩
      clear F27
      refine fr2 F28 45 (.bool false) w2 rfl (by decide) ?_ fun _ F29=>?_
      ·have e39:=F28.kn 39 _ rfl;have e44:=F28.kn 44 _ rfl;go_wp2;exact ⟨_,rfl,rfl,rfl⟩
      clear F28
      refine fr_mv F29 45 46 (.inl rfl) rfl rfl (by decide) rfl fun _ F30=>?_
      clear F29
      refine fr2 F30 47 (undef) w2 rfl (by decide) ?_ fun _ F31=>?_
      ·have e46:=F30.kn 46 _ rfl;go_wp2;exact ⟨_,rfl,rfl,rfl⟩
      clear F30
      refine fr2 F31 48 (undef) w2 rfl (by decide) ?_ fun _ F32=>?_
      ·have e46:=F31.kn 46 _ rfl;go_wp2;exact ⟨_,rfl,rfl,rfl⟩
      clear F31
      refine fr2 F32 49 (undef) w2 rfl (by decide) ?_ fun _ F33=>?_
      ·have e46:=F32.kn 46 _ rfl;go_wp2;exact ⟨_,rfl,rfl,rfl⟩
      clear F32
      refine fr2 F33 50 (.bool false) w2 rfl (by decide) ?_ fun _ F34=>?_
      ·have e46:=F33.kn 46 _ rfl;have e49:=F33.kn 49 _ rfl;go_wp2;exact ⟨_,rfl,rfl,rfl⟩
      clear F33
      refine fr_mv F34 50 51 (.inl rfl) rfl rfl (by decide) rfl fun _ F35=>?_
      clear F34
      refine fr2 F35 52 (undef) w2 rfl (by decide) ?_ fun _ F36=>?_
      ·have e51:=F35.kn 51 _ rfl;go_wp2;exact ⟨_,rfl,rfl,rfl⟩
      clear F35
      refine fr2 F36 53 (undef) w2 rfl (by decide) ?_ fun _ F37=>?_
      ·have e51:=F36.kn 51 _ rfl;go_wp2;exact ⟨_,rfl,rfl,rfl⟩
      clear F36
      refine fr2 F37 54 (undef) w2 rfl (by decide) ?_ fun _ F38=>?_
      ·have e51:=F37.kn 51 _ rfl;go_wp2;exact ⟨_,rfl,rfl,rfl⟩
      clear F37
      refine fr2 F38 55 (undef) w2 rfl (by decide) ?_ fun _ F39=>?_
      ·have e51:=F38.kn 51 _ rfl;go_wp2;exact ⟨_,rfl,rfl,rfl⟩
      clear F38
      refine fr2 F39 56 (undef) w2 rfl (by decide) ?_ fun _ F40=>?_
      ·have e51:=F39.kn 51 _ rfl;go_wp2;exact ⟨_,rfl,rfl,rfl⟩
      clear F39
      refine fr2 F40 57 (undef) w2 rfl (by decide) ?_ fun _ F41=>?_
      ·have e51:=F40.kn 51 _ rfl;go_wp2;exact ⟨_,rfl,rfl,rfl⟩
      clear F40
      refine fr2 F41 58 (undef) w2 rfl (by decide) ?_ fun _ F42=>?_
      ·have e51:=F41.kn 51 _ rfl;go_wp2;exact ⟨_,rfl,rfl,rfl⟩
      clear F41
      refine fr2 F42 59 (undef) w2 rfl (by decide) ?_ fun _ F43=>?_
      ·have e51:=F42.kn 51 _ rfl;go_wp2;exact ⟨_,rfl,rfl,rfl⟩
      clear F42
      refine fr2 F43 60 (.bool false) w2 rfl (by decide) ?_ fun _ F44=>?_
      ·have e51:=F43.kn 51 _ rfl;have e59:=F43.kn 59 _ rfl;go_wp2;exact ⟨_,rfl,rfl,rfl⟩
      clear F43
      refine fr_end ?_
      go_upto_if 60 with fail
      refine wp_cond_false (F44.ev (t:=60) rfl) ?_
      go_upto_region 15 with fail
      go_upto_region 15 with fail
      refine fr_region ?_
      refine fr2 F44 63 (.agg (dnC 2 0 false (fun j=>decide (j≤255)) none 0 0).toArray) w2 rfl (by decide) ?_ fun _ F45=>?_
      ·have e4:=F44.kn 4 _ rfl
       refine load_dn rfl (.tmp 4) rfl (F44.ev (t:=4) rfl) (HBA.out.keep hxW) ?_
       exact ⟨_,rfl,rfl,rfl⟩
      clear F44
      refine fr_op F45 64 rfl (by decide) (fun v w'=>∃ gR,v=.slice (some ⟨gR,0,none⟩) 1 1∧w2.heap.size≤gR∧Ext w2 w' ∧ Rd w' 260 (some ⟨gR,0,none⟩) 1 (dnC 2 0 false (fun j=>decide (j≤255)) none 0 0)) ?_ ?_
      ·have e63:=F45.kn 63 _ rfl
       refine mk_dn rfl (.tmp 63) rfl (v:=(dnC 2 0 false (fun j=>decide (j≤255)) none 0 0)) (dn_len _ _ _ _ _ _ _) (F45.ev (t:=63) rfl) ?_
       exact ⟨_,rfl,_,rfl,Nat.le_refl _,Ext.new1 _ _,rd_newS _ 260 1 _ _ (by rw [dn_len])⟩
      rintro a46 _ w3 ⟨gR,rfl,hgR,hx3,hrR⟩ F46
      clear F45
      refine fr2 F46 65 (.agg (dnC 5 0 false (fun _=>false) (some ⟨gR,0,none⟩) 1 1).toArray) w3 rfl (by decide) ?_ fun _ F47=>?_
      ·have e64:=F46.kn 64 _ rfl
       refine build_kk rfl (.tmp 64) rfl (F46.ev (t:=64) rfl) ?_
       exact ⟨_,rfl,rfl,rfl⟩
      clear F46
      refine fr_op0 F47 rfl (fun w'=>Ext wr w' ∧ Blk w' w1.heap.size 38 (dnC 5 0 false (fun _=>false) (some ⟨gR,0,none⟩) 1 1)∧Rd w' 260 (some ⟨gR,0,none⟩) 1 (dnC 2 0 false (fun j=>decide (j≤255)) none 0 0)) ?_ ?_
      ·have e9:=F47.kn 9 _ rfl
       have e65:=F47.kn 65 _ rfl
       refine store_dn rfl (.tmp 9) (.tmp 65) rfl (g:=w1.heap.size) (F47.ev (t:=9) rfl) (F47.ev (t:=65) rfl) (hb9.keep hx3) (dn_len _ _ _ _ _ _ _) ?_
       exact ⟨_,rfl,Ext.row (hxW.trans hx3) _ _ hg9,(hb9.keep hx3).row _,hrR.chg (rowChg4 _ _ _) (fun _ b o v e=>by cases e;have:=hb9.lt;simp;omega)⟩
      rintro a48 w4 ⟨hx4,hb4,hr4⟩ F48
      clear F47
      refine fr_end ?_
      go_wp2
      refine HM.out _ _ ⟨0,1,w1.heap.size,5,(fun _=>false),(some ⟨gR,0,none⟩),1,1,(.node 5 0 false noP [allT]),(Fr.cons (Fr.cons (Fr.cons (Fr.cons (Fr.cons (Fr.cons (Fr.cons (Fr.cons F48.nil (F48.kn 9 _ rfl)) (F48.kn 8 _ rfl)) (F48.kn 7 _ rfl)) (F48.kn 6 _ rfl)) (F48.kn 5 _ rfl)) (F48.kn 4 _ rfl)) (F48.kn 2 _ rfl)) (F48.kn 0 _ rfl)),hx4,hb4,fun h=>absurd rfl h,?_⟩
      refine fun _=>⟨dg_star HDG.out (by rw [HLI.out,k42]) hov,Nat.le_refl _,by omega,dnode_one4 5 0 false hr4 (Nat.le_refl _) (by unfold maxLen;omega) (fun b o x e=>?_) ?_⟩
      ·have hsW:=hxW.size
       have hA:=HBA.out.lt
       cases e
       refine ⟨by omega,fun e=>?_⟩
       have h8:=(HOWN.out.lt gR e.symm).2
       omega
      ·rw [dn_congr (q:=fun _=>true) (fun j hj=>by simp;omega)]
       exact dnode_leaf 2 0 false _
     have hi1:(0:Int)<(i:Int):=by omega
     have hi1n:0<i:=by omega
     have hwm:IntKind.i64.wrap ((i:Int)-1)=(i:Int)-1:=wrap_id (by have:=HL.out;omega) (by have:=HL.out;omega)
     obtain ⟨im,him⟩:∃ im,i=im+1:=⟨i-1,by omega⟩
     have hlm:im<l.length:=by omega
     obtain ⟨d,hd⟩:∃ d,l[im]'hlm=d:=⟨_,rfl⟩
     have HIM:=Lib.hid him
     clear him
     have HLM:=Lib.hid (show l[i-1]?=some d by rw [HIM.out,Nat.add_sub_cancel,List.getElem?_eq_getElem hlm,hd])
     by_cases kd:d=42
     rotate_left
     ·have hd42:((d.toNat:Int) == 42)=false:=u8_ne kd
      have hov:¬ overB l i acc:=fun h=>by have h9:=h.2.1;rw [HLM.out] at h9;exact kd (Option.some.inj h9)
      clear kd
      go_upto_if 35 with fail
      refine wp_cond_true (F20.ev (t:=35) rfl) ?_
      go_upto_region 13 with fail
      refine fr_region ?_
      refine fr_mv F20 6 37 (.inl rfl) rfl rfl (by decide) rfl fun _ F21=>?_
      clear F20
      refine fr2 F21 38 (.bool true) w2 rfl (by decide) ?_ fun _ F22=>?_
      ·have e37:=F21.kn 37 _ rfl;go_wp2;exact ⟨_,rfl,rfl,rfl⟩
      clear F21
      refine fr_mv F22 38 39 (.inl rfl) rfl rfl (by decide) rfl fun _ F23=>?_
      clear F22
      refine fr2 F23 40 (.string ⟨l.toArray⟩) w2 rfl (by decide) ?_ fun _ F24=>?_
      ·have e0:=F23.kn 0 _ rfl;have e39:=F23.kn 39 _ rfl;go_wp2;exact ⟨_,rfl,rfl,rfl⟩
      clear F23
      refine fr2 F24 41 (.int .i64 (i:Nat)) w2 rfl (by decide) ?_ fun _ F25=>?_
      ·have e6:=F24.kn 6 _ rfl;have e39:=F24.kn 39 _ rfl;go_wp2;exact ⟨_,rfl,rfl,rfl⟩
      clear F24
      refine fr2 F25 42 (.int .i64 (im:Nat)) w2 rfl (by decide) ?_ fun _ F26=>?_
      ·have e41:=F25.kn 41 _ rfl
       have e39:=F25.kn 39 _ rfl
       have h9:=HIM.out
       go_wp2
       first | exact ⟨_,rfl,rfl,rfl⟩ | exact ⟨_,rfl,congrArg (Value.int .i64) (by omega),rfl⟩
      clear F25
      refine fr2 F26 43 (.int .u8 (d.toNat:Nat)) w2 rfl (by decide) ?_ fun _ F27=>?_
      ·have e40:=F26.kn 40 _ rfl;have e42:=F26.kn 42 _ rfl;have e39:=F26.kn 39 _ rfl;go_wp2;exact ⟨_,rfl,rfl,rfl⟩
      clear F26
      refine fr2 F27 44 (.bool false) w2 rfl (by decide) ?_ fun _ F28=>?_
      ·have e43:=F27.kn 43 _ rfl;have e39:=F27.kn 39 _ rfl;go_wp2;exact ⟨_,rfl,rfl,rfl⟩
      clear F27
      refine fr2 F28 45 (.bool false) w2 rfl (by decide) ?_ fun _ F29=>?_
      ·have e39:=F28.kn 39 _ rfl;have e44:=F28.kn 44 _ rfl;go_wp2;exact ⟨_,rfl,rfl,rfl⟩
      clear F28
      refine fr_mv F29 45 46 (.inl rfl) rfl rfl (by decide) rfl fun _ F30=>?_
      clear F29
      refine fr2 F30 47 (undef) w2 rfl (by decide) ?_ fun _ F31=>?_
      ·have e46:=F30.kn 46 _ rfl;go_wp2;exact ⟨_,rfl,rfl,rfl⟩
      clear F30
      refine fr2 F31 48 (undef) w2 rfl (by decide) ?_ fun _ F32=>?_
      ·have e46:=F31.kn 46 _ rfl;go_wp2;exact ⟨_,rfl,rfl,rfl⟩
      clear F31
      refine fr2 F32 49 (undef) w2 rfl (by decide) ?_ fun _ F33=>?_
      ·have e46:=F32.kn 46 _ rfl;go_wp2;exact ⟨_,rfl,rfl,rfl⟩
      clear F32
      refine fr2 F33 50 (.bool false) w2 rfl (by decide) ?_ fun _ F34=>?_
      ·have e46:=F33.kn 46 _ rfl;have e49:=F33.kn 49 _ rfl;go_wp2;exact ⟨_,rfl,rfl,rfl⟩
      clear F33
      refine fr_mv F34 50 51 (.inl rfl) rfl rfl (by decide) rfl fun _ F35=>?_
      clear F34
      refine fr2 F35 52 (undef) w2 rfl (by decide) ?_ fun _ F36=>?_
      ·have e51:=F35.kn 51 _ rfl;go_wp2;exact ⟨_,rfl,rfl,rfl⟩
      clear F35
      refine fr2 F36 53 (undef) w2 rfl (by decide) ?_ fun _ F37=>?_
      ·have e51:=F36.kn 51 _ rfl;go_wp2;exact ⟨_,rfl,rfl,rfl⟩
      clear F36
      refine fr2 F37 54 (undef) w2 rfl (by decide) ?_ fun _ F38=>?_
      ·have e51:=F37.kn 51 _ rfl;go_wp2;exact ⟨_,rfl,rfl,rfl⟩
      clear F37
      refine fr2 F38 55 (undef) w2 rfl (by decide) ?_ fun _ F39=>?_
      ·have e51:=F38.kn 51 _ rfl;go_wp2;exact ⟨_,rfl,rfl,rfl⟩
      clear F38
      refine fr2 F39 56 (undef) w2 rfl (by decide) ?_ fun _ F40=>?_
      ·have e51:=F39.kn 51 _ rfl;go_wp2;exact ⟨_,rfl,rfl,rfl⟩
      clear F39
      refine fr2 F40 57 (undef) w2 rfl (by decide) ?_ fun _ F41=>?_
      ·have e51:=F40.kn 51 _ rfl;go_wp2;exact ⟨_,rfl,rfl,rfl⟩
      clear F40
      refine fr2 F41 58 (undef) w2 rfl (by decide) ?_ fun _ F42=>?_
      ·have e51:=F41.kn 51 _ rfl;go_wp2;exact ⟨_,rfl,rfl,rfl⟩
      clear F41
      refine fr2 F42 59 (undef) w2 rfl (by decide) ?_ fun _ F43=>?_
      ·have e51:=F42.kn 51 _ rfl;go_wp2;exact ⟨_,rfl,rfl,rfl⟩
      clear F42
      refine fr2 F43 60 (.bool false) w2 rfl (by decide) ?_ fun _ F44=>?_
      ·have e51:=F43.kn 51 _ rfl;have e59:=F43.kn 59 _ rfl;go_wp2;exact ⟨_,rfl,rfl,rfl⟩
      clear F43
      refine fr_end ?_
      go_upto_if 60 with fail
      refine wp_cond_false (F44.ev (t:=60) rfl) ?_
      go_upto_region 15 with fail
      go_upto_region 15 with fail
      refine fr_region ?_
      refine fr2 F44 63 (.agg (dnC 2 0 false (fun j=>decide (j≤255)) none 0 0).toArray) w2 rfl (by decide) ?_ fun _ F45=>?_
      ·have e4:=F44.kn 4 _ rfl
       refine load_dn rfl (.tmp 4) rfl (F44.ev (t:=4) rfl) (HBA.out.keep hxW) ?_
       exact ⟨_,rfl,rfl,rfl⟩
      clear F44
      refine fr_op F45 64 rfl (by decide) (fun v w'=>∃ gR,v=.slice (some ⟨gR,0,none⟩) 1 1∧w2.heap.size≤gR∧Ext w2 w' ∧ Rd w' 260 (some ⟨gR,0,none⟩) 1 (dnC 2 0 false (fun j=>decide (j≤255)) none 0 0)) ?_ ?_
      ·have e63:=F45.kn 63 _ rfl
       refine mk_dn rfl (.tmp 63) rfl (v:=(dnC 2 0 false (fun j=>decide (j≤255)) none 0 0)) (dn_len _ _ _ _ _ _ _) (F45.ev (t:=63) rfl) ?_
       exact ⟨_,rfl,_,rfl,Nat.le_refl _,Ext.new1 _ _,rd_newS _ 260 1 _ _ (by rw [dn_len])⟩
      rintro a46 _ w3 ⟨gR,rfl,hgR,hx3,hrR⟩ F46
      clear F45
      refine fr2 F46 65 (.agg (dnC 5 0 false (fun _=>false) (some ⟨gR,0,none⟩) 1 1).toArray) w3 rfl (by decide) ?_ fun _ F47=>?_
      ·have e64:=F46.kn 64 _ rfl
       refine build_kk rfl (.tmp 64) rfl (F46.ev (t:=64) rfl) ?_
       exact ⟨_,rfl,rfl,rfl⟩
      clear F46
      refine fr_op0 F47 rfl (fun w'=>Ext wr w' ∧ Blk w' w1.heap.size 38 (dnC 5 0 false (fun _=>false) (some ⟨gR,0,none⟩) 1 1)∧Rd w' 260 (some ⟨gR,0,none⟩) 1 (dnC 2 0 false (fun j=>decide (j≤255)) none 0 0)) ?_ ?_
      ·have e9:=F47.kn 9 _ rfl
       have e65:=F47.kn 65 _ rfl
       refine store_dn rfl (.tmp 9) (.tmp 65) rfl (g:=w1.heap.size) (F47.ev (t:=9) rfl) (F47.ev (t:=65) rfl) (hb9.keep hx3) (dn_len _ _ _ _ _ _ _) ?_
       exact ⟨_,rfl,Ext.row (hxW.trans hx3) _ _ hg9,(hb9.keep hx3).row _,hrR.chg (rowChg4 _ _ _) (fun _ b o v e=>by cases e;have:=hb9.lt;simp;omega)⟩
      rintro a48 w4 ⟨hx4,hb4,hr4⟩ F48
      clear F47
      refine fr_end ?_
      go_wp2
      refine HM.out _ _ ⟨0,1,w1.heap.size,5,(fun _=>false),(some ⟨gR,0,none⟩),1,1,(.node 5 0 false noP [allT]),(Fr.cons (Fr.cons (Fr.cons (Fr.cons (Fr.cons (Fr.cons (Fr.cons (Fr.cons F48.nil (F48.kn 9 _ rfl)) (F48.kn 8 _ rfl)) (F48.kn 7 _ rfl)) (F48.kn 6 _ rfl)) (F48.kn 5 _ rfl)) (F48.kn 4 _ rfl)) (F48.kn 2 _ rfl)) (F48.kn 0 _ rfl)),hx4,hb4,fun h=>absurd rfl h,?_⟩
      refine fun _=>⟨dg_star HDG.out (by rw [HLI.out,k42]) hov,Nat.le_refl _,by omega,dnode_one4 5 0 false hr4 (Nat.le_refl _) (by unfold maxLen;omega) (fun b o x e=>?_) ?_⟩
      ·have hsW:=hxW.size
       have hA:=HBA.out.lt
       cases e
       refine ⟨by omega,fun e=>?_⟩
       have h8:=(HOWN.out.lt gR e.symm).2
       omega
      ·rw [dn_congr (q:=fun _=>true) (fun j hj=>by simp;omega)]
       exact dnode_leaf 2 0 false _
     have hd42:((d.toNat:Int) == 42)=true:=by rw [kd];rfl
     have HKD9:=Lib.hid kd
     clear kd
     obtain ⟨n1,hn1⟩:∃ n1,L=n1+1:=by
      have h9:=HNE.out hi0
      rw [← List.length_pos_iff,HLL.out] at h9
      exact ⟨L-1,by omega⟩
     subst hn1
     obtain ⟨b1,o1,kk,km,kz,kp,kB,kn,kc,eb,hvt,hrw⟩:=dkid_at (by rw [HLL.out];exact HRL.out) HKD.out (i:=n1) (by rw [HLL.out];omega)
     subst eb
     have hel:=(hrw.out w2 hxW) 0 _ (dn_0 _ _ _ _ _ _ _)
     rw [Nat.add_zero] at hel
     have hkk:=dnode_kind hvt
     have hn120:n1+1≤120:=by have:=HL.out;omega
     have hla:acc.getLast?=some (acc[n1]'(by rw [HLL.out];omega)):=by
      have h9:acc.length-1=n1:=by have:=HLL.out;omega
      rw [List.getLast?_eq_getElem?,h9,List.getElem?_eq_getElem]
     have HHK:=Lib.hid hkk
     have HLA:=Lib.hid hla
     clear hkk hla hvt hrw
     have hwn:IntKind.i64.wrap (((n1:Int)+1)-1)=(n1:Int):=by rw [wrap_id (by omega) (by omega)];omega
     by_cases k5:kk=5
     ·subst k5
      have hov:overB l i acc:=⟨by omega,by rw [HLM.out,HKD9.out],_,HLA.out,HHK.out⟩
      have HOV:=Lib.hid hov
      clear hov
      go_upto_if 35 with fail
      refine wp_cond_true (F20.ev (t:=35) rfl) ?_
      go_upto_region 13 with fail
      refine fr_region ?_
      refine fr_mv F20 6 37 (.inl rfl) rfl rfl (by decide) rfl fun _ F21=>?_
      clear F20
      refine fr2 F21 38 (.bool true) w2 rfl (by decide) ?_ fun _ F22=>?_
      ·have e37:=F21.kn 37 _ rfl;go_wp2;exact ⟨_,rfl,rfl,rfl⟩
      clear F21
      refine fr_mv F22 38 39 (.inl rfl) rfl rfl (by decide) rfl fun _ F23=>?_
      clear F22
      refine fr2 F23 40 (.string ⟨l.toArray⟩) w2 rfl (by decide) ?_ fun _ F24=>?_
      ·have e0:=F23.kn 0 _ rfl;have e39:=F23.kn 39 _ rfl;go_wp2;exact ⟨_,rfl,rfl,rfl⟩
      clear F23
      refine fr2 F24 41 (.int .i64 (i:Nat)) w2 rfl (by decide) ?_ fun _ F25=>?_
      ·have e6:=F24.kn 6 _ rfl;have e39:=F24.kn 39 _ rfl;go_wp2;exact ⟨_,rfl,rfl,rfl⟩
      clear F24
      refine fr2 F25 42 (.int .i64 (im:Nat)) w2 rfl (by decide) ?_ fun _ F26=>?_
      ·have e41:=F25.kn 41 _ rfl
       have e39:=F25.kn 39 _ rfl
       have h9:=HIM.out
       go_wp2
       first | exact ⟨_,rfl,rfl,rfl⟩ | exact ⟨_,rfl,congrArg (Value.int .i64) (by omega),rfl⟩
      clear F25
      refine fr2 F26 43 (.int .u8 (d.toNat:Nat)) w2 rfl (by decide) ?_ fun _ F27=>?_
      ·have e40:=F26.kn 40 _ rfl;have e42:=F26.kn 42 _ rfl;have e39:=F26.kn 39 _ rfl;go_wp2;exact ⟨_,rfl,rfl,rfl⟩
      clear F26
      refine fr2 F27 44 (.bool true) w2 rfl (by decide) ?_ fun _ F28=>?_
      ·have e43:=F27.kn 43 _ rfl;have e39:=F27.kn 39 _ rfl;go_wp2;exact ⟨_,rfl,rfl,rfl⟩
      clear F27
      refine fr2 F28 45 (.bool true) w2 rfl (by decide) ?_ fun _ F29=>?_
      ·have e39:=F28.kn 39 _ rfl;have e44:=F28.kn 44 _ rfl;go_wp2;exact ⟨_,rfl,rfl,rfl⟩
      clear F28
      refine fr_mv F29 45 46 (.inl rfl) rfl rfl (by decide) rfl fun _ F30=>?_
      clear F29
      refine fr2 F30 47 (.slice (some ⟨b1,o1,none⟩) (n1+1) cl) w2 rfl (by decide) ?_ fun _ F31=>?_
      ·have e5:=F30.kn 5 _ rfl;have e46:=F30.kn 46 _ rfl;go_wp2;exact ⟨_,rfl,rfl,rfl⟩
      clear F30
      refine fr2 F31 48 (.int .i64 ((n1:Int)+1)) w2 rfl (by decide) ?_ fun _ F32=>?_
      ·have e47:=F31.kn 47 _ rfl;have e46:=F31.kn 46 _ rfl;go_wp2;exact ⟨_,rfl,rfl,rfl⟩
      clear F31
      refine fr2 F32 49 (.bool true) w2 rfl (by decide) ?_ fun _ F33=>?_
      ·have e48:=F32.kn 48 _ rfl;have e46:=F32.kn 46 _ rfl;go_wp2;exact ⟨_,rfl,rfl,rfl⟩
      clear F32
      refine fr2 F33 50 (.bool true) w2 rfl (by decide) ?_ fun _ F34=>?_
      ·have e46:=F33.kn 46 _ rfl;have e49:=F33.kn 49 _ rfl;go_wp2;exact ⟨_,rfl,rfl,rfl⟩
      clear F33
      refine fr_mv F34 50 51 (.inl rfl) rfl rfl (by decide) rfl fun _ F35=>?_
      clear F34
      refine fr2 F35 52 (.slice (some ⟨b1,o1,none⟩) (n1+1) cl) w2 rfl (by decide) ?_ fun _ F36=>?_
      ·have e5:=F35.kn 5 _ rfl;have e51:=F35.kn 51 _ rfl;go_wp2;exact ⟨_,rfl,rfl,rfl⟩
      clear F35
      refine fr2 F36 53 (.slice (some ⟨b1,o1,none⟩) (n1+1) cl) w2 rfl (by decide) ?_ fun _ F37=>?_
      ·have e5:=F36.kn 5 _ rfl;have e51:=F36.kn 51 _ rfl;go_wp2;exact ⟨_,rfl,rfl,rfl⟩
      clear F36
      refine fr2 F37 54 (.int .i64 ((n1:Int)+1)) w2 rfl (by decide) ?_ fun _ F38=>?_
      ·have e53:=F37.kn 53 _ rfl;have e51:=F37.kn 51 _ rfl;go_wp2;exact ⟨_,rfl,rfl,rfl⟩
      clear F37
      refine fr2 F38 55 (.int .i64 (n1:Nat)) w2 rfl (by decide) ?_ fun _ F39=>?_
      ·have e54:=F38.kn 54 _ rfl
       have e51:=F38.kn 51 _ rfl
       go_wp2
       first | exact ⟨_,rfl,rfl,rfl⟩ | exact ⟨_,rfl,congrArg (Value.int .i64) (by omega),rfl⟩
      clear F38
      refine fr2 F39 56 (.pointer (some ⟨b1,o1+n1*260,none⟩)) w2 rfl (by decide) ?_ fun _ F40=>?_
      ·have e52:=F39.kn 52 _ rfl;have e55:=F39.kn 55 _ rfl;have e51:=F39.kn 51 _ rfl;go_wp2;exact ⟨_,rfl,rfl,rfl⟩
      clear F39
      refine fr2 F40 57 (.pointer (some ⟨b1,o1+n1*260,none⟩)) w2 rfl (by decide) ?_ fun _ F41=>?_
      ·have e56:=F40.kn 56 _ rfl;have e51:=F40.kn 51 _ rfl;go_wp2;exact ⟨_,rfl,rfl,rfl⟩
      clear F40
      refine fr2 F41 58 (.int .i64 5) w2 rfl (by decide) ?_ fun _ F42=>?_
      ·have e57:=F41.kn 57 _ rfl;have e51:=F41.kn 51 _ rfl;go_wp2;exact ⟨_,rfl,rfl,rfl⟩
      clear F41
      refine fr2 F42 59 (.bool true) w2 rfl (by decide) ?_ fun _ F43=>?_
      ·have e58:=F42.kn 58 _ rfl;have e51:=F42.kn 51 _ rfl;go_wp2;exact ⟨_,rfl,rfl,rfl⟩
      clear F42
      refine fr2 F43 60 (.bool true) w2 rfl (by decide) ?_ fun _ F44=>?_
      ·have e51:=F43.kn 51 _ rfl;have e59:=F43.kn 59 _ rfl;go_wp2;exact ⟨_,rfl,rfl,rfl⟩
      clear F43
      refine fr_end ?_
      obtain ⟨i1,hi1'⟩:∃ i1,i+1=i1:=⟨_,rfl⟩
      have hi3:i1≤120:=by have:=HL.out;omega
      have HI1:=Lib.hid hi1'
      clear hi1'
      go_upto_if 60 with fail
      refine wp_cond_true (F44.ev (t:=60) rfl) ?_
      go_upto_region 14 with fail
      refine fr_region ?_
      refine fr_mv F44 6 61 (.inl rfl) rfl rfl (by decide) rfl fun _ F45=>?_
      clear F44
      refine fr2 F45 62 (.int .i64 (i1:Nat)) w2 rfl (by decide) ?_ fun _ F46=>?_
      ·have e61:=F45.kn 61 _ rfl
       have h9:=HI1.out
       go_wp2
       first | exact ⟨_,rfl,rfl,rfl⟩ | exact ⟨_,rfl,congrArg (Value.int .i64) (by omega),rfl⟩
      clear F45
      refine fr_mv F46 62 6 (.inr rfl) rfl rfl (by decide) rfl fun _ F47=>?_
      clear F46
      refine fr_end ?_
      go_wp2
      have hi1':=HI1.out
      have hdg9:=dg_over HDG.out (by rw [HLI.out,k42]) HOV.out
      rw [hi1'] at hdg9
      refine HKK.out _ _ (Handed.intro (l.length-i1) (by omega) (HJ.out _ _ _ ⟨_,_,Fr.cons (Fr.cons (Fr.cons (Fr.cons (Fr.cons F47.nil (F47.kn 6 _ rfl)) (F47.kn 5 _ rfl)) (F47.kn 4 _ rfl)) (F47.kn 2 _ rfl)) (F47.kn 0 _ rfl),acc,i1,rfl,rfl,by omega,by have:=HLL.out;omega,fun _=>HNE.out hi0,⟨⟨cs,by rw [HLL.out];exact own_ext HOWN.out hxW,dkidsV_map (fun t v h=>DNodeV.keep h hxW) HKD.out⟩,HGT.out⟩,hdg9,HEX.out.trans hxW,HBZ.out.keep hxW,HBA.out.keep hxW,HGA.out⟩))
     ·have k5':(kk == 5)=false:=by simpa using k5
      have hov:¬ overB l i acc:=fun h=>by
       obtain ⟨_,_,t,ht,hk⟩:=h
       rw [HLA.out] at ht
       cases ht
       exact k5 (HHK.out.symm.trans hk)
      go_upto_if 35 with fail
      refine wp_cond_true (F20.ev (t:=35) rfl) ?_
      go_upto_region 13 with fail
      refine fr_region ?_
      refine fr_mv F20 6 37 (.inl rfl) rfl rfl (by decide) rfl fun _ F21=>?_
      clear F20
      refine fr2 F21 38 (.bool true) w2 rfl (by decide) ?_ fun _ F22=>?_
      ·have e37:=F21.kn 37 _ rfl;go_wp2;exact ⟨_,rfl,rfl,rfl⟩
      clear F21
      refine fr_mv F22 38 39 (.inl rfl) rfl rfl (by decide) rfl fun _ F23=>?_
      clear F22
      refine fr2 F23 40 (.string ⟨l.toArray⟩) w2 rfl (by decide) ?_ fun _ F24=>?_
      ·have e0:=F23.kn 0 _ rfl;have e39:=F23.kn 39 _ rfl;go_wp2;exact ⟨_,rfl,rfl,rfl⟩
      clear F23
      refine fr2 F24 41 (.int .i64 (i:Nat)) w2 rfl (by decide) ?_ fun _ F25=>?_
      ·have e6:=F24.kn 6 _ rfl;have e39:=F24.kn 39 _ rfl;go_wp2;exact ⟨_,rfl,rfl,rfl⟩
      clear F24
      refine fr2 F25 42 (.int .i64 (im:Nat)) w2 rfl (by decide) ?_ fun _ F26=>?_
      ·have e41:=F25.kn 41 _ rfl
       have e39:=F25.kn 39 _ rfl
       have h9:=HIM.out
       go_wp2
       first | exact ⟨_,rfl,rfl,rfl⟩ | exact ⟨_,rfl,congrArg (Value.int .i64) (by omega),rfl⟩
      clear F25
      refine fr2 F26 43 (.int .u8 (d.toNat:Nat)) w2 rfl (by decide) ?_ fun _ F27=>?_
      ·have e40:=F26.kn 40 _ rfl;have e42:=F26.kn 42 _ rfl;have e39:=F26.kn 39 _ rfl;go_wp2;exact ⟨_,rfl,rfl,rfl⟩
      clear F26
      refine fr2 F27 44 (.bool true) w2 rfl (by decide) ?_ fun _ F28=>?_
      ·have e43:=F27.kn 43 _ rfl;have e39:=F27.kn 39 _ rfl;go_wp2;exact ⟨_,rfl,rfl,rfl⟩
      clear F27
      refine fr2 F28 45 (.bool true) w2 rfl (by decide) ?_ fun _ F29=>?_
      ·have e39:=F28.kn 39 _ rfl;have e44:=F28.kn 44 _ rfl;go_wp2;exact ⟨_,rfl,rfl,rfl⟩
      clear F28
      refine fr_mv F29 45 46 (.inl rfl) rfl rfl (by decide) rfl fun _ F30=>?_
      clear F29
      refine fr2 F30 47 (.slice (some ⟨b1,o1,none⟩) (n1+1) cl) w2 rfl (by decide) ?_ fun _ F31=>?_
      ·have e5:=F30.kn 5 _ rfl;have e46:=F30.kn 46 _ rfl;go_wp2;exact ⟨_,rfl,rfl,rfl⟩
      clear F30
      refine fr2 F31 48 (.int .i64 ((n1:Int)+1)) w2 rfl (by decide) ?_ fun _ F32=>?_
      ·have e47:=F31.kn 47 _ rfl;have e46:=F31.kn 46 _ rfl;go_wp2;exact ⟨_,rfl,rfl,rfl⟩
      clear F31
      refine fr2 F32 49 (.bool true) w2 rfl (by decide) ?_ fun _ F33=>?_
      ·have e48:=F32.kn 48 _ rfl;have e46:=F32.kn 46 _ rfl;go_wp2;exact ⟨_,rfl,rfl,rfl⟩
      clear F32
      refine fr2 F33 50 (.bool true) w2 rfl (by decide) ?_ fun _ F34=>?_
      ·have e46:=F33.kn 46 _ rfl;have e49:=F33.kn 49 _ rfl;go_wp2;exact ⟨_,rfl,rfl,rfl⟩
      clear F33
      refine fr_mv F34 50 51 (.inl rfl) rfl rfl (by decide) rfl fun _ F35=>?_
      clear F34
      refine fr2 F35 52 (.slice (some ⟨b1,o1,none⟩) (n1+1) cl) w2 rfl (by decide) ?_ fun _ F36=>?_
      ·have e5:=F35.kn 5 _ rfl;have e51:=F35.kn 51 _ rfl;go_wp2;exact ⟨_,rfl,rfl,rfl⟩
      clear F35
      refine fr2 F36 53 (.slice (some ⟨b1,o1,none⟩) (n1+1) cl) w2 rfl (by decide) ?_ fun _ F37=>?_
      ·have e5:=F36.kn 5 _ rfl;have e51:=F36.kn 51 _ rfl;go_wp2;exact ⟨_,rfl,rfl,rfl⟩
      clear F36
      refine fr2 F37 54 (.int .i64 ((n1:Int)+1)) w2 rfl (by decide) ?_ fun _ F38=>?_
      ·have e53:=F37.kn 53 _ rfl;have e51:=F37.kn 51 _ rfl;go_wp2;exact ⟨_,rfl,rfl,rfl⟩
      clear F37
      refine fr2 F38 55 (.int .i64 (n1:Nat)) w2 rfl (by decide) ?_ fun _ F39=>?_
      ·have e54:=F38.kn 54 _ rfl
       have e51:=F38.kn 51 _ rfl
       go_wp2
       first | exact ⟨_,rfl,rfl,rfl⟩ | exact ⟨_,rfl,congrArg (Value.int .i64) (by omega),rfl⟩
      clear F38
      refine fr2 F39 56 (.pointer (some ⟨b1,o1+n1*260,none⟩)) w2 rfl (by decide) ?_ fun _ F40=>?_
      ·have e52:=F39.kn 52 _ rfl;have e55:=F39.kn 55 _ rfl;have e51:=F39.kn 51 _ rfl;go_wp2;exact ⟨_,rfl,rfl,rfl⟩
      clear F39
      refine fr2 F40 57 (.pointer (some ⟨b1,o1+n1*260,none⟩)) w2 rfl (by decide) ?_ fun _ F41=>?_
      ·have e56:=F40.kn 56 _ rfl;have e51:=F40.kn 51 _ rfl;go_wp2;exact ⟨_,rfl,rfl,rfl⟩
      clear F40
      refine fr2 F41 58 (.int .i64 kk) w2 rfl (by decide) ?_ fun _ F42=>?_
      ·have e57:=F41.kn 57 _ rfl;have e51:=F41.kn 51 _ rfl;go_wp2;exact ⟨_,rfl,rfl,rfl⟩
      clear F41
      refine fr2 F42 59 (.bool false) w2 rfl (by decide) ?_ fun _ F43=>?_
      ·have e58:=F42.kn 58 _ rfl;have e51:=F42.kn 51 _ rfl;go_wp2;exact ⟨_,rfl,rfl,rfl⟩
      clear F42
      refine fr2 F43 60 (.bool false) w2 rfl (by decide) ?_ fun _ F44=>?_
      ·have e51:=F43.kn 51 _ rfl;have e59:=F43.kn 59 _ rfl;go_wp2;exact ⟨_,rfl,rfl,rfl⟩
      clear F43
      refine fr_end ?_
      go_upto_if 60 with fail
      refine wp_cond_false (F44.ev (t:=60) rfl) ?_
      go_upto_region 15 with fail
      go_upto_region 15 with fail
      refine fr_region ?_
      refine fr2 F44 63 (.agg (dnC 2 0 false (fun j=>decide (j≤255)) none 0 0).toArray) w2 rfl (by decide) ?_ fun _ F45=>?_
      ·have e4:=F44.kn 4 _ rfl
       refine load_dn rfl (.tmp 4) rfl (F44.ev (t:=4) rfl) (HBA.out.keep hxW) ?_
       exact ⟨_,rfl,rfl,rfl⟩
      clear F44
      refine fr_op F45 64 rfl (by decide) (fun v w'=>∃ gR,v=.slice (some ⟨gR,0,none⟩) 1 1∧w2.heap.size≤gR∧Ext w2 w' ∧ Rd w' 260 (some ⟨gR,0,none⟩) 1 (dnC 2 0 false (fun j=>decide (j≤255)) none 0 0)) ?_ ?_
      ·have e63:=F45.kn 63 _ rfl
       refine mk_dn rfl (.tmp 63) rfl (v:=(dnC 2 0 false (fun j=>decide (j≤255)) none 0 0)) (dn_len _ _ _ _ _ _ _) (F45.ev (t:=63) rfl) ?_
       exact ⟨_,rfl,_,rfl,Nat.le_refl _,Ext.new1 _ _,rd_newS _ 260 1 _ _ (by rw [dn_len])⟩
      rintro a46 _ w3 ⟨gR,rfl,hgR,hx3,hrR⟩ F46
      clear F45
      refine fr2 F46 65 (.agg (dnC 5 0 false (fun _=>false) (some ⟨gR,0,none⟩) 1 1).toArray) w3 rfl (by decide) ?_ fun _ F47=>?_
      ·have e64:=F46.kn 64 _ rfl
       refine build_kk rfl (.tmp 64) rfl (F46.ev (t:=64) rfl) ?_
       exact ⟨_,rfl,rfl,rfl⟩
      clear F46
      refine fr_op0 F47 rfl (fun w'=>Ext wr w' ∧ Blk w' w1.heap.size 38 (dnC 5 0 false (fun _=>false) (some ⟨gR,0,none⟩) 1 1)∧Rd w' 260 (some ⟨gR,0,none⟩) 1 (dnC 2 0 false (fun j=>decide (j≤255)) none 0 0)) ?_ ?_
      ·have e9:=F47.kn 9 _ rfl
       have e65:=F47.kn 65 _ rfl
       refine store_dn rfl (.tmp 9) (.tmp 65) rfl (g:=w1.heap.size) (F47.ev (t:=9) rfl) (F47.ev (t:=65) rfl) (hb9.keep hx3) (dn_len _ _ _ _ _ _ _) ?_
       exact ⟨_,rfl,Ext.row (hxW.trans hx3) _ _ hg9,(hb9.keep hx3).row _,hrR.chg (rowChg4 _ _ _) (fun _ b o v e=>by cases e;have:=hb9.lt;simp;omega)⟩
      rintro a48 w4 ⟨hx4,hb4,hr4⟩ F48
      clear F47
      refine fr_end ?_
      go_wp2
      refine HM.out _ _ ⟨0,1,w1.heap.size,5,(fun _=>false),(some ⟨gR,0,none⟩),1,1,(.node 5 0 false noP [allT]),(Fr.cons (Fr.cons (Fr.cons (Fr.cons (Fr.cons (Fr.cons (Fr.cons (Fr.cons F48.nil (F48.kn 9 _ rfl)) (F48.kn 8 _ rfl)) (F48.kn 7 _ rfl)) (F48.kn 6 _ rfl)) (F48.kn 5 _ rfl)) (F48.kn 4 _ rfl)) (F48.kn 2 _ rfl)) (F48.kn 0 _ rfl)),hx4,hb4,fun h=>absurd rfl h,?_⟩
      refine fun _=>⟨dg_star HDG.out (by rw [HLI.out,k42]) hov,Nat.le_refl _,by omega,dnode_one4 5 0 false hr4 (Nat.le_refl _) (by unfold maxLen;omega) (fun b o x e=>?_) ?_⟩
      ·have hsW:=hxW.size
       have hA:=HBA.out.lt
       cases e
       refine ⟨by omega,fun e=>?_⟩
       have h8:=(HOWN.out.lt gR e.symm).2
       omega
      ·rw [dn_congr (q:=fun _=>true) (fun j hj=>by simp;omega)]
       exact dnode_leaf 2 0 false _
    have hb42:b42=false:=by rw [← h42];exact u8_ne k42
    subst hb42
    by_cases k63:c=63
    ·have z63:((c.toNat:Int) == 63)=true:=by rw [k63];rfl
     go_upto_if 35 with fail
     refine wp_cond_false (F20.ev (t:=35) rfl) ?_
     go_upto_region 16 with fail
     refine fr_region ?_
     refine fr2 F20 67 (.bool true) w2 rfl (by decide) ?_ fun _ F21=>?_
     ·have e34:=F20.kn 34 _ rfl;go_wp2;exact ⟨_,rfl,rfl,rfl⟩
     clear F20
     refine fr_mv F21 67 66 (.inr rfl) rfl rfl (by decide) rfl fun _ F22=>?_
     clear F21
     refine fr_end ?_
     go_upto_if 66 with fail
     refine wp_cond_true (F22.ev (t:=66) rfl) ?_
     go_upto_region 17 with fail
     refine fr_region ?_
     refine fr2 F22 68 (.agg (dnC 2 0 false (fun j=>decide (j≤255)) none 0 0).toArray) w2 rfl (by decide) ?_ fun _ F23=>?_
     ·have e4:=F22.kn 4 _ rfl
      refine load_dn rfl (.tmp 4) rfl (F22.ev (t:=4) rfl) (HBA.out.keep hxW) ?_
      exact ⟨_,rfl,rfl,rfl⟩
     clear F22
     refine fr_op0 F23 rfl (fun w'=>Ext wr w' ∧ Blk w' w1.heap.size 38 (dnC 2 0 false (fun j=>decide (j≤255)) none 0 0)) ?_ ?_
     ·have e9:=F23.kn 9 _ rfl
      have e68:=F23.kn 68 _ rfl
      refine store_dn rfl (.tmp 9) (.tmp 68) rfl (g:=w1.heap.size) (F23.ev (t:=9) rfl) (F23.ev (t:=68) rfl) hb9 (dn_len _ _ _ _ _ _ _) ?_
      exact ⟨_,rfl,Ext.row hxW _ _ hg9,hb9.row _⟩
     rintro a24 w4 ⟨hx4,hb4⟩ F24
     clear F23
     refine fr_end ?_
     have HONE:=Lib.hid (show oneG (l.drop i) c=(fun _=>true,1,0) from by unfold oneG;rw [if_pos k63])
     go_wp2
     refine HM.out _ _ ⟨0,1,w1.heap.size,2,(fun j=>decide (j≤255)),none,0,0,(.node 2 0 false (oneG (l.drop i) c).1 []),(Fr.cons (Fr.cons (Fr.cons (Fr.cons (Fr.cons (Fr.cons (Fr.cons (Fr.cons F24.nil (F24.kn 9 _ rfl)) (F24.kn 8 _ rfl)) (F24.kn 7 _ rfl)) (F24.kn 6 _ rfl)) (F24.kn 5 _ rfl)) (F24.kn 4 _ rfl)) (F24.kn 2 _ rfl)) (F24.kn 0 _ rfl)),hx4,hb4,fun h=>absurd rfl h,?_⟩
     refine fun h=>?_
     obtain ⟨h7,h8,h9⟩:=dg_one HDG.out HLI.out k42 (by rw [HONE.out])
     rw [HONE.out] at h7 h8 h9
     refine ⟨by rw [HONE.out];exact h7,h8,h9,?_⟩
     rw [HONE.out]
     rw [dn_congr (q:=_) (fun j hj=>show _=true by simp;omega)]
     exact dnode_leaf 2 0 false _
    have z63:((c.toNat:Int) == 63)=false:=u8_ne k63
    go_upto_if 35 with fail
    refine wp_cond_false (F20.ev (t:=35) rfl) ?_
    go_upto_region 16 with fail
    refine fr_region ?_
    refine fr2 F20 67 (.bool false) w2 rfl (by decide) ?_ fun _ F21=>?_
    ·have e34:=F20.kn 34 _ rfl;go_wp2;exact ⟨_,rfl,rfl,rfl⟩
    clear F20
    refine fr_mv F21 67 66 (.inr rfl) rfl rfl (by decide) rfl fun _ F22=>?_
    clear F21
    refine fr_end ?_
    by_cases k91:c=91
    ·have z91:((c.toNat:Int) == 91)=true:=by rw [k91];rfl
     obtain ⟨tl,htl⟩:∃ t,l.drop i=91 :: t:=⟨_,by rw [List.drop_eq_getElem_cons hlt,hc,k91]⟩
     have HPA:=Lib.hid (refParse91 tl (by have:=HL.out;rw [← htl,List.length_drop];omega) w2)
     rw [← htl] at HPA
     clear htl
     go_upto_if 66 with fail
     refine wp_cond_false (F22.ev (t:=66) rfl) ?_
     go_upto_region 18 with fail
     refine fr_region ?_
     refine fr2 F22 70 (.bool true) w2 rfl (by decide) ?_ fun _ F23=>?_
     ·have e34:=F22.kn 34 _ rfl;go_wp2;exact ⟨_,rfl,rfl,rfl⟩
     clear F22
     refine fr_mv F23 70 69 (.inr rfl) rfl rfl (by decide) rfl fun _ F24=>?_
     clear F23
     refine fr_end ?_
     go_upto_if 69 with fail
     refine wp_cond_true (F24.ev (t:=69) rfl) ?_
     go_upto_region 19 with fail
     refine fr_region ?_
     refine fr_mv F24 0 72 (.inl rfl) rfl rfl (by decide) rfl fun _ F25=>?_
     clear F24
     refine fr_mv F25 6 73 (.inl rfl) rfl rfl (by decide) rfl fun _ F26=>?_
     clear F25
     refine fr2 F26 74 (.string ⟨(l.drop i).toArray⟩) w2 rfl (by decide) ?_ fun _ F27=>?_
     ·have e72:=F26.kn 72 _ rfl;have e73:=F26.kn 73 _ rfl;go_wp2;exact ⟨_,rfl,rfl,rfl⟩
     clear F26
     refine fr_op F27 75 rfl (by decide) (AtX (parseB (parseS (l.drop i))) w2) ?_ ?_
     ·have e74:=F27.kn 74 _ rfl
      go_wp2_with (go_at_call 28;refine HPA.out.mono ?_;rintro e w9 ⟨rfl,hx9⟩)
      exact ⟨_,rfl,rfl,hx9⟩
     rintro a28 _ w3 ⟨rfl,hx3⟩ F28
     clear F27
     refine fr2 F28 71 (.tuple #[bp (parseS (l.drop i)).1,.int .i64 ((parseS (l.drop i)).2.1:Nat),.int .i64 ((parseS (l.drop i)).2.2:Nat)]) w3 rfl (by decide) ?_ fun _ F29=>?_
     ·have e75:=F28.kn 75 _ rfl;go_wp2;exact ⟨_,rfl,rfl,rfl⟩
     clear F28
     refine fr2 F29 76 (bp (parseS (l.drop i)).1) w3 rfl (by decide) ?_ fun _ F30=>?_
     ·have e71:=F29.kn 71 _ rfl;go_wp2;exact ⟨_,rfl,rfl,rfl⟩
     clear F29
     refine fr2 F30 77 (.int .i64 ((parseS (l.drop i)).2.1:Nat)) w3 rfl (by decide) ?_ fun _ F31=>?_
     ·have e71:=F30.kn 71 _ rfl;go_wp2;exact ⟨_,rfl,rfl,rfl⟩
     clear F30
     refine fr2 F31 78 (.int .i64 ((parseS (l.drop i)).2.2:Nat)) w3 rfl (by decide) ?_ fun _ F32=>?_
     ·have e71:=F31.kn 71 _ rfl;go_wp2;exact ⟨_,rfl,rfl,rfl⟩
     clear F31
     refine fr2 F32 79 (.pointer (some ⟨w1.heap.size,3,none⟩)) w3 rfl (by decide) ?_ fun _ F33=>?_
     ·have e9:=F32.kn 9 _ rfl;go_wp2;exact ⟨_,rfl,rfl,rfl⟩
     clear F32
     refine fr_op0 F33 rfl (fun w'=>Ext wr w' ∧ Blk w' w1.heap.size 38 (dnC 2 0 false (parseS (l.drop i)).1 none 0 0)) ?_ ?_
     ·have e79:=F33.kn 79 _ rfl
      have e76:=F33.kn 76 _ rfl
      refine store_dset rfl (.tmp 79) (.tmp 76) rfl (g:=w1.heap.size) (F33.ev (t:=79) rfl) (F33.ev (t:=76) rfl) (hb9.keep hx3) ?_
      exact ⟨_,rfl,ext_chg (hxW.trans hx3) (chg_setCells _ _ _) hg9,setset _ (hb9.keep hx3)⟩
     rintro a34 w4 ⟨hx4,hb4⟩ F34
     clear F33
     refine fr_mv F34 77 7 (.inr rfl) rfl rfl (by decide) rfl fun _ F35=>?_
     clear F34
     refine fr_mv F35 78 8 (.inr rfl) rfl rfl (by decide) rfl fun _ F36=>?_
     clear F35
     refine fr_end ?_
     have HONE:=Lib.hid (show oneG (l.drop i) c=(parseS (l.drop i)) from by unfold oneG;rw [if_neg k63,if_pos k91])
     go_wp2
     refine HM.out _ _ ⟨(parseS (l.drop i)).2.2,(parseS (l.drop i)).2.1,w1.heap.size,2,(parseS (l.drop i)).1,none,0,0,(.node 2 0 false (oneG (l.drop i) c).1 []),(Fr.cons (Fr.cons (Fr.cons (Fr.cons (Fr.cons (Fr.cons (Fr.cons (Fr.cons F36.nil (F36.kn 9 _ rfl)) (F36.kn 8 _ rfl)) (F36.kn 7 _ rfl)) (F36.kn 6 _ rfl)) (F36.kn 5 _ rfl)) (F36.kn 4 _ rfl)) (F36.kn 2 _ rfl)) (F36.kn 0 _ rfl)),hx4,hb4,fun h=>by have h9:=dg_err HDG.out HLI.out k42 (by rw [HONE.out];exact h);rw [HONE.out] at h9;exact h9,?_⟩
     refine fun h=>?_
     obtain ⟨h7,h8,h9⟩:=dg_one HDG.out HLI.out k42 (by rw [HONE.out];exact h)
     rw [HONE.out] at h7 h8 h9
     refine ⟨by rw [HONE.out];exact h7,h8,h9,?_⟩
     rw [HONE.out]
     skip
     exact dnode_leaf 2 0 false _
    have z91:((c.toNat:Int) == 91)=false:=u8_ne k91
    go_upto_if 66 with fail
    refine wp_cond_false (F22.ev (t:=66) rfl) ?_
    go_upto_region 18 with fail
    refine fr_region ?_
    refine fr2 F22 70 (.bool false) w2 rfl (by decide) ?_ fun _ F23=>?_
    ·have e34:=F22.kn 34 _ rfl;go_wp2;exact ⟨_,rfl,rfl,rfl⟩
    clear F22
    refine fr_mv F23 70 69 (.inr rfl) rfl rfl (by decide) rfl fun _ F24=>?_
    clear F23
    refine fr_end ?_
    by_cases k92:c=92
    ·have z92:((c.toNat:Int) == 92)=true:=by rw [k92];rfl
     go_upto_if 69 with fail
     refine wp_cond_false (F24.ev (t:=69) rfl) ?_
     go_upto_region 20 with fail
     refine fr_region ?_
     refine fr2 F24 81 (.bool true) w2 rfl (by decide) ?_ fun _ F25=>?_
     ·have e34:=F24.kn 34 _ rfl;go_wp2;exact ⟨_,rfl,rfl,rfl⟩
     clear F24
     refine fr_mv F25 81 80 (.inr rfl) rfl rfl (by decide) rfl fun _ F26=>?_
     clear F25
     refine fr_end ?_
     go_upto_if 80 with fail
     refine wp_cond_true (F26.ev (t:=80) rfl) ?_
     go_upto_region 21 with fail
     refine fr_region ?_
     refine fr_mv F26 0 83 (.inl rfl) rfl rfl (by decide) rfl fun _ F27=>?_
     clear F26
     refine fr_mv F27 6 84 (.inl rfl) rfl rfl (by decide) rfl fun _ F28=>?_
     clear F27
     refine fr2 F28 85 (.string ⟨(l.drop i).toArray⟩) w2 rfl (by decide) ?_ fun _ F29=>?_
     ·have e83:=F28.kn 83 _ rfl;have e84:=F28.kn 84 _ rfl;go_wp2;exact ⟨_,rfl,rfl,rfl⟩
     clear F28
     refine fr_op F29 86 rfl (by decide) (AtX (sgB (escS (l.drop i))) w2) ?_ ?_
     ·have e85:=F29.kn 85 _ rfl
      go_wp2_with (go_at_call 29;refine (refEscape (l.drop i) (by have:=HL.out;rw [List.length_drop];omega) _).mono ?_;rintro e w9 ⟨rfl,hx9⟩)
      exact ⟨_,rfl,rfl,hx9⟩
     rintro a30 _ w3 ⟨rfl,hx3⟩ F30
     clear F29
     refine fr2 F30 82 (.tuple #[bp (escS (l.drop i)).set,.bool (escS (l.drop i)).one,.int .i64 ((escS (l.drop i)).size:Nat),.int .i64 ((escS (l.drop i)).err:Nat)]) w3 rfl (by decide) ?_ fun _ F31=>?_
     ·have e86:=F30.kn 86 _ rfl;go_wp2;exact ⟨_,rfl,rfl,rfl⟩
     clear F30
     refine fr2 F31 87 (bp (escS (l.drop i)).set) w3 rfl (by decide) ?_ fun _ F32=>?_
     ·have e82:=F31.kn 82 _ rfl;go_wp2;exact ⟨_,rfl,rfl,rfl⟩
     clear F31
     refine fr2 F32 88 (.bool (escS (l.drop i)).one) w3 rfl (by decide) ?_ fun _ F33=>?_
     ·have e82:=F32.kn 82 _ rfl;go_wp2;exact ⟨_,rfl,rfl,rfl⟩
     clear F32
     refine fr2 F33 89 (.int .i64 ((escS (l.drop i)).size:Nat)) w3 rfl (by decide) ?_ fun _ F34=>?_
     ·have e82:=F33.kn 82 _ rfl;go_wp2;exact ⟨_,rfl,rfl,rfl⟩
     clear F33
     refine fr2 F34 90 (.int .i64 ((escS (l.drop i)).err:Nat)) w3 rfl (by decide) ?_ fun _ F35=>?_
     ·have e82:=F34.kn 82 _ rfl;go_wp2;exact ⟨_,rfl,rfl,rfl⟩
     clear F34
     refine fr2 F35 91 (.pointer (some ⟨w1.heap.size,3,none⟩)) w3 rfl (by decide) ?_ fun _ F36=>?_
     ·have e9:=F35.kn 9 _ rfl;go_wp2;exact ⟨_,rfl,rfl,rfl⟩
     clear F35
     refine fr_op0 F36 rfl (fun w'=>Ext wr w' ∧ Blk w' w1.heap.size 38 (dnC 2 0 false (escS (l.drop i)).set none 0 0)) ?_ ?_
     ·have e91:=F36.kn 91 _ rfl
      have e87:=F36.kn 87 _ rfl
      refine store_dset rfl (.tmp 91) (.tmp 87) rfl (g:=w1.heap.size) (F36.ev (t:=91) rfl) (F36.ev (t:=87) rfl) (hb9.keep hx3) ?_
      exact ⟨_,rfl,ext_chg (hxW.trans hx3) (chg_setCells _ _ _) hg9,setset _ (hb9.keep hx3)⟩
     rintro a37 w4 ⟨hx4,hb4⟩ F37
     clear F36
     refine fr_mv F37 89 7 (.inr rfl) rfl rfl (by decide) rfl fun _ F38=>?_
     clear F37
     refine fr_mv F38 90 8 (.inr rfl) rfl rfl (by decide) rfl fun _ F39=>?_
     clear F38
     refine fr_end ?_
     have HONE:=Lib.hid (show oneG (l.drop i) c=((escS (l.drop i)).set,(escS (l.drop i)).size,(escS (l.drop i)).err) from by unfold oneG;rw [if_neg k63,if_neg k91,if_pos k92])
     go_wp2
     refine HM.out _ _ ⟨(escS (l.drop i)).err,(escS (l.drop i)).size,w1.heap.size,2,(escS (l.drop i)).set,none,0,0,(.node 2 0 false (oneG (l.drop i) c).1 []),(Fr.cons (Fr.cons (Fr.cons (Fr.cons (Fr.cons (Fr.cons (Fr.cons (Fr.cons F39.nil (F39.kn 9 _ rfl)) (F39.kn 8 _ rfl)) (F39.kn 7 _ rfl)) (F39.kn 6 _ rfl)) (F39.kn 5 _ rfl)) (F39.kn 4 _ rfl)) (F39.kn 2 _ rfl)) (F39.kn 0 _ rfl)),hx4,hb4,fun h=>by have h9:=dg_err HDG.out HLI.out k42 (by rw [HONE.out];exact h);rw [HONE.out] at h9;exact h9,?_⟩
     refine fun h=>?_
     obtain ⟨h7,h8,h9⟩:=dg_one HDG.out HLI.out k42 (by rw [HONE.out];exact h)
     rw [HONE.out] at h7 h8 h9
     refine ⟨by rw [HONE.out];exact h7,h8,h9,?_⟩
     rw [HONE.out]
     skip
     exact dnode_leaf 2 0 false _
    have z92:((c.toNat:Int) == 92)=false:=u8_ne k92
    go_upto_if 69 with fail
    refine wp_cond_false (F24.ev (t:=69) rfl) ?_
    go_upto_region 20 with fail
    refine fr_region ?_
    refine fr2 F24 81 (.bool false) w2 rfl (by decide) ?_ fun _ F25=>?_
    ·have e34:=F24.kn 34 _ rfl;go_wp2;exact ⟨_,rfl,rfl,rfl⟩
    clear F24
    refine fr_mv F25 81 80 (.inr rfl) rfl rfl (by decide) rfl fun _ F26=>?_
    clear F25
    refine fr_end ?_
    go_upto_if 80 with fail
    refine wp_cond_false (F26.ev (t:=80) rfl) ?_
    have HONE:=Lib.hid (show oneG (l.drop i) c=(fun j=>j == c.toNat,1,0) from by unfold oneG;rw [if_neg k63,if_neg k91,if_neg k92])
    have hP0:∀ j,(fun j=>((l.take (i+1)).drop i).any fun c=>c.toNat == j) j=(j == c.toNat):=fun j=>by
     rw [show (l.take (i+1)).drop i=[c] from by (rw [List.drop_take,Nat.add_sub_cancel_left,List.drop_eq_getElem_cons hlt,hc];rfl)]
     simp [Bool.beq_comm]
    go_wp2
    refine HM.out _ _ ⟨0,1,w1.heap.size,2,(fun j=>((l.take (i+1)).drop i).any fun c=>c.toNat == j),none,0,0,(.node 2 0 false (oneG (l.drop i) c).1 []),(Fr.cons (Fr.cons (Fr.cons (Fr.cons (Fr.cons (Fr.cons (Fr.cons (Fr.cons F26.nil (F26.kn 9 _ rfl)) (F26.kn 8 _ rfl)) (F26.kn 7 _ rfl)) (F26.kn 6 _ rfl)) (F26.kn 5 _ rfl)) (F26.kn 4 _ rfl)) (F26.kn 2 _ rfl)) (F26.kn 0 _ rfl)),hxW,hb9,fun h=>absurd rfl h,?_⟩
    refine fun h=>?_
    obtain ⟨h7,h8,h9⟩:=dg_one HDG.out HLI.out k42 (by rw [HONE.out])
    rw [HONE.out] at h7 h8 h9
    refine ⟨by rw [HONE.out];exact h7,h8,h9,?_⟩
    rw [HONE.out]
    rw [dn_congr (q:=_) (fun j hj=>hP0 j)]
    exact dnode_leaf 2 0 false _
  ·have hlt':¬ (i:Int)<(l.length:Int):=by omega
   have hR:=dg_end HDG.out (by omega)
   subst hR
   go_upto_region 8 with fail
   refine fr_region ?_
   refine fr_mv F0 6 21 (.inl rfl) rfl rfl (by decide) rfl fun _ F1=>?_
   clear F0
   refine fr_mv F1 0 22 (.inl rfl) rfl rfl (by decide) rfl fun _ F2=>?_
   clear F1
   refine fr2 F2 23 (.int .i64 (l.length:Nat)) wr rfl (by decide) ?_ fun _ F3=>?_
   ·have e22:=F2.kn 22 _ rfl;go_wp2;exact ⟨_,rfl,rfl,rfl⟩
   clear F2
   refine fr2 F3 24 (.bool false) wr rfl (by decide) ?_ fun _ F4=>?_
   ·have e21:=F3.kn 21 _ rfl;have e23:=F3.kn 23 _ rfl;go_wp2;exact ⟨_,rfl,rfl,rfl⟩
   clear F3
   refine fr_end ?_
   go_upto_if 24 with fail
   refine wp_cond_false (F4.ev (t:=24) rfl) ?_
   go_upto_region 26 with fail
   have hne:acc ≠ []:=HNE.out (fun h=>by
    have h9:=hnil'
    omega)
   have hD:=altC_dn (S:=fun b=>gA<b) (by rw [HLL.out];exact hcl) hml (by rw [HLL.out];exact HRL.out) (dkidsV_map (fun t v h=>DNodeV.mono h (fun _ _ h=>h.1)) HKD.out) (fun b o x e _=>HGT.out b (by rw [e];rfl))
   have hJO:=refJoined _ acc hne Al cl cs wr (by rw [HLL.out];exact HRL.out) HKD.out
   obtain ⟨k7,m7,z7,p7,B7,n7,c7,e7⟩:=dnodeV_form hD
   rw [e7] at hD hJO
   rw [HLL.out] at hJO
   have HD:=Lib.hid hD
   have HJO:=Lib.hid hJO
   clear hD hJO e7
   refine fr_region ?_
   refine fr_mv F4 5 103 (.inl rfl) rfl rfl (by decide) rfl fun _ F5=>?_
   clear F4
   refine fr_op F5 104 rfl (by decide) (AtX (.agg (dnC k7 m7 z7 p7 B7 n7 c7).toArray) wr) ?_ ?_
   ·have e103:=F5.kn 103 _ rfl
    go_wp2_with (go_at_call 26;refine HJO.out.mono ?_;rintro e w9 ⟨rfl,hx9⟩)
    exact ⟨_,rfl,rfl,hx9⟩
   rintro a6 _ w1 ⟨rfl,hx1⟩ F6
   clear F5
   refine fr_op0 F6 rfl (At1 ((w1.setRow w.heap.size (dnC k7 m7 z7 p7 B7 n7 c7).toArray))) ?_ ?_
   ·have e2:=F6.kn 2 _ rfl
    have e104:=F6.kn 104 _ rfl
    refine store_dn rfl (.tmp 2) (.tmp 104) rfl (g:=w.heap.size) (F6.ev (t:=2) rfl) (F6.ev (t:=104) rfl) (HBZ.out.keep hx1) HZ8.out ?_
    exact ⟨_,rfl,rfl⟩
   rintro a7 _ rfl F7
   clear F6
   refine fr_as F7 3 (.inr rfl) rfl rfl (by decide) fun _ F8=>?_
   clear F7
   refine fr_end ?_
   go_wp2
   exact bodyPost_ret (v:=.tuple #[.agg (dnC k7 m7 z7 p7 B7 n7 c7).toArray,.int .i64 0]) (results_dn2 rfl (F8.gd (t:=2) rfl) (Blk.row (HBZ.out.keep hx1) _) (dn_len _ _ _ _ _ _ _) (F8.gd (t:=3) rfl)) F8.defers ⟨Ext.row (HEX.out.trans hx1) _ _ (Nat.le_refl _),_,rfl,by rw [rowT_cat hne];exact DNodeV.mono (DNodeV.chg (DNodeV.keep HD.out hx1) (rowChg4 _ _ _) (fun y hy=>by have:=HGA.out;rw [List.mem_singleton.1 hy];omega)) (fun _ _ h=>by have:=HGA.out;omega)⟩
end Go.Proofs.YtigmdlchbjanoaaGreatDoor
namespace Go.Proofs.YtigmdlchbjanoaaGreatDoor
open Go Go.RowKit
theorem fr_begin {P:Program} {c:Code} {Q:Exit→Act→World→Prop} {a:Act} {w:World} (n:Nat) (L:List (Nat × Value)) (hF:Fr n L a) (h:∀ a,Fr n L a→c.wp P Q a w):c.wp P Q a w:=h a hF
def GJ (l:List UInt8) (w:World) (g:Nat) (lv iv:Value) (wr:World):Prop:=
 ∃ i:Nat,g=l.length-i∧iv=.int .i64 (i:Nat)∧i≤l.length∧DRow (w.heap.size+1) w.heap.size lv ((l.take i).map byteT) wr∧Ext w wr∧Blk wr w.heap.size 38 Tryz.zeroCells38.toList
set_option maxHeartbeats 40000000 in
set_option maxRecDepth 20000 in
theorem refPlain24 (l:List UInt8) (w:World) :
  Calls Tryz.prog 8 #[.string ⟨l.toArray⟩] w fun e w'=>RefRes w (plainG l) e w':=by
 by_cases hlen:120<l.length
 ·have hR4:plainG l=.err 4:=by unfold plainG sizeErr;rw [if_pos hlen];rfl
  rw [hR4]
  have hlen':(120:Int)<(l.length:Int):=by omega
  clear hR4
  go_enter Tryz.func8,Tryz.ntmps8
  go_wp2_with (first
   | (refine build_z rfl rfl ?_)
   | (refine store_dn_new rfl (.tmp 2) (.tmp 9) rfl rfl rfl zsize40 ?_))
  exact bodyPost_ret (v:=.tuple #[.agg (dnC 0 0 false (fun _=>false) none 0 0).toArray,.int .i64 4]) (results_dn2 rfl rfl (Blk.newL w _ _) (dn_len _ _ _ _ _ _ _) rfl) rfl ⟨Ext.new1 _ _,rfl⟩
 by_cases hnil:l=[]
 ·subst hnil
  have hR4:plainG []=.err 15:=rfl
  rw [hR4]
  clear hR4 hlen
  go_enter Tryz.func8,Tryz.ntmps8
  go_wp2_with (first
   | (refine build_z rfl rfl ?_)
   | (refine store_dn_new rfl (.tmp 2) (.tmp 13) rfl rfl rfl zsize40 ?_))
  exact bodyPost_ret (v:=.tuple #[.agg (dnC 0 0 false (fun _=>false) none 0 0).toArray,.int .i64 15]) (results_dn2 rfl rfl (Blk.newL w _ _) (dn_len _ _ _ _ _ _ _) rfl) rfl ⟨Ext.new1 _ _,rfl⟩
 have hsz0:sizeErr l=0:=by unfold sizeErr;rw [if_neg hlen,if_neg hnil]
 have hR:plainG l=.ok (rowT (l.map byteT)) 0 0:=by unfold plainG;rw [if_pos hsz0]
 rw [hR]
 have hlen':¬ (120:Int)<(l.length:Int):=by omega
 have hnil':¬ (l.length:Int)=0:=by
  intro h
  exact hnil (List.length_eq_zero_iff.1 (by omega))
 have hz8:Tryz.zeroCells38.toList.length=260:=by rw [Array.length_toList];exact zsize40
 have HZ8:=Lib.hid hz8
 have HL:=Lib.hid (show l.length≤120 by omega)
 have HNI:=Lib.hid hnil
 have HB0:=Lib.hid (Blk.new w 38 Tryz.zeroCells38)
 have HX0:=Lib.hid (Ext.new1 w (.cells Tryz.zeroCells38 38))
 have hsz2:(w.alloc (.cells Tryz.zeroCells38 38)).heap.size=w.heap.size+1:=by simp
 clear hR hz8 hsz0 hlen hnil
 go_enter Tryz.func8,Tryz.ntmps8
 go_upto_region 5 with fail
 generalize w.alloc (.cells Tryz.zeroCells38 38)=w2 at *
 have HS2:=Lib.hid hsz2
 clear hsz2
 go_wp2
 refine wp_loop_ghost_k (fun g a wr=>∃ lv iv,Fr 33 [(0,.string ⟨l.toArray⟩),(2,.pointer (some ⟨w.heap.size,0,none⟩)),(4,lv),(5,iv)] a∧GJ l w g lv iv wr) (l.length) ?_ ?_
 ·have hxe:=Ext.new1 w2 (.cells #[] 38)
  refine ⟨.slice (some ⟨w2.heap.size,0,none⟩) 0 0,.int .i64 (0:Nat),Fr.cons (Fr.cons (Fr.cons (Fr.cons (Fr.start ?_ ?_) ?_) ?_) ?_) ?_,?_⟩
  iterate 6 exact rfl
  refine ⟨0,by simp,rfl,by omega,⟨⟨[],?_,by unfold DKidsV;rfl⟩,fun b hb=>?_⟩,HX0.out.trans hxe,HB0.out.keep hxe⟩
  ·exact (Blk.newL w2 38 []).own (base:=w.heap.size+1) (n:=0) (cap:=0) (size:=260) (by rw [HS2.out];omega) (Nat.le_refl _) (by unfold maxLen;omega) rfl
  ·have:=HS2.out
   simp [Value.ownBlock] at hb
   omega
 ·intro gk a0 wr hI J K hJ hK
  obtain ⟨lv,iv,F0,i,rfl,rfl,hil,hrow,hex,hbz⟩:=hI
  have HJ:=Lib.hid hJ
  have HKK:=Lib.hid hK
  clear hJ hK HB0 HX0 HS2
  obtain ⟨acc,hacc⟩:∃ acc,(l.take i).map byteT=acc:=⟨_,rfl⟩
  rw [hacc] at hrow
  obtain ⟨⟨cs,hown,hkd⟩,hgt⟩:=hrow
  obtain ⟨Al,cl,rfl,hcl,hml,hRl⟩:=own_rd hown
  obtain ⟨L,hL⟩:∃ L,acc.length=L:=⟨_,rfl⟩
  have hLi:L=i:=by rw [← hL,← hacc];simp;omega
  rw [hL] at hown hcl hRl F0 hkd hgt
  have HACC:=Lib.hid hacc
  have HLI9:=Lib.hid hLi
  have HOWN:=Lib.hid hown
  have HKD:=Lib.hid hkd
  have HGT:=Lib.hid hgt
  have HRL:=Lib.hid hRl
  have HEX:=Lib.hid hex
  have HBZ:=Lib.hid hbz
  have HLL:=Lib.hid hL
  have hw9:IntKind.i64.wrap ((i:Int)+1)=(i:Int)+1:=wrap_id (by have:=HL.out;omega) (by have:=HL.out;omega)
  clear hown hkd hgt hRl hex hbz hL hLi hacc
  by_cases hlt:i<l.length
  ·have hlt':(i:Int)<(l.length:Int):=by omega
   obtain ⟨c,hc⟩:∃ c,l[i]'hlt=c:=⟨_,rfl⟩
   go_upto_region 7 with fail
   refine fr_region ?_
   refine fr_mv F0 5 15 (.inl rfl) rfl rfl (by decide) rfl fun _ F1=>?_
   clear F0
   refine fr_mv F1 0 16 (.inl rfl) rfl rfl (by decide) rfl fun _ F2=>?_
   clear F1
   refine fr2 F2 17 (.int .i64 (l.length:Nat)) wr rfl (by decide) ?_ fun _ F3=>?_
   ·have e16:=F2.kn 16 _ rfl;go_wp2;exact ⟨_,rfl,rfl,rfl⟩
   clear F2
   refine fr2 F3 18 (.bool true) wr rfl (by decide) ?_ fun _ F4=>?_
   ·have e15:=F3.kn 15 _ rfl;have e17:=F3.kn 17 _ rfl;go_wp2;exact ⟨_,rfl,rfl,rfl⟩
   clear F3
   refine fr_end ?_
   go_upto_if 18 with fail
   refine wp_cond_true (F4.ev (t:=18) rfl) ?_
   go_upto_region 9 with fail
   refine fr_region ?_
   refine fr_mv F4 4 21 (.inl rfl) rfl rfl (by decide) rfl fun _ F5=>?_
   clear F4
   refine fr_mv F5 0 22 (.inl rfl) rfl rfl (by decide) rfl fun _ F6=>?_
   clear F5
   refine fr_mv F6 5 23 (.inl rfl) rfl rfl (by decide) rfl fun _ F7=>?_
   clear F6
   refine fr_mv F7 5 24 (.inl rfl) rfl rfl (by decide) rfl fun _ F8=>?_
   clear F7
   refine fr2 F8 25 (.int .i64 ((i:Int)+1)) wr rfl (by decide) ?_ fun _ F9=>?_
   ·have e24:=F8.kn 24 _ rfl;go_wp2;exact ⟨_,rfl,rfl,rfl⟩
   clear F8
   refine fr2 F9 26 (.string ⟨((l.take (i+1)).drop i).toArray⟩) wr rfl (by decide) ?_ fun _ F10=>?_
   ·have e22:=F9.kn 22 _ rfl;have e23:=F9.kn 23 _ rfl;have e25:=F9.kn 25 _ rfl;go_wp2;exact ⟨_,rfl,rfl,rfl⟩
   clear F9
   refine fr_op F10 27 rfl (by decide) (AtX (bp (fun j=>((l.take (i+1)).drop i).any fun c=>c.toNat == j)) wr) ?_ ?_
   ·have e26:=F10.kn 26 _ rfl
    go_wp2_with (go_at_call 25;refine (refIn ((l.take (i+1)).drop i) (by have:=HL.out;rw [List.length_drop,List.length_take];omega) _).mono ?_;rintro e w9 ⟨rfl,hx9⟩)
    exact ⟨_,rfl,rfl,hx9⟩
   rintro a11 _ w1 ⟨rfl,hx1⟩ F11
   clear F10
   refine fr2 F11 28 (.agg (dnC 2 0 false (fun j=>((l.take (i+1)).drop i).any fun c=>c.toNat == j) none 0 0).toArray) w1 rfl (by decide) ?_ fun _ F12=>?_
   ·have e27:=F11.kn 27 _ rfl
    refine build_ks rfl (.tmp 27) rfl (p:=(fun j=>((l.take (i+1)).drop i).any fun c=>c.toNat == j)) (F11.ev (t:=27) rfl) ?_
    exact ⟨_,rfl,rfl,rfl⟩
   clear F11
   refine fr_op F12 29 rfl (by decide) (fun v w'=>∃ gR,v=.slice (some ⟨gR,0,none⟩) 1 1∧Ext w1 w' ∧ Rd w' 260 (some ⟨gR,0,none⟩) 1 (dnC 2 0 false (fun j=>((l.take (i+1)).drop i).any fun c=>c.toNat == j) none 0 0)) ?_ ?_
   ·have e28:=F12.kn 28 _ rfl
    refine mk_dn rfl (.tmp 28) rfl (v:=(dnC 2 0 false (fun j=>((l.take (i+1)).drop i).any fun c=>c.toNat == j) none 0 0)) (dn_len _ _ _ _ _ _ _) (F12.ev (t:=28) rfl) ?_
    exact ⟨_,rfl,_,rfl,Ext.new1 _ _,rd_newS _ 260 1 _ _ (by rw [dn_len])⟩
   rintro a13 _ wn ⟨gR,rfl,hxn,hrR⟩ F13
   clear F12
   refine fr_op F13 30 rfl (by decide) (fun v w'=>AppD (w.heap.size+1) w.heap.size (.slice Al L cl) (acc ++ [byteT c]) wn v w') ?_ ?_
   ·have e21:=F13.kn 21 _ rfl
    have e29:=F13.kn 29 _ rfl
    have hxq:=hx1.trans hxn
    have hown:=own_ext HOWN.out hxq
    have hbq:=(HBZ.out.keep hxq).lt
    refine wpList_app2 elemDn rfl (.tmp 21) (.tmp 29) rfl (base:=w.heap.size+1) (v:=.slice Al L cl) (n:=L) (xs:=cs) (F13.ev (t:=21) rfl) hown (by omega) (A:=some ⟨gR,0,none⟩) (m:=1) (c:=1) (news:=(dnC 2 0 false (fun j=>((l.take (i+1)).drop i).any fun c=>c.toNat == j) none 0 0)) (F13.ev (t:=29) rfl) hrR (dn_ones _ _ _ _ _ _ _) (by have:=HL.out;have:=HLI9.out;omega) (by unfold maxLen;have:=HL.out;have:=HLI9.out;omega) ?_
    intro v' w' hown' hg _ hat
    have hP0:∀ j,(fun j=>((l.take (i+1)).drop i).any fun c=>c.toNat == j) j=(j == c.toNat):=fun j=>by
     rw [show (l.take (i+1)).drop i=[c] from by (rw [List.drop_take,Nat.add_sub_cancel_left,List.drop_eq_getElem_cons hlt,hc];rfl)]
     simp [Bool.beq_comm]
    have hdn:DNodeV (fun b=>w.heap.size<b∧some b ≠ (.slice Al L cl:Value).ownBlock) wn (byteT c) (dnC 2 0 false (fun j=>((l.take (i+1)).drop i).any fun c=>c.toNat == j) none 0 0):=by rw [dn_congr (fun j _=>hP0 j)];exact dnode_leaf 2 0 false _
    exact ⟨_,rfl,DRow.app (dkidsV_map (fun t v h=>DNodeV.keep h hxq) HKD.out) HGT.out hdn (by rw [HLL.out];exact hown') hg hat hbq,grew_chg hg,HGT.out⟩
   rintro a14 lv9 w9 hap F14
   clear F13
   refine fr_mv F14 30 4 (.inr rfl) rfl rfl (by decide) rfl fun _ F15=>?_
   clear F14
   refine fr_end ?_
   go_upto_region 8 with fail
   refine fr_region ?_
   refine fr_mv F15 5 19 (.inl rfl) rfl rfl (by decide) rfl fun _ F16=>?_
   clear F15
   refine fr2 F16 20 (.int .i64 ((i:Int)+1)) w9 rfl (by decide) ?_ fun _ F17=>?_
   ·have e19:=F16.kn 19 _ rfl;go_wp2;exact ⟨_,rfl,rfl,rfl⟩
   clear F16
   refine fr_mv F17 20 5 (.inr rfl) rfl rfl (by decide) rfl fun _ F18=>?_
   clear F17
   refine fr_end ?_
   go_wp2
   have hxq:=hx1.trans hxn
   have hrow9:=hap.row
   rw [← HACC.out,show (l.take i).map byteT ++ [byteT c]=(l.take (i+1)).map byteT by (rw [List.take_succ_eq_append_getElem hlt,List.map_append,hc];rfl)] at hrow9
   refine HKK.out _ _ (Handed.intro (l.length-(i+1)) (by omega) (HJ.out _ _ _ ⟨_,_,Fr.cons (Fr.cons (Fr.cons (Fr.cons F18.nil (F18.kn 5 _ rfl)) (F18.kn 4 _ rfl)) (F18.kn 2 _ rfl)) (F18.kn 0 _ rfl),i+1,rfl,rfl,by omega,hrow9,hap.ext (HEX.out.trans hxq) (Nat.le_refl _),hap.keep (HBZ.out.keep hxq) (Nat.le_refl _)⟩))
  ·have hlt':¬ (i:Int)<(l.length:Int):=by omega
   have hfull:=HACC.out
   rw [List.take_of_length_le (by omega)] at hfull
   go_upto_region 7 with fail
   refine fr_region ?_
   refine fr_mv F0 5 15 (.inl rfl) rfl rfl (by decide) rfl fun _ F1=>?_
   clear F0
   refine fr_mv F1 0 16 (.inl rfl) rfl rfl (by decide) rfl fun _ F2=>?_
   clear F1
   refine fr2 F2 17 (.int .i64 (l.length:Nat)) wr rfl (by decide) ?_ fun _ F3=>?_
   ·have e16:=F2.kn 16 _ rfl;go_wp2;exact ⟨_,rfl,rfl,rfl⟩
   clear F2
   refine fr2 F3 18 (.bool false) wr rfl (by decide) ?_ fun _ F4=>?_
   ·have e15:=F3.kn 15 _ rfl;have e17:=F3.kn 17 _ rfl;go_wp2;exact ⟨_,rfl,rfl,rfl⟩
   clear F3
   refine fr_end ?_
   go_upto_if 18 with fail
   refine wp_cond_false (F4.ev (t:=18) rfl) ?_
   go_upto_region 10 with fail
   have hne:acc ≠ []:=fun h=>by rw [h] at hfull;exact HNI.out (List.map_eq_nil_iff.1 hfull)
   have hD:=altC_dn (S:=fun b=>w.heap.size<b) (by rw [HLL.out];exact hcl) hml (by rw [HLL.out];exact HRL.out) (dkidsV_map (fun t v h=>DNodeV.mono h (fun _ _ h=>h.1)) HKD.out) (fun b o x e _=>HGT.out b (by rw [e];rfl))
   have hJO:=refJoined _ acc hne Al cl cs wr (by rw [HLL.out];exact HRL.out) HKD.out
   obtain ⟨k7,m7,z7,p7,B7,n7,c7,e7⟩:=dnodeV_form hD
   rw [e7] at hD hJO
   rw [HLL.out] at hJO
   have HD:=Lib.hid hD
   have HJO:=Lib.hid hJO
   clear hD hJO e7
   refine fr_region ?_
   refine fr_mv F4 4 31 (.inl rfl) rfl rfl (by decide) rfl fun _ F5=>?_
   clear F4
   refine fr_op F5 32 rfl (by decide) (AtX (.agg (dnC k7 m7 z7 p7 B7 n7 c7).toArray) wr) ?_ ?_
   ·have e31:=F5.kn 31 _ rfl
    go_wp2_with (go_at_call 26;refine HJO.out.mono ?_;rintro e w9 ⟨rfl,hx9⟩)
    exact ⟨_,rfl,rfl,hx9⟩
   rintro a6 _ w1 ⟨rfl,hx1⟩ F6
   clear F5
   refine fr_op0 F6 rfl (At1 ((w1.setRow w.heap.size (dnC k7 m7 z7 p7 B7 n7 c7).toArray))) ?_ ?_
   ·have e2:=F6.kn 2 _ rfl
    have e32:=F6.kn 32 _ rfl
    refine store_dn rfl (.tmp 2) (.tmp 32) rfl (g:=w.heap.size) (F6.ev (t:=2) rfl) (F6.ev (t:=32) rfl) (HBZ.out.keep hx1) HZ8.out ?_
    exact ⟨_,rfl,rfl⟩
   rintro a7 _ rfl F7
   clear F6
   refine fr_as F7 3 (.inr rfl) rfl rfl (by decide) fun _ F8=>?_
   clear F7
   refine fr_end ?_
   go_wp2
   exact bodyPost_ret (v:=.tuple #[.agg (dnC k7 m7 z7 p7 B7 n7 c7).toArray,.int .i64 0]) (results_dn2 rfl (F8.gd (t:=2) rfl) (Blk.row (HBZ.out.keep hx1) _) (dn_len _ _ _ _ _ _ _) (F8.gd (t:=3) rfl)) F8.defers ⟨Ext.row (HEX.out.trans hx1) _ _ (Nat.le_refl _),_,rfl,by rw [rowT_cat hne];exact DNodeV.mono (DNodeV.chg (DNodeV.keep HD.out hx1) (rowChg4 _ _ _) (fun y hy=>by rw [List.mem_singleton.1 hy];omega)) (fun _ _ h=>Nat.le_of_lt h)⟩
end Go.Proofs.YtigmdlchbjanoaaGreatDoor
