/- Put together: Gl1, Gl2, Gl3, Gl4. -/
import Derived.Test.YtigmdlchbjanoaaGreatDoorPTgO
import Derived.Test.YtigmdlchbjanoaaGreatDoorPTgR
import Derived.Test.YtigmdlchbjanoaaGreatDoorPTgQ
import Derived.Test.YtigmdlchbjanoaaGreatDoorPGvK
import Derived.Deep.LoopGhost
namespace Go.Proofs.YtigmdlchbjanoaaGreatDoor
open Go Go.RowKit
attribute [local irreducible] wd
theorem results_nd1 {fn:Func} {p:Tmp} (h:fn.results=#[.cell p 28]) {tmps:Array Value} {w:World} {g:Nat} {cs:List Value}
  (hp:tmps.getD p undef=.pointer (some ⟨g,0,none⟩)) (hg:Blk w g 28 cs) (h8:cs.length=8):(results fn tmps).run Tryz.prog w=.ok (.agg cs.toArray) w:=by
 rw [results_cell1 h,hp]
 have hl:(loadVar 28 ⟨g,0,none⟩).run Tryz.prog w=.ok (.agg cs.toArray) w:=
  run_loadVar_row w g _ _ cs.toArray (0,0) _ hg Tryz.underlying28 rfl (by rw [List.size_toArray,h8];exact nd_size)
 simp [asAddr,hl,Result.andThen]
theorem leafV (S:Nat→Prop) (w:World) (q:Nat→Bool):NodeV S w (.node 2 0 false q []) (nodeC 2 0 false q none 0 0):=by
 unfold NodeV
 exact ⟨none,0,[],rfl,Nat.le_refl _,by unfold maxLen;omega,Rd.nil,fun _ _ _ e=>by (cases e),by unfold KidsV;rfl⟩
set_option maxHeartbeats 2000000 in
set_option maxRecDepth 20000 in
theorem glSet (q:Nat→Bool) (w:World) :
  Calls Tryz.prog 19 #[sp q] w fun e w'=>e=.returned (.agg (nodeC 2 0 false q none 0 0).toArray)∧Ext w w':=by
 have HX:=Lib.hid (Ext.trans (Ext.new1 w (.cells #[.int .u64 (wd q 0:Nat),.int .u64 (wd q 1:Nat),.int .u64 (wd q 2:Nat),.int .u64 (wd q 3:Nat)] 25)) (Ext.new1 _ (.cells zN.toArray 28)))
 have HN:=Lib.hid (Blk.newA (w:=w.alloc (.cells #[.int .u64 (wd q 0:Nat),.int .u64 (wd q 1:Nat),.int .u64 (wd q 2:Nat),.int .u64 (wd q 3:Nat)] 25)) (g:=w.heap.size+1) (by simp) 28 zN)
 have HS:=Lib.hid ((SB.new (w:=w) rfl q).keep (Ext.new1 _ (.cells zN.toArray 28)))
 unfold zN at HX HN HS
 unfold sp
 go_enter Tryz.func19,Tryz.ntmps19
 go_upto_region 1 with fail
 have HG:=Lib.hid (Nat.le_refl w.heap.size)
 generalize (w.alloc (.cells #[.int .u64 (wd q 0:Nat),.int .u64 (wd q 1:Nat),.int .u64 (wd q 2:Nat),.int .u64 (wd q 3:Nat)] 25)).alloc (.cells #[.int .i64 0,.int .i64 0,.bool false,.int .u64 0,.int .u64 0,.int .u64 0,.int .u64 0,.slice none 0 0] 28)=w2 at *
 obtain ⟨y0,y1,y2,y3⟩:=HS.out.cells
 go_wp2_with (refine store_nd rfl (.tmp 2) (.tmp 4) rfl (g:=w.heap.size+1) (nodeC 2 0 false q none 0 0) rfl rfl HN.out rfl rfl rfl ?_)
 exact bodyPost_ret (v:=.agg (nodeC 2 0 false q none 0 0).toArray) (results_nd1 rfl rfl (Blk.row HN.out _) rfl) rfl ⟨rfl,HX.out.rowX _ _ (by omega)⟩
set_option maxHeartbeats 2000000 in
set_option maxRecDepth 20000 in
theorem glMeasured (E:Nat→Addr) (l:List UInt8) (w:World) (hE:Env E w) :
  Calls Tryz.prog 18 #[.string ⟨l.toArray⟩] w fun e w'=>e=.returned (ev E (sizeErr l))∧Ext w w':=by
 obtain ⟨e1,e2,e3,e4,e5,e6⟩:=hE.facts
 by_cases h1:120<l.length
 ·have HS:=Lib.hid (show sizeErr l=4 by unfold sizeErr;rw [if_pos h1])
  have hl1:(120:Int)<(l.length:Int):=by omega
  have hl3:decide ((l.length:Int) > 120)=true:=decide_eq_true hl1
  clear h1
  go_enter Tryz.func18,Tryz.ntmps18
  go_wp2
  go_ret
  exact ⟨by rw [HS.out];rfl,by (first | exact Ext.refl _ | (unfold Ext;repeat (first | exact Below.refl _ _ | assumption | refine BeA ?_ | refine BeC ?_ | refine Below.drew ?_)))⟩
 ·have hl1:¬ (120:Int)<(l.length:Int):=by omega
  have hl3:decide ((l.length:Int) > 120)=false:=decide_eq_false hl1
  by_cases h2:l=[]
  ·subst h2
   have HS:=Lib.hid (show sizeErr []=15 from rfl)
   clear h1
   go_enter Tryz.func18,Tryz.ntmps18
   go_wp2
   go_ret
   exact ⟨by rw [HS.out];rfl,by (first | exact Ext.refl _ | (unfold Ext;repeat (first | exact Below.refl _ _ | assumption | refine BeA ?_ | refine BeC ?_ | refine Below.drew ?_)))⟩
  ·have HS:=Lib.hid (show sizeErr l=0 by unfold sizeErr;rw [if_neg h1,if_neg h2])
   have he:l.isEmpty=false:=by simpa using h2
   clear h1
   go_enter Tryz.func18,Tryz.ntmps18
   go_wp2
   go_ret
   exact ⟨by rw [HS.out];rfl,by (first | exact Ext.refl _ | (unfold Ext;repeat (first | exact Below.refl _ _ | assumption | refine BeA ?_ | refine BeC ?_ | refine Below.drew ?_)))⟩
set_option maxHeartbeats 4000000 in
set_option maxRecDepth 20000 in
theorem glRow (S:Nat→Prop) (ts:List T) (A:Option Addr) (cp:Nat) (cs:List Value) (w:World) (hcp:ts.length≤cp) (hcm:cp≤maxLen) (hR:Rd w 8 A ts.length cs) (hS:∀ b o x,A=some ⟨b,o,x⟩→0<ts.length→S b) (hK:KidsV S w ts cs) :
  Calls Tryz.prog 21 #[.slice A ts.length cp] w fun e w'=>∃ v:List Value,e=.returned (.agg v.toArray)∧NodeV S w' (rowT ts) v∧Ext w w':=by
 obtain ⟨gz,hgz⟩:∃ gz,w.heap.size=gz:=⟨_,rfl⟩
 have hN0:=Lib.hid (Blk.newA (w:=w) hgz 28 zN)
 have hx0:=Lib.hid (Ext.new1 w (.cells zN.toArray 28))
 have HGZ:=Lib.hid (Nat.le_of_eq hgz)
 have HR0:=Lib.hid hR
 have HK0:=Lib.hid hK
 have HR:=Lib.hid (hR.keep (Ext.new1 w (.cells zN.toArray 28)))
 have HK:=Lib.hid (kidsV_map (fun t v h=>NodeV.keep h (Ext.new1 w (.cells zN.toArray 28))) hK)
 clear hR hK
 unfold zN at hN0 hx0 HR HK
 rcases ts with _ | ⟨t1,_ | ⟨t2,r⟩⟩
 ·go_enter Tryz.func21,Tryz.ntmps21
  go_upto_region 3 with fail
  generalize w.alloc (.cells #[.int .i64 0,.int .i64 0,.bool false,.int .u64 0,.int .u64 0,.int .u64 0,.int .u64 0,.slice none 0 0] 28)=wa at *
  go_wp2_with (refine store_nd rfl (.tmp 2) (.tmp 10) rfl (g:=gz) [.int .i64 3,.int .i64 0,.bool false,.int .u64 0,.int .u64 0,.int .u64 0,.int .u64 0,.slice A 0 cp] rfl rfl hN0.out rfl rfl rfl ?_)
  refine bodyPost_ret (v:=.agg ([.int .i64 3,.int .i64 0,.bool false,.int .u64 0,.int .u64 0,.int .u64 0,.int .u64 0,.slice A 0 cp]:List Value).toArray) (results_nd1 rfl rfl (Blk.row hN0.out _) rfl) rfl ⟨_,rfl,?_,hx0.out.rowX _ _ HGZ.out⟩
  show NodeV _ _ (.node 3 0 false noP []) _
  unfold NodeV
  unfold KidsV at HK
  exact ⟨A,cp,[],(node0 _ _ _ _ _ _).symm,hcp,hcm,⟨rfl,fun h=>absurd h (by simp)⟩,fun _ _ _ _ h=>by (simp at h),by unfold KidsV;rfl⟩
 ·obtain ⟨b,o,k',m',z',p',B,n',c',rfl,hv,hk⟩:=kid_at HR0.out HK0.out (i:=0) (by simp)
  have HV:=Lib.hid (show NodeV S w t1 _ from hv)
  obtain ⟨c0,c1,c2,c3,c4,c5,c6,c7⟩:=hk.out _ hx0.out
  simp only [Nat.zero_mul,Nat.add_zero] at c0 c1 c2 c3 c4 c5 c6 c7
  clear hv hk
  go_enter Tryz.func21,Tryz.ntmps21
  go_upto_region 2 with fail
  generalize w.alloc (.cells #[.int .i64 0,.int .i64 0,.bool false,.int .u64 0,.int .u64 0,.int .u64 0,.int .u64 0,.slice none 0 0] 28)=wa at *
  go_wp2_with (refine store_nd rfl (.tmp 2) (.tmp 8) rfl (g:=gz) (nodeC k' m' z' p' B n' c') rfl rfl hN0.out rfl rfl rfl ?_)
  exact bodyPost_ret (v:=.agg (nodeC k' m' z' p' B n' c').toArray) (results_nd1 rfl rfl (Blk.row hN0.out _) rfl) rfl ⟨_,rfl,HV.out.keep (hx0.out.rowX _ _ HGZ.out),hx0.out.rowX _ _ HGZ.out⟩
 ·have hn1:((r.length:Int)+1+1 == 1)=false:=by rw [beq_eq_false_iff_ne];omega
  go_enter Tryz.func21,Tryz.ntmps21
  go_upto_region 3 with fail
  generalize w.alloc (.cells #[.int .i64 0,.int .i64 0,.bool false,.int .u64 0,.int .u64 0,.int .u64 0,.int .u64 0,.slice none 0 0] 28)=wa at *
  go_wp2_with (refine store_nd rfl (.tmp 2) (.tmp 10) rfl (g:=gz) [.int .i64 3,.int .i64 0,.bool false,.int .u64 0,.int .u64 0,.int .u64 0,.int .u64 0,.slice A (r.length+1+1) cp] rfl rfl hN0.out rfl rfl rfl ?_)
  refine bodyPost_ret (v:=.agg ([.int .i64 3,.int .i64 0,.bool false,.int .u64 0,.int .u64 0,.int .u64 0,.int .u64 0,.slice A (r.length+1+1) cp]:List Value).toArray) (results_nd1 rfl rfl (Blk.row hN0.out _) rfl) rfl ⟨_,rfl,?_,hx0.out.rowX _ _ HGZ.out⟩
  have hbase:NodeV S w (.node 3 0 false noP (t1 :: t2 :: r)) [.int .i64 3,.int .i64 0,.bool false,.int .u64 0,.int .u64 0,.int .u64 0,.int .u64 0,.slice A (r.length+1+1) cp]:=by
   unfold NodeV
   exact ⟨A,cp,cs,(node0 _ _ _ _ _ _).symm,hcp,hcm,HR0.out,hS,HK0.out⟩
  exact hbase.keep (hx0.out.rowX _ _ HGZ.out)
end Go.Proofs.YtigmdlchbjanoaaGreatDoor
namespace Go.Proofs.YtigmdlchbjanoaaGreatDoor
open Go Go.RowKit
attribute [local irreducible] wd
set_option maxHeartbeats 2000000 in
set_option maxRecDepth 20000 in
theorem glTrimByte (l:List UInt8) (hl:l.length≤10000) (w:World) :
  Calls Tryz.prog 60 #[.string ⟨l.toArray⟩,.int .u8 42] w fun e w'=>e=.returned (.string ⟨(l.drop (stars l)).toArray⟩)∧w'=w:=by
 go_enter Tryz.func60,Tryz.ntmps60
 go_upto_region 1 with fail
 go_loopg [0] l.length (fun gg sv wr=>∃ m:List UInt8,m.drop (stars m)=l.drop (stars l)∧m.length≤l.length∧gg=m.length∧sv=.string ⟨m.toArray⟩∧wr=w)
 case atStart=>exact ⟨l,rfl,Nat.le_refl _,rfl,rfl,rfl⟩
 case round =>
  obtain ⟨m,hm,hml,rfl,rfl,rfl⟩:=hrel
  have HM:=Lib.hid hm
  have HML:=Lib.hid hml
  clear hm hml
  rcases m with _ | ⟨c,r⟩
  ·go_wp2
   go_ret
   exact ⟨by rw [← HM.out];rfl,rfl⟩
  ·have HL:=Lib.hid (show r.length+1≤10000 by have:=HML.out;simp at this;omega)
   have hlr:(r.length:Int)+1≤9223372036854775807:=by have:=HL.out;omega
   by_cases h42:c=42
   ·subst h42
    have HD:=Lib.hid (show r.drop (stars r)=l.drop (stars l) by rw [← HM.out,stars_cons,if_pos rfl];rfl)
    go_wp2
    go_roundg r.length
    case measure=>simp
    case rel=>exact ⟨r,HD.out,by have:=HML.out;simp at this;omega,rfl,by simp,rfl⟩
   ·have HD:=Lib.hid (show (c :: r:List UInt8)=l.drop (stars l) by rw [← HM.out,stars_cons,if_neg h42];rfl)
    have hb:((c.toNat:Int) == 42)=false:=by
     rw [beq_eq_false_iff_ne]
     intro e
     exact h42 (UInt8.toNat_inj.1 (show c.toNat=42 by omega))
    clear h42
    go_wp2
    go_ret
    exact ⟨by rw [← HD.out];rfl,rfl⟩
set_option maxHeartbeats 2000000 in
set_option maxRecDepth 20000 in
theorem glTrim (l:List UInt8) (hl:l.length≤10000) (h0:l ≠ []) (w:World) :
  Calls Tryz.prog 42 #[.string ⟨l.toArray⟩,.string ⟨#[42]⟩] w fun e w'=>e=.returned (.string ⟨(l.drop (stars l)).toArray⟩)∧w'=w:=by
 have he:l.isEmpty=false:=by simpa using h0
 go_enter Tryz.func42,Tryz.ntmps42
 go_wp2_with (go_at_call 60;refine (glTrimByte l hl _).mono ?_;rintro e w1 ⟨rfl,rfl⟩)
 all_goals
  go_ret
  exact ⟨rfl,rfl⟩
theorem row_end {w:World} {gz:Nat} {A:Option Addr} {cp:Nat} {acc:List T} {cs:List Value} (hgt:∀ b,(Value.slice A acc.length cp).ownBlock=some b→gz<b) (hR:Rd w 8 A acc.length cs):∀ b o x,A=some ⟨b,o,x⟩→0<acc.length→gz<b:=by
 intro b o x e h0
 refine hgt b ?_
 rw [e]
 cases x with
 | none=>rfl
 | some y =>
  exfalso
  obtain ⟨b',o',e',_⟩:=hR.2 (by rw [hR.1];omega)
  rw [e] at e'
  cases e'
set_option maxHeartbeats 8000000 in
set_option maxRecDepth 20000 in
theorem glPlain (E:Nat→Addr) (l:List UInt8) (hl:l.length≤10000) (w:World) (hE:Env E w) :
  Calls Tryz.prog 5 #[.string ⟨l.toArray⟩] w fun e w'=>RRes E w (plainG l) e w':=by
 obtain ⟨gz,hgz⟩:∃ gz,w.heap.size=gz:=⟨_,rfl⟩
 have hN0:=Lib.hid (Blk.newA (w:=w) hgz 28 zN)
 have hx0:=Lib.hid (Ext.new1 w (.cells zN.toArray 28))
 have HE:=Lib.hid hE
 have HGZ:=Lib.hid hgz
 have HE0:=Lib.hid (hE.keep hx0.out)
 clear hE
 unfold zN at hN0 hx0 HE0
 rcases hk:sizeErr l with _ | k
 ·have HK:=Lib.hid (show plainG l=.ok (rowT (l.map byteT)) 0 0 by unfold plainG;rw [if_pos hk])
  have HS:=Lib.hid hk
  clear hk
  go_enter Tryz.func5,Tryz.ntmps5
  go_upto_region 5 with (go_at_call 18;refine (glMeasured E l _ HE0.out).mono ?_;rintro e w1 ⟨rfl,hx1⟩;rw [HS.out];unfold ev)
  have HX1:=Lib.hid (Ext.trans hx0.out hx1)
  have HN1:=Lib.hid (hN0.out.keep hx1)
  have HE1:=Lib.hid (HE0.out.keep hx1)
  clear hx0 hN0 hx1 HE0
  obtain ⟨cap,w2,hconv,hrd,hb2,_,_⟩:=conv_bytes (P:=Tryz.prog) w1 Tryz.underlying9 Tryz.underlying52 Tryz.underlying5 l (by omega)
  have HRD:=Lib.hid hrd
  have HX2:=Lib.hid (Ext.trans HX1.out hb2)
  have HN2:=Lib.hid (HN1.out.keep hb2)
  have HE2:=Lib.hid (HE1.out.keep hb2)
  go_upto_region 6 with fail
  clear hconv hrd hb2 HN1 HE1 HX1
  generalize w1.heap.size=gb at *
  have HZB:=Lib.hid (show gz<w2.heap.size from HN2.out.lt)
  go_loopg [5,17] l.length (fun gg kv iv wr=>∃ (k:Nat) (acc:List T),k≤l.length∧gg=l.length-k∧iv=.int .i64 (k:Nat)∧acc=(l.take k).map byteT∧acc.length=k∧Row w2 gz kv acc wr∧Ext w2 wr)
  case atStart=>exact ⟨0,[],Nat.zero_le _,by simp,rfl,rfl,rfl,Row.nil,Ext.refl _⟩
  case round =>
   obtain ⟨iq,acc,hi,rfl,rfl,hacc,hal,⟨⟨cs,hown,hks⟩,hgt⟩,hx⟩:=hrel
   have HACC:=Lib.hid hacc
   have HAL:=Lib.hid hal
   have HOWN:=Lib.hid hown
   have HKS:=Lib.hid hks
   have HGT:=Lib.hid hgt
   have HX:=Lib.hid hx
   clear hacc hal hown hks hgt hx
   by_cases hlt:iq<l.length
   ·have hcell:wr.cell? ⟨gb,iq,none⟩=some (.int .u8 (l[iq].toNat:Int)):=by
     obtain ⟨b,o,e,_,hc⟩:=(HRD.out.keep HX.out).2 (by simp [bytesV];omega)
     cases e
     have:=hc iq _ (List.getElem?_eq_getElem (by simp [bytesV];omega))
     simpa [bytesV,U8] using this
    have h256:=Lib.hid (show (l[iq]'hlt).toNat<256 from UInt8.toNat_lt _)
    have hwi:IntKind.i64.wrap ((iq:Int)+1)=(iq:Int)+1:=wrap_id (by omega) (by omega)
    have HT:=Lib.hid (show acc ++ [byteT (l[iq]'hlt)]=(l.take (iq+1)).map byteT by rw [List.take_succ_eq_append_getElem hlt,List.map_append,HACC.out];rfl)
    have HB:=Lib.hid (show byteT (l[iq]'hlt)=.node 2 0 false (fun j=>j == (l[iq]'hlt).toNat) [] from rfl)
    generalize (l[iq]'hlt).toNat=cn at *
    generalize byteT (l[iq]'hlt)=tb at *
    go_upto_region 8 with fail
    clear hcell
    go_wp2_with (first
     | (go_at_call 20;refine (setOne cn h256.out _).mono ?_;rintro e wA ⟨rfl,hxA⟩)
     | (go_at_call 19;refine (glSet (fun j=>j == cn) _).mono ?_;rintro e wB ⟨rfl,hxB⟩;generalize (fun j:Nat=>j == cn)=q at *;have HRN:=Lib.hid (rd_newS wB 8 1 (nodeC 2 0 false q none 0 0) 28 rfl);have HXN:=Lib.hid (Ext.trans (Ext.trans hxA hxB) (Ext.new1 wB (.cells (nodeC 2 0 false q none 0 0).toArray 28)));have HSN:=Lib.hid (show (wB.alloc (.cells (nodeC 2 0 false q none 0 0).toArray 28)).heap.size=wB.heap.size+1 by simp);clear hxA hxB;unfold nodeC at HRN HXN HSN ⊢)
     | (refine wpList_app2 elemNd rfl (.tmp 21) (.tmp 25) rfl (v:=u5) (n:=acc.length) (xs:=cs) rfl (own_ext HOWN.out HXN.out) (Ext.trans HX.out HXN.out).size (A:=some ⟨wB.heap.size,0,none⟩) (m:=1) (c:=1) (news:=nodeC 2 0 false q none 0 0) rfl HRN.out (by intro u hu;simp [nodeC] at hu;rcases hu with rfl | rfl | rfl | rfl | rfl | rfl | rfl | rfl <;> rfl) (by have:=HAL.out;omega) (by have:=HAL.out;unfold maxLen;omega) ?_;intro v8 w8 hown8 hgr8 _ hat8))
    go_roundg (l.length-(iq+1))
    case measure=>omega
    case rel =>
     refine ⟨iq+1,acc ++ [tb],by omega,rfl,rfl,HT.out,by simp;exact HAL.out,Row.app (own_ext HOWN.out HXN.out) (kidsV_map (fun t v h=>NodeV.keep h HXN.out) HKS.out) HGT.out (HB.out ▸ leafV _ _ q) hown8 hgr8 hat8 ?_,hgr8.below (Ext.trans HX.out HXN.out) (Nat.le_refl _) (Ext.trans HX.out HXN.out).size⟩
     have:=(Ext.trans HX.out HXN.out).size
     have:=HZB.out
     omega
   ·obtain rfl:iq=l.length:=by omega
    have HK':=Lib.hid (show plainG l=.ok (rowT acc) 0 0 by rw [HK.out,HACC.out,List.take_length])
    obtain ⟨A,cp,hu,hcp,hcm,hrd⟩:=own_rd HOWN.out
    subst hu
    have HCP:=Lib.hid hcp
    have HCM:=Lib.hid hcm
    have HRR:=Lib.hid hrd
    have HNZ:=Lib.hid (HN2.out.keep HX.out)
    clear hcp hcm hrd
    go_wp2_with (first
     | (go_at_call 21;refine (glRow (fun b=>gz<b) acc A cp cs _ HCP.out HCM.out HRR.out (row_end HGT.out HRR.out) (kidsV_map (fun t v h=>NodeV.mono h (fun _ _ h=>h.1)) HKS.out)).mono ?_;rintro e wC ⟨v,rfl,hv,hxC⟩;obtain ⟨k',m',z',p',B',n',c',rfl⟩:=nodeV_form hv;have HVC:=Lib.hid hv;have HXC:=Lib.hid (Ext.trans (Ext.trans HX2.out HX.out) hxC);have HNC:=Lib.hid (HNZ.out.keep hxC);clear hv hxC)
     | (refine store_nd rfl (.tmp 2) (.tmp 29) rfl (g:=gz) (nodeC k' m' z' p' B' n' c') rfl rfl HNC.out rfl rfl rfl ?_))
    refine bodyPost_ret (v:=.tuple #[.agg (nodeC k' m' z' p' B' n' c').toArray,.nilIface]) (results_nd2 rfl rfl (Blk.row HNC.out _) rfl rfl) rfl (.ok_ HK'.out (Ext.rowX HXC.out _ _ (by rw [HGZ.out];exact Nat.le_refl _)) rfl ((HVC.out.chg (rowChg _ _ _ (List.mem_singleton.2 rfl)) (by intro y hy;simp at hy;omega)).mono (fun b _ h=>by rw [HGZ.out];omega)))
 ·have HK:=Lib.hid (show plainG l=.err (k+1) by unfold plainG;rw [if_neg (by rw [hk];omega),hk])
  have HS:=Lib.hid hk
  have hn:=fun w=>run_eql_iface_nil (P:=Tryz.prog) (w:=w) 30 (by kernel_rfl) 151 (.pointer (some (E k)))
  clear hk
  go_enter Tryz.func5,Tryz.ntmps5
  go_wp2_with (first
   | (go_at_call 18;refine (glMeasured E l _ HE0.out).mono ?_;rintro e w1 ⟨rfl,hx1⟩;rw [HS.out];unfold ev errV)
   | (refine store_nd rfl (.tmp 2) (.tmp 12) rfl (g:=gz) zN rfl rfl (hN0.out.keep hx1) rfl rfl rfl ?_))
  exact bodyPost_ret (v:=.tuple #[.agg zN.toArray,ev E (k+1)]) (results_nd2 rfl rfl (Blk.row (hN0.out.keep hx1) _) rfl rfl) rfl (.err_ HK.out (Ext.rowX (Ext.trans hx0.out hx1) _ _ (by rw [HGZ.out];exact Nat.le_refl _)) rfl)
end Go.Proofs.YtigmdlchbjanoaaGreatDoor
namespace Go.Proofs.YtigmdlchbjanoaaGreatDoor
open Go Go.RowKit
attribute [local irreducible] wd
theorem results_nd3 {fn:Func} {p a b:Tmp} (h:fn.results=#[.cell p 28,.tmp a,.tmp b]) {tmps:Array Value} {w:World} {g:Nat} {cs:List Value} {va vb:Value}
  (hp:tmps.getD p undef=.pointer (some ⟨g,0,none⟩)) (hg:Blk w g 28 cs) (h8:cs.length=8) (ha:tmps.getD a undef=va) (hb:tmps.getD b undef=vb):(results fn tmps).run Tryz.prog w=.ok (.tuple #[.agg cs.toArray,va,vb]) w:=by
 have hp':tmps[p]?.getD undef=.pointer (some ⟨g,0,none⟩):=by simpa using hp
 have hl:(loadVar 28 ⟨g,0,none⟩).run Tryz.prog w=.ok (.agg cs.toArray) w:=
  run_loadVar_row w g _ _ cs.toArray (0,0) _ hg Tryz.underlying28 rfl (by rw [List.size_toArray,h8];exact nd_size)
 subst ha hb
 simp [results,h,hp',asAddr,hl]
def IRes (E:Nat→Addr) (w:World) (r:T × Nat × Nat) (e:Ending) (w':World):Prop:=
 Ext w w' ∧ ∃ v:List Value,e=.returned (.tuple #[.agg v.toArray,.int .i64 (r.2.1:Nat),ev E r.2.2])∧NodeV (fun b=>w.heap.size≤b) w' r.1 v
theorem starV {w:World} {B g:Nat} (hB:B≤g) (hg:Blk w g 28 (nodeC 2 0 false (fun _=>true) none 0 0)) :
  NodeV (fun b=>B≤b) w (.node 5 0 false noP [allT]) [.int .i64 5,.int .i64 0,.bool false,.int .u64 0,.int .u64 0,.int .u64 0,.int .u64 0,.slice (some ⟨g,0,none⟩) 1 1]:=by
 unfold NodeV
 refine ⟨some ⟨g,0,none⟩,1,nodeC 2 0 false (fun _=>true) none 0 0,(node0 _ _ _ _ _ _).symm,Nat.le_refl _,by unfold maxLen;omega,?_,fun b o x e _=>by cases e;exact hB,?_⟩
 ·have:=Blk.rd (n:=1) (size:=8) hg 0 (by simp [nodeC])
  rw [List.drop_zero,List.take_of_length_le (by simp [nodeC])] at this
  exact this
 ·exact kidsV_one (leafV _ _ _)
theorem nb_byte {c:UInt8} {n:Nat} (h:c.toNat ≠ n):((c.toNat:Int) == (n:Int))=false:=by
 rw [beq_eq_false_iff_ne];intro e;exact h (by omega)
set_option maxHeartbeats 8000000 in
set_option maxRecDepth 20000 in
theorem glItem (E:Nat→Addr) (l:List UInt8) (hl:l.length≤10000) (h0:l ≠ []) (w:World) (hE:Env E w) :
  Calls Tryz.prog 22 #[.string ⟨l.toArray⟩] w fun e w'=>IRes E w (itemG l) e w':=by
 obtain ⟨gz,hgz⟩:∃ gz,w.heap.size=gz:=⟨_,rfl⟩
 have hN0:=Lib.hid (Blk.newA (w:=w) hgz 28 zN)
 have hx0:=Lib.hid (Ext.new1 w (.cells zN.toArray 28))
 have HE0:=Lib.hid (hE.keep hx0.out)
 have HGZ:=Lib.hid (Nat.le_of_eq hgz)
 clear hE
 unfold zN at hN0 hx0 HE0
 rcases l with _ | ⟨c,r⟩
 ·exact absurd rfl h0
 have hI:=itemG_cons c r
 have hl63:(r.length:Int)+1≤9223372036854775807:=by simp at hl;omega
 by_cases h1:c=42
 focus
  subst h1
  rw [if_pos rfl] at hI
  have HI:=Lib.hid hI
  have HTR:=Lib.hid (glTrim (42 :: r) hl h0)
  have hsl:=stars_le (42 :: r)
  have hlen:((42 :: r:List UInt8).drop (stars (42 :: r))).length=(42 :: r:List UInt8).length-stars (42 :: r):=List.length_drop
  rw [List.length_cons] at hsl hlen
  generalize (42 :: r:List UInt8).drop (stars (42 :: r))=l2 at *
  generalize stars (42 :: r)=sn at *
  have hw:IntKind.i64.wrap ((r.length:Int)+1-(l2.length:Int))=(sn:Int):=by
   rw [hlen,wrap_id (by omega) (by omega)];omega
  clear hI hlen hsl
  go_enter Tryz.func22,Tryz.ntmps22
  go_wp2_with (first
   | (go_at_call 41;refine (setAll _).mono ?_;rintro e wA ⟨rfl,hxA⟩)
   | (go_at_call 19;refine (glSet (fun _=>true) _).mono ?_;rintro e wB ⟨rfl,hxB⟩;have HBN:=Lib.hid (Blk.newA (w:=wB) rfl 28 (nodeC 2 0 false (fun _=>true) none 0 0));have HXN:=Lib.hid (Ext.trans (Ext.trans hxA hxB) (Ext.new1 wB (.cells (nodeC 2 0 false (fun _=>true) none 0 0).toArray 28)));have HGB:=Lib.hid (Ext.trans (Ext.trans hx0.out hxA) hxB).size;have HGL:=Lib.hid (Nat.lt_of_lt_of_le hN0.out.lt (Ext.trans hxA hxB).size);clear hxA hxB;unfold nodeC at HBN HXN ⊢)
   | (go_at_call 42;refine (HTR.out _).mono ?_;rintro e wT ⟨rfl,rfl⟩)
   | (refine store_nd rfl (.tmp 2) (.tmp 24) rfl (g:=gz) [.int .i64 5,.int .i64 0,.bool false,.int .u64 0,.int .u64 0,.int .u64 0,.int .u64 0,.slice (some ⟨wB.heap.size,0,none⟩) 1 1] rfl rfl (hN0.out.keep HXN.out) rfl rfl rfl ?_))
  refine bodyPost_ret (v:=.tuple #[.agg ([.int .i64 5,.int .i64 0,.bool false,.int .u64 0,.int .u64 0,.int .u64 0,.int .u64 0,.slice (some ⟨wB.heap.size,0,none⟩) 1 1]:List Value).toArray,.int .i64 (sn:Nat),.nilIface]) (results_nd3 rfl rfl (Blk.row (hN0.out.keep HXN.out) _) rfl rfl rfl) rfl ⟨(Ext.trans hx0.out HXN.out).rowX _ _ HGZ.out,?_⟩
  rw [HI.out]
  exact ⟨_,rfl,starV HGB.out (Blk.rowFar HBN.out _ (by have:=HGL.out;omega))⟩
 rw [if_neg h1] at hI
 have n42:((c.toNat:Int) == 42)=false:=nb_byte (n:=42) fun e=>h1 (UInt8.toNat_inj.1 e)
 clear h1
 by_cases h2:c=63
 focus
  subst h2
  rw [if_pos rfl] at hI
  have HI:=Lib.hid hI
  clear hI
  go_enter Tryz.func22,Tryz.ntmps22
  go_wp2_with (first
   | (go_at_call 41;refine (setAll _).mono ?_;rintro e wA ⟨rfl,hxA⟩)
   | (go_at_call 19;refine (glSet (fun _=>true) _).mono ?_;rintro e wB ⟨rfl,hxB⟩;have HXB:=Lib.hid (Ext.trans hxA hxB))
   | (refine store_nd rfl (.tmp 2) (.tmp 34) rfl (g:=gz) (nodeC 2 0 false (fun _=>true) none 0 0) rfl rfl (hN0.out.keep HXB.out) rfl rfl rfl ?_))
  refine bodyPost_ret (v:=.tuple #[.agg (nodeC 2 0 false (fun _=>true) none 0 0).toArray,.int .i64 (1:Nat),.nilIface]) (results_nd3 rfl rfl (Blk.row (hN0.out.keep HXB.out) _) rfl rfl rfl) rfl ⟨(Ext.trans hx0.out HXB.out).rowX _ _ HGZ.out,?_⟩
  rw [HI.out]
  exact ⟨_,rfl,leafV _ _ _⟩
 rw [if_neg h2] at hI
 have n63:((c.toNat:Int) == 63)=false:=nb_byte (n:=63) fun e=>h2 (UInt8.toNat_inj.1 e)
 clear h2
 by_cases h3:c=91
 focus
  subst h3
  rw [if_pos rfl] at hI
  have HQ:=Lib.hid (show parseV E (parseS (91 :: r))=.tuple #[sp (parseS (91 :: r)).1,.int .i64 ((parseS (91 :: r)).2.1:Nat),ev E (parseS (91 :: r)).2.2] from rfl)
  have HP:=Lib.hid (clParse E (91 :: r) hl)
  have HI:=Lib.hid hI
  clear hI
  generalize (parseS (91 :: r)).1=q at *
  generalize (parseS (91 :: r)).2.1=n at *
  generalize (parseS (91 :: r)).2.2=k at *
  go_enter Tryz.func22,Tryz.ntmps22
  go_upto_region 10 with (go_at_call 43;refine (HP.out _ (HE0.out.e.sub (by decide)) HE0.out.t).mono ?_;rintro e w4 ⟨rfl,hx4⟩;rw [HQ.out];unfold sp)
  have hx5:=Lib.hid (Ext.trans hx4 (Ext.new1 w4 (.cells #[.int .u64 (wd q 0:Nat),.int .u64 (wd q 1:Nat),.int .u64 (wd q 2:Nat),.int .u64 (wd q 3:Nat)] 25)))
  have hS5:=Lib.hid (SB.new (w:=w4) rfl q)
  generalize w4.alloc (.cells #[.int .u64 (wd q 0:Nat),.int .u64 (wd q 1:Nat),.int .u64 (wd q 2:Nat),.int .u64 (wd q 3:Nat)] 25)=w6 at *
  generalize w4.heap.size=gs at *
  obtain ⟨y0,y1,y2,y3⟩:=hS5.out.cells
  go_wp2_with (first
   | (go_at_call 19;refine (glSet q _).mono ?_;rintro e wB ⟨rfl,hxB⟩;have HXB:=Lib.hid (Ext.trans hx5.out hxB))
   | (refine store_nd rfl (.tmp 2) (.tmp 44) rfl (g:=gz) (nodeC 2 0 false q none 0 0) rfl rfl (hN0.out.keep HXB.out) rfl rfl rfl ?_))
  refine bodyPost_ret (v:=.tuple #[.agg (nodeC 2 0 false q none 0 0).toArray,.int .i64 (n:Nat),ev E k]) (results_nd3 rfl rfl (Blk.row (hN0.out.keep HXB.out) _) rfl rfl rfl) rfl ⟨(Ext.trans hx0.out HXB.out).rowX _ _ HGZ.out,?_⟩
  rw [HI.out]
  exact ⟨_,rfl,leafV _ _ _⟩
 rw [if_neg h3] at hI
 have n91:((c.toNat:Int) == 91)=false:=nb_byte (n:=91) fun e=>h3 (UInt8.toNat_inj.1 e)
 clear h3
 by_cases h4:c=92
 focus
  subst h4
  rw [if_pos rfl] at hI
  have HQ:=Lib.hid (show sgV E (escS (92 :: r))=.tuple #[sp (escS (92 :: r)).set,.bool (escS (92 :: r)).one,.int .i64 ((escS (92 :: r)).size:Nat),ev E (escS (92 :: r)).err] from rfl)
  have HP:=Lib.hid (clEscape E (92 :: r) hl)
  have HI:=Lib.hid hI
  clear hI
  generalize (escS (92 :: r)).set=q at *
  generalize (escS (92 :: r)).size=n at *
  generalize (escS (92 :: r)).err=k at *
  go_enter Tryz.func22,Tryz.ntmps22
  go_upto_region 13 with (go_at_call 44;refine (HP.out _ (HE0.out.e.sub (by decide))).mono ?_;rintro e w4 ⟨rfl,hx4⟩;rw [HQ.out];unfold sp)
  have hx5:=Lib.hid (Ext.trans hx4 (Ext.new1 w4 (.cells #[.int .u64 (wd q 0:Nat),.int .u64 (wd q 1:Nat),.int .u64 (wd q 2:Nat),.int .u64 (wd q 3:Nat)] 25)))
  have hS5:=Lib.hid (SB.new (w:=w4) rfl q)
  generalize w4.alloc (.cells #[.int .u64 (wd q 0:Nat),.int .u64 (wd q 1:Nat),.int .u64 (wd q 2:Nat),.int .u64 (wd q 3:Nat)] 25)=w6 at *
  generalize w4.heap.size=gs at *
  obtain ⟨y0,y1,y2,y3⟩:=hS5.out.cells
  go_wp2_with (first
   | (go_at_call 19;refine (glSet q _).mono ?_;rintro e wB ⟨rfl,hxB⟩;have HXB:=Lib.hid (Ext.trans hx5.out hxB))
   | (refine store_nd rfl (.tmp 2) (.tmp 57) rfl (g:=gz) (nodeC 2 0 false q none 0 0) rfl rfl (hN0.out.keep HXB.out) rfl rfl rfl ?_))
  refine bodyPost_ret (v:=.tuple #[.agg (nodeC 2 0 false q none 0 0).toArray,.int .i64 (n:Nat),ev E k]) (results_nd3 rfl rfl (Blk.row (hN0.out.keep HXB.out) _) rfl rfl rfl) rfl ⟨(Ext.trans hx0.out HXB.out).rowX _ _ HGZ.out,?_⟩
  rw [HI.out]
  exact ⟨_,rfl,leafV _ _ _⟩
 rw [if_neg h4] at hI
 have n92:((c.toNat:Int) == 92)=false:=nb_byte (n:=92) fun e=>h4 (UInt8.toNat_inj.1 e)
 clear h4
 focus
  have h256:=Lib.hid (show c.toNat<256 from UInt8.toNat_lt c)
  have HI:=Lib.hid (show itemG (c :: r)=(.node 2 0 false (fun j=>j == c.toNat) [],1,0) from hI)
  clear hI
  go_enter Tryz.func22,Tryz.ntmps22
  go_wp2_with (first
   | (go_at_call 20;refine (setOne c.toNat h256.out _).mono ?_;rintro e wA ⟨rfl,hxA⟩)
   | (go_at_call 19;refine (glSet (fun j=>j == c.toNat) _).mono ?_;rintro e wB ⟨rfl,hxB⟩;have HXB:=Lib.hid (Ext.trans hxA hxB))
   | (refine store_nd rfl (.tmp 2) (.tmp 18) rfl (g:=gz) (nodeC 2 0 false (fun j=>j == c.toNat) none 0 0) rfl rfl (hN0.out.keep HXB.out) rfl rfl rfl ?_))
  refine bodyPost_ret (v:=.tuple #[.agg (nodeC 2 0 false (fun j=>j == c.toNat) none 0 0).toArray,.int .i64 (1:Nat),.nilIface]) (results_nd3 rfl rfl (Blk.row (hN0.out.keep HXB.out) _) rfl rfl rfl) rfl ⟨(Ext.trans hx0.out HXB.out).rowX _ _ HGZ.out,?_⟩
  rw [HI.out]
  exact ⟨_,rfl,leafV _ _ _⟩
end Go.Proofs.YtigmdlchbjanoaaGreatDoor
namespace Go.Proofs.YtigmdlchbjanoaaGreatDoor
open Go Go.RowKit
attribute [local irreducible] wd
theorem item_len {l:List UInt8}:(itemG l).2.1≤l.length:=by
 cases l with
 | nil=>exact Nat.le_refl _
 | cons c r =>
  rw [itemG_cons]
  (repeat' split)
  ·exact stars_le _
  ·simp
  ·exact parse_len _
  ·exact esc_len _
  ·simp
theorem items_no_out:∀ f l acc,l.length<f→itemsG f l acc ≠ .out:=by
 intro f
 induction f with
 | zero=>intro l acc h;omega
 | succ f ih =>
  intro l acc h
  rw [itemsG]
  by_cases hl:l=[]
  ·rw [if_pos hl];intro e;cases e
  ·rw [if_neg hl]
   by_cases he:(itemG l).2.2=0
   ·rw [if_pos he]
    have:=(item_pos hl he).1
    have h0:=List.length_pos_iff.2 hl
    exact ih _ _ (by rw [List.length_drop];omega)
   ·rw [if_neg he];intro e;cases e
set_option maxHeartbeats 8000000 in
set_option maxRecDepth 20000 in
theorem glParse (E:Nat→Addr) (l:List UInt8) (hl:l.length≤10000) (w:World) (hE:Env E w) :
  Calls Tryz.prog 6 #[.string ⟨l.toArray⟩] w fun e w'=>RRes E w (parseG l) e w':=by
 obtain ⟨gz,hgz⟩:∃ gz,w.heap.size=gz:=⟨_,rfl⟩
 have hN0:=Lib.hid (Blk.newA (w:=w) hgz 28 zN)
 have hx0:=Lib.hid (Ext.new1 w (.cells zN.toArray 28))
 have HE0:=Lib.hid (hE.keep hx0.out)
 have HGZ:=Lib.hid (Nat.le_of_eq hgz)
 clear hE
 unfold zN at hN0 hx0 HE0
 rcases hk:sizeErr l with _ | k
 focus
  have HK:=Lib.hid (show parseG l=itemsG (l.length+1) l [] by unfold parseG;rw [if_pos hk])
  have HS:=Lib.hid hk
  obtain ⟨R,hR⟩:∃ R,parseG l=R:=⟨_,rfl⟩
  have HRR:=Lib.hid hR
  have HNO:=Lib.hid (show R ≠ .out by rw [← hR,HK.out];exact items_no_out _ _ _ (Nat.lt_succ_self _))
  clear hk hR
  go_enter Tryz.func6,Tryz.ntmps6
  go_upto_region 5 with (go_at_call 18;refine (glMeasured E l _ HE0.out).mono ?_;rintro e w1 ⟨rfl,hx1⟩;rw [HS.out];unfold ev)
  have HX1:=Lib.hid (Ext.trans hx0.out hx1)
  have HN1:=Lib.hid (hN0.out.keep hx1)
  have HE1:=Lib.hid (HE0.out.keep hx1)
  have HZ1:=Lib.hid (show gz<w1.heap.size from HN1.out.lt)
  clear hx0 hN0 hx1 HE0
  go_loopg [0,5] (l.length+1) (fun gg sv kv wr=>∃ (m:List UInt8) (acc:List T),itemsG gg m acc=R∧acc.length+m.length≤l.length∧gg≤l.length+1∧sv=.string ⟨m.toArray⟩∧Row w1 gz kv acc wr∧Ext w1 wr)
  case atStart=>exact ⟨l,[],by rw [← HK.out,HRR.out],by simp,Nat.le_refl _,rfl,Row.nil,Ext.refl _⟩
  case round =>
   obtain ⟨m,acc,hR,hal,hgl,rfl,⟨⟨cs,hown,hks⟩,hgt⟩,hx⟩:=hrel
   rcases gk with _ | g
   ·exact absurd (by rw [← hR];rfl) HNO.out
   rw [itemsG] at hR
   have HAL:=Lib.hid hal
   have HGL:=Lib.hid hgl
   have HOWN:=Lib.hid hown
   have HKS:=Lib.hid hks
   have HGT:=Lib.hid hgt
   have HX:=Lib.hid hx
   have HNW:=Lib.hid (HN1.out.keep hx)
   have HEW:=Lib.hid (HE1.out.keep hx)
   clear hal hgl hown hks hgt hx
   by_cases hm:m=[]
   ·subst hm
    rw [if_pos rfl] at hR
    have HK':=Lib.hid (show parseG l=.ok (rowT acc) 0 0 by rw [HRR.out,← hR])
    clear hR
    obtain ⟨A,cp,hu,hcp,hcm,hrd⟩:=own_rd HOWN.out
    subst hu
    have HCP:=Lib.hid hcp
    have HCM:=Lib.hid hcm
    have HRD:=Lib.hid hrd
    clear hcp hcm hrd
    go_wp2_with (first
     | (go_at_call 21;refine (glRow (fun b=>gz<b) acc A cp cs _ HCP.out HCM.out HRD.out (row_end HGT.out HRD.out) (kidsV_map (fun t v h=>NodeV.mono h (fun _ _ h=>h.1)) HKS.out)).mono ?_;rintro e wC ⟨v,rfl,hv,hxC⟩;obtain ⟨k',m',z',p',B',n',c',rfl⟩:=nodeV_form hv;have HVC:=Lib.hid hv;have HXC:=Lib.hid (Ext.trans (Ext.trans HX1.out HX.out) hxC);have HNC:=Lib.hid (HNW.out.keep hxC);clear hv hxC)
     | (refine store_nd rfl (.tmp 2) (.tmp 36) rfl (g:=gz) (nodeC k' m' z' p' B' n' c') rfl rfl HNC.out rfl rfl rfl ?_))
    exact bodyPost_ret (v:=.tuple #[.agg (nodeC k' m' z' p' B' n' c').toArray,.nilIface]) (results_nd2 rfl rfl (Blk.row HNC.out _) rfl rfl) rfl (.ok_ HK'.out (Ext.rowX HXC.out _ _ HGZ.out) rfl ((HVC.out.chg (rowChg _ _ _ (List.mem_singleton.2 rfl)) (by intro y hy;simp at hy;omega)).mono (fun b _ h=>by have:=HGZ.out;omega)))
   ·rw [if_neg hm] at hR
    have hm0:0<m.length:=List.length_pos_iff.2 hm
    have HM0:=Lib.hid hm
    have HIT:=Lib.hid (glItem E m (by have:=HAL.out;omega) hm wr HEW.out)
    have HNL:=Lib.hid (item_len (l:=m))
    have HPO:=Lib.hid (fun h=>(item_pos hm h).1)
    clear hm
    obtain ⟨⟨t,n,k⟩,hi⟩:∃ x,itemG m=x:=⟨_,rfl⟩
    rw [hi] at hR HIT HNL HPO
    dsimp only at hR HNL HPO
    clear hi
    rcases k with _ | k
    ·rw [if_pos rfl] at hR
     have HRk:=Lib.hid hR
     have hnl:=HNL.out
     have hnl2:(n:Int)≤(m.length:Int):=by omega
     clear hR
     go_upto_region 6 with fail
     go_wp2_with fail
     go_at_call 22
     refine HIT.out.mono ?_
     rintro e w5 ⟨hx5,v,rfl,hv⟩
     obtain ⟨kk,mm,zz,qq,BB,nn,cc,rfl⟩:=nodeV_form hv
     have hv5:NodeV (fun b=>gz<b∧some b ≠ u5.ownBlock) w5 t (nodeC kk mm zz qq BB nn cc):=hv.mono (fun b _ h=>by
      have h:wr.heap.size≤b:=h
      have:=HX.out.size
      have:=HZ1.out
      exact ⟨by omega,fun e=>by have:=(HOWN.out.lt b e.symm).2;omega⟩)
     have hx6:=Ext.new1 w5 (.cells (nodeC kk mm zz qq BB nn cc).toArray 28)
     have HV6:=Lib.hid (hv5.keep hx6)
     have HX6:=Lib.hid (Ext.trans hx5 hx6)
     have HB6:=Lib.hid (NodeB.new w5 kk mm zz qq BB nn cc)
     clear hv hv5 hx5 hx6
     unfold nodeC at HX6 HV6 HB6 ⊢
     unfold ev
     go_upto_region 9 with fail
     generalize w5.alloc (.cells #[.int .i64 kk,.int .i64 mm,.bool zz,.int .u64 (wd qq 0:Nat),.int .u64 (wd qq 1:Nat),.int .u64 (wd qq 2:Nat),.int .u64 (wd qq 3:Nat),.slice BB nn cc] 28)=w6 at *
     generalize w5.heap.size=g6 at *
     obtain ⟨b0,b1,b2,b3,b4,b5,b6,b7⟩:=HB6.out.cells
     have HRN:=Lib.hid (rd_newS w6 8 1 (nodeC kk mm zz qq BB nn cc) 28 rfl)
     have HXN:=Lib.hid (Ext.trans HX6.out (Ext.new1 w6 (.cells (nodeC kk mm zz qq BB nn cc).toArray 28)))
     have HVN:=Lib.hid (HV6.out.keep (Ext.new1 w6 (.cells (nodeC kk mm zz qq BB nn cc).toArray 28)))
     unfold nodeC at HRN HXN HVN
     go_wp2_with (refine wpList_app2 elemNd rfl (.tmp 28) (.tmp 30) rfl (v:=u5) (n:=acc.length) (xs:=cs) rfl (own_ext HOWN.out HXN.out) (Ext.trans HX.out HXN.out).size (A:=some ⟨w6.heap.size,0,none⟩) (m:=1) (c:=1) (news:=nodeC kk mm zz qq BB nn cc) rfl HRN.out (by intro u hu;simp [nodeC] at hu;rcases hu with rfl | rfl | rfl | rfl | rfl | rfl | rfl | rfl <;> rfl) (by have:=HAL.out;omega) (by have:=HAL.out;unfold maxLen;omega) ?_;intro v8 w8 hown8 hgr8 _ hat8)
     go_roundg g
     case measure=>omega
     case rel =>
      refine ⟨m.drop n,acc ++ [t],HRk.out,?_,by have:=HGL.out;omega,by simp,Row.app (own_ext HOWN.out HXN.out) (kidsV_map (fun t v h=>NodeV.keep h HXN.out) HKS.out) HGT.out HVN.out hown8 hgr8 hat8 ?_,hgr8.below (Ext.trans HX.out HXN.out) (Nat.le_refl _) (Ext.trans HX.out HXN.out).size⟩
      ·have:=HAL.out
       have:=HPO.out trivial
       simp
       omega
      ·have:=(Ext.trans HX.out HXN.out).size
       have:=HZ1.out
       omega
    ·rw [if_neg (by omega)] at hR
     have HKE:=Lib.hid (show parseG l=.err (k+1) by rw [HRR.out,← hR])
     have hn:=fun w=>run_eql_iface_nil (P:=Tryz.prog) (w:=w) 30 (by kernel_rfl) 151 (.pointer (some (E k)))
     clear hR
     go_upto_region 6 with fail
     go_wp2_with fail
     go_at_call 22
     refine HIT.out.mono ?_
     rintro e w5 ⟨hx5,v,rfl,hv⟩
     obtain ⟨kk,mm,zz,qq,BB,nn,cc,rfl⟩:=nodeV_form hv
     have hx6:=Ext.new1 w5 (.cells (nodeC kk mm zz qq BB nn cc).toArray 28)
     have HX6:=Lib.hid (Ext.trans hx5 hx6)
     clear hv hx5 hx6
     unfold nodeC at HX6 ⊢
     unfold ev errV
     go_wp2_with (refine store_nd rfl (.tmp 2) (.tmp 26) rfl (g:=gz) zN rfl rfl (HNW.out.keep HX6.out) rfl rfl rfl ?_)
     exact bodyPost_ret (v:=.tuple #[.agg zN.toArray,ev E (k+1)]) (results_nd2 rfl rfl (Blk.row (HNW.out.keep HX6.out) _) rfl rfl) rfl (.err_ HKE.out (Ext.rowX (Ext.trans (Ext.trans HX1.out HX.out) HX6.out) _ _ HGZ.out) rfl)
 ·have HK:=Lib.hid (show parseG l=.err (k+1) by unfold parseG;rw [if_neg (by rw [hk];omega),hk])
  have HS:=Lib.hid hk
  have hn:=fun w=>run_eql_iface_nil (P:=Tryz.prog) (w:=w) 30 (by kernel_rfl) 151 (.pointer (some (E k)))
  clear hk
  go_enter Tryz.func6,Tryz.ntmps6
  go_wp2_with (first
   | (go_at_call 18;refine (glMeasured E l _ HE0.out).mono ?_;rintro e w1 ⟨rfl,hx1⟩;rw [HS.out];unfold ev errV)
   | (refine store_nd rfl (.tmp 2) (.tmp 13) rfl (g:=gz) zN rfl rfl (hN0.out.keep hx1) rfl rfl rfl ?_))
  exact bodyPost_ret (v:=.tuple #[.agg zN.toArray,ev E (k+1)]) (results_nd2 rfl rfl (Blk.row (hN0.out.keep hx1) _) rfl rfl) rfl (.err_ HK.out (Ext.rowX (Ext.trans hx0.out hx1) _ _ HGZ.out) rfl)
end Go.Proofs.YtigmdlchbjanoaaGreatDoor
