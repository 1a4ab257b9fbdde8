/- The tree of every pattern: walked. -/
import Derived.Test.YtigmdlchbjanoaaDoorPRpLp
import Derived.Test.YtigmdlchbjanoaaDoorPRp10
import Derived.Test.YtigmdlchbjanoaaDoorPTgP
import Derived.Test.YtigmdlchbjanoaaDoorPTgT
namespace Go.Proofs.YtigmdlchbjanoaaDoor
open Go Go.RowKit
attribute [local irreducible] wd
mutual
theorem same_selfL:∀ t:T,t.same t=true
 | .node _ _ _ p ks=>same_node.2 ⟨rfl,rfl,rfl,sameP_refl p,sameL_selfL ks⟩
theorem sameL_selfL:∀ ks:List T,sameL ks ks=true
 | []=>by unfold sameL;rfl
 | t :: ts=>by unfold sameL;rw [same_selfL t,sameL_selfL ts];rfl
end
theorem zN_node (S:Nat→Prop) (w:World):NodeV S w (.node 0 0 false (fun _=>false) []) (nodeC 0 0 false (fun _=>false) none 0 0):=by
 unfold NodeV KidsV
 exact ⟨none,0,[],rfl,Nat.le_refl _,by unfold maxLen;omega,Rd.nil,fun _ _ _ h=>(by cases h),rfl⟩
theorem dN_node (S:Nat→Prop) (w:World):DNodeV S w (.node 0 0 false (fun _=>false) []) (dnC 0 0 false (fun _=>false) none 0 0):=by
 unfold DNodeV DKidsV
 exact ⟨none,0,[],rfl,Nat.le_refl _,by unfold maxLen;omega,Rd.nil,fun _ _ _ h=>(by cases h),rfl⟩
set_option maxHeartbeats 16000000 in
set_option maxRecDepth 20000 in
theorem lawParses (E:Nat→Addr) (l:List UInt8) (w:World) (hE:Errs w E) (hT:Tab w) :
  Calls Tryd.prog 3 #[.string ⟨l.toArray⟩] w fun e w'=>e=.returned (.bool true)∧Ext w w':=by
 have HE:=Lib.hid hE
 have HT:=Lib.hid hT
 clear hE hT
 by_cases hs:200<l.length
 ·have hs':(200:Int)<(l.length:Int):=by omega
  clear hs
  go_enter Tryd.func3,Tryd.ntmps3
  go_wp2_with (go_at_call 4;refine (alive23 E _ ⟨HE.out.some _,HT.out⟩).mono ?_;rintro e w1 ⟨rfl,hx1⟩)
  go_ret
  exact ⟨rfl,hx1⟩
 have hs':¬ (200:Int)<(l.length:Int):=by omega
 clear hs
 go_enter Tryd.func3,Tryd.ntmps3
 go_upto_region 5 with (go_at_call 4;refine (alive23 E _ ⟨HE.out.some _,HT.out⟩).mono ?_;rintro e w1 ⟨rfl,hx1⟩)
 have HX1:=Lib.hid hx1
 have HE1:=Lib.hid (HE.out.keep hx1)
 have HT1:=Lib.hid (HT.out.keep hx1)
 clear hx1 HE HT hs'
 go_wp2_with fail
 go_at_call 5
 refine (rxParse E l _ ⟨HE1.out.some _,HT1.out⟩).mono ?_
 rintro e w3 hP3
 cases hr1:parseR l with
 | out=>rw [hr1] at hP3;exact hP3.2.elim
 | err k1 =>
  rw [hr1] at hP3
  obtain ⟨hx3,k2,rfl,rfl⟩:=hP3
  have hk2:=parseR_err hr1
  have HRR:=Lib.hid hr1
  clear hr1
  have hv:=zN_node (fun _=>True) w3
  have HSZ:=Lib.hid (show (T.node 0 0 false (fun _=>false) []).size≤1000 by simp [size_node,sizeL])
  have HNUM:=Lib.hid (fun w h=>numErr E k2 w h (by unfold ErrK at hk2;omega))
  have HDV:=Lib.hid (fun w=>dN_node (fun _=>True) w)
  generalize T.node 0 0 false (fun _=>false) []=tr at *
  clear hk2
  unfold ev errV
  unfold zN
  have HBb:=Lib.hid (NodeB.new w3 0 0 false (fun _=>false) none 0 0)
  have hxa:=Ext.new1 w3 (.cells (nodeC 0 0 false (fun _=>false) none 0 0).toArray 28)
  have hxb:=Ext.trans hx3 hxa
  have HNb:=Lib.hid (hv.keep hxa)
  have HEb:=Lib.hid (HE1.out.keep hxb)
  have HXb:=Lib.hid (Ext.trans HX1.out hxb)
  clear hxa hxb hx3 hv HE1 HX1 HT1
  unfold nodeC at HBb HNb HEb HXb
  rw [wd_none,wd_none,wd_none,wd_none] at HBb HNb HEb HXb
  go_upto_region 6 with fail
  generalize w3.alloc (.cells #[.int .i64 0,.int .i64 0,.bool false,.int .u64 0,.int .u64 0,.int .u64 0,.int .u64 0,.slice none 0 0] 28)=wb at *
  generalize w3.heap.size=gn at *
  go_wp2_with fail
  go_at_call 6
  refine (refParse23 l _).mono ?_
  rintro e w5 hP5
  rw [HRR.out] at hP5
  obtain ⟨hx5,rfl⟩:=hP5
  go_upto_region 7 with (refine store_dn_new rfl (.tmp 5) (.tmp 20) rfl rfl rfl zsize40 ?_)
  have hxc:=Ext.new1 w5 (.cells (dnC 0 0 false (fun _=>false) none 0 0).toArray 37)
  have hxd:=hx5.trans hxc
  have HEq:=Lib.hid (HEb.out.keep hxd)
  have HNq:Hid (NodeV _ _ tr [.int .i64 0,.int .i64 0,.bool false,.int .u64 0,.int .u64 0,.int .u64 0,.int .u64 0,.slice none 0 0]):=Lib.hid (HNb.out.keep hxd)
  have HBn:=Lib.hid (HBb.out.keep hxd)
  have HDq:=Lib.hid (HDV.out (w5.alloc (.cells (dnC 0 0 false (fun _=>false) none 0 0).toArray 37)))
  have HXq:=Lib.hid (HXb.out.trans hxd)
  have HDB:=Lib.hid (DB.new w5 0 0 false (fun _=>false) none 0 0)
  clear hxc hxd hx5 HEb HNb HBb HXb HDV
  generalize w5.alloc (.cells (dnC 0 0 false (fun _=>false) none 0 0).toArray 37)=wq at *
  generalize w5.heap.size=gd at *
  refine wp_region_dag (E:=Ext) (w0:=wq) (Φ:=fun i v w=>match i with | 0=>(v=.iface 128 (.pointer (some (E k2)))) | 1=>(v=.int .i64 ((k2:Int)+1)) | 2=>(v=.int .i64 ((k2:Int)+1)) | 3=>(v=.bool true) | 4=>(v=.bool true) | 5=>(v=.agg #[.int .i64 0,.int .i64 0,.bool false,.int .u64 0,.int .u64 0,.int .u64 0,.int .u64 0,.slice none 0 0]) | 6=>(∃ lo:List Value,v=.agg lo.toArray∧DNodeV (fun _=>True) w tr lo) | 7=>(v=.agg (dnC 0 0 false (fun _=>false) none 0 0).toArray) | 8=>(v=.bool true) | 9=>(v=.bool true) | 10=>(v=.bool true) | _=>True) (show Tryd.prog.follows .mixedOrders=true from Checked.mixed Tryd.checked) 32 rfl (by decide +kernel) ?_ ((Below.refl _ _).drew) ?_ ⟨?_,?_,?_,?_,?_,?_,?_,?_,?_,?_,?_,trivial⟩ ?_
  ·intro i v w w' h hE
   match i,h with
   | 0,h=>exact h
   | 1,h=>exact h
   | 2,h=>exact h
   | 3,h=>exact h
   | 4,h=>exact h
   | 5,h=>exact h
   | 6,h=>exact (by obtain ⟨lo,e1,e2⟩:=h;exact ⟨lo,e1,e2.keep hE⟩)
   | 7,h=>exact h
   | 8,h=>exact h
   | 9,h=>exact h
   | 10,h=>exact h
   | _+11,_=>trivial
  ·exact fun w w' h h'=>h.trans h'
  ·
   intro ac w hE hsz hdf h
   have e4:ac.tmps[4]?=some (.iface 128 (.pointer (some (E k2)))):=by obtain ⟨v,h1,h2⟩:=h 4 (by decide +kernel);exact h1.trans (h2.symm.trans rfl)
   clear h hsz hdf
   go_wp2
   exact ⟨_,rfl,rfl,Ext.refl _⟩
  ·
   intro ac w hE hsz hdf h
   have e22:ac.tmps[22]?=some (.iface 128 (.pointer (some (E k2)))):=by obtain ⟨v,h1,h2⟩:=h 22 (by decide +kernel);rw [h1];exact congrArg some h2
   clear h hsz hdf
   go_wp2_with (go_at_call 7;refine (HNUM.out _ (HEq.out.keep hE)).mono ?_;rintro e w9 ⟨rfl,hx9⟩)
   exact ⟨_,rfl,rfl,hx9⟩
  ·
   intro ac w hE hsz hdf h
   have e6:ac.tmps[6]?=some (.int .i64 ((k2:Int)+1)):=by obtain ⟨v,h1,h2⟩:=h 6 (by decide +kernel);exact h1.trans (h2.symm.trans rfl)
   clear h hsz hdf
   go_wp2
   exact ⟨_,rfl,rfl,Ext.refl _⟩
  ·
   intro ac w hE hsz hdf h
   have e23:ac.tmps[23]?=some (.int .i64 ((k2:Int)+1)):=by obtain ⟨v,h1,h2⟩:=h 23 (by decide +kernel);rw [h1];exact congrArg some h2
   have e24:ac.tmps[24]?=some (.int .i64 ((k2:Int)+1)):=by obtain ⟨v,h1,h2⟩:=h 24 (by decide +kernel);rw [h1];exact congrArg some h2
   clear h hsz hdf
   go_wp2
   exact ⟨_,rfl,rfl,Ext.refl _⟩
  ·
   intro ac w hE hsz hdf h
   have e25:ac.tmps[25]?=some (.bool true):=by obtain ⟨v,h1,h2⟩:=h 25 (by decide +kernel);rw [h1];exact congrArg some h2
   clear h hsz hdf
   go_wp2
   exact ⟨_,rfl,rfl,Ext.refl _⟩
  ·
   intro ac w hE hsz hdf h
   have e3:ac.tmps[3]?=some (.pointer (some ⟨gn,0,none⟩)):=by obtain ⟨v,h1,h2⟩:=h 3 (by decide +kernel);exact h1.trans (h2.symm.trans rfl)
   have e26:ac.tmps[26]?=some (.bool true):=by obtain ⟨v,h1,h2⟩:=h 26 (by decide +kernel);rw [h1];exact congrArg some h2
   clear h hsz hdf
   obtain ⟨y0,y1,y2,y3,y4,y5,y6,y7⟩:=(HBn.out.keep hE).cells;rw [wd_none] at y3 y4 y5 y6
   go_wp2
   exact ⟨_,rfl,rfl,Ext.refl _⟩
  ·
   intro ac w hE hsz hdf h
   have e27:ac.tmps[27]?=some (.agg #[.int .i64 0,.int .i64 0,.bool false,.int .u64 0,.int .u64 0,.int .u64 0,.int .u64 0,.slice none 0 0]):=by obtain ⟨v,h1,h2⟩:=h 27 (by decide +kernel);rw [h1];exact congrArg some h2
   have e26:ac.tmps[26]?=some (.bool true):=by obtain ⟨v,h1,h2⟩:=h 26 (by decide +kernel);rw [h1];exact congrArg some h2
   clear h hsz hdf
   go_wp2_with (go_at_call 9;refine (lawOf _ tr (Nat.le_refl _) (by have:=HSZ.out;omega) _ _ [.int .i64 0,.int .i64 0,.bool false,.int .u64 0,.int .u64 0,.int .u64 0,.int .u64 0,.slice none 0 0] (HNq.out.keep hE)).mono ?_;rintro e w9 ⟨lo,rfl,hlo,hx9⟩)
   exact ⟨_,rfl,⟨lo,rfl,hlo.mono (fun _ _ _=>trivial)⟩,hx9⟩
  ·
   intro ac w hE hsz hdf h
   have e26:ac.tmps[26]?=some (.bool true):=by obtain ⟨v,h1,h2⟩:=h 26 (by decide +kernel);rw [h1];exact congrArg some h2
   have e5:ac.tmps[5]?=some (.pointer (some ⟨gd,0,none⟩)):=by obtain ⟨v,h1,h2⟩:=h 5 (by decide +kernel);exact h1.trans (h2.symm.trans rfl)
   clear h hsz hdf
   refine load_dnH (d:=26) rfl rfl e26 (.tmp 5) rfl (g:=gd) (by simp [Act.eval,e5]) (HDB.out.keep hE) ?_
   go_wp2
   exact ⟨_,rfl,rfl,Ext.refl _⟩
  ·
   intro ac w hE hsz hdf h
   obtain ⟨v28,e28,s28⟩:∃ v,ac.tmps[28]?=some v∧(∃ lo:List Value,v=.agg lo.toArray∧DNodeV (fun _=>True) w tr lo):=h 28 (by decide +kernel)
   have e29:ac.tmps[29]?=some (.agg (dnC 0 0 false (fun _=>false) none 0 0).toArray):=by obtain ⟨v,h1,h2⟩:=h 29 (by decide +kernel);rw [h1];exact congrArg some h2
   have e26:ac.tmps[26]?=some (.bool true):=by obtain ⟨v,h1,h2⟩:=h 26 (by decide +kernel);rw [h1];exact congrArg some h2
   clear h hsz hdf
   obtain ⟨lo,rfl,hlo⟩:=s28
   go_wp2_with (go_at_call 8;refine (refSameT _ tr (Nat.le_refl _) tr _ _ _ lo (dnC 0 0 false (fun _=>false) none 0 0) hlo (HDq.out.keep hE)).mono ?_;rintro e w9 ⟨rfl,hx9⟩;rw [same_selfL])
   exact ⟨_,rfl,rfl,hx9⟩
  ·
   intro ac w hE hsz hdf h
   have e26:ac.tmps[26]?=some (.bool true):=by obtain ⟨v,h1,h2⟩:=h 26 (by decide +kernel);rw [h1];exact congrArg some h2
   have e30:ac.tmps[30]?=some (.bool true):=by obtain ⟨v,h1,h2⟩:=h 30 (by decide +kernel);rw [h1];exact congrArg some h2
   clear h hsz hdf
   go_wp2
   exact ⟨_,rfl,rfl,Ext.refl _⟩
  ·
   intro ac w hE hsz hdf h
   have e31:ac.tmps[31]?=some (.bool true):=by obtain ⟨v,h1,h2⟩:=h 31 (by decide +kernel);rw [h1];exact congrArg some h2
   clear h hsz hdf
   go_wp2
   exact ⟨_,rfl,rfl,Ext.refl _⟩
  ·intro ac w9 hE hsz hdf h hrest
   obtain ⟨v0,s0,g0⟩:=h 0 _ rfl
   have e0:=g0 22 rfl
   obtain rfl:v0=.iface 128 (.pointer (some (E k2))):=s0
   obtain ⟨v1,s1,g1⟩:=h 1 _ rfl
   have e1:=g1 23 rfl
   obtain rfl:v1=.int .i64 ((k2:Int)+1):=s1
   obtain ⟨v2,s2,g2⟩:=h 2 _ rfl
   have e2:=g2 24 rfl
   obtain rfl:v2=.int .i64 ((k2:Int)+1):=s2
   obtain ⟨v3,s3,g3⟩:=h 3 _ rfl
   have e3:=g3 25 rfl
   obtain rfl:v3=.bool true:=s3
   obtain ⟨v4,s4,g4⟩:=h 4 _ rfl
   have e4:=g4 26 rfl
   obtain rfl:v4=.bool true:=s4
   obtain ⟨v5,s5,g5⟩:=h 5 _ rfl
   have e5:=g5 27 rfl
   obtain rfl:v5=.agg #[.int .i64 0,.int .i64 0,.bool false,.int .u64 0,.int .u64 0,.int .u64 0,.int .u64 0,.slice none 0 0]:=s5
   obtain ⟨v6,s6,g6⟩:=h 6 _ rfl
   have e6:=g6 28 rfl
   replace s6:∃ lo:List Value,v6=.agg lo.toArray∧DNodeV (fun _=>True) w9 tr lo:=s6
   obtain ⟨v7,s7,g7⟩:=h 7 _ rfl
   have e7:=g7 29 rfl
   obtain rfl:v7=.agg (dnC 0 0 false (fun _=>false) none 0 0).toArray:=s7
   obtain ⟨v8,s8,g8⟩:=h 8 _ rfl
   have e8:=g8 30 rfl
   obtain rfl:v8=.bool true:=s8
   obtain ⟨v9,s9,g9⟩:=h 9 _ rfl
   have e9:=g9 31 rfl
   obtain rfl:v9=.bool true:=s9
   obtain ⟨v10,s10,g10⟩:=h 10 _ rfl
   have e10:=g10 2 rfl
   obtain rfl:v10=.bool true:=s10
   have ha:=act_of [(22,.iface 128 (.pointer (some (E k2)))),(23,.int .i64 ((k2:Int)+1)),(24,.int .i64 ((k2:Int)+1)),(25,.bool true),(26,.bool true),(27,.agg #[.int .i64 0,.int .i64 0,.bool false,.int .u64 0,.int .u64 0,.int .u64 0,.int .u64 0,.slice none 0 0]),(28,v6),(29,.agg (dnC 0 0 false (fun _=>false) none 0 0).toArray),(30,.bool true),(31,.bool true),(2,.bool true)] rfl hsz hdf (by intro p hp;simp only [List.mem_cons,List.not_mem_nil,or_false] at hp;rcases hp with rfl | rfl | rfl | rfl | rfl | rfl | rfl | rfl | rfl | rfl | rfl <;> first | exact e0 | exact e1 | exact e2 | exact e3 | exact e4 | exact e5 | exact e6 | exact e7 | exact e8 | exact e9 | exact e10) hrest
   clear h hrest hsz hdf e0 e1 e2 e3 e4 e5 e6 e7 e8 e9 e10 g0 g1 g2 g3 g4 g5 g6 g7 g8 g9 g10
   subst ha
   simp only [List.foldl_cons,List.foldl_nil,Act.put,List.setIfInBounds_toArray,List.set_cons_succ,List.set_cons_zero]
   go_wp2
   go_ret
   exact ⟨rfl,HXq.out.trans hE⟩
 | ok tr i1 gr1 =>
  rw [hr1] at hP3
  obtain ⟨hx3,v,rfl,hv⟩:=hP3
  have HSZ:=Lib.hid (show tr.size≤1000 from Nat.le_trans (parseR_size hr1) (by omega))
  have HRR:=Lib.hid hr1
  clear hr1
  have HNUM:=Lib.hid (fun w (_:Errs w E)=>(numNil w).mono (R':=fun e w'=>e=.returned (.int .i64 0)∧Ext w w') (by rintro e w' ⟨rfl,rfl⟩;exact ⟨rfl,Ext.refl _⟩))
  obtain ⟨k9,m9,z9,p9,B9,n9,c9,rfl⟩:=nodeV_form hv
  have HBb:=Lib.hid (NodeB.new w3 k9 m9 z9 p9 B9 n9 c9)
  have hxa:=Ext.new1 w3 (.cells (nodeC k9 m9 z9 p9 B9 n9 c9).toArray 28)
  have hxb:=Ext.trans hx3 hxa
  have HNb:=Lib.hid (hv.keep hxa)
  have HEb:=Lib.hid (HE1.out.keep hxb)
  have HXb:=Lib.hid (Ext.trans HX1.out hxb)
  clear hxa hxb hx3 hv HE1 HX1 HT1
  unfold nodeC at HBb HNb HEb HXb ⊢
  go_upto_region 6 with fail
  generalize w3.alloc (.cells #[.int .i64 k9,.int .i64 m9,.bool z9,.int .u64 (wd p9 0:Nat),.int .u64 (wd p9 1:Nat),.int .u64 (wd p9 2:Nat),.int .u64 (wd p9 3:Nat),.slice B9 n9 c9] 28)=wb at *
  generalize w3.heap.size=gn at *
  go_wp2_with fail
  go_at_call 6
  refine (refParse23 l _).mono ?_
  rintro e w5 hP5
  rw [HRR.out] at hP5
  obtain ⟨hx5,ld,rfl,hD⟩:=hP5
  obtain ⟨kd,md,zd,pd,Bd,nd,cd,rfl⟩:=dnodeV_form hD
  go_upto_region 7 with (refine store_dn_new rfl (.tmp 5) (.tmp 20) rfl rfl rfl zsize40 ?_)
  have hxc:=Ext.new1 w5 (.cells (dnC kd md zd pd Bd nd cd).toArray 37)
  have hxd:=hx5.trans hxc
  have HEq:=Lib.hid (HEb.out.keep hxd)
  have HNq:Hid (NodeV _ _ tr [.int .i64 k9,.int .i64 m9,.bool z9,.int .u64 (wd p9 0:Nat),.int .u64 (wd p9 1:Nat),.int .u64 (wd p9 2:Nat),.int .u64 (wd p9 3:Nat),.slice B9 n9 c9]):=Lib.hid (HNb.out.keep hxd)
  have HBn:=Lib.hid (HBb.out.keep hxd)
  have HDq:=Lib.hid (hD.keep hxc)
  have HXq:=Lib.hid (HXb.out.trans hxd)
  have HDB:=Lib.hid (DB.new w5 kd md zd pd Bd nd cd)
  clear hxc hxd hx5 HEb HNb HBb HXb hD
  generalize w5.alloc (.cells (dnC kd md zd pd Bd nd cd).toArray 37)=wq at *
  generalize w5.heap.size=gd at *
  refine wp_region_dag (E:=Ext) (w0:=wq) (Φ:=fun i v w=>match i with | 0=>(v=.nilIface) | 1=>(v=.int .i64 0) | 2=>(v=.int .i64 0) | 3=>(v=.bool true) | 4=>(v=.bool true) | 5=>(v=.agg #[.int .i64 k9,.int .i64 m9,.bool z9,.int .u64 (wd p9 0:Nat),.int .u64 (wd p9 1:Nat),.int .u64 (wd p9 2:Nat),.int .u64 (wd p9 3:Nat),.slice B9 n9 c9]) | 6=>(∃ lo:List Value,v=.agg lo.toArray∧DNodeV (fun _=>True) w tr lo) | 7=>(v=.agg (dnC kd md zd pd Bd nd cd).toArray) | 8=>(v=.bool true) | 9=>(v=.bool true) | 10=>(v=.bool true) | _=>True) (show Tryd.prog.follows .mixedOrders=true from Checked.mixed Tryd.checked) 32 rfl (by decide +kernel) ?_ ((Below.refl _ _).drew) ?_ ⟨?_,?_,?_,?_,?_,?_,?_,?_,?_,?_,?_,trivial⟩ ?_
  ·intro i v w w' h hE
   match i,h with
   | 0,h=>exact h
   | 1,h=>exact h
   | 2,h=>exact h
   | 3,h=>exact h
   | 4,h=>exact h
   | 5,h=>exact h
   | 6,h=>exact (by obtain ⟨lo,e1,e2⟩:=h;exact ⟨lo,e1,e2.keep hE⟩)
   | 7,h=>exact h
   | 8,h=>exact h
   | 9,h=>exact h
   | 10,h=>exact h
   | _+11,_=>trivial
  ·exact fun w w' h h'=>h.trans h'
  ·
   intro ac w hE hsz hdf h
   have e4:ac.tmps[4]?=some (.nilIface):=by obtain ⟨v,h1,h2⟩:=h 4 (by decide +kernel);exact h1.trans (h2.symm.trans rfl)
   clear h hsz hdf
   go_wp2
   exact ⟨_,rfl,rfl,Ext.refl _⟩
  ·
   intro ac w hE hsz hdf h
   have e22:ac.tmps[22]?=some (.nilIface):=by obtain ⟨v,h1,h2⟩:=h 22 (by decide +kernel);rw [h1];exact congrArg some h2
   clear h hsz hdf
   go_wp2_with (go_at_call 7;refine (HNUM.out _ (HEq.out.keep hE)).mono ?_;rintro e w9 ⟨rfl,hx9⟩)
   exact ⟨_,rfl,rfl,hx9⟩
  ·
   intro ac w hE hsz hdf h
   have e6:ac.tmps[6]?=some (.int .i64 0):=by obtain ⟨v,h1,h2⟩:=h 6 (by decide +kernel);exact h1.trans (h2.symm.trans rfl)
   clear h hsz hdf
   go_wp2
   exact ⟨_,rfl,rfl,Ext.refl _⟩
  ·
   intro ac w hE hsz hdf h
   have e23:ac.tmps[23]?=some (.int .i64 0):=by obtain ⟨v,h1,h2⟩:=h 23 (by decide +kernel);rw [h1];exact congrArg some h2
   have e24:ac.tmps[24]?=some (.int .i64 0):=by obtain ⟨v,h1,h2⟩:=h 24 (by decide +kernel);rw [h1];exact congrArg some h2
   clear h hsz hdf
   go_wp2
   exact ⟨_,rfl,rfl,Ext.refl _⟩
  ·
   intro ac w hE hsz hdf h
   have e25:ac.tmps[25]?=some (.bool true):=by obtain ⟨v,h1,h2⟩:=h 25 (by decide +kernel);rw [h1];exact congrArg some h2
   clear h hsz hdf
   go_wp2
   exact ⟨_,rfl,rfl,Ext.refl _⟩
  ·
   intro ac w hE hsz hdf h
   have e3:ac.tmps[3]?=some (.pointer (some ⟨gn,0,none⟩)):=by obtain ⟨v,h1,h2⟩:=h 3 (by decide +kernel);exact h1.trans (h2.symm.trans rfl)
   have e26:ac.tmps[26]?=some (.bool true):=by obtain ⟨v,h1,h2⟩:=h 26 (by decide +kernel);rw [h1];exact congrArg some h2
   clear h hsz hdf
   obtain ⟨y0,y1,y2,y3,y4,y5,y6,y7⟩:=(HBn.out.keep hE).cells
   go_wp2
   exact ⟨_,rfl,rfl,Ext.refl _⟩
  ·
   intro ac w hE hsz hdf h
   have e27:ac.tmps[27]?=some (.agg #[.int .i64 k9,.int .i64 m9,.bool z9,.int .u64 (wd p9 0:Nat),.int .u64 (wd p9 1:Nat),.int .u64 (wd p9 2:Nat),.int .u64 (wd p9 3:Nat),.slice B9 n9 c9]):=by obtain ⟨v,h1,h2⟩:=h 27 (by decide +kernel);rw [h1];exact congrArg some h2
   have e26:ac.tmps[26]?=some (.bool true):=by obtain ⟨v,h1,h2⟩:=h 26 (by decide +kernel);rw [h1];exact congrArg some h2
   clear h hsz hdf
   go_wp2_with (go_at_call 9;refine (lawOf _ tr (Nat.le_refl _) (by have:=HSZ.out;omega) _ _ (nodeC k9 m9 z9 p9 B9 n9 c9) (HNq.out.keep hE)).mono ?_;rintro e w9 ⟨lo,rfl,hlo,hx9⟩)
   exact ⟨_,rfl,⟨lo,rfl,hlo.mono (fun _ _ _=>trivial)⟩,hx9⟩
  ·
   intro ac w hE hsz hdf h
   have e26:ac.tmps[26]?=some (.bool true):=by obtain ⟨v,h1,h2⟩:=h 26 (by decide +kernel);rw [h1];exact congrArg some h2
   have e5:ac.tmps[5]?=some (.pointer (some ⟨gd,0,none⟩)):=by obtain ⟨v,h1,h2⟩:=h 5 (by decide +kernel);exact h1.trans (h2.symm.trans rfl)
   clear h hsz hdf
   refine load_dnH (d:=26) rfl rfl e26 (.tmp 5) rfl (g:=gd) (by simp [Act.eval,e5]) (HDB.out.keep hE) ?_
   go_wp2
   exact ⟨_,rfl,rfl,Ext.refl _⟩
  ·
   intro ac w hE hsz hdf h
   obtain ⟨v28,e28,s28⟩:∃ v,ac.tmps[28]?=some v∧(∃ lo:List Value,v=.agg lo.toArray∧DNodeV (fun _=>True) w tr lo):=h 28 (by decide +kernel)
   have e29:ac.tmps[29]?=some (.agg (dnC kd md zd pd Bd nd cd).toArray):=by obtain ⟨v,h1,h2⟩:=h 29 (by decide +kernel);rw [h1];exact congrArg some h2
   have e26:ac.tmps[26]?=some (.bool true):=by obtain ⟨v,h1,h2⟩:=h 26 (by decide +kernel);rw [h1];exact congrArg some h2
   clear h hsz hdf
   obtain ⟨lo,rfl,hlo⟩:=s28
   go_wp2_with (go_at_call 8;refine (refSameT _ tr (Nat.le_refl _) tr _ _ _ lo (dnC kd md zd pd Bd nd cd) hlo (HDq.out.keep hE)).mono ?_;rintro e w9 ⟨rfl,hx9⟩;rw [same_selfL])
   exact ⟨_,rfl,rfl,hx9⟩
  ·
   intro ac w hE hsz hdf h
   have e26:ac.tmps[26]?=some (.bool true):=by obtain ⟨v,h1,h2⟩:=h 26 (by decide +kernel);rw [h1];exact congrArg some h2
   have e30:ac.tmps[30]?=some (.bool true):=by obtain ⟨v,h1,h2⟩:=h 30 (by decide +kernel);rw [h1];exact congrArg some h2
   clear h hsz hdf
   go_wp2
   exact ⟨_,rfl,rfl,Ext.refl _⟩
  ·
   intro ac w hE hsz hdf h
   have e31:ac.tmps[31]?=some (.bool true):=by obtain ⟨v,h1,h2⟩:=h 31 (by decide +kernel);rw [h1];exact congrArg some h2
   clear h hsz hdf
   go_wp2
   exact ⟨_,rfl,rfl,Ext.refl _⟩
  ·intro ac w9 hE hsz hdf h hrest
   obtain ⟨v0,s0,g0⟩:=h 0 _ rfl
   have e0:=g0 22 rfl
   obtain rfl:v0=.nilIface:=s0
   obtain ⟨v1,s1,g1⟩:=h 1 _ rfl
   have e1:=g1 23 rfl
   obtain rfl:v1=.int .i64 0:=s1
   obtain ⟨v2,s2,g2⟩:=h 2 _ rfl
   have e2:=g2 24 rfl
   obtain rfl:v2=.int .i64 0:=s2
   obtain ⟨v3,s3,g3⟩:=h 3 _ rfl
   have e3:=g3 25 rfl
   obtain rfl:v3=.bool true:=s3
   obtain ⟨v4,s4,g4⟩:=h 4 _ rfl
   have e4:=g4 26 rfl
   obtain rfl:v4=.bool true:=s4
   obtain ⟨v5,s5,g5⟩:=h 5 _ rfl
   have e5:=g5 27 rfl
   obtain rfl:v5=.agg #[.int .i64 k9,.int .i64 m9,.bool z9,.int .u64 (wd p9 0:Nat),.int .u64 (wd p9 1:Nat),.int .u64 (wd p9 2:Nat),.int .u64 (wd p9 3:Nat),.slice B9 n9 c9]:=s5
   obtain ⟨v6,s6,g6⟩:=h 6 _ rfl
   have e6:=g6 28 rfl
   replace s6:∃ lo:List Value,v6=.agg lo.toArray∧DNodeV (fun _=>True) w9 tr lo:=s6
   obtain ⟨v7,s7,g7⟩:=h 7 _ rfl
   have e7:=g7 29 rfl
   obtain rfl:v7=.agg (dnC kd md zd pd Bd nd cd).toArray:=s7
   obtain ⟨v8,s8,g8⟩:=h 8 _ rfl
   have e8:=g8 30 rfl
   obtain rfl:v8=.bool true:=s8
   obtain ⟨v9,s9,g9⟩:=h 9 _ rfl
   have e9:=g9 31 rfl
   obtain rfl:v9=.bool true:=s9
   obtain ⟨v10,s10,g10⟩:=h 10 _ rfl
   have e10:=g10 2 rfl
   obtain rfl:v10=.bool true:=s10
   have ha:=act_of [(22,.nilIface),(23,.int .i64 0),(24,.int .i64 0),(25,.bool true),(26,.bool true),(27,.agg #[.int .i64 k9,.int .i64 m9,.bool z9,.int .u64 (wd p9 0:Nat),.int .u64 (wd p9 1:Nat),.int .u64 (wd p9 2:Nat),.int .u64 (wd p9 3:Nat),.slice B9 n9 c9]),(28,v6),(29,.agg (dnC kd md zd pd Bd nd cd).toArray),(30,.bool true),(31,.bool true),(2,.bool true)] rfl hsz hdf (by intro p hp;simp only [List.mem_cons,List.not_mem_nil,or_false] at hp;rcases hp with rfl | rfl | rfl | rfl | rfl | rfl | rfl | rfl | rfl | rfl | rfl <;> first | exact e0 | exact e1 | exact e2 | exact e3 | exact e4 | exact e5 | exact e6 | exact e7 | exact e8 | exact e9 | exact e10) hrest
   clear h hrest hsz hdf e0 e1 e2 e3 e4 e5 e6 e7 e8 e9 e10 g0 g1 g2 g3 g4 g5 g6 g7 g8 g9 g10
   subst ha
   simp only [List.foldl_cons,List.foldl_nil,Act.put,List.setIfInBounds_toArray,List.set_cons_succ,List.set_cons_zero]
   go_wp2
   go_ret
   exact ⟨rfl,HXq.out.trans hE⟩
end Go.Proofs.YtigmdlchbjanoaaDoor
