/- Put together: Gt6p, Gt6. -/
import Derived.Test.YtigmdlchbjanoaaGreatDoorPGvP
import Derived.Test.YtigmdlchbjanoaaGreatDoorPGvQ
import Derived.Test.YtigmdlchbjanoaaGreatDoorPGvN
import Derived.Test.YtigmdlchbjanoaaGreatDoorPTgT
namespace Go.Proofs.YtigmdlchbjanoaaGreatDoor
open Go Go.RowKit
attribute [local irreducible] wd
def tOf:PR→T
 | .ok t _ _=>t
 | _=>.node 0 0 false (fun _=>false) []
def kOf:PR→Nat
 | .err k=>k
 | _=>0
def NumOf (E:Nat→Addr) (v:Value) (k:Nat):Prop:=∀ w,Errs w E→Calls Tryz.prog 11 #[v] w fun e w'=>e=.returned (.int .i64 (k:Nat))∧Ext w w'
theorem zN_nodeG (S:Nat→Prop) (w:World):NodeV S w (.node 0 0 false (fun _=>false) []) (nodeC 0 0 false (fun _=>false) none 0 0):=by
 unfold NodeV KidsV
 exact ⟨none,0,[],rfl,Nat.le_refl _,by unfold maxLen;omega,Rd.nil,fun _ _ _ h=>(by cases h),rfl⟩
theorem zN_isG:zN=nodeC 0 0 false (fun _=>false) none 0 0:=by
 unfold zN nodeC
 rw [wd_none,wd_none,wd_none,wd_none]
 rfl
def RA (E:Nat→Addr) (w:World) (r:PR) (v:Value) (w':World):Prop:=
 ∃ k m z p B n c ev,v=.tuple #[.agg (nodeC k m z p B n c).toArray,ev]∧Ext w w' ∧ NodeV (fun _=>True) w' (tOf r) (nodeC k m z p B n c)∧NumOf E ev (kOf r)
theorem ra_of {E:Nat→Addr} {w w':World} {r:PR} {e:Ending} (h:RRes E w r e w') (hk:∀ k,r=.err k→0<k∧k≤15):∃ v,e=.returned v∧RA E w r v w':=by
 obtain ⟨hx,h⟩:=h
 cases r with
 | out=>exact h.elim
 | err k =>
  obtain ⟨k',rfl,rfl⟩:=h
  have h15:=(hk _ rfl).2
  refine ⟨_,rfl,0,0,false,fun _=>false,none,0,0,_,by rw [← zN_isG],hx,zN_nodeG _ _,fun w he=>?_⟩
  exact (numErr E k' w he (by omega)).mono (by rintro e w' ⟨rfl,hx⟩;exact ⟨by simp [kOf],hx⟩)
 | ok t i gr =>
  obtain ⟨v,rfl,hv⟩:=h
  obtain ⟨k,m,z,p,B,n,c,rfl⟩:=nodeV_form hv
  exact ⟨_,rfl,k,m,z,p,B,n,c,_,rfl,hx,hv.mono (fun _ _ _=>trivial),fun w _=>(numNil w).mono (by rintro e w' ⟨rfl,rfl⟩;exact ⟨rfl,Ext.refl _⟩)⟩
def DA (w:World) (r:PR) (v:Value) (w':World):Prop:=
 ∃ k m z p B n c,v=.tuple #[.agg (dnC k m z p B n c).toArray,.int .i64 (kOf r:Nat)]∧Ext w w' ∧ DNodeV (fun _=>True) w' (tOf r) (dnC k m z p B n c)
theorem da_of {w w':World} {r:PR} {e:Ending} (h:RefRes w r e w'):∃ v,e=.returned v∧DA w r v w':=by
 obtain ⟨hx,h⟩:=h
 cases r with
 | out=>exact h.elim
 | err k =>
  subst h
  refine ⟨_,rfl,0,0,false,fun _=>false,none,0,0,rfl,hx,?_⟩
  exact dnode_leaf 0 0 false _
 | ok t i gr =>
  obtain ⟨v,rfl,hv⟩:=h
  obtain ⟨k,m,z,p,B,n,c,rfl⟩:=dnodeV_form hv
  exact ⟨_,rfl,k,m,z,p,B,n,c,rfl,hx,hv.mono (fun _ _ _=>trivial)⟩
theorem tOf_size {r:PR} (h:∀ t i gr,r=.ok t i gr→t.size≤1000000):(tOf r).size≤1000000:=by
 cases r with
 | ok t i gr=>exact h t i gr rfl
 | out=>simp [tOf,size_node,sizeL]
 | err k=>simp [tOf,size_node,sizeL]
def OfR (t:T) (v:Value) (w:World):Prop:=∃ lo:List Value,v=.agg lo.toArray∧DNodeV (fun _=>True) w t lo
theorem OfR.keep {t:T} {v:Value} {w w':World} (h:OfR t v w) (hx:Ext w w'):OfR t v w':=by obtain ⟨lo,e,h⟩:=h;exact ⟨lo,e,h.keep hx⟩
structure TS (W:World) (ta tb tc:T) (fa fb fc:Option Value) (w:World):Prop where
 ext:Ext W w
 a:∀ v,fa=some v→OfR ta v w
 b:∀ v,fb=some v→OfR tb v w
 c:∀ v,fc=some v→OfR tc v w
section
variable {W w w':World} {ta tb tc:T} {fa fb fc:Option Value} {v:Value}
theorem TS.keep (h:TS W ta tb tc fa fb fc w) (hx:Ext w w'):TS W ta tb tc fa fb fc w':=⟨h.ext.trans hx,fun v e=>(h.a v e).keep hx,fun v e=>(h.b v e).keep hx,fun v e=>(h.c v e).keep hx⟩
theorem TS.doA (h:TS W ta tb tc fa fb fc w) (hx:Ext w w') (hv:OfR ta v w'):TS W ta tb tc (some v) fb fc w':=⟨h.ext.trans hx,fun u e=>by cases e;exact hv,fun v e=>(h.b v e).keep hx,fun v e=>(h.c v e).keep hx⟩
theorem TS.doB (h:TS W ta tb tc fa fb fc w) (hx:Ext w w') (hv:OfR tb v w'):TS W ta tb tc fa (some v) fc w':=⟨h.ext.trans hx,fun v e=>(h.a v e).keep hx,fun u e=>by cases e;exact hv,fun v e=>(h.c v e).keep hx⟩
theorem TS.doC (h:TS W ta tb tc fa fb fc w) (hx:Ext w w') (hv:OfR tc v w'):TS W ta tb tc fa fb (some v) w':=⟨h.ext.trans hx,fun v e=>(h.a v e).keep hx,fun v e=>(h.b v e).keep hx,fun u e=>by cases e;exact hv⟩
end
def wl:Nat→List UInt8
 | 0=>wExact
 | 1=>wGlob
 | _=>wRegex
def nmG (kind:Int):Nat→List UInt8
 | 0=>[]
 | i+1=>if kind=(i:Int)+1 then wl i else nmG kind i
def wtG (s:List UInt8):Nat→Nat
 | 0=>0
 | i+1=>if s=wl i then i+1 else wtG s i
theorem nm_end (kind:Int):nmG kind 3=wordG kind:=by
 unfold wordG
 simp only [nmG,wl]
 by_cases h1:kind=1
 ·subst h1;rfl
 by_cases h2:kind=2
 ·subst h2;rfl
 by_cases h3:kind=3
 ·subst h3;rfl
 rw [if_neg (by omega),if_neg (by omega),if_neg (by omega),if_neg h1,if_neg h2,if_neg h3]
theorem wt_end (s:List UInt8):wtG s 3=kindG s:=by
 unfold kindG
 simp only [wtG,wl]
 by_cases h1:s=wExact
 ·subst h1;rfl
 by_cases h2:s=wGlob
 ·subst h2;rfl
 by_cases h3:s=wRegex
 ·subst h3;rfl
 simp only [if_neg h1,if_neg h2,if_neg h3]
theorem blk_wl {w:World} {g i:Nat} {e:TypeId} (h:Blk w g e [.string ⟨#[101,120,97,99,116]⟩,.string ⟨#[103,108,111,98]⟩,.string ⟨#[114,101,103,101,120]⟩]) (hi:i<3):w.cell? ⟨g,i,none⟩=some (.string ⟨(wl i).toArray⟩):=by
 rw [h.cell]
 match i,hi with
 | 0,_=>rfl
 | 1,_=>rfl
 | 2,_=>rfl
end Go.Proofs.YtigmdlchbjanoaaGreatDoor
namespace Go.Proofs.YtigmdlchbjanoaaGreatDoor
open Go Go.RowKit
attribute [local irreducible] wd
def GW (kind:Int) (s:List UInt8) (gs g:Nat) (nv wv iv:Value) (W wr:World):Prop:=
 ∃ i:Nat,g=3-i∧iv=.int .i64 (i:Nat)∧i≤3∧nv=.string ⟨(nmG kind i).toArray⟩∧wv=.int .i64 (wtG s i:Nat)∧wr=W∧Blk W gs 9 [.string ⟨#[101,120,97,99,116]⟩,.string ⟨#[103,108,111,98]⟩,.string ⟨#[114,101,103,101,120]⟩]
set_option maxHeartbeats 40000000 in
set_option maxRecDepth 20000 in
theorem lawTrees (E:Nat→Addr) (l:List UInt8) (kind:Int) (s:List UInt8) (w:World) (hE:Errs w E) (hT:Tab w) (hW:Words w) :
  Calls Tryz.prog 3 #[.string ⟨l.toArray⟩,.int .i64 kind,.string ⟨s.toArray⟩] w fun e w'=>e=.returned (.bool true)∧Ext w w':=by
 have HA:=Lib.hid (alive24 E w ⟨hE.some _,hT⟩ hW.c2)
 have HE:=Lib.hid hE
 have HT:=Lib.hid hT
 have HW:=Lib.hid hW
 clear hE hT hW
 go_enter Tryz.func3,Tryz.ntmps3
 refine fr_begin 147 [(0,.string ⟨l.toArray⟩),(1,.int .i64 kind),(2,.string ⟨s.toArray⟩)] (by refine Fr.cons (Fr.cons (Fr.cons (Fr.start ?_ ?_) ?_) ?_) ?_ <;> exact rfl) (fun a0 F0=>?_)
 go_upto_region 0 with fail
 refine fr_region ?_
 refine fr_as F0 6 (.inr rfl) rfl rfl (by decide) fun _ F1=>?_
 clear F0
 refine fr_end ?_
 go_upto_region 1 with fail
 refine fr_region ?_
 refine fr_op F1 25 rfl (by decide) (AtX (.bool true) w) ?_ ?_
 ·go_wp2_with (go_at_call 4;refine HA.out.mono ?_;rintro e w9 ⟨rfl,hx9⟩)
  exact ⟨_,rfl,rfl,hx9⟩
 rintro a2 _ W1 ⟨rfl,hx1⟩ F2
 clear F1
 refine fr2 F2 26 (.bool false) W1 rfl (by decide) ?_ fun _ F3=>?_
 ·have e25:=F2.kn 25 _ rfl;go_wp2;exact ⟨_,rfl,rfl,rfl⟩
 clear F2
 refine fr_end ?_
 have HX:=Lib.hid hx1
 clear hx1
 by_cases hl:200<l.length
 ·have hl':(200:Int)<(l.length:Int):=by omega
  go_upto_if 26 with fail
  refine wp_cond_false (F3.ev (t:=26) rfl) ?_
  go_upto_region 3 with fail
  refine fr_region ?_
  refine fr_mv F3 0 27 (.inl rfl) rfl rfl (by decide) rfl fun _ F4=>?_
  clear F3
  refine fr2 F4 28 (.int .i64 (l.length:Nat)) W1 rfl (by decide) ?_ fun _ F5=>?_
  ·have e27:=F4.kn 27 _ rfl;go_wp2;exact ⟨_,rfl,rfl,rfl⟩
  clear F4
  refine fr2 F5 29 (.bool true) W1 rfl (by decide) ?_ fun _ F6=>?_
  ·have e28:=F5.kn 28 _ rfl;go_wp2;exact ⟨_,rfl,rfl,rfl⟩
  clear F5
  refine fr_mv F6 29 30 (.inl rfl) rfl rfl (by decide) rfl fun _ F7=>?_
  clear F6
  refine fr2 F7 31 (undef) W1 rfl (by decide) ?_ fun _ F8=>?_
  ·have e30:=F7.kn 30 _ rfl;go_wp2;exact ⟨_,rfl,rfl,rfl⟩
  clear F7
  refine fr2 F8 32 (undef) W1 rfl (by decide) ?_ fun _ F9=>?_
  ·have e30:=F8.kn 30 _ rfl;go_wp2;exact ⟨_,rfl,rfl,rfl⟩
  clear F8
  refine fr2 F9 33 (undef) W1 rfl (by decide) ?_ fun _ F10=>?_
  ·have e30:=F9.kn 30 _ rfl;go_wp2;exact ⟨_,rfl,rfl,rfl⟩
  clear F9
  refine fr2 F10 34 (.bool true) W1 rfl (by decide) ?_ fun _ F11=>?_
  ·have e30:=F10.kn 30 _ rfl;have e33:=F10.kn 33 _ rfl;go_wp2;exact ⟨_,rfl,rfl,rfl⟩
  clear F10
  refine fr_end ?_
  go_upto_if 34 with fail
  refine wp_cond_true (F11.ev (t:=34) rfl) ?_
  go_upto_region 4 with fail
  refine fr_region ?_
  refine fr_as F11 6 (.inr rfl) rfl rfl (by decide) fun _ F12=>?_
  clear F11
  refine fr_end ?_
  go_wp2
  exact bodyPost_ret (v:=.bool true) (results_t1 rfl (F12.gd (t:=6) rfl)) F12.defers ⟨rfl,HX.out⟩
 have hl':¬ (200:Int)<(l.length:Int):=by omega
 by_cases hs:50<s.length
 ·have hs':(50:Int)<(s.length:Int):=by omega
  go_upto_if 26 with fail
  refine wp_cond_false (F3.ev (t:=26) rfl) ?_
  go_upto_region 3 with fail
  refine fr_region ?_
  refine fr_mv F3 0 27 (.inl rfl) rfl rfl (by decide) rfl fun _ F4=>?_
  clear F3
  refine fr2 F4 28 (.int .i64 (l.length:Nat)) W1 rfl (by decide) ?_ fun _ F5=>?_
  ·have e27:=F4.kn 27 _ rfl;go_wp2;exact ⟨_,rfl,rfl,rfl⟩
  clear F4
  refine fr2 F5 29 (.bool false) W1 rfl (by decide) ?_ fun _ F6=>?_
  ·have e28:=F5.kn 28 _ rfl;go_wp2;exact ⟨_,rfl,rfl,rfl⟩
  clear F5
  refine fr_mv F6 29 30 (.inl rfl) rfl rfl (by decide) rfl fun _ F7=>?_
  clear F6
  refine fr2 F7 31 (.string ⟨s.toArray⟩) W1 rfl (by decide) ?_ fun _ F8=>?_
  ·have e2:=F7.kn 2 _ rfl;have e30:=F7.kn 30 _ rfl;go_wp2;exact ⟨_,rfl,rfl,rfl⟩
  clear F7
  refine fr2 F8 32 (.int .i64 (s.length:Nat)) W1 rfl (by decide) ?_ fun _ F9=>?_
  ·have e31:=F8.kn 31 _ rfl;have e30:=F8.kn 30 _ rfl;go_wp2;exact ⟨_,rfl,rfl,rfl⟩
  clear F8
  refine fr2 F9 33 (.bool true) W1 rfl (by decide) ?_ fun _ F10=>?_
  ·have e32:=F9.kn 32 _ rfl;have e30:=F9.kn 30 _ rfl;go_wp2;exact ⟨_,rfl,rfl,rfl⟩
  clear F9
  refine fr2 F10 34 (.bool true) W1 rfl (by decide) ?_ fun _ F11=>?_
  ·have e30:=F10.kn 30 _ rfl;have e33:=F10.kn 33 _ rfl;go_wp2;exact ⟨_,rfl,rfl,rfl⟩
  clear F10
  refine fr_end ?_
  go_upto_if 34 with fail
  refine wp_cond_true (F11.ev (t:=34) rfl) ?_
  go_upto_region 4 with fail
  refine fr_region ?_
  refine fr_as F11 6 (.inr rfl) rfl rfl (by decide) fun _ F12=>?_
  clear F11
  refine fr_end ?_
  go_wp2
  exact bodyPost_ret (v:=.bool true) (results_t1 rfl (F12.gd (t:=6) rfl)) F12.defers ⟨rfl,HX.out⟩
 have hs':¬ (50:Int)<(s.length:Int):=by omega
 go_upto_if 26 with fail
 refine wp_cond_false (F3.ev (t:=26) rfl) ?_
 go_upto_region 3 with fail
 refine fr_region ?_
 refine fr_mv F3 0 27 (.inl rfl) rfl rfl (by decide) rfl fun _ F4=>?_
 clear F3
 refine fr2 F4 28 (.int .i64 (l.length:Nat)) W1 rfl (by decide) ?_ fun _ F5=>?_
 ·have e27:=F4.kn 27 _ rfl;go_wp2;exact ⟨_,rfl,rfl,rfl⟩
 clear F4
 refine fr2 F5 29 (.bool false) W1 rfl (by decide) ?_ fun _ F6=>?_
 ·have e28:=F5.kn 28 _ rfl;go_wp2;exact ⟨_,rfl,rfl,rfl⟩
 clear F5
 refine fr_mv F6 29 30 (.inl rfl) rfl rfl (by decide) rfl fun _ F7=>?_
 clear F6
 refine fr2 F7 31 (.string ⟨s.toArray⟩) W1 rfl (by decide) ?_ fun _ F8=>?_
 ·have e2:=F7.kn 2 _ rfl;have e30:=F7.kn 30 _ rfl;go_wp2;exact ⟨_,rfl,rfl,rfl⟩
 clear F7
 refine fr2 F8 32 (.int .i64 (s.length:Nat)) W1 rfl (by decide) ?_ fun _ F9=>?_
 ·have e31:=F8.kn 31 _ rfl;have e30:=F8.kn 30 _ rfl;go_wp2;exact ⟨_,rfl,rfl,rfl⟩
 clear F8
 refine fr2 F9 33 (.bool false) W1 rfl (by decide) ?_ fun _ F10=>?_
 ·have e32:=F9.kn 32 _ rfl;have e30:=F9.kn 30 _ rfl;go_wp2;exact ⟨_,rfl,rfl,rfl⟩
 clear F9
 refine fr2 F10 34 (.bool false) W1 rfl (by decide) ?_ fun _ F11=>?_
 ·have e30:=F10.kn 30 _ rfl;have e33:=F10.kn 33 _ rfl;go_wp2;exact ⟨_,rfl,rfl,rfl⟩
 clear F10
 refine fr_end ?_
 have HL:=Lib.hid (show l.length≤10000 by omega)
 clear hl hs hl' hs'
 go_upto_if 34 with fail
 refine wp_cond_false (F11.ev (t:=34) rfl) ?_
 go_upto_region 5 with fail
 refine fr_region ?_
 refine fr_mv F11 0 36 (.inl rfl) rfl rfl (by decide) rfl fun _ F12=>?_
 clear F11
 refine fr_op F12 37 rfl (by decide) (RA E W1 (plainG l)) ?_ ?_
 ·have e36:=F12.kn 36 _ rfl
  go_wp2_with (go_at_call 5;refine (glPlain E l HL.out _ ⟨(HE.out.keep HX.out).some _,HT.out.keep HX.out⟩).mono ?_;rintro e w9 h9;obtain ⟨v9,rfl,hv9⟩:=ra_of h9 (fun k hk=>plainG_err hk))
  exact ⟨_,rfl,hv9⟩
 rintro a13 _ W2 ⟨ka,ma,za,pa,Ba,na,ca,ea,rfl,hx,hv,hn⟩ F13
 clear F12
 replace HX:=Lib.hid (HX.out.trans hx)
 have HVa:=Lib.hid hv
 have HNa:=Lib.hid hn
 clear hx hv hn
 refine fr_mv F13 37 35 (.inl rfl) rfl rfl (by decide) rfl fun _ F14=>?_
 clear F13
 refine fr2 F14 38 (.agg (nodeC ka ma za pa Ba na ca).toArray) W2 rfl (by decide) ?_ fun _ F15=>?_
 ·have e35:=F14.kn 35 _ rfl;go_wp2;exact ⟨_,rfl,rfl,rfl⟩
 clear F14
 refine fr2 F15 39 (ea) W2 rfl (by decide) ?_ fun _ F16=>?_
 ·have e35:=F15.kn 35 _ rfl;go_wp2;exact ⟨_,rfl,rfl,rfl⟩
 clear F15
 refine fr_op F16 7 rfl (by decide) (At2 (.pointer (some ⟨W2.heap.size,0,none⟩)) (W2.alloc (.cells zN.toArray 28))) ?_ ?_
 ·go_wp2
  exact ⟨_,rfl,rfl,rfl⟩
 rintro a17 _ _ ⟨rfl,rfl⟩ F17
 clear F16
 refine fr_op0 F17 rfl (fun w'=>Ext W2 w' ∧ NodeB w' W2.heap.size ka ma za pa Ba na ca) ?_ ?_
 ·have e7:=F17.kn 7 _ rfl
  have e38:=F17.kn 38 _ rfl
  refine store_nd rfl (.tmp 7) (.tmp 38) rfl (g:=W2.heap.size) (nodeC ka ma za pa Ba na ca) (F17.ev (t:=7) rfl) (F17.ev (t:=38) rfl) (Blk.new W2 _ _) (by kernel_rfl) rfl rfl ?_
  exact ⟨_,rfl,Ext.row (Ext.new1 _ _) _ _ (Nat.le_refl _),Blk.row (Blk.new W2 _ _) _⟩
 rintro a18 W3 ⟨hx,hb⟩ F18
 clear F17
 refine fr_mv F18 39 8 (.inr rfl) rfl rfl (by decide) rfl fun _ F19=>?_
 clear F18
 refine fr_end ?_
 replace HX:=Lib.hid (HX.out.trans hx)
 replace HVa:=Lib.hid (HVa.out.keep hx)
 have HBa:=Lib.hid hb
 obtain ⟨ga,hga⟩:∃ g,W2.heap.size=g:=⟨_,rfl⟩
 rw [hga] at F19 HBa
 clear hx hb hga
 go_upto_region 6 with fail
 refine fr_region ?_
 refine fr_mv F19 0 41 (.inl rfl) rfl rfl (by decide) rfl fun _ F20=>?_
 clear F19
 refine fr_op F20 42 rfl (by decide) (RA E W3 (parseG l)) ?_ ?_
 ·have e41:=F20.kn 41 _ rfl
  go_wp2_with (go_at_call 6;refine (glParse E l HL.out _ ⟨(HE.out.keep HX.out).some _,HT.out.keep HX.out⟩).mono ?_;rintro e w9 h9;obtain ⟨v9,rfl,hv9⟩:=ra_of h9 (fun k hk=>parseG_err hk))
  exact ⟨_,rfl,hv9⟩
 rintro a21 _ W4 ⟨kb,mb,zb,pb,Bb,nb,cb,eb,rfl,hx,hv,hn⟩ F21
 clear F20
 replace HX:=Lib.hid (HX.out.trans hx)
 replace HVa:=Lib.hid (HVa.out.keep hx)
 replace HBa:=Lib.hid (HBa.out.keep hx)
 have HVb:=Lib.hid hv
 have HNb:=Lib.hid hn
 clear hx hv hn
 refine fr_mv F21 42 40 (.inl rfl) rfl rfl (by decide) rfl fun _ F22=>?_
 clear F21
 refine fr2 F22 43 (.agg (nodeC kb mb zb pb Bb nb cb).toArray) W4 rfl (by decide) ?_ fun _ F23=>?_
 ·have e40:=F22.kn 40 _ rfl;go_wp2;exact ⟨_,rfl,rfl,rfl⟩
 clear F22
 refine fr2 F23 44 (eb) W4 rfl (by decide) ?_ fun _ F24=>?_
 ·have e40:=F23.kn 40 _ rfl;go_wp2;exact ⟨_,rfl,rfl,rfl⟩
 clear F23
 refine fr_op F24 9 rfl (by decide) (At2 (.pointer (some ⟨W4.heap.size,0,none⟩)) (W4.alloc (.cells zN.toArray 28))) ?_ ?_
 ·go_wp2
  exact ⟨_,rfl,rfl,rfl⟩
 rintro a25 _ _ ⟨rfl,rfl⟩ F25
 clear F24
 refine fr_op0 F25 rfl (fun w'=>Ext W4 w' ∧ NodeB w' W4.heap.size kb mb zb pb Bb nb cb) ?_ ?_
 ·have e9:=F25.kn 9 _ rfl
  have e43:=F25.kn 43 _ rfl
  refine store_nd rfl (.tmp 9) (.tmp 43) rfl (g:=W4.heap.size) (nodeC kb mb zb pb Bb nb cb) (F25.ev (t:=9) rfl) (F25.ev (t:=43) rfl) (Blk.new W4 _ _) (by kernel_rfl) rfl rfl ?_
  exact ⟨_,rfl,Ext.row (Ext.new1 _ _) _ _ (Nat.le_refl _),Blk.row (Blk.new W4 _ _) _⟩
 rintro a26 W5 ⟨hx,hb⟩ F26
 clear F25
 refine fr_mv F26 44 10 (.inr rfl) rfl rfl (by decide) rfl fun _ F27=>?_
 clear F26
 refine fr_end ?_
 replace HX:=Lib.hid (HX.out.trans hx)
 replace HVa:=Lib.hid (HVa.out.keep hx)
 replace HBa:=Lib.hid (HBa.out.keep hx)
 replace HVb:=Lib.hid (HVb.out.keep hx)
 have HBb:=Lib.hid hb
 obtain ⟨gb,hgb⟩:∃ g,W4.heap.size=g:=⟨_,rfl⟩
 rw [hgb] at F27 HBb
 clear hx hb hgb
 go_upto_region 7 with fail
 refine fr_region ?_
 refine fr_mv F27 1 46 (.inl rfl) rfl rfl (by decide) rfl fun _ F28=>?_
 clear F27
 refine fr_mv F28 0 47 (.inl rfl) rfl rfl (by decide) rfl fun _ F29=>?_
 clear F28
 refine fr_op F29 48 rfl (by decide) (RA E W5 (ofG kind l)) ?_ ?_
 ·have e46:=F29.kn 46 _ rfl
  have e47:=F29.kn 47 _ rfl
  go_wp2_with (go_at_call 7;refine (glOf E kind l HL.out _ ⟨(HE.out.keep HX.out).some _,HT.out.keep HX.out⟩ ((HE.out.keep HX.out).some [8])).mono ?_;rintro e w9 h9;obtain ⟨v9,rfl,hv9⟩:=ra_of h9 (fun k hk=>ofG_err hk))
  exact ⟨_,rfl,hv9⟩
 rintro a30 _ W6 ⟨kc,mc,zc,pc,Bc,nc,cc,ec,rfl,hx,hv,hn⟩ F30
 clear F29
 replace HX:=Lib.hid (HX.out.trans hx)
 replace HVa:=Lib.hid (HVa.out.keep hx)
 replace HBa:=Lib.hid (HBa.out.keep hx)
 replace HVb:=Lib.hid (HVb.out.keep hx)
 replace HBb:=Lib.hid (HBb.out.keep hx)
 have HVc:=Lib.hid hv
 have HNc:=Lib.hid hn
 clear hx hv hn
 refine fr_mv F30 48 45 (.inl rfl) rfl rfl (by decide) rfl fun _ F31=>?_
 clear F30
 refine fr2 F31 49 (.agg (nodeC kc mc zc pc Bc nc cc).toArray) W6 rfl (by decide) ?_ fun _ F32=>?_
 ·have e45:=F31.kn 45 _ rfl;go_wp2;exact ⟨_,rfl,rfl,rfl⟩
 clear F31
 refine fr2 F32 50 (ec) W6 rfl (by decide) ?_ fun _ F33=>?_
 ·have e45:=F32.kn 45 _ rfl;go_wp2;exact ⟨_,rfl,rfl,rfl⟩
 clear F32
 refine fr_op F33 11 rfl (by decide) (At2 (.pointer (some ⟨W6.heap.size,0,none⟩)) (W6.alloc (.cells zN.toArray 28))) ?_ ?_
 ·go_wp2
  exact ⟨_,rfl,rfl,rfl⟩
 rintro a34 _ _ ⟨rfl,rfl⟩ F34
 clear F33
 refine fr_op0 F34 rfl (fun w'=>Ext W6 w' ∧ NodeB w' W6.heap.size kc mc zc pc Bc nc cc) ?_ ?_
 ·have e11:=F34.kn 11 _ rfl
  have e49:=F34.kn 49 _ rfl
  refine store_nd rfl (.tmp 11) (.tmp 49) rfl (g:=W6.heap.size) (nodeC kc mc zc pc Bc nc cc) (F34.ev (t:=11) rfl) (F34.ev (t:=49) rfl) (Blk.new W6 _ _) (by kernel_rfl) rfl rfl ?_
  exact ⟨_,rfl,Ext.row (Ext.new1 _ _) _ _ (Nat.le_refl _),Blk.row (Blk.new W6 _ _) _⟩
 rintro a35 W7 ⟨hx,hb⟩ F35
 clear F34
 refine fr_mv F35 50 12 (.inr rfl) rfl rfl (by decide) rfl fun _ F36=>?_
 clear F35
 refine fr_end ?_
 replace HX:=Lib.hid (HX.out.trans hx)
 replace HVa:=Lib.hid (HVa.out.keep hx)
 replace HBa:=Lib.hid (HBa.out.keep hx)
 replace HVb:=Lib.hid (HVb.out.keep hx)
 replace HBb:=Lib.hid (HBb.out.keep hx)
 replace HVc:=Lib.hid (HVc.out.keep hx)
 have HBc:=Lib.hid hb
 obtain ⟨gc,hgc⟩:∃ g,W6.heap.size=g:=⟨_,rfl⟩
 rw [hgc] at F36 HBc
 clear hx hb hgc
 go_upto_region 8 with fail
 refine fr_region ?_
 refine fr_mv F36 0 52 (.inl rfl) rfl rfl (by decide) rfl fun _ F37=>?_
 clear F36
 refine fr_op F37 53 rfl (by decide) (DA W7 (plainG l)) ?_ ?_
 ·have e52:=F37.kn 52 _ rfl
  go_wp2_with (go_at_call 8;refine (refPlain24 l _).mono ?_;rintro e w9 h9;obtain ⟨v9,rfl,hv9⟩:=da_of h9)
  exact ⟨_,rfl,hv9⟩
 rintro a38 _ W8 ⟨kd,md,zd,pd,Bd,nd,cd,rfl,hx,hv⟩ F38
 clear F37
 replace HX:=Lib.hid (HX.out.trans hx)
 replace HVa:=Lib.hid (HVa.out.keep hx)
 replace HBa:=Lib.hid (HBa.out.keep hx)
 replace HVb:=Lib.hid (HVb.out.keep hx)
 replace HBb:=Lib.hid (HBb.out.keep hx)
 replace HVc:=Lib.hid (HVc.out.keep hx)
 replace HBc:=Lib.hid (HBc.out.keep hx)
 have HDd:=Lib.hid hv
 clear hx hv
 refine fr_mv F38 53 51 (.inl rfl) rfl rfl (by decide) rfl fun _ F39=>?_
 clear F38
 refine fr2 F39 54 (.agg (dnC kd md zd pd Bd nd cd).toArray) W8 rfl (by decide) ?_ fun _ F40=>?_
 ·have e51:=F39.kn 51 _ rfl;go_wp2;exact ⟨_,rfl,rfl,rfl⟩
 clear F39
 refine fr2 F40 55 (.int .i64 (kOf (plainG l):Nat)) W8 rfl (by decide) ?_ fun _ F41=>?_
 ·have e51:=F40.kn 51 _ rfl;go_wp2;exact ⟨_,rfl,rfl,rfl⟩
 clear F40
 refine fr_op F41 13 rfl (by decide) (At2 (.pointer (some ⟨W8.heap.size,0,none⟩)) (W8.alloc (.cells Tryz.zeroCells38 38))) ?_ ?_
 ·go_wp2
  exact ⟨_,rfl,rfl,rfl⟩
 rintro a42 _ _ ⟨rfl,rfl⟩ F42
 clear F41
 refine fr_op0 F42 rfl (fun w'=>Ext W8 w' ∧ Blk w' W8.heap.size 38 (dnC kd md zd pd Bd nd cd)) ?_ ?_
 ·have e13:=F42.kn 13 _ rfl
  have e54:=F42.kn 54 _ rfl
  refine store_dn_new rfl (.tmp 13) (.tmp 54) rfl (F42.ev (t:=13) rfl) (F42.ev (t:=54) rfl) zsize40 ?_
  exact ⟨_,rfl,Ext.new1 _ _,Blk.newL _ _ _⟩
 rintro a43 W9 ⟨hx,hb⟩ F43
 clear F42
 refine fr_mv F43 55 14 (.inr rfl) rfl rfl (by decide) rfl fun _ F44=>?_
 clear F43
 refine fr_end ?_
 replace HX:=Lib.hid (HX.out.trans hx)
 replace HVa:=Lib.hid (HVa.out.keep hx)
 replace HBa:=Lib.hid (HBa.out.keep hx)
 replace HVb:=Lib.hid (HVb.out.keep hx)
 replace HBb:=Lib.hid (HBb.out.keep hx)
 replace HVc:=Lib.hid (HVc.out.keep hx)
 replace HBc:=Lib.hid (HBc.out.keep hx)
 replace HDd:=Lib.hid (HDd.out.keep hx)
 have HBd:=Lib.hid hb
 obtain ⟨gd,hgd⟩:∃ g,W8.heap.size=g:=⟨_,rfl⟩
 rw [hgd] at F44 HBd
 clear hx hb hgd
 go_upto_region 9 with fail
 refine fr_region ?_
 refine fr_mv F44 0 57 (.inl rfl) rfl rfl (by decide) rfl fun _ F45=>?_
 clear F44
 refine fr_op F45 58 rfl (by decide) (DA W9 (parseG l)) ?_ ?_
 ·have e57:=F45.kn 57 _ rfl
  go_wp2_with (go_at_call 9;refine (refParse24 l _).mono ?_;rintro e w9 h9;obtain ⟨v9,rfl,hv9⟩:=da_of h9)
  exact ⟨_,rfl,hv9⟩
 rintro a46 _ W10 ⟨kf,mf,zf,pf,Bf,nf,cf,rfl,hx,hv⟩ F46
 clear F45
 replace HX:=Lib.hid (HX.out.trans hx)
 replace HVa:=Lib.hid (HVa.out.keep hx)
 replace HBa:=Lib.hid (HBa.out.keep hx)
 replace HVb:=Lib.hid (HVb.out.keep hx)
 replace HBb:=Lib.hid (HBb.out.keep hx)
 replace HVc:=Lib.hid (HVc.out.keep hx)
 replace HBc:=Lib.hid (HBc.out.keep hx)
 replace HDd:=Lib.hid (HDd.out.keep hx)
 replace HBd:=Lib.hid (HBd.out.keep hx)
 have HDf:=Lib.hid hv
 clear hx hv
 refine fr_mv F46 58 56 (.inl rfl) rfl rfl (by decide) rfl fun _ F47=>?_
 clear F46
 refine fr2 F47 59 (.agg (dnC kf mf zf pf Bf nf cf).toArray) W10 rfl (by decide) ?_ fun _ F48=>?_
 ·have e56:=F47.kn 56 _ rfl;go_wp2;exact ⟨_,rfl,rfl,rfl⟩
 clear F47
 refine fr2 F48 60 (.int .i64 (kOf (parseG l):Nat)) W10 rfl (by decide) ?_ fun _ F49=>?_
 ·have e56:=F48.kn 56 _ rfl;go_wp2;exact ⟨_,rfl,rfl,rfl⟩
 clear F48
 refine fr_op F49 15 rfl (by decide) (At2 (.pointer (some ⟨W10.heap.size,0,none⟩)) (W10.alloc (.cells Tryz.zeroCells38 38))) ?_ ?_
 ·go_wp2
  exact ⟨_,rfl,rfl,rfl⟩
 rintro a50 _ _ ⟨rfl,rfl⟩ F50
 clear F49
 refine fr_op0 F50 rfl (fun w'=>Ext W10 w' ∧ Blk w' W10.heap.size 38 (dnC kf mf zf pf Bf nf cf)) ?_ ?_
 ·have e15:=F50.kn 15 _ rfl
  have e59:=F50.kn 59 _ rfl
  refine store_dn_new rfl (.tmp 15) (.tmp 59) rfl (F50.ev (t:=15) rfl) (F50.ev (t:=59) rfl) zsize40 ?_
  exact ⟨_,rfl,Ext.new1 _ _,Blk.newL _ _ _⟩
 rintro a51 W11 ⟨hx,hb⟩ F51
 clear F50
 refine fr_mv F51 60 16 (.inr rfl) rfl rfl (by decide) rfl fun _ F52=>?_
 clear F51
 refine fr_end ?_
 replace HX:=Lib.hid (HX.out.trans hx)
 replace HVa:=Lib.hid (HVa.out.keep hx)
 replace HBa:=Lib.hid (HBa.out.keep hx)
 replace HVb:=Lib.hid (HVb.out.keep hx)
 replace HBb:=Lib.hid (HBb.out.keep hx)
 replace HVc:=Lib.hid (HVc.out.keep hx)
 replace HBc:=Lib.hid (HBc.out.keep hx)
 replace HDd:=Lib.hid (HDd.out.keep hx)
 replace HBd:=Lib.hid (HBd.out.keep hx)
 replace HDf:=Lib.hid (HDf.out.keep hx)
 have HBf:=Lib.hid hb
 obtain ⟨gf,hgf⟩:∃ g,W10.heap.size=g:=⟨_,rfl⟩
 rw [hgf] at F52 HBf
 clear hx hb hgf
 go_upto_region 10 with fail
 refine fr_region ?_
 refine fr_mv F52 1 62 (.inl rfl) rfl rfl (by decide) rfl fun _ F53=>?_
 clear F52
 refine fr_mv F53 0 63 (.inl rfl) rfl rfl (by decide) rfl fun _ F54=>?_
 clear F53
 refine fr_op F54 64 rfl (by decide) (DA W11 (ofG kind l)) ?_ ?_
 ·have e62:=F54.kn 62 _ rfl
  have e63:=F54.kn 63 _ rfl
  go_wp2_with (go_at_call 10;refine (refOf24 kind l _).mono ?_;rintro e w9 h9;obtain ⟨v9,rfl,hv9⟩:=da_of h9)
  exact ⟨_,rfl,hv9⟩
 rintro a55 _ W12 ⟨kh,mh,zh,ph,Bh,nh,ch,rfl,hx,hv⟩ F55
 clear F54
 replace HX:=Lib.hid (HX.out.trans hx)
 replace HVa:=Lib.hid (HVa.out.keep hx)
 replace HBa:=Lib.hid (HBa.out.keep hx)
 replace HVb:=Lib.hid (HVb.out.keep hx)
 replace HBb:=Lib.hid (HBb.out.keep hx)
 replace HVc:=Lib.hid (HVc.out.keep hx)
 replace HBc:=Lib.hid (HBc.out.keep hx)
 replace HDd:=Lib.hid (HDd.out.keep hx)
 replace HBd:=Lib.hid (HBd.out.keep hx)
 replace HDf:=Lib.hid (HDf.out.keep hx)
 replace HBf:=Lib.hid (HBf.out.keep hx)
 have HDh:=Lib.hid hv
 clear hx hv
 refine fr_mv F55 64 61 (.inl rfl) rfl rfl (by decide) rfl fun _ F56=>?_
 clear F55
 refine fr2 F56 65 (.agg (dnC kh mh zh ph Bh nh ch).toArray) W12 rfl (by decide) ?_ fun _ F57=>?_
 ·have e61:=F56.kn 61 _ rfl;go_wp2;exact ⟨_,rfl,rfl,rfl⟩
 clear F56
 refine fr2 F57 66 (.int .i64 (kOf (ofG kind l):Nat)) W12 rfl (by decide) ?_ fun _ F58=>?_
 ·have e61:=F57.kn 61 _ rfl;go_wp2;exact ⟨_,rfl,rfl,rfl⟩
 clear F57
 refine fr_op F58 17 rfl (by decide) (At2 (.pointer (some ⟨W12.heap.size,0,none⟩)) (W12.alloc (.cells Tryz.zeroCells38 38))) ?_ ?_
 ·go_wp2
  exact ⟨_,rfl,rfl,rfl⟩
 rintro a59 _ _ ⟨rfl,rfl⟩ F59
 clear F58
 refine fr_op0 F59 rfl (fun w'=>Ext W12 w' ∧ Blk w' W12.heap.size 38 (dnC kh mh zh ph Bh nh ch)) ?_ ?_
 ·have e17:=F59.kn 17 _ rfl
  have e65:=F59.kn 65 _ rfl
  refine store_dn_new rfl (.tmp 17) (.tmp 65) rfl (F59.ev (t:=17) rfl) (F59.ev (t:=65) rfl) zsize40 ?_
  exact ⟨_,rfl,Ext.new1 _ _,Blk.newL _ _ _⟩
 rintro a60 W13 ⟨hx,hb⟩ F60
 clear F59
 refine fr_mv F60 66 18 (.inr rfl) rfl rfl (by decide) rfl fun _ F61=>?_
 clear F60
 refine fr_end ?_
 replace HX:=Lib.hid (HX.out.trans hx)
 replace HVa:=Lib.hid (HVa.out.keep hx)
 replace HBa:=Lib.hid (HBa.out.keep hx)
 replace HVb:=Lib.hid (HVb.out.keep hx)
 replace HBb:=Lib.hid (HBb.out.keep hx)
 replace HVc:=Lib.hid (HVc.out.keep hx)
 replace HBc:=Lib.hid (HBc.out.keep hx)
 replace HDd:=Lib.hid (HDd.out.keep hx)
 replace HBd:=Lib.hid (HBd.out.keep hx)
 replace HDf:=Lib.hid (HDf.out.keep hx)
 replace HBf:=Lib.hid (HBf.out.keep hx)
 replace HDh:=Lib.hid (HDh.out.keep hx)
 have HBh:=Lib.hid hb
 obtain ⟨gh,hgh⟩:∃ g,W12.heap.size=g:=⟨_,rfl⟩
 rw [hgh] at F61 HBh
 clear hx hb hgh
 go_upto_region 11 with fail
 refine fr_region ?_
 refine fr_mv F61 8 67 (.inl rfl) rfl rfl (by decide) rfl fun _ F62=>?_
 clear F61
 refine fr_op F62 68 rfl (by decide) (AtX (.int .i64 (kOf (plainG l):Nat)) W13) ?_ ?_
 ·have e67:=F62.kn 67 _ rfl
  go_wp2_with (go_at_call 11;refine (HNa.out _ (HE.out.keep HX.out)).mono ?_;rintro e w9 ⟨rfl,hx9⟩)
  exact ⟨_,rfl,rfl,hx9⟩
 rintro a63 _ W14 ⟨rfl,hx⟩ F63
 clear F62
 replace HX:=Lib.hid (HX.out.trans hx)
 replace HVa:=Lib.hid (HVa.out.keep hx)
 replace HBa:=Lib.hid (HBa.out.keep hx)
 replace HVb:=Lib.hid (HVb.out.keep hx)
 replace HBb:=Lib.hid (HBb.out.keep hx)
 replace HVc:=Lib.hid (HVc.out.keep hx)
 replace HBc:=Lib.hid (HBc.out.keep hx)
 replace HDd:=Lib.hid (HDd.out.keep hx)
 replace HBd:=Lib.hid (HBd.out.keep hx)
 replace HDf:=Lib.hid (HDf.out.keep hx)
 replace HBf:=Lib.hid (HBf.out.keep hx)
 replace HDh:=Lib.hid (HDh.out.keep hx)
 replace HBh:=Lib.hid (HBh.out.keep hx)
 clear hx
 refine fr_mv F63 14 69 (.inl rfl) rfl rfl (by decide) rfl fun _ F64=>?_
 clear F63
 refine fr2 F64 70 (.bool false) W14 rfl (by decide) ?_ fun _ F65=>?_
 ·have e68:=F64.kn 68 _ rfl;have e69:=F64.kn 69 _ rfl;go_wp2;exact ⟨_,rfl,rfl,rfl⟩
 clear F64
 refine fr_mv F65 70 71 (.inl rfl) rfl rfl (by decide) rfl fun _ F66=>?_
 clear F65
 refine fr2 F66 72 (eb) W14 rfl (by decide) ?_ fun _ F67=>?_
 ·have e10:=F66.kn 10 _ rfl;have e71:=F66.kn 71 _ rfl;go_wp2;exact ⟨_,rfl,rfl,rfl⟩
 clear F66
 refine fr_op F67 73 rfl (by decide) (AtX (.int .i64 (kOf (parseG l):Nat)) W14) ?_ ?_
 ·have e72:=F67.kn 72 _ rfl
  have e71:=F67.kn 71 _ rfl
  go_wp2_with (go_at_call 11;refine (HNb.out _ (HE.out.keep HX.out)).mono ?_;rintro e w9 ⟨rfl,hx9⟩)
  exact ⟨_,rfl,rfl,hx9⟩
 rintro a68 _ W15 ⟨rfl,hx⟩ F68
 clear F67
 replace HX:=Lib.hid (HX.out.trans hx)
 replace HVa:=Lib.hid (HVa.out.keep hx)
 replace HBa:=Lib.hid (HBa.out.keep hx)
 replace HVb:=Lib.hid (HVb.out.keep hx)
 replace HBb:=Lib.hid (HBb.out.keep hx)
 replace HVc:=Lib.hid (HVc.out.keep hx)
 replace HBc:=Lib.hid (HBc.out.keep hx)
 replace HDd:=Lib.hid (HDd.out.keep hx)
 replace HBd:=Lib.hid (HBd.out.keep hx)
 replace HDf:=Lib.hid (HDf.out.keep hx)
 replace HBf:=Lib.hid (HBf.out.keep hx)
 replace HDh:=Lib.hid (HDh.out.keep hx)
 replace HBh:=Lib.hid (HBh.out.keep hx)
 clear hx
 refine fr2 F68 74 (.int .i64 (kOf (parseG l):Nat)) W15 rfl (by decide) ?_ fun _ F69=>?_
 ·have e16:=F68.kn 16 _ rfl;have e71:=F68.kn 71 _ rfl;go_wp2;exact ⟨_,rfl,rfl,rfl⟩
 clear F68
 refine fr2 F69 75 (.bool false) W15 rfl (by decide) ?_ fun _ F70=>?_
 ·have e73:=F69.kn 73 _ rfl;have e74:=F69.kn 74 _ rfl;have e71:=F69.kn 71 _ rfl;go_wp2;exact ⟨_,rfl,rfl,rfl⟩
 clear F69
 refine fr2 F70 76 (.bool false) W15 rfl (by decide) ?_ fun _ F71=>?_
 ·have e71:=F70.kn 71 _ rfl;have e75:=F70.kn 75 _ rfl;go_wp2;exact ⟨_,rfl,rfl,rfl⟩
 clear F70
 refine fr_mv F71 76 77 (.inl rfl) rfl rfl (by decide) rfl fun _ F72=>?_
 clear F71
 refine fr2 F72 78 (ec) W15 rfl (by decide) ?_ fun _ F73=>?_
 ·have e12:=F72.kn 12 _ rfl;have e77:=F72.kn 77 _ rfl;go_wp2;exact ⟨_,rfl,rfl,rfl⟩
 clear F72
 refine fr_op F73 79 rfl (by decide) (AtX (.int .i64 (kOf (ofG kind l):Nat)) W15) ?_ ?_
 ·have e78:=F73.kn 78 _ rfl
  have e77:=F73.kn 77 _ rfl
  go_wp2_with (go_at_call 11;refine (HNc.out _ (HE.out.keep HX.out)).mono ?_;rintro e w9 ⟨rfl,hx9⟩)
  exact ⟨_,rfl,rfl,hx9⟩
 rintro a74 _ W16 ⟨rfl,hx⟩ F74
 clear F73
 replace HX:=Lib.hid (HX.out.trans hx)
 replace HVa:=Lib.hid (HVa.out.keep hx)
 replace HBa:=Lib.hid (HBa.out.keep hx)
 replace HVb:=Lib.hid (HVb.out.keep hx)
 replace HBb:=Lib.hid (HBb.out.keep hx)
 replace HVc:=Lib.hid (HVc.out.keep hx)
 replace HBc:=Lib.hid (HBc.out.keep hx)
 replace HDd:=Lib.hid (HDd.out.keep hx)
 replace HBd:=Lib.hid (HBd.out.keep hx)
 replace HDf:=Lib.hid (HDf.out.keep hx)
 replace HBf:=Lib.hid (HBf.out.keep hx)
 replace HDh:=Lib.hid (HDh.out.keep hx)
 replace HBh:=Lib.hid (HBh.out.keep hx)
 clear hx
 refine fr2 F74 80 (.int .i64 (kOf (ofG kind l):Nat)) W16 rfl (by decide) ?_ fun _ F75=>?_
 ·have e18:=F74.kn 18 _ rfl;have e77:=F74.kn 77 _ rfl;go_wp2;exact ⟨_,rfl,rfl,rfl⟩
 clear F74
 refine fr2 F75 81 (.bool false) W16 rfl (by decide) ?_ fun _ F76=>?_
 ·have e79:=F75.kn 79 _ rfl;have e80:=F75.kn 80 _ rfl;have e77:=F75.kn 77 _ rfl;go_wp2;exact ⟨_,rfl,rfl,rfl⟩
 clear F75
 refine fr2 F76 82 (.bool false) W16 rfl (by decide) ?_ fun _ F77=>?_
 ·have e77:=F76.kn 77 _ rfl;have e81:=F76.kn 81 _ rfl;go_wp2;exact ⟨_,rfl,rfl,rfl⟩
 clear F76
 refine fr_end ?_
 go_upto_if 82 with fail
 refine wp_cond_false (F77.ev (t:=82) rfl) ?_
 go_upto_region 13 with fail
 have HSa:=Lib.hid (tOf_size (r:=plainG l) (fun t i gr h=>Nat.le_trans (plain_size h) (by omega)))
 have HSb:=Lib.hid (tOf_size (r:=parseG l) (fun t i gr h=>Nat.le_trans (parse_size h) (by omega)))
 have HSc:=Lib.hid (tOf_size (r:=ofG kind l) (fun t i gr h=>of_size h))
 refine wp_region_dagE (w:=W16) (fun f w9=>TS W16 (tOf (plainG l)) (tOf (parseG l)) (tOf (ofG kind l)) (f 1) (f 7) (f 14) w9) (fun iq v=>match iq with | 0=>v=.agg #[.int .i64 ka,.int .i64 ma,.bool za,.int .u64 (wd pa 0:Nat),.int .u64 (wd pa 1:Nat),.int .u64 (wd pa 2:Nat),.int .u64 (wd pa 3:Nat),.slice Ba na ca] | 1=>True | 2=>v=.agg (dnC kd md zd pd Bd nd cd).toArray | 3=>v=.bool true | 4=>v=.bool false | 5=>v=.bool false | 6=>v=.agg #[.int .i64 kb,.int .i64 mb,.bool zb,.int .u64 (wd pb 0:Nat),.int .u64 (wd pb 1:Nat),.int .u64 (wd pb 2:Nat),.int .u64 (wd pb 3:Nat),.slice Bb nb cb] | 7=>True | 8=>v=.agg (dnC kf mf zf pf Bf nf cf).toArray | 9=>v=.bool true | 10=>v=.bool false | 11=>v=.bool false | 12=>v=.bool false | 13=>v=.agg #[.int .i64 kc,.int .i64 mc,.bool zc,.int .u64 (wd pc 0:Nat),.int .u64 (wd pc 1:Nat),.int .u64 (wd pc 2:Nat),.int .u64 (wd pc 3:Nat),.slice Bc nc cc] | 14=>True | 15=>v=.agg (dnC kh mh zh ph Bh nh ch).toArray | 16=>v=.bool true | 17=>v=.bool false | 18=>v=.bool false | _=>True) (show Tryz.prog.follows .mixedOrders=true from Checked.mixed Tryz.checked) 147 F77.size (by decide +kernel) (⟨(Below.refl _ _).drew,fun v h=>(by cases h),fun v h=>(by cases h),fun v h=>(by cases h)⟩) ⟨?_,?_,?_,?_,?_,?_,?_,?_,?_,?_,?_,?_,?_,?_,?_,?_,?_,?_,?_,trivial⟩ ?_
 ·intro f ac wx hS hfi hon hoff hsz hdf h
  have e7:ac.tmps[7]?=some (.pointer (some ⟨ga,0,none⟩)):=by obtain ⟨v,h1,h2⟩:=h 7 (by decide +kernel);exact h1.trans (h2.symm.trans (F77.kn 7 _ rfl))
  clear h hsz hdf hon hoff
  obtain ⟨y0,y1,y2,y3,y4,y5,y6,y7⟩:=NodeB.cells (HBa.out.keep hS.ext)
  go_wp2
  exact ⟨_,rfl,rfl,hS⟩
 ·intro f ac wx hS hfi hon hoff hsz hdf h
  have e83:ac.tmps[83]?=some (.agg #[.int .i64 ka,.int .i64 ma,.bool za,.int .u64 (wd pa 0:Nat),.int .u64 (wd pa 1:Nat),.int .u64 (wd pa 2:Nat),.int .u64 (wd pa 3:Nat),.slice Ba na ca]):=by obtain ⟨v,h1,h2,h3⟩:=h 83 (by decide +kernel);rw [h1];exact congrArg some h3
  clear h hsz hdf hon hoff
  go_wp2_with (go_at_call 13;refine (lawOf _ (tOf (plainG l)) (Nat.le_refl _) HSa.out _ _ (nodeC ka ma za pa Ba na ca) (HVa.out.keep hS.ext)).mono ?_;rintro e w9 ⟨lo,rfl,hlo,hx9⟩)
  first | exact ⟨_,rfl,trivial,hS.doA hx9 ⟨lo,rfl,hlo.mono (fun _ _ _=>trivial)⟩⟩ | exact ⟨_,rfl,hS.doA hx9 ⟨lo,rfl,hlo.mono (fun _ _ _=>trivial)⟩⟩
 ·intro f ac wx hS hfi hon hoff hsz hdf h
  have e13:ac.tmps[13]?=some (.pointer (some ⟨gd,0,none⟩)):=by obtain ⟨v,h1,h2⟩:=h 13 (by decide +kernel);exact h1.trans (h2.symm.trans (F77.kn 13 _ rfl))
  clear h hsz hdf hon hoff
  refine load_dn rfl (.tmp 13) rfl (g:=gd) (by simp [Act.eval,e13]) (HBd.out.keep hS.ext) ?_
  go_wp2
  exact ⟨_,rfl,rfl,hS⟩
 ·intro f ac wx hS hfi hon hoff hsz hdf h
  obtain ⟨v84,e84,f84⟩:∃ v,ac.tmps[84]?=some v∧f 1=some v:=by obtain ⟨v,h1,h2,h3⟩:=h 84 (by decide +kernel);exact ⟨v,h1,h2⟩
  have e85:ac.tmps[85]?=some (.agg (dnC kd md zd pd Bd nd cd).toArray):=by obtain ⟨v,h1,h2,h3⟩:=h 85 (by decide +kernel);rw [h1];exact congrArg some h3
  clear h hsz hdf hon hoff
  obtain ⟨lo,rfl,hlo⟩:=hS.a _ f84
  go_wp2_with (go_at_call 12;refine (refSameT _ (tOf (plainG l)) (Nat.le_refl _) (tOf (plainG l)) _ _ _ lo (dnC kd md zd pd Bd nd cd) hlo (HDd.out.keep hS.ext)).mono ?_;rintro e w9 ⟨rfl,hx9⟩;rw [same_self])
  exact ⟨_,rfl,rfl,hS.keep hx9⟩
 ·intro f ac wx hS hfi hon hoff hsz hdf h
  have e86:ac.tmps[86]?=some (.bool true):=by obtain ⟨v,h1,h2,h3⟩:=h 86 (by decide +kernel);rw [h1];exact congrArg some h3
  clear h hsz hdf hon hoff
  go_wp2
  exact ⟨_,rfl,rfl,hS⟩
 ·intro f ac wx hS hfi hon hoff hsz hdf h
  have e87:ac.tmps[87]?=some (.bool false):=by obtain ⟨v,h1,h2,h3⟩:=h 87 (by decide +kernel);rw [h1];exact congrArg some h3
  clear h hsz hdf hon hoff
  go_wp2
  exact ⟨_,rfl,rfl,hS⟩
 ·intro f ac wx hS hfi hon hoff hsz hdf h
  have e9:ac.tmps[9]?=some (.pointer (some ⟨gb,0,none⟩)):=by obtain ⟨v,h1,h2⟩:=h 9 (by decide +kernel);exact h1.trans (h2.symm.trans (F77.kn 9 _ rfl))
  have e88:ac.tmps[88]?=some (.bool false):=by obtain ⟨v,h1,h2,h3⟩:=h 88 (by decide +kernel);rw [h1];exact congrArg some h3
  clear h hsz hdf hon hoff
  obtain ⟨y0,y1,y2,y3,y4,y5,y6,y7⟩:=NodeB.cells (HBb.out.keep hS.ext)
  go_wp2
  exact ⟨_,rfl,rfl,hS⟩
 ·intro f ac wx hS hfi hon hoff hsz hdf h
  have e89:ac.tmps[89]?=some (.agg #[.int .i64 kb,.int .i64 mb,.bool zb,.int .u64 (wd pb 0:Nat),.int .u64 (wd pb 1:Nat),.int .u64 (wd pb 2:Nat),.int .u64 (wd pb 3:Nat),.slice Bb nb cb]):=by obtain ⟨v,h1,h2,h3⟩:=h 89 (by decide +kernel);rw [h1];exact congrArg some h3
  have e88:ac.tmps[88]?=some (.bool false):=by obtain ⟨v,h1,h2,h3⟩:=h 88 (by decide +kernel);rw [h1];exact congrArg some h3
  clear h hsz hdf hon hoff
  go_wp2_with (go_at_call 13;refine (lawOf _ (tOf (parseG l)) (Nat.le_refl _) HSb.out _ _ (nodeC kb mb zb pb Bb nb cb) (HVb.out.keep hS.ext)).mono ?_;rintro e w9 ⟨lo,rfl,hlo,hx9⟩)
  first | exact ⟨_,rfl,trivial,hS.doB hx9 ⟨lo,rfl,hlo.mono (fun _ _ _=>trivial)⟩⟩ | exact ⟨_,rfl,hS.doB hx9 ⟨lo,rfl,hlo.mono (fun _ _ _=>trivial)⟩⟩
 ·intro f ac wx hS hfi hon hoff hsz hdf h
  have e15:ac.tmps[15]?=some (.pointer (some ⟨gf,0,none⟩)):=by obtain ⟨v,h1,h2⟩:=h 15 (by decide +kernel);exact h1.trans (h2.symm.trans (F77.kn 15 _ rfl))
  have e88:ac.tmps[88]?=some (.bool false):=by obtain ⟨v,h1,h2,h3⟩:=h 88 (by decide +kernel);rw [h1];exact congrArg some h3
  clear h hsz hdf hon hoff
  refine load_dnH (d:=88) rfl rfl e88 (.tmp 15) rfl (g:=gf) (by simp [Act.eval,e15]) (HBf.out.keep hS.ext) ?_
  go_wp2
  exact ⟨_,rfl,rfl,hS⟩
 ·intro f ac wx hS hfi hon hoff hsz hdf h
  obtain ⟨v90,e90,f90⟩:∃ v,ac.tmps[90]?=some v∧f 7=some v:=by obtain ⟨v,h1,h2,h3⟩:=h 90 (by decide +kernel);exact ⟨v,h1,h2⟩
  have e91:ac.tmps[91]?=some (.agg (dnC kf mf zf pf Bf nf cf).toArray):=by obtain ⟨v,h1,h2,h3⟩:=h 91 (by decide +kernel);rw [h1];exact congrArg some h3
  have e88:ac.tmps[88]?=some (.bool false):=by obtain ⟨v,h1,h2,h3⟩:=h 88 (by decide +kernel);rw [h1];exact congrArg some h3
  clear h hsz hdf hon hoff
  obtain ⟨lo,rfl,hlo⟩:=hS.b _ f90
  go_wp2_with (go_at_call 12;refine (refSameT _ (tOf (parseG l)) (Nat.le_refl _) (tOf (parseG l)) _ _ _ lo (dnC kf mf zf pf Bf nf cf) hlo (HDf.out.keep hS.ext)).mono ?_;rintro e w9 ⟨rfl,hx9⟩;rw [same_self])
  exact ⟨_,rfl,rfl,hS.keep hx9⟩
 ·intro f ac wx hS hfi hon hoff hsz hdf h
  have e92:ac.tmps[92]?=some (.bool true):=by obtain ⟨v,h1,h2,h3⟩:=h 92 (by decide +kernel);rw [h1];exact congrArg some h3
  have e88:ac.tmps[88]?=some (.bool false):=by obtain ⟨v,h1,h2,h3⟩:=h 88 (by decide +kernel);rw [h1];exact congrArg some h3
  clear h hsz hdf hon hoff
  go_wp2
  exact ⟨_,rfl,rfl,hS⟩
 ·intro f ac wx hS hfi hon hoff hsz hdf h
  have e88:ac.tmps[88]?=some (.bool false):=by obtain ⟨v,h1,h2,h3⟩:=h 88 (by decide +kernel);rw [h1];exact congrArg some h3
  have e93:ac.tmps[93]?=some (.bool false):=by obtain ⟨v,h1,h2,h3⟩:=h 93 (by decide +kernel);rw [h1];exact congrArg some h3
  clear h hsz hdf hon hoff
  go_wp2
  exact ⟨_,rfl,rfl,hS⟩
 ·intro f ac wx hS hfi hon hoff hsz hdf h
  have e94:ac.tmps[94]?=some (.bool false):=by obtain ⟨v,h1,h2,h3⟩:=h 94 (by decide +kernel);rw [h1];exact congrArg some h3
  clear h hsz hdf hon hoff
  go_wp2
  exact ⟨_,rfl,rfl,hS⟩
 ·intro f ac wx hS hfi hon hoff hsz hdf h
  have e11:ac.tmps[11]?=some (.pointer (some ⟨gc,0,none⟩)):=by obtain ⟨v,h1,h2⟩:=h 11 (by decide +kernel);exact h1.trans (h2.symm.trans (F77.kn 11 _ rfl))
  have e95:ac.tmps[95]?=some (.bool false):=by obtain ⟨v,h1,h2,h3⟩:=h 95 (by decide +kernel);rw [h1];exact congrArg some h3
  clear h hsz hdf hon hoff
  obtain ⟨y0,y1,y2,y3,y4,y5,y6,y7⟩:=NodeB.cells (HBc.out.keep hS.ext)
  go_wp2
  exact ⟨_,rfl,rfl,hS⟩
 ·intro f ac wx hS hfi hon hoff hsz hdf h
  have e96:ac.tmps[96]?=some (.agg #[.int .i64 kc,.int .i64 mc,.bool zc,.int .u64 (wd pc 0:Nat),.int .u64 (wd pc 1:Nat),.int .u64 (wd pc 2:Nat),.int .u64 (wd pc 3:Nat),.slice Bc nc cc]):=by obtain ⟨v,h1,h2,h3⟩:=h 96 (by decide +kernel);rw [h1];exact congrArg some h3
  have e95:ac.tmps[95]?=some (.bool false):=by obtain ⟨v,h1,h2,h3⟩:=h 95 (by decide +kernel);rw [h1];exact congrArg some h3
  clear h hsz hdf hon hoff
  go_wp2_with (go_at_call 13;refine (lawOf _ (tOf (ofG kind l)) (Nat.le_refl _) HSc.out _ _ (nodeC kc mc zc pc Bc nc cc) (HVc.out.keep hS.ext)).mono ?_;rintro e w9 ⟨lo,rfl,hlo,hx9⟩)
  first | exact ⟨_,rfl,trivial,hS.doC hx9 ⟨lo,rfl,hlo.mono (fun _ _ _=>trivial)⟩⟩ | exact ⟨_,rfl,hS.doC hx9 ⟨lo,rfl,hlo.mono (fun _ _ _=>trivial)⟩⟩
 ·intro f ac wx hS hfi hon hoff hsz hdf h
  have e17:ac.tmps[17]?=some (.pointer (some ⟨gh,0,none⟩)):=by obtain ⟨v,h1,h2⟩:=h 17 (by decide +kernel);exact h1.trans (h2.symm.trans (F77.kn 17 _ rfl))
  have e95:ac.tmps[95]?=some (.bool false):=by obtain ⟨v,h1,h2,h3⟩:=h 95 (by decide +kernel);rw [h1];exact congrArg some h3
  clear h hsz hdf hon hoff
  refine load_dnH (d:=95) rfl rfl e95 (.tmp 17) rfl (g:=gh) (by simp [Act.eval,e17]) (HBh.out.keep hS.ext) ?_
  go_wp2
  exact ⟨_,rfl,rfl,hS⟩
 ·intro f ac wx hS hfi hon hoff hsz hdf h
  obtain ⟨v97,e97,f97⟩:∃ v,ac.tmps[97]?=some v∧f 14=some v:=by obtain ⟨v,h1,h2,h3⟩:=h 97 (by decide +kernel);exact ⟨v,h1,h2⟩
  have e98:ac.tmps[98]?=some (.agg (dnC kh mh zh ph Bh nh ch).toArray):=by obtain ⟨v,h1,h2,h3⟩:=h 98 (by decide +kernel);rw [h1];exact congrArg some h3
  have e95:ac.tmps[95]?=some (.bool false):=by obtain ⟨v,h1,h2,h3⟩:=h 95 (by decide +kernel);rw [h1];exact congrArg some h3
  clear h hsz hdf hon hoff
  obtain ⟨lo,rfl,hlo⟩:=hS.c _ f97
  go_wp2_with (go_at_call 12;refine (refSameT _ (tOf (ofG kind l)) (Nat.le_refl _) (tOf (ofG kind l)) _ _ _ lo (dnC kh mh zh ph Bh nh ch) hlo (HDh.out.keep hS.ext)).mono ?_;rintro e w9 ⟨rfl,hx9⟩;rw [same_self])
  exact ⟨_,rfl,rfl,hS.keep hx9⟩
 ·intro f ac wx hS hfi hon hoff hsz hdf h
  have e99:ac.tmps[99]?=some (.bool true):=by obtain ⟨v,h1,h2,h3⟩:=h 99 (by decide +kernel);rw [h1];exact congrArg some h3
  have e95:ac.tmps[95]?=some (.bool false):=by obtain ⟨v,h1,h2,h3⟩:=h 95 (by decide +kernel);rw [h1];exact congrArg some h3
  clear h hsz hdf hon hoff
  go_wp2
  exact ⟨_,rfl,rfl,hS⟩
 ·intro f ac wx hS hfi hon hoff hsz hdf h
  have e95:ac.tmps[95]?=some (.bool false):=by obtain ⟨v,h1,h2,h3⟩:=h 95 (by decide +kernel);rw [h1];exact congrArg some h3
  have e100:ac.tmps[100]?=some (.bool false):=by obtain ⟨v,h1,h2,h3⟩:=h 100 (by decide +kernel);rw [h1];exact congrArg some h3
  clear h hsz hdf hon hoff
  go_wp2
  exact ⟨_,rfl,rfl,hS⟩
 intro f a78 w9 hS h hsz hdf hrest
 obtain ⟨v0,q0,s0,g0⟩:=h 0 _ rfl
 obtain ⟨v1,q1,s1,g1⟩:=h 1 _ rfl
 obtain ⟨v2,q2,s2,g2⟩:=h 2 _ rfl
 obtain ⟨v3,q3,s3,g3⟩:=h 3 _ rfl
 obtain ⟨v4,q4,s4,g4⟩:=h 4 _ rfl
 obtain ⟨v5,q5,s5,g5⟩:=h 5 _ rfl
 obtain ⟨v6,q6,s6,g6⟩:=h 6 _ rfl
 obtain ⟨v7,q7,s7,g7⟩:=h 7 _ rfl
 obtain ⟨v8,q8,s8,g8⟩:=h 8 _ rfl
 obtain ⟨v9,q9,s9,g9⟩:=h 9 _ rfl
 obtain ⟨v10,q10,s10,g10⟩:=h 10 _ rfl
 obtain ⟨v11,q11,s11,g11⟩:=h 11 _ rfl
 obtain ⟨v12,q12,s12,g12⟩:=h 12 _ rfl
 obtain ⟨v13,q13,s13,g13⟩:=h 13 _ rfl
 obtain ⟨v14,q14,s14,g14⟩:=h 14 _ rfl
 obtain ⟨v15,q15,s15,g15⟩:=h 15 _ rfl
 obtain ⟨v16,q16,s16,g16⟩:=h 16 _ rfl
 obtain ⟨v17,q17,s17,g17⟩:=h 17 _ rfl
 obtain ⟨v18,q18,s18,g18⟩:=h 18 _ rfl
 have F78:=(((((Fr.start (hsz.trans F77.size) (hdf.trans F77.defers)).cons (t:=0) (v:=.string ⟨l.toArray⟩) ((hrest 0 (by decide +kernel)).trans (F77.kn 0 _ rfl))).cons (t:=1) (v:=.int .i64 kind) ((hrest 1 (by decide +kernel)).trans (F77.kn 1 _ rfl))).cons (t:=2) (v:=.string ⟨s.toArray⟩) ((hrest 2 (by decide +kernel)).trans (F77.kn 2 _ rfl))).cons (t:=101) (v:=.bool false) ((g18 101 rfl).trans (congrArg some s18)))
 have HSX:=Lib.hid hS.ext
 clear h hrest hsz hdf hS q0 s0 g0 q1 s1 g1 q2 s2 g2 q3 s3 g3 q4 s4 g4 q5 s5 g5 q6 s6 g6 q7 s7 g7 q8 s8 g8 q9 s9 g9 q10 s10 g10 q11 s11 g11 q12 s12 g12 q13 s13 g13 q14 s14 g14 q15 s15 g15 q16 s16 g16 q17 s17 g17 q18 s18 g18 F77
 replace HX:=Lib.hid (HX.out.trans HSX.out)
 clear HSX
 go_upto_if 101 with fail
 refine wp_cond_false (F78.ev (t:=101) rfl) ?_
 go_upto_region 15 with fail
 refine fr_region ?_
 refine fr2 F78 19 (.string ⟨#[]⟩) w9 rfl (by decide) ?_ fun _ F79=>?_
 ·go_wp2;exact ⟨_,rfl,rfl,rfl⟩
 clear F78
 refine fr_as F79 20 (.inr rfl) rfl rfl (by decide) fun _ F80=>?_
 clear F79
 refine fr_end ?_
 go_upto_region 16 with fail
 refine fr_region ?_
 refine fr_op F80 102 rfl (by decide) (fun v w'=>v=.slice (some ⟨w9.heap.size,0,none⟩) 3 3∧Ext w9 w' ∧ Blk w' w9.heap.size 9 [.string ⟨#[101,120,97,99,116]⟩,.string ⟨#[103,108,111,98]⟩,.string ⟨#[114,101,103,101,120]⟩]) ?_ ?_
 ·go_wp2
  exact ⟨_,rfl,rfl,Ext.new1 _ _,Blk.newL _ _ _⟩
 rintro a81 _ WL ⟨rfl,hxl,hbl⟩ F81
 clear F80
 refine fr2 F81 103 (.int .i64 3) WL rfl (by decide) ?_ fun _ F82=>?_
 ·have e102:=F81.kn 102 _ rfl;go_wp2;exact ⟨_,rfl,rfl,rfl⟩
 clear F81
 refine fr2 F82 104 (.int .i64 (0:Nat)) WL rfl (by decide) ?_ fun _ F83=>?_
 ·go_wp2;exact ⟨_,rfl,rfl,rfl⟩
 clear F82
 refine fr_end ?_
 replace HX:=Lib.hid (HX.out.trans hxl)
 obtain ⟨gs,hgs⟩:∃ g,w9.heap.size=g:=⟨_,rfl⟩
 rw [hgs] at F83 hbl
 have HBL:=Lib.hid hbl
 clear hxl hbl hgs
 go_wp2
 refine wp_loop_ghost_k (fun g a wr=>∃ nv wv iv,Fr 147 [(0,.string ⟨l.toArray⟩),(1,.int .i64 kind),(2,.string ⟨s.toArray⟩),(19,nv),(20,wv),(102,.slice (some ⟨gs,0,none⟩) 3 3),(103,.int .i64 3),(104,iv)] a∧GW kind s gs g nv wv iv WL wr) 3 ?_ ?_
 ·exact ⟨_,_,_,(Fr.cons (Fr.cons (Fr.cons (Fr.cons (Fr.cons (Fr.cons (Fr.cons (Fr.cons F83.nil (F83.kn 104 _ rfl)) (F83.kn 103 _ rfl)) (F83.kn 102 _ rfl)) (F83.kn 20 _ rfl)) (F83.kn 19 _ rfl)) (F83.kn 2 _ rfl)) (F83.kn 1 _ rfl)) (F83.kn 0 _ rfl)),0,rfl,rfl,by omega,rfl,rfl,rfl,HBL.out⟩
 ·intro gk b0 wr hI J K hJ hK
  obtain ⟨nv,wv,iv,H0,i,rfl,rfl,hi3,rfl,rfl,rfl,hbl⟩:=hI
  have HJ:=Lib.hid hJ
  have HKK:=Lib.hid hK
  clear hJ hK F83
  have hw9:IntKind.i64.wrap ((i:Int)+1)=(i:Int)+1:=wrap_id (by omega) (by omega)
  obtain ⟨nm,hnm⟩:∃ n,nmG kind i=n:=⟨_,rfl⟩
  obtain ⟨wt,hwt⟩:∃ n,wtG s i=n:=⟨_,rfl⟩
  rw [hnm,hwt] at H0
  have HNM:=Lib.hid hnm
  have HWT:=Lib.hid hwt
  clear hnm hwt
  by_cases hlt:i<3
  ·have hlt':(i:Int)<3:=by omega
   have hcell:=blk_wl hbl hlt
   obtain ⟨wi,hwi⟩:∃ u,wl i=u:=⟨_,rfl⟩
   rw [hwi] at hcell
   have HWI:=Lib.hid hwi
   clear hwi
   go_upto_region 17 with fail
   refine fr_region ?_
   refine fr_op H0 105 rfl (by decide) (At2 (.bool true) (wr)) ?_ ?_
   ·have e104:(_:Option Value)=some (.int .i64 (i:Nat)):=H0.kn 104 _ rfl
    have e103:(_:Option Value)=some (.int .i64 3):=H0.kn 103 _ rfl
    go_wp2
    exact ⟨_,rfl,rfl,rfl⟩
   rintro a501 _ _ ⟨rfl,rfl⟩ F501
   clear H0
   refine fr_end ?_
   go_upto_if 105 with fail
   refine wp_cond_true (F501.ev (t:=105) rfl) ?_
   go_upto_region 18 with fail
   refine fr_region ?_
   refine fr_mv F501 104 106 (.inl rfl) rfl rfl (by decide) rfl fun _ F502=>?_
   clear F501
   refine fr2 F502 107 (.pointer (some ⟨gs,i,none⟩)) wr rfl (by decide) ?_ fun _ F503=>?_
   ·have e102:=F502.kn 102 _ rfl;have e104:=F502.kn 104 _ rfl;go_wp2;exact ⟨_,rfl,rfl,rfl⟩
   clear F502
   refine fr2 F503 108 (.string ⟨wi.toArray⟩) wr rfl (by decide) ?_ fun _ F504=>?_
   ·have e107:=F503.kn 107 _ rfl;go_wp2;exact ⟨_,rfl,rfl,rfl⟩
   clear F503
   refine fr_mv F504 106 21 (.inr rfl) rfl rfl (by decide) rfl fun _ F505=>?_
   clear F504
   refine fr_mv F505 108 22 (.inr rfl) rfl rfl (by decide) rfl fun _ F506=>?_
   clear F505
   refine fr_end ?_
   by_cases hk:kind=(i:Int)+1
   ·have zk:(kind == (i:Int)+1)=true:=by simpa using hk
    have HKE:=Lib.hid hk
    clear hk
    go_upto_region 19 with fail
    refine fr_region ?_
    refine fr_mv F506 1 109 (.inl rfl) rfl rfl (by decide) rfl fun _ F507=>?_
    clear F506
    refine fr_mv F507 21 110 (.inl rfl) rfl rfl (by decide) rfl fun _ F508=>?_
    clear F507
    refine fr2 F508 111 (.int .i64 ((i:Int)+1)) wr rfl (by decide) ?_ fun _ F509=>?_
    ·have e110:=F508.kn 110 _ rfl;go_wp2;exact ⟨_,rfl,rfl,rfl⟩
    clear F508
    refine fr2 F509 112 (.bool true) wr rfl (by decide) ?_ fun _ F510=>?_
    ·have e109:=F509.kn 109 _ rfl
     have e111:=F509.kn 111 _ rfl
     go_wp2
     first | exact ⟨_,rfl,rfl,rfl⟩ | exact ⟨_,rfl,congrArg Value.bool (by simpa using zk),rfl⟩
    clear F509
    refine fr_end ?_
    go_upto_if 112 with fail
    refine wp_cond_true (F510.ev (t:=112) rfl) ?_
    go_upto_region 20 with fail
    refine fr_region ?_
    refine fr_mv F510 22 113 (.inl rfl) rfl rfl (by decide) rfl fun _ F511=>?_
    clear F510
    refine fr_mv F511 113 19 (.inr rfl) rfl rfl (by decide) rfl fun _ F512=>?_
    clear F511
    refine fr_end ?_
    by_cases hw:s=wi
    ·have zw:(s == wi)=true:=by simpa using hw
     have HWE:=Lib.hid hw
     clear hw
     go_upto_region 21 with fail
     refine fr_region ?_
     refine fr_mv F512 2 114 (.inl rfl) rfl rfl (by decide) rfl fun _ F513=>?_
     clear F512
     refine fr_mv F513 22 115 (.inl rfl) rfl rfl (by decide) rfl fun _ F514=>?_
     clear F513
     refine fr2 F514 116 (.bool true) wr rfl (by decide) ?_ fun _ F515=>?_
     ·have e114:=F514.kn 114 _ rfl;have e115:=F514.kn 115 _ rfl;go_wp2;exact ⟨_,rfl,rfl,rfl⟩
     clear F514
     refine fr_end ?_
     go_upto_if 116 with fail
     refine wp_cond_true (F515.ev (t:=116) rfl) ?_
     go_upto_region 22 with fail
     refine fr_region ?_
     refine fr_mv F515 21 117 (.inl rfl) rfl rfl (by decide) rfl fun _ F516=>?_
     clear F515
     refine fr2 F516 118 (.int .i64 ((i:Int)+1)) wr rfl (by decide) ?_ fun _ F517=>?_
     ·have e117:=F516.kn 117 _ rfl;go_wp2;exact ⟨_,rfl,rfl,rfl⟩
     clear F516
     refine fr_mv F517 118 20 (.inr rfl) rfl rfl (by decide) rfl fun _ F518=>?_
     clear F517
     refine fr_end ?_
     go_upto_region 23 with fail
     refine fr_region ?_
     refine fr2 F518 119 (.int .i64 ((i:Int)+1)) wr rfl (by decide) ?_ fun _ F519=>?_
     ·have e104:=F518.kn 104 _ rfl;go_wp2;exact ⟨_,rfl,rfl,rfl⟩
     clear F518
     refine fr_mv F519 119 104 (.inl rfl) rfl rfl (by decide) rfl fun _ F520=>?_
     clear F519
     refine fr_end ?_
     go_wp2
     refine HKK.out _ _ (Handed.intro (3-(i+1)) (by omega) (HJ.out _ _ _ ⟨_,_,_,(Fr.cons (Fr.cons (Fr.cons (Fr.cons (Fr.cons (Fr.cons (Fr.cons (Fr.cons F520.nil (F520.kn 104 _ rfl)) (F520.kn 103 _ rfl)) (F520.kn 102 _ rfl)) (F520.kn 20 _ rfl)) (F520.kn 19 _ rfl)) (F520.kn 2 _ rfl)) (F520.kn 1 _ rfl)) (F520.kn 0 _ rfl)),i+1,rfl,rfl,by omega,?_,?_,rfl,hbl⟩))
     ·rw [nmG,if_pos HKE.out,HWI.out]
     ·rw [wtG,if_pos (by rw [HWI.out];exact HWE.out)];first | done | simp
    ·have zw:(s == wi)=false:=by simpa using hw
     have HWE:=Lib.hid hw
     clear hw
     go_upto_region 21 with fail
     refine fr_region ?_
     refine fr_mv F512 2 114 (.inl rfl) rfl rfl (by decide) rfl fun _ F513=>?_
     clear F512
     refine fr_mv F513 22 115 (.inl rfl) rfl rfl (by decide) rfl fun _ F514=>?_
     clear F513
     refine fr2 F514 116 (.bool false) wr rfl (by decide) ?_ fun _ F515=>?_
     ·have e114:=F514.kn 114 _ rfl;have e115:=F514.kn 115 _ rfl;go_wp2;exact ⟨_,rfl,rfl,rfl⟩
     clear F514
     refine fr_end ?_
     go_upto_if 116 with fail
     refine wp_cond_false (F515.ev (t:=116) rfl) ?_
     go_upto_region 23 with fail
     refine fr_region ?_
     refine fr2 F515 119 (.int .i64 ((i:Int)+1)) wr rfl (by decide) ?_ fun _ F516=>?_
     ·have e104:=F515.kn 104 _ rfl;go_wp2;exact ⟨_,rfl,rfl,rfl⟩
     clear F515
     refine fr_mv F516 119 104 (.inl rfl) rfl rfl (by decide) rfl fun _ F517=>?_
     clear F516
     refine fr_end ?_
     go_wp2
     refine HKK.out _ _ (Handed.intro (3-(i+1)) (by omega) (HJ.out _ _ _ ⟨_,_,_,(Fr.cons (Fr.cons (Fr.cons (Fr.cons (Fr.cons (Fr.cons (Fr.cons (Fr.cons F517.nil (F517.kn 104 _ rfl)) (F517.kn 103 _ rfl)) (F517.kn 102 _ rfl)) (F517.kn 20 _ rfl)) (F517.kn 19 _ rfl)) (F517.kn 2 _ rfl)) (F517.kn 1 _ rfl)) (F517.kn 0 _ rfl)),i+1,rfl,rfl,by omega,?_,?_,rfl,hbl⟩))
     ·rw [nmG,if_pos HKE.out,HWI.out]
     ·rw [wtG,if_neg (by rw [HWI.out];exact HWE.out),HWT.out];first | done | simp
   ·have zk:(kind == (i:Int)+1)=false:=by simpa using hk
    have HKE:=Lib.hid hk
    clear hk
    go_upto_region 19 with fail
    refine fr_region ?_
    refine fr_mv F506 1 109 (.inl rfl) rfl rfl (by decide) rfl fun _ F507=>?_
    clear F506
    refine fr_mv F507 21 110 (.inl rfl) rfl rfl (by decide) rfl fun _ F508=>?_
    clear F507
    refine fr2 F508 111 (.int .i64 ((i:Int)+1)) wr rfl (by decide) ?_ fun _ F509=>?_
    ·have e110:=F508.kn 110 _ rfl;go_wp2;exact ⟨_,rfl,rfl,rfl⟩
    clear F508
    refine fr2 F509 112 (.bool false) wr rfl (by decide) ?_ fun _ F510=>?_
    ·have e109:=F509.kn 109 _ rfl
     have e111:=F509.kn 111 _ rfl
     go_wp2
     first | exact ⟨_,rfl,rfl,rfl⟩ | exact ⟨_,rfl,congrArg Value.bool (by simpa using zk),rfl⟩
    clear F509
    refine fr_end ?_
    go_upto_if 112 with fail
    refine wp_cond_false (F510.ev (t:=112) rfl) ?_
    by_cases hw:s=wi
    ·have zw:(s == wi)=true:=by simpa using hw
     have HWE:=Lib.hid hw
     clear hw
     go_upto_region 21 with fail
     refine fr_region ?_
     refine fr_mv F510 2 114 (.inl rfl) rfl rfl (by decide) rfl fun _ F511=>?_
     clear F510
     refine fr_mv F511 22 115 (.inl rfl) rfl rfl (by decide) rfl fun _ F512=>?_
     clear F511
     refine fr2 F512 116 (.bool true) wr rfl (by decide) ?_ fun _ F513=>?_
     ·have e114:=F512.kn 114 _ rfl;have e115:=F512.kn 115 _ rfl;go_wp2;exact ⟨_,rfl,rfl,rfl⟩
     clear F512
     refine fr_end ?_
     go_upto_if 116 with fail
     refine wp_cond_true (F513.ev (t:=116) rfl) ?_
     go_upto_region 22 with fail
     refine fr_region ?_
     refine fr_mv F513 21 117 (.inl rfl) rfl rfl (by decide) rfl fun _ F514=>?_
     clear F513
     refine fr2 F514 118 (.int .i64 ((i:Int)+1)) wr rfl (by decide) ?_ fun _ F515=>?_
     ·have e117:=F514.kn 117 _ rfl;go_wp2;exact ⟨_,rfl,rfl,rfl⟩
     clear F514
     refine fr_mv F515 118 20 (.inr rfl) rfl rfl (by decide) rfl fun _ F516=>?_
     clear F515
     refine fr_end ?_
     go_upto_region 23 with fail
     refine fr_region ?_
     refine fr2 F516 119 (.int .i64 ((i:Int)+1)) wr rfl (by decide) ?_ fun _ F517=>?_
     ·have e104:=F516.kn 104 _ rfl;go_wp2;exact ⟨_,rfl,rfl,rfl⟩
     clear F516
     refine fr_mv F517 119 104 (.inl rfl) rfl rfl (by decide) rfl fun _ F518=>?_
     clear F517
     refine fr_end ?_
     go_wp2
     refine HKK.out _ _ (Handed.intro (3-(i+1)) (by omega) (HJ.out _ _ _ ⟨_,_,_,(Fr.cons (Fr.cons (Fr.cons (Fr.cons (Fr.cons (Fr.cons (Fr.cons (Fr.cons F518.nil (F518.kn 104 _ rfl)) (F518.kn 103 _ rfl)) (F518.kn 102 _ rfl)) (F518.kn 20 _ rfl)) (F518.kn 19 _ rfl)) (F518.kn 2 _ rfl)) (F518.kn 1 _ rfl)) (F518.kn 0 _ rfl)),i+1,rfl,rfl,by omega,?_,?_,rfl,hbl⟩))
     ·rw [nmG,if_neg HKE.out,HNM.out]
     ·rw [wtG,if_pos (by rw [HWI.out];exact HWE.out)];first | done | simp
    ·have zw:(s == wi)=false:=by simpa using hw
     have HWE:=Lib.hid hw
     clear hw
     go_upto_region 21 with fail
     refine fr_region ?_
     refine fr_mv F510 2 114 (.inl rfl) rfl rfl (by decide) rfl fun _ F511=>?_
     clear F510
     refine fr_mv F511 22 115 (.inl rfl) rfl rfl (by decide) rfl fun _ F512=>?_
     clear F511
     refine fr2 F512 116 (.bool false) wr rfl (by decide) ?_ fun _ F513=>?_
     ·have e114:=F512.kn 114 _ rfl;have e115:=F512.kn 115 _ rfl;go_wp2;exact ⟨_,rfl,rfl,rfl⟩
     clear F512
     refine fr_end ?_
     go_upto_if 116 with fail
     refine wp_cond_false (F513.ev (t:=116) rfl) ?_
     go_upto_region 23 with fail
     refine fr_region ?_
     refine fr2 F513 119 (.int .i64 ((i:Int)+1)) wr rfl (by decide) ?_ fun _ F514=>?_
     ·have e104:=F513.kn 104 _ rfl;go_wp2;exact ⟨_,rfl,rfl,rfl⟩
     clear F513
     refine fr_mv F514 119 104 (.inl rfl) rfl rfl (by decide) rfl fun _ F515=>?_
     clear F514
     refine fr_end ?_
     go_wp2
     refine HKK.out _ _ (Handed.intro (3-(i+1)) (by omega) (HJ.out _ _ _ ⟨_,_,_,(Fr.cons (Fr.cons (Fr.cons (Fr.cons (Fr.cons (Fr.cons (Fr.cons (Fr.cons F515.nil (F515.kn 104 _ rfl)) (F515.kn 103 _ rfl)) (F515.kn 102 _ rfl)) (F515.kn 20 _ rfl)) (F515.kn 19 _ rfl)) (F515.kn 2 _ rfl)) (F515.kn 1 _ rfl)) (F515.kn 0 _ rfl)),i+1,rfl,rfl,by omega,?_,?_,rfl,hbl⟩))
     ·rw [nmG,if_neg HKE.out,HNM.out]
     ·rw [wtG,if_neg (by rw [HWI.out];exact HWE.out),HWT.out];first | done | simp
  ·have hi:i=3:=by omega
   subst hi
   have hnm:=HNM.out
   have hwt:=HWT.out
   rw [nm_end] at hnm
   rw [wt_end] at hwt
   subst hnm
   subst hwt
   clear HNM HWT
   go_upto_region 17 with fail
   refine fr_region ?_
   refine fr_op H0 105 rfl (by decide) (At2 (.bool false) (wr)) ?_ ?_
   ·have e104:(_:Option Value)=some (.int .i64 (3:Nat)):=H0.kn 104 _ rfl
    have e103:(_:Option Value)=some (.int .i64 3):=H0.kn 103 _ rfl
    go_wp2
    exact ⟨_,rfl,rfl,rfl⟩
   rintro a501 _ _ ⟨rfl,rfl⟩ F501
   clear H0
   refine fr_end ?_
   have HWL:=Lib.hid (show Words wr from ⟨cell_keep HW.out.c0 HX.out,cell_keep HW.out.c1 HX.out,cell_keep HW.out.c2 HX.out,cell_keep HW.out.c3 HX.out⟩)
   go_upto_if 105 with fail
   refine wp_cond_false (F501.ev (t:=105) rfl) ?_
   go_upto_region 24 with fail
   refine fr_region ?_
   refine fr_mv F501 2 121 (.inl rfl) rfl rfl (by decide) rfl fun _ F502=>?_
   clear F501
   refine fr_op F502 122 rfl (by decide) (At2 (.tuple #[.int .i64 (kindG s:Nat),.bool (kindG s != 0)]) wr) ?_ ?_
   ·have e121:=F502.kn 121 _ rfl
    go_wp2_with (go_at_call 14;refine (glKind s _ HWL.out).mono ?_;rintro e w9 ⟨rfl,hw9⟩)
    first | exact ⟨_,rfl,rfl,rfl⟩ | exact ⟨_,rfl,rfl,hw9.symm⟩
   rintro a503 _ _ ⟨rfl,rfl⟩ F503
   clear F502
   refine fr_mv F503 122 120 (.inl rfl) rfl rfl (by decide) rfl fun _ F504=>?_
   clear F503
   refine fr2 F504 123 (.int .i64 (kindG s:Nat)) wr rfl (by decide) ?_ fun _ F505=>?_
   ·have e120:=F504.kn 120 _ rfl;go_wp2;exact ⟨_,rfl,rfl,rfl⟩
   clear F504
   refine fr2 F505 124 (.bool (kindG s != 0)) wr rfl (by decide) ?_ fun _ F506=>?_
   ·have e120:=F505.kn 120 _ rfl;go_wp2;exact ⟨_,rfl,rfl,rfl⟩
   clear F505
   refine fr_mv F506 123 23 (.inr rfl) rfl rfl (by decide) rfl fun _ F507=>?_
   clear F506
   refine fr_mv F507 124 24 (.inr rfl) rfl rfl (by decide) rfl fun _ F508=>?_
   clear F507
   refine fr_end ?_
   go_upto_region 25 with fail
   refine fr_region ?_
   refine fr_mv F508 1 125 (.inl rfl) rfl rfl (by decide) rfl fun _ F509=>?_
   clear F508
   refine fr_op F509 126 rfl (by decide) (At2 (.string ⟨(wordG kind).toArray⟩) wr) ?_ ?_
   ·have e125:=F509.kn 125 _ rfl
    go_wp2_with (go_at_call 15;refine (glWord kind _ HWL.out).mono ?_;rintro e w9 ⟨rfl,hw9⟩)
    first | exact ⟨_,rfl,rfl,rfl⟩ | exact ⟨_,rfl,rfl,hw9.symm⟩
   rintro a510 _ _ ⟨rfl,rfl⟩ F510
   clear F509
   refine fr_mv F510 19 127 (.inl rfl) rfl rfl (by decide) rfl fun _ F511=>?_
   clear F510
   refine fr2 F511 128 (.bool true) wr rfl (by decide) ?_ fun _ F512=>?_
   ·have e126:=F511.kn 126 _ rfl;have e127:=F511.kn 127 _ rfl;go_wp2;exact ⟨_,rfl,rfl,rfl⟩
   clear F511
   refine fr_mv F512 128 129 (.inl rfl) rfl rfl (by decide) rfl fun _ F513=>?_
   clear F512
   refine fr2 F513 130 (.int .i64 (kindG s:Nat)) wr rfl (by decide) ?_ fun _ F514=>?_
   ·have e23:=F513.kn 23 _ rfl;have e129:=F513.kn 129 _ rfl;go_wp2;exact ⟨_,rfl,rfl,rfl⟩
   clear F513
   refine fr2 F514 131 (.int .i64 (kindG s:Nat)) wr rfl (by decide) ?_ fun _ F515=>?_
   ·have e20:=F514.kn 20 _ rfl;have e129:=F514.kn 129 _ rfl;go_wp2;exact ⟨_,rfl,rfl,rfl⟩
   clear F514
   refine fr2 F515 132 (.bool true) wr rfl (by decide) ?_ fun _ F516=>?_
   ·have e130:=F515.kn 130 _ rfl;have e131:=F515.kn 131 _ rfl;have e129:=F515.kn 129 _ rfl;go_wp2;exact ⟨_,rfl,rfl,rfl⟩
   clear F515
   refine fr2 F516 133 (.bool true) wr rfl (by decide) ?_ fun _ F517=>?_
   ·have e129:=F516.kn 129 _ rfl;have e132:=F516.kn 132 _ rfl;go_wp2;exact ⟨_,rfl,rfl,rfl⟩
   clear F516
   refine fr_mv F517 133 134 (.inl rfl) rfl rfl (by decide) rfl fun _ F518=>?_
   clear F517
   refine fr2 F518 135 (.bool (kindG s != 0)) wr rfl (by decide) ?_ fun _ F519=>?_
   ·have e24:=F518.kn 24 _ rfl;have e134:=F518.kn 134 _ rfl;go_wp2;exact ⟨_,rfl,rfl,rfl⟩
   clear F518
   refine fr2 F519 136 (.int .i64 (kindG s:Nat)) wr rfl (by decide) ?_ fun _ F520=>?_
   ·have e20:=F519.kn 20 _ rfl;have e134:=F519.kn 134 _ rfl;go_wp2;exact ⟨_,rfl,rfl,rfl⟩
   clear F519
   refine fr2 F520 137 (.bool (kindG s != 0)) wr rfl (by decide) ?_ fun _ F521=>?_
   ·have e136:=F520.kn 136 _ rfl
    have e134:=F520.kn 134 _ rfl
    go_wp2
    first | exact ⟨_,rfl,rfl,rfl⟩ | exact ⟨_,rfl,congrArg Value.bool (by first | rfl | simp),rfl⟩ | (refine ⟨_,rfl,congrArg Value.bool ?_,rfl⟩;cases kindG s <;> rfl)
   clear F520
   refine fr2 F521 138 (.bool true) wr rfl (by decide) ?_ fun _ F522=>?_
   ·have e135:=F521.kn 135 _ rfl;have e137:=F521.kn 137 _ rfl;have e134:=F521.kn 134 _ rfl;go_wp2;exact ⟨_,rfl,rfl,rfl⟩
   clear F521
   refine fr2 F522 139 (.bool true) wr rfl (by decide) ?_ fun _ F523=>?_
   ·have e134:=F522.kn 134 _ rfl;have e138:=F522.kn 138 _ rfl;go_wp2;exact ⟨_,rfl,rfl,rfl⟩
   clear F522
   refine fr_mv F523 139 140 (.inl rfl) rfl rfl (by decide) rfl fun _ F524=>?_
   clear F523
   refine fr2 F524 141 (.string ⟨l.toArray⟩) wr rfl (by decide) ?_ fun _ F525=>?_
   ·have e0:=F524.kn 0 _ rfl;have e140:=F524.kn 140 _ rfl;go_wp2;exact ⟨_,rfl,rfl,rfl⟩
   clear F524
   refine fr_op F525 142 rfl (by decide) (AtX (.string ⟨(quoteG l).toArray⟩) wr) ?_ ?_
   ·have e141:=F525.kn 141 _ rfl
    have e140:=F525.kn 140 _ rfl
    go_wp2_with (go_at_call 16;refine (glQuote l HL.out _).mono ?_;rintro e w9 ⟨rfl,hx9⟩)
    exact ⟨_,rfl,rfl,hx9⟩
   rintro a526 _ WM ⟨rfl,hxm⟩ F526
   clear F525
   refine fr2 F526 143 (.string ⟨l.toArray⟩) WM rfl (by decide) ?_ fun _ F527=>?_
   ·have e0:=F526.kn 0 _ rfl;have e140:=F526.kn 140 _ rfl;go_wp2;exact ⟨_,rfl,rfl,rfl⟩
   clear F526
   refine fr_op F527 144 rfl (by decide) (AtX (.string ⟨(quoteG l).toArray⟩) WM) ?_ ?_
   ·have e143:=F527.kn 143 _ rfl
    have e140:=F527.kn 140 _ rfl
    go_wp2_with (go_at_call 17;refine (refQuote24 l HL.out _).mono ?_;rintro e w9 ⟨rfl,hx9⟩)
    exact ⟨_,rfl,rfl,hx9⟩
   rintro a528 _ WN ⟨rfl,hxn⟩ F528
   clear F527
   refine fr2 F528 145 (.bool true) WN rfl (by decide) ?_ fun _ F529=>?_
   ·have e142:=F528.kn 142 _ rfl;have e144:=F528.kn 144 _ rfl;have e140:=F528.kn 140 _ rfl;go_wp2;exact ⟨_,rfl,rfl,rfl⟩
   clear F528
   refine fr2 F529 146 (.bool true) WN rfl (by decide) ?_ fun _ F530=>?_
   ·have e140:=F529.kn 140 _ rfl;have e145:=F529.kn 145 _ rfl;go_wp2;exact ⟨_,rfl,rfl,rfl⟩
   clear F529
   refine fr_mv F530 146 6 (.inr rfl) rfl rfl (by decide) rfl fun _ F531=>?_
   clear F530
   refine fr_end ?_
   go_wp2
   exact bodyPost_ret (v:=.bool true) (results_t1 rfl (F531.gd (t:=6) rfl)) F531.defers ⟨rfl,HX.out.trans (hxm.trans hxn)⟩
end Go.Proofs.YtigmdlchbjanoaaGreatDoor
