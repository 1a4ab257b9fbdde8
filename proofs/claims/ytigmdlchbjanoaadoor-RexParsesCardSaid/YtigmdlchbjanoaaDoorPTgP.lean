/- Put together: Rx20, Rx21, Rx22. -/
import Derived.Test.YtigmdlchbjanoaaDoorPTgO
import Derived.Test.YtigmdlchbjanoaaDoorPTgM
import Derived.Test.YtigmdlchbjanoaaDoorPTgB
import Derived.Test.YtigmdlchbjanoaaDoorPTgF
import Derived.Test.YtigmdlchbjanoaaDoorPTgA
namespace Go.Proofs.YtigmdlchbjanoaaDoor
open Go Go.RowKit
attribute [local irreducible] wd
set_option maxHeartbeats 1000000 in
set_option maxRecDepth 20000 in
theorem rxWithin (b:Bool) (s:List UInt8) (hs:s.length≤1000000000000) (w:World) :
  Calls Tryd.prog 36 #[.string ⟨s.toArray⟩,.bool b] w fun e w'=>e=.returned (.string ⟨(withinT b s).toArray⟩)∧Ext w w':=by
 have hl1:s.length+3≤maxLen:=by unfold maxLen;omega
 have hl2:s.length+4≤maxLen:=by unfold maxLen;omega
 cases b
 ·go_enter Tryd.func36,Tryd.ntmps36
  go_wp2
  go_ret
  exact ⟨by simp [withinT],by (first | exact Ext.refl _ | (unfold Ext;repeat (first | exact Below.refl _ _ | assumption | refine Below.alloc ?_ (by first | (simp;done) | (simp;omega) | omega) _ | refine Below.setCell ?_ (by first | (simp;done) | (simp;omega) | omega) _ | refine Below.drew ?_)))⟩
 ·go_enter Tryd.func36,Tryd.ntmps36
  go_wp2
  go_ret
  exact ⟨by simp [withinT],by (first | exact Ext.refl _ | (unfold Ext;repeat (first | exact Below.refl _ _ | assumption | refine Below.alloc ?_ (by first | (simp;done) | (simp;omega) | omega) _ | refine Below.setCell ?_ (by first | (simp;done) | (simp;omega) | omega) _ | refine Below.drew ?_)))⟩
theorem run_sign (i:Nat) (v:Value) (hi:i<8) (hv:(#[.string ⟨#[]⟩,.string ⟨#[]⟩,.string ⟨#[]⟩,.string ⟨#[]⟩,.string ⟨#[]⟩,.string ⟨#[42]⟩,.string ⟨#[43]⟩,.string ⟨#[63]⟩]:Array Value)[i]?=some v) (w:World):(Instr.index 95 (.agg #[.string ⟨#[]⟩,.string ⟨#[]⟩,.string ⟨#[]⟩,.string ⟨#[]⟩,.string ⟨#[]⟩,.string ⟨#[42]⟩,.string ⟨#[43]⟩,.string ⟨#[63]⟩]) (.int .i64 (i:Nat))).run Tryd.prog w=.ok v w:=
 run_index_arr _ _ 8 _ i _ Tryd.underlying95 (by kernel_rfl) (fun w=>by kernel_rfl) hi hv w
set_option maxHeartbeats 2000000 in
set_option maxRecDepth 20000 in
theorem rxSign (k m:Int) (z:Bool) (p:Nat→Bool) (A:Option Addr) (n c:Nat) (hk:k=5∨k=6∨k=7) (w:World) :
  Calls Tryd.prog 37 #[.agg (nodeC k m z p A n c).toArray] w fun e w'=>e=.returned (.string ⟨(signR k z).toArray⟩)∧Ext w w':=by
 have h5:=run_sign 5 _ (by omega) rfl
 have h6:=run_sign 6 _ (by omega) rfl
 have h7:=run_sign 7 _ (by omega) rfl
 simp only [Int.cast_ofNat_Int] at h5 h6 h7
 unfold nodeC
 rcases hk with rfl | rfl | rfl <;> cases z
 all_goals
  go_enter Tryd.func37,Tryd.ntmps37
  go_wp2
  go_ret
  exact ⟨by simp [signR],by (first | exact Ext.refl _ | (unfold Ext;repeat (first | exact Below.refl _ _ | assumption | refine Below.alloc ?_ (by first | (simp;done) | (simp;omega) | omega) _ | refine Below.setCell ?_ (by first | (simp;done) | (simp;omega) | omega) _ | refine Below.drew ?_)))⟩
end Go.Proofs.YtigmdlchbjanoaaDoor
namespace Go.Proofs.YtigmdlchbjanoaaDoor
open Go Go.RowKit
attribute [local irreducible] wd
theorem kind_form {S:Nat→Prop} {w:World} {t:T} {k m:Int} {z:Bool} {p:Nat→Bool} {B:Option Addr} {n c:Nat} (h:NodeV S w t (nodeC k m z p B n c)):t.kind=k:=by
 cases t
 unfold NodeV at h
 obtain ⟨A,c,cs,e,_⟩:=h
 unfold nodeC at e
 injection e with e1 e2
 injection e1 with _ e1
 exact e1.symm
set_option maxHeartbeats 16000000 in
set_option maxRecDepth 20000 in
theorem rxTextW:∀ n,∀ t:T,t.size≤n→t.size≤1000000→t.fit→∀ S w v,NodeV S w t v→Tab w →
  Calls Tryd.prog 24 #[.agg v.toArray] w fun e w'=>e=.returned (.string ⟨t.text.toArray⟩)∧Ext w w':=by
 intro n
 induction n with
 | zero=>intro t ht;have:=size_pos t;omega
 | succ n ih =>
  intro t ht hsz hfit S w v h hT
  cases t with
  | node k m z p ks =>
   unfold NodeV at h
   obtain ⟨A,c,cs,rfl,h1,h2,h3,h4,h5⟩:=h
   rw [size_node] at ht hsz
   have hlk:=sizeL_len ks
   have HR:=Lib.hid h3
   have HK:=Lib.hid h5
   have HT:=Lib.hid hT
   unfold T.fit at hfit
   have HFL:=Lib.hid hfit.2
   have HF8:=Lib.hid hfit.1
   have HB0:=Lib.hid (NodeB.new w k m z p A ks.length c)
   have hx0:=Lib.hid (Ext.new1 w (.cells (nodeC k m z p A ks.length c).toArray 28))
   clear h3 h4 h5 hT hfit
   unfold nodeC at hx0 ⊢
   by_cases k2:k=2
   ·subst k2
    have hv:T.text (.node 2 m z p ks)=textT p:=by unfold T.text;rw [if_pos rfl]
    rw [hv]
    clear hv
    go_enter Tryd.func24,Tryd.ntmps24
    go_wp2_with (go_at_call 35;refine (clText p _ (HT.out.keep hx0.out)).mono ?_;rintro e w1 ⟨rfl,hx1⟩)
    go_ret
    exact ⟨by simp,Ext.trans hx0.out hx1⟩
   by_cases k3:k=3
   ·subst k3
    have hv:T.text (.node 3 m z p ks)=catT ks:=by unfold T.text;rw [if_neg (by decide),if_pos rfl]
    rw [hv]
    clear hv
    go_enter Tryd.func24,Tryd.ntmps24
    go_wp2
    clear k2
    go_loopg [3,21] (ks.length) (fun g a b wr=>∃ i:Nat,i≤ks.length∧g=ks.length-i∧a=.string ⟨(catT (ks.take i)).toArray⟩∧b=.int .i64 (i:Nat)∧Ext w wr)
    case atStart=>exact ⟨0,by omega,rfl,by simp [catT],rfl,hx0.out⟩
    case round =>
     obtain ⟨i,hi,rfl,rfl,rfl,hx⟩:=hrel
     by_cases hlt:i<ks.length
     ·obtain ⟨b,o,k',m',z',p',B,n',c',rfl,hv,hk⟩:=kid_at HR.out HK.out hlt
      obtain ⟨c0,c1,c2,c3,c4,c5,c6,c7⟩:=hk.out wr hx
      have hmem:=sizeL_mem (List.getElem_mem hlt)
      have hf1:=fitL_mem HFL.out (List.getElem_mem hlt)
      have hstep:=catT_take hlt
      have hll:=catT_len_take ks (i+1)
      have hl0:=catT_len_take ks i
      have hlt0:=text_len_le (ks[i]'hlt)
      rw [kind_form hv] at hstep
      obtain ⟨acc,hacc⟩:∃ q,catT (ks.take i)=q:=⟨_,rfl⟩
      obtain ⟨kt,hkt⟩:∃ q,(ks[i]'hlt).text=q:=⟨_,rfl⟩
      rw [hacc,hkt] at hstep
      rw [hstep] at hll
      rw [hkt] at hlt0
      have hw2:IntKind.i64.wrap ((i:Int)+1)=(i:Int)+1:=wrap_id (by omega) (by omega)
      have hlt':(i:Int)<(ks.length:Int):=by omega
      have HS:=Lib.hid (show (ks[i]'hlt).size≤n∧(ks[i]'hlt).size≤1000000∧(ks[i]'hlt).fit from ⟨by omega,by omega,hf1⟩)
      have HST:=Lib.hid hstep
      have HKT:=Lib.hid hkt
      have HLK:=Lib.hid (show kt.length≤1000000000000 by omega)
      have HLA:=Lib.hid (show acc.length≤1000000000000 by rw [← hacc];omega)
      have HVk:=Lib.hid ((hv.keep hx).keep (Ext.new1 wr (.cells (nodeC k' m' z' p' B n' c').toArray 28)))
      have HBk:=Lib.hid (NodeB.new wr k' m' z' p' B n' c')
      have hxk:=Lib.hid (Ext.trans hx (Ext.new1 wr (.cells (nodeC k' m' z' p' B n' c').toArray 28)))
      have HTk:=Lib.hid (HT.out.keep hxk.out)
      rw [hacc]
      clear hv hstep hmem hkt hacc hlt0 hll hl0 hf1 hsz ht hx
      have hmx:acc.length+(kt.length+4)≤9223372036854775807:=by have:=HLA.out;have:=HLK.out;omega
      go_upto_region 9 with fail
      clear c0 c1 c2 c3 c4 c5 c6 c7 hk
      unfold nodeC at HVk HTk hxk
      generalize wr.alloc (.cells #[.int .i64 k',.int .i64 m',.bool z',.int .u64 (wd p' 0:Nat),.int .u64 (wd p' 1:Nat),.int .u64 (wd p' 2:Nat),.int .u64 (wd p' 3:Nat),.slice B n' c'] 28)=wk at *
      generalize wr.heap.size=gk at *
      by_cases j3:k'=3
      focus
       subst j3
       have hwl:=within_len true kt
       have hm2:¬ 9223372036854775807<acc.length+(withinT true kt).length:=by omega
       have HST2:=Lib.hid (show catT (ks.take (i+1))=acc ++ withinT true kt from by rw [HST.out];rfl)
       clear hwl
       refine wp_region_dag (E:=Ext) (w0:=wk) (Φ:=fun i v w=>match i with | 0=>(v=.string ⟨acc.toArray⟩) | 1=>(v=.agg #[.int .i64 3,.int .i64 m',.bool z',.int .u64 (wd p' 0:Nat),.int .u64 (wd p' 1:Nat),.int .u64 (wd p' 2:Nat),.int .u64 (wd p' 3:Nat),.slice B n' c']) | 2=>(v=.string ⟨kt.toArray⟩) | 3=>(v=.pointer (some ⟨gk,0,none⟩)) | 4=>(v=.int .i64 3) | 5=>(v=.bool true) | 6=>(v=.bool true) | 7=>(v=undef) | 8=>(v=undef) | 9=>(v=undef) | 10=>(v=.bool true) | 11=>(v=.bool true) | 12=>(v=undef) | 13=>(v=undef) | 14=>(v=undef) | 15=>(v=.bool true) | 16=>(v=.string ⟨(withinT true kt).toArray⟩) | 17=>(v=.string ⟨(acc ++ withinT true kt).toArray⟩) | 18=>(v=.string ⟨(acc ++ withinT true kt).toArray⟩) | _=>True) (show Tryd.prog.follows .mixedOrders=true from Checked.mixed Tryd.checked) 99 rfl (by decide +kernel) ?_ ((Below.refl _ _).drew) ?_ ⟨?_,?_,?_,?_,?_,?_,?_,?_,?_,?_,?_,?_,?_,?_,?_,?_,?_,?_,?_,trivial⟩ ?_
       ·intro i v w w' h hE
        match i,h with
        | 0,h=>exact h
        | 1,h=>exact h
        | 2,h=>exact h
        | 3,h=>exact h
        | 4,h=>exact h
        | 5,h=>exact h
        | 6,h=>exact h
        | 7,h=>exact h
        | 8,h=>exact h
        | 9,h=>exact h
        | 10,h=>exact h
        | 11,h=>exact h
        | 12,h=>exact h
        | 13,h=>exact h
        | 14,h=>exact h
        | 15,h=>exact h
        | 16,h=>exact h
        | 17,h=>exact h
        | 18,h=>exact h
        | _+19,_=>trivial
       ·exact fun w w' h h'=>h.trans h'
       ·
        intro ac wx hE hsz hdf h
        have e3:ac.tmps[3]?=some (.string ⟨acc.toArray⟩):=by obtain ⟨v,h1,h2⟩:=h 3 (by decide +kernel);exact h1.trans (h2.symm.trans rfl)
        clear h hsz hdf
        go_wp2
        exact ⟨_,rfl,rfl,Ext.refl _⟩
       ·
        intro ac wx hE hsz hdf h
        have e5:ac.tmps[5]?=some (.pointer (some ⟨gk,0,none⟩)):=by obtain ⟨v,h1,h2⟩:=h 5 (by decide +kernel);exact h1.trans (h2.symm.trans rfl)
        clear h hsz hdf
        obtain ⟨q0,q1,q2,q3,q4,q5,q6,q7⟩:=(HBk.out.keep hE).cells
        go_wp2
        exact ⟨_,rfl,rfl,Ext.refl _⟩
       ·
        intro ac wx hE hsz hdf h
        have e26:ac.tmps[26]?=some (.agg #[.int .i64 3,.int .i64 m',.bool z',.int .u64 (wd p' 0:Nat),.int .u64 (wd p' 1:Nat),.int .u64 (wd p' 2:Nat),.int .u64 (wd p' 3:Nat),.slice B n' c']):=by obtain ⟨v,h1,h2⟩:=h 26 (by decide +kernel);rw [h1];exact congrArg some h2
        clear h hsz hdf
        go_wp2_with ((go_at_call 24;refine (ih _ HS.out.1 HS.out.2.1 HS.out.2.2 S _ (nodeC 3 m' z' p' B n' c') (HVk.out.keep hE) (HTk.out.keep hE)).mono ?_;rintro e w9 ⟨rfl,hb9⟩;rw [HKT.out]))
        exact ⟨_,rfl,rfl,hb9⟩
       ·
        intro ac wx hE hsz hdf h
        have e5:ac.tmps[5]?=some (.pointer (some ⟨gk,0,none⟩)):=by obtain ⟨v,h1,h2⟩:=h 5 (by decide +kernel);exact h1.trans (h2.symm.trans rfl)
        clear h hsz hdf
        go_wp2
        exact ⟨_,rfl,rfl,Ext.refl _⟩
       ·
        intro ac wx hE hsz hdf h
        have e28:ac.tmps[28]?=some (.pointer (some ⟨gk,0,none⟩)):=by obtain ⟨v,h1,h2⟩:=h 28 (by decide +kernel);rw [h1];exact congrArg some h2
        clear h hsz hdf
        obtain ⟨q0,q1,q2,q3,q4,q5,q6,q7⟩:=(HBk.out.keep hE).cells
        go_wp2
        exact ⟨_,rfl,rfl,Ext.refl _⟩
       ·
        intro ac wx hE hsz hdf h
        have e29:ac.tmps[29]?=some (.int .i64 3):=by obtain ⟨v,h1,h2⟩:=h 29 (by decide +kernel);rw [h1];exact congrArg some h2
        clear h hsz hdf
        go_wp2
        exact ⟨_,rfl,rfl,Ext.refl _⟩
       ·
        intro ac wx hE hsz hdf h
        have e30:ac.tmps[30]?=some (.bool true):=by obtain ⟨v,h1,h2⟩:=h 30 (by decide +kernel);rw [h1];exact congrArg some h2
        clear h hsz hdf
        go_wp2
        exact ⟨_,rfl,rfl,Ext.refl _⟩
       ·
        intro ac wx hE hsz hdf h
        have e31:ac.tmps[31]?=some (.bool true):=by obtain ⟨v,h1,h2⟩:=h 31 (by decide +kernel);rw [h1];exact congrArg some h2
        clear h hsz hdf
        go_wp2
        exact ⟨_,rfl,rfl,Ext.refl _⟩
       ·
        intro ac wx hE hsz hdf h
        have e31:ac.tmps[31]?=some (.bool true):=by obtain ⟨v,h1,h2⟩:=h 31 (by decide +kernel);rw [h1];exact congrArg some h2
        clear h hsz hdf
        obtain ⟨q0,q1,q2,q3,q4,q5,q6,q7⟩:=(HBk.out.keep hE).cells
        go_wp2
        exact ⟨_,rfl,rfl,Ext.refl _⟩
       ·
        intro ac wx hE hsz hdf h
        have e31:ac.tmps[31]?=some (.bool true):=by obtain ⟨v,h1,h2⟩:=h 31 (by decide +kernel);rw [h1];exact congrArg some h2
        clear h hsz hdf
        go_wp2
        exact ⟨_,rfl,rfl,Ext.refl _⟩
       ·
        intro ac wx hE hsz hdf h
        have e31:ac.tmps[31]?=some (.bool true):=by obtain ⟨v,h1,h2⟩:=h 31 (by decide +kernel);rw [h1];exact congrArg some h2
        have e34:ac.tmps[34]?=some (undef):=by obtain ⟨v,h1,h2⟩:=h 34 (by decide +kernel);rw [h1];exact congrArg some h2
        clear h hsz hdf
        go_wp2
        exact ⟨_,rfl,rfl,Ext.refl _⟩
       ·
        intro ac wx hE hsz hdf h
        have e35:ac.tmps[35]?=some (.bool true):=by obtain ⟨v,h1,h2⟩:=h 35 (by decide +kernel);rw [h1];exact congrArg some h2
        clear h hsz hdf
        go_wp2
        exact ⟨_,rfl,rfl,Ext.refl _⟩
       ·
        intro ac wx hE hsz hdf h
        have e36:ac.tmps[36]?=some (.bool true):=by obtain ⟨v,h1,h2⟩:=h 36 (by decide +kernel);rw [h1];exact congrArg some h2
        clear h hsz hdf
        go_wp2
        exact ⟨_,rfl,rfl,Ext.refl _⟩
       ·
        intro ac wx hE hsz hdf h
        have e36:ac.tmps[36]?=some (.bool true):=by obtain ⟨v,h1,h2⟩:=h 36 (by decide +kernel);rw [h1];exact congrArg some h2
        clear h hsz hdf
        obtain ⟨q0,q1,q2,q3,q4,q5,q6,q7⟩:=(HBk.out.keep hE).cells
        go_wp2
        exact ⟨_,rfl,rfl,Ext.refl _⟩
       ·
        intro ac wx hE hsz hdf h
        have e36:ac.tmps[36]?=some (.bool true):=by obtain ⟨v,h1,h2⟩:=h 36 (by decide +kernel);rw [h1];exact congrArg some h2
        clear h hsz hdf
        go_wp2
        exact ⟨_,rfl,rfl,Ext.refl _⟩
       ·
        intro ac wx hE hsz hdf h
        have e36:ac.tmps[36]?=some (.bool true):=by obtain ⟨v,h1,h2⟩:=h 36 (by decide +kernel);rw [h1];exact congrArg some h2
        have e39:ac.tmps[39]?=some (undef):=by obtain ⟨v,h1,h2⟩:=h 39 (by decide +kernel);rw [h1];exact congrArg some h2
        clear h hsz hdf
        go_wp2
        exact ⟨_,rfl,rfl,Ext.refl _⟩
       ·
        intro ac wx hE hsz hdf h
        have e27:ac.tmps[27]?=some (.string ⟨kt.toArray⟩):=by obtain ⟨v,h1,h2⟩:=h 27 (by decide +kernel);rw [h1];exact congrArg some h2
        have e40:ac.tmps[40]?=some (.bool true):=by obtain ⟨v,h1,h2⟩:=h 40 (by decide +kernel);rw [h1];exact congrArg some h2
        clear h hsz hdf
        go_wp2_with ((go_at_call 36;refine (rxWithin true kt (by have:=HLK.out;omega) _).mono ?_;rintro e w9 ⟨rfl,hb9⟩))
        exact ⟨_,rfl,rfl,hb9⟩
       ·
        intro ac wx hE hsz hdf h
        have e25:ac.tmps[25]?=some (.string ⟨acc.toArray⟩):=by obtain ⟨v,h1,h2⟩:=h 25 (by decide +kernel);rw [h1];exact congrArg some h2
        have e41:ac.tmps[41]?=some (.string ⟨(withinT true kt).toArray⟩):=by obtain ⟨v,h1,h2⟩:=h 41 (by decide +kernel);rw [h1];exact congrArg some h2
        clear h hsz hdf
        go_wp2
        exact ⟨_,rfl,rfl,Ext.refl _⟩
       ·
        intro ac wx hE hsz hdf h
        have e42:ac.tmps[42]?=some (.string ⟨(acc ++ withinT true kt).toArray⟩):=by obtain ⟨v,h1,h2⟩:=h 42 (by decide +kernel);rw [h1];exact congrArg some h2
        clear h hsz hdf
        go_wp2
        exact ⟨_,rfl,rfl,Ext.refl _⟩
       ·intro ac w9 hE hsz hdf h hrest
        obtain ⟨v0,s0,g0⟩:=h 0 _ rfl
        have e0:=g0 25 rfl
        obtain rfl:v0=.string ⟨acc.toArray⟩:=s0
        obtain ⟨v1,s1,g1⟩:=h 1 _ rfl
        have e1:=g1 26 rfl
        obtain rfl:v1=.agg #[.int .i64 3,.int .i64 m',.bool z',.int .u64 (wd p' 0:Nat),.int .u64 (wd p' 1:Nat),.int .u64 (wd p' 2:Nat),.int .u64 (wd p' 3:Nat),.slice B n' c']:=s1
        obtain ⟨v2,s2,g2⟩:=h 2 _ rfl
        have e2:=g2 27 rfl
        obtain rfl:v2=.string ⟨kt.toArray⟩:=s2
        obtain ⟨v3,s3,g3⟩:=h 3 _ rfl
        have e3:=g3 28 rfl
        obtain rfl:v3=.pointer (some ⟨gk,0,none⟩):=s3
        obtain ⟨v4,s4,g4⟩:=h 4 _ rfl
        have e4:=g4 29 rfl
        obtain rfl:v4=.int .i64 3:=s4
        obtain ⟨v5,s5,g5⟩:=h 5 _ rfl
        have e5:=g5 30 rfl
        obtain rfl:v5=.bool true:=s5
        obtain ⟨v6,s6,g6⟩:=h 6 _ rfl
        have e6:=g6 31 rfl
        obtain rfl:v6=.bool true:=s6
        obtain ⟨v7,s7,g7⟩:=h 7 _ rfl
        have e7:=g7 32 rfl
        obtain rfl:v7=undef:=s7
        obtain ⟨v8,s8,g8⟩:=h 8 _ rfl
        have e8:=g8 33 rfl
        obtain rfl:v8=undef:=s8
        obtain ⟨v9,s9,g9⟩:=h 9 _ rfl
        have e9:=g9 34 rfl
        obtain rfl:v9=undef:=s9
        obtain ⟨v10,s10,g10⟩:=h 10 _ rfl
        have e10:=g10 35 rfl
        obtain rfl:v10=.bool true:=s10
        obtain ⟨v11,s11,g11⟩:=h 11 _ rfl
        have e11:=g11 36 rfl
        obtain rfl:v11=.bool true:=s11
        obtain ⟨v12,s12,g12⟩:=h 12 _ rfl
        have e12:=g12 37 rfl
        obtain rfl:v12=undef:=s12
        obtain ⟨v13,s13,g13⟩:=h 13 _ rfl
        have e13:=g13 38 rfl
        obtain rfl:v13=undef:=s13
        obtain ⟨v14,s14,g14⟩:=h 14 _ rfl
        have e14:=g14 39 rfl
        obtain rfl:v14=undef:=s14
        obtain ⟨v15,s15,g15⟩:=h 15 _ rfl
        have e15:=g15 40 rfl
        obtain rfl:v15=.bool true:=s15
        obtain ⟨v16,s16,g16⟩:=h 16 _ rfl
        have e16:=g16 41 rfl
        obtain rfl:v16=.string ⟨(withinT true kt).toArray⟩:=s16
        obtain ⟨v17,s17,g17⟩:=h 17 _ rfl
        have e17:=g17 42 rfl
        obtain rfl:v17=.string ⟨(acc ++ withinT true kt).toArray⟩:=s17
        obtain ⟨v18,s18,g18⟩:=h 18 _ rfl
        have e18:=g18 3 rfl
        obtain rfl:v18=.string ⟨(acc ++ withinT true kt).toArray⟩:=s18
        have ha:=act_of [(25,.string ⟨acc.toArray⟩),(26,.agg #[.int .i64 3,.int .i64 m',.bool z',.int .u64 (wd p' 0:Nat),.int .u64 (wd p' 1:Nat),.int .u64 (wd p' 2:Nat),.int .u64 (wd p' 3:Nat),.slice B n' c']),(27,.string ⟨kt.toArray⟩),(28,.pointer (some ⟨gk,0,none⟩)),(29,.int .i64 3),(30,.bool true),(31,.bool true),(32,undef),(33,undef),(34,undef),(35,.bool true),(36,.bool true),(37,undef),(38,undef),(39,undef),(40,.bool true),(41,.string ⟨(withinT true kt).toArray⟩),(42,.string ⟨(acc ++ withinT true kt).toArray⟩),(3,.string ⟨(acc ++ withinT true kt).toArray⟩)] rfl hsz hdf (by intro p hp;simp only [List.mem_cons,List.not_mem_nil,or_false] at hp;rcases hp with rfl | rfl | rfl | rfl | rfl | rfl | rfl | rfl | rfl | rfl | rfl | rfl | rfl | rfl | rfl | rfl | rfl | rfl | rfl <;> first | exact e0 | exact e1 | exact e2 | exact e3 | exact e4 | exact e5 | exact e6 | exact e7 | exact e8 | exact e9 | exact e10 | exact e11 | exact e12 | exact e13 | exact e14 | exact e15 | exact e16 | exact e17 | exact e18) hrest
        clear h hrest hsz hdf e0 e1 e2 e3 e4 e5 e6 e7 e8 e9 e10 e11 e12 e13 e14 e15 e16 e17 e18 g0 g1 g2 g3 g4 g5 g6 g7 g8 g9 g10 g11 g12 g13 g14 g15 g16 g17 g18
        subst ha
        simp only [List.foldl_cons,List.foldl_nil,Act.put,List.setIfInBounds_toArray,List.set_cons_succ,List.set_cons_zero]
        have hxe:=Lib.hid (Ext.trans hxk.out hE)
        clear hE
        go_wp2
        go_roundg (ks.length-(i+1))
        case measure=>omega
        case rel=>exact ⟨i+1,by omega,rfl,by rw [HST2.out],by go_num,hxe.out⟩
      by_cases j4:k'=4
      focus
       subst j4
       have hwl:=within_len true kt
       have hm2:¬ 9223372036854775807<acc.length+(withinT true kt).length:=by omega
       have HST2:=Lib.hid (show catT (ks.take (i+1))=acc ++ withinT true kt from by rw [HST.out];rfl)
       clear hwl
       refine wp_region_dag (E:=Ext) (w0:=wk) (Φ:=fun i v w=>match i with | 0=>(v=.string ⟨acc.toArray⟩) | 1=>(v=.agg #[.int .i64 4,.int .i64 m',.bool z',.int .u64 (wd p' 0:Nat),.int .u64 (wd p' 1:Nat),.int .u64 (wd p' 2:Nat),.int .u64 (wd p' 3:Nat),.slice B n' c']) | 2=>(v=.string ⟨kt.toArray⟩) | 3=>(v=.pointer (some ⟨gk,0,none⟩)) | 4=>(v=.int .i64 4) | 5=>(v=.bool false) | 6=>(v=.bool false) | 7=>(v=.pointer (some ⟨gk,0,none⟩)) | 8=>(v=.int .i64 4) | 9=>(v=.bool true) | 10=>(v=.bool true) | 11=>(v=.bool true) | 12=>(v=undef) | 13=>(v=undef) | 14=>(v=undef) | 15=>(v=.bool true) | 16=>(v=.string ⟨(withinT true kt).toArray⟩) | 17=>(v=.string ⟨(acc ++ withinT true kt).toArray⟩) | 18=>(v=.string ⟨(acc ++ withinT true kt).toArray⟩) | _=>True) (show Tryd.prog.follows .mixedOrders=true from Checked.mixed Tryd.checked) 99 rfl (by decide +kernel) ?_ ((Below.refl _ _).drew) ?_ ⟨?_,?_,?_,?_,?_,?_,?_,?_,?_,?_,?_,?_,?_,?_,?_,?_,?_,?_,?_,trivial⟩ ?_
       ·intro i v w w' h hE
        match i,h with
        | 0,h=>exact h
        | 1,h=>exact h
        | 2,h=>exact h
        | 3,h=>exact h
        | 4,h=>exact h
        | 5,h=>exact h
        | 6,h=>exact h
        | 7,h=>exact h
        | 8,h=>exact h
        | 9,h=>exact h
        | 10,h=>exact h
        | 11,h=>exact h
        | 12,h=>exact h
        | 13,h=>exact h
        | 14,h=>exact h
        | 15,h=>exact h
        | 16,h=>exact h
        | 17,h=>exact h
        | 18,h=>exact h
        | _+19,_=>trivial
       ·exact fun w w' h h'=>h.trans h'
       ·
        intro ac wx hE hsz hdf h
        have e3:ac.tmps[3]?=some (.string ⟨acc.toArray⟩):=by obtain ⟨v,h1,h2⟩:=h 3 (by decide +kernel);exact h1.trans (h2.symm.trans rfl)
        clear h hsz hdf
        go_wp2
        exact ⟨_,rfl,rfl,Ext.refl _⟩
       ·
        intro ac wx hE hsz hdf h
        have e5:ac.tmps[5]?=some (.pointer (some ⟨gk,0,none⟩)):=by obtain ⟨v,h1,h2⟩:=h 5 (by decide +kernel);exact h1.trans (h2.symm.trans rfl)
        clear h hsz hdf
        obtain ⟨q0,q1,q2,q3,q4,q5,q6,q7⟩:=(HBk.out.keep hE).cells
        go_wp2
        exact ⟨_,rfl,rfl,Ext.refl _⟩
       ·
        intro ac wx hE hsz hdf h
        have e26:ac.tmps[26]?=some (.agg #[.int .i64 4,.int .i64 m',.bool z',.int .u64 (wd p' 0:Nat),.int .u64 (wd p' 1:Nat),.int .u64 (wd p' 2:Nat),.int .u64 (wd p' 3:Nat),.slice B n' c']):=by obtain ⟨v,h1,h2⟩:=h 26 (by decide +kernel);rw [h1];exact congrArg some h2
        clear h hsz hdf
        go_wp2_with ((go_at_call 24;refine (ih _ HS.out.1 HS.out.2.1 HS.out.2.2 S _ (nodeC 4 m' z' p' B n' c') (HVk.out.keep hE) (HTk.out.keep hE)).mono ?_;rintro e w9 ⟨rfl,hb9⟩;rw [HKT.out]))
        exact ⟨_,rfl,rfl,hb9⟩
       ·
        intro ac wx hE hsz hdf h
        have e5:ac.tmps[5]?=some (.pointer (some ⟨gk,0,none⟩)):=by obtain ⟨v,h1,h2⟩:=h 5 (by decide +kernel);exact h1.trans (h2.symm.trans rfl)
        clear h hsz hdf
        go_wp2
        exact ⟨_,rfl,rfl,Ext.refl _⟩
       ·
        intro ac wx hE hsz hdf h
        have e28:ac.tmps[28]?=some (.pointer (some ⟨gk,0,none⟩)):=by obtain ⟨v,h1,h2⟩:=h 28 (by decide +kernel);rw [h1];exact congrArg some h2
        clear h hsz hdf
        obtain ⟨q0,q1,q2,q3,q4,q5,q6,q7⟩:=(HBk.out.keep hE).cells
        go_wp2
        exact ⟨_,rfl,rfl,Ext.refl _⟩
       ·
        intro ac wx hE hsz hdf h
        have e29:ac.tmps[29]?=some (.int .i64 4):=by obtain ⟨v,h1,h2⟩:=h 29 (by decide +kernel);rw [h1];exact congrArg some h2
        clear h hsz hdf
        go_wp2
        exact ⟨_,rfl,rfl,Ext.refl _⟩
       ·
        intro ac wx hE hsz hdf h
        have e30:ac.tmps[30]?=some (.bool false):=by obtain ⟨v,h1,h2⟩:=h 30 (by decide +kernel);rw [h1];exact congrArg some h2
        clear h hsz hdf
        go_wp2
        exact ⟨_,rfl,rfl,Ext.refl _⟩
       ·
        intro ac wx hE hsz hdf h
        have e5:ac.tmps[5]?=some (.pointer (some ⟨gk,0,none⟩)):=by obtain ⟨v,h1,h2⟩:=h 5 (by decide +kernel);exact h1.trans (h2.symm.trans rfl)
        have e31:ac.tmps[31]?=some (.bool false):=by obtain ⟨v,h1,h2⟩:=h 31 (by decide +kernel);rw [h1];exact congrArg some h2
        clear h hsz hdf
        go_wp2
        exact ⟨_,rfl,rfl,Ext.refl _⟩
       ·
        intro ac wx hE hsz hdf h
        have e32:ac.tmps[32]?=some (.pointer (some ⟨gk,0,none⟩)):=by obtain ⟨v,h1,h2⟩:=h 32 (by decide +kernel);rw [h1];exact congrArg some h2
        have e31:ac.tmps[31]?=some (.bool false):=by obtain ⟨v,h1,h2⟩:=h 31 (by decide +kernel);rw [h1];exact congrArg some h2
        clear h hsz hdf
        obtain ⟨q0,q1,q2,q3,q4,q5,q6,q7⟩:=(HBk.out.keep hE).cells
        go_wp2
        exact ⟨_,rfl,rfl,Ext.refl _⟩
       ·
        intro ac wx hE hsz hdf h
        have e33:ac.tmps[33]?=some (.int .i64 4):=by obtain ⟨v,h1,h2⟩:=h 33 (by decide +kernel);rw [h1];exact congrArg some h2
        have e31:ac.tmps[31]?=some (.bool false):=by obtain ⟨v,h1,h2⟩:=h 31 (by decide +kernel);rw [h1];exact congrArg some h2
        clear h hsz hdf
        go_wp2
        exact ⟨_,rfl,rfl,Ext.refl _⟩
       ·
        intro ac wx hE hsz hdf h
        have e31:ac.tmps[31]?=some (.bool false):=by obtain ⟨v,h1,h2⟩:=h 31 (by decide +kernel);rw [h1];exact congrArg some h2
        have e34:ac.tmps[34]?=some (.bool true):=by obtain ⟨v,h1,h2⟩:=h 34 (by decide +kernel);rw [h1];exact congrArg some h2
        clear h hsz hdf
        go_wp2
        exact ⟨_,rfl,rfl,Ext.refl _⟩
       ·
        intro ac wx hE hsz hdf h
        have e35:ac.tmps[35]?=some (.bool true):=by obtain ⟨v,h1,h2⟩:=h 35 (by decide +kernel);rw [h1];exact congrArg some h2
        clear h hsz hdf
        go_wp2
        exact ⟨_,rfl,rfl,Ext.refl _⟩
       ·
        intro ac wx hE hsz hdf h
        have e36:ac.tmps[36]?=some (.bool true):=by obtain ⟨v,h1,h2⟩:=h 36 (by decide +kernel);rw [h1];exact congrArg some h2
        clear h hsz hdf
        go_wp2
        exact ⟨_,rfl,rfl,Ext.refl _⟩
       ·
        intro ac wx hE hsz hdf h
        have e36:ac.tmps[36]?=some (.bool true):=by obtain ⟨v,h1,h2⟩:=h 36 (by decide +kernel);rw [h1];exact congrArg some h2
        clear h hsz hdf
        obtain ⟨q0,q1,q2,q3,q4,q5,q6,q7⟩:=(HBk.out.keep hE).cells
        go_wp2
        exact ⟨_,rfl,rfl,Ext.refl _⟩
       ·
        intro ac wx hE hsz hdf h
        have e36:ac.tmps[36]?=some (.bool true):=by obtain ⟨v,h1,h2⟩:=h 36 (by decide +kernel);rw [h1];exact congrArg some h2
        clear h hsz hdf
        go_wp2
        exact ⟨_,rfl,rfl,Ext.refl _⟩
       ·
        intro ac wx hE hsz hdf h
        have e36:ac.tmps[36]?=some (.bool true):=by obtain ⟨v,h1,h2⟩:=h 36 (by decide +kernel);rw [h1];exact congrArg some h2
        have e39:ac.tmps[39]?=some (undef):=by obtain ⟨v,h1,h2⟩:=h 39 (by decide +kernel);rw [h1];exact congrArg some h2
        clear h hsz hdf
        go_wp2
        exact ⟨_,rfl,rfl,Ext.refl _⟩
       ·
        intro ac wx hE hsz hdf h
        have e27:ac.tmps[27]?=some (.string ⟨kt.toArray⟩):=by obtain ⟨v,h1,h2⟩:=h 27 (by decide +kernel);rw [h1];exact congrArg some h2
        have e40:ac.tmps[40]?=some (.bool true):=by obtain ⟨v,h1,h2⟩:=h 40 (by decide +kernel);rw [h1];exact congrArg some h2
        clear h hsz hdf
        go_wp2_with ((go_at_call 36;refine (rxWithin true kt (by have:=HLK.out;omega) _).mono ?_;rintro e w9 ⟨rfl,hb9⟩))
        exact ⟨_,rfl,rfl,hb9⟩
       ·
        intro ac wx hE hsz hdf h
        have e25:ac.tmps[25]?=some (.string ⟨acc.toArray⟩):=by obtain ⟨v,h1,h2⟩:=h 25 (by decide +kernel);rw [h1];exact congrArg some h2
        have e41:ac.tmps[41]?=some (.string ⟨(withinT true kt).toArray⟩):=by obtain ⟨v,h1,h2⟩:=h 41 (by decide +kernel);rw [h1];exact congrArg some h2
        clear h hsz hdf
        go_wp2
        exact ⟨_,rfl,rfl,Ext.refl _⟩
       ·
        intro ac wx hE hsz hdf h
        have e42:ac.tmps[42]?=some (.string ⟨(acc ++ withinT true kt).toArray⟩):=by obtain ⟨v,h1,h2⟩:=h 42 (by decide +kernel);rw [h1];exact congrArg some h2
        clear h hsz hdf
        go_wp2
        exact ⟨_,rfl,rfl,Ext.refl _⟩
       ·intro ac w9 hE hsz hdf h hrest
        obtain ⟨v0,s0,g0⟩:=h 0 _ rfl
        have e0:=g0 25 rfl
        obtain rfl:v0=.string ⟨acc.toArray⟩:=s0
        obtain ⟨v1,s1,g1⟩:=h 1 _ rfl
        have e1:=g1 26 rfl
        obtain rfl:v1=.agg #[.int .i64 4,.int .i64 m',.bool z',.int .u64 (wd p' 0:Nat),.int .u64 (wd p' 1:Nat),.int .u64 (wd p' 2:Nat),.int .u64 (wd p' 3:Nat),.slice B n' c']:=s1
        obtain ⟨v2,s2,g2⟩:=h 2 _ rfl
        have e2:=g2 27 rfl
        obtain rfl:v2=.string ⟨kt.toArray⟩:=s2
        obtain ⟨v3,s3,g3⟩:=h 3 _ rfl
        have e3:=g3 28 rfl
        obtain rfl:v3=.pointer (some ⟨gk,0,none⟩):=s3
        obtain ⟨v4,s4,g4⟩:=h 4 _ rfl
        have e4:=g4 29 rfl
        obtain rfl:v4=.int .i64 4:=s4
        obtain ⟨v5,s5,g5⟩:=h 5 _ rfl
        have e5:=g5 30 rfl
        obtain rfl:v5=.bool false:=s5
        obtain ⟨v6,s6,g6⟩:=h 6 _ rfl
        have e6:=g6 31 rfl
        obtain rfl:v6=.bool false:=s6
        obtain ⟨v7,s7,g7⟩:=h 7 _ rfl
        have e7:=g7 32 rfl
        obtain rfl:v7=.pointer (some ⟨gk,0,none⟩):=s7
        obtain ⟨v8,s8,g8⟩:=h 8 _ rfl
        have e8:=g8 33 rfl
        obtain rfl:v8=.int .i64 4:=s8
        obtain ⟨v9,s9,g9⟩:=h 9 _ rfl
        have e9:=g9 34 rfl
        obtain rfl:v9=.bool true:=s9
        obtain ⟨v10,s10,g10⟩:=h 10 _ rfl
        have e10:=g10 35 rfl
        obtain rfl:v10=.bool true:=s10
        obtain ⟨v11,s11,g11⟩:=h 11 _ rfl
        have e11:=g11 36 rfl
        obtain rfl:v11=.bool true:=s11
        obtain ⟨v12,s12,g12⟩:=h 12 _ rfl
        have e12:=g12 37 rfl
        obtain rfl:v12=undef:=s12
        obtain ⟨v13,s13,g13⟩:=h 13 _ rfl
        have e13:=g13 38 rfl
        obtain rfl:v13=undef:=s13
        obtain ⟨v14,s14,g14⟩:=h 14 _ rfl
        have e14:=g14 39 rfl
        obtain rfl:v14=undef:=s14
        obtain ⟨v15,s15,g15⟩:=h 15 _ rfl
        have e15:=g15 40 rfl
        obtain rfl:v15=.bool true:=s15
        obtain ⟨v16,s16,g16⟩:=h 16 _ rfl
        have e16:=g16 41 rfl
        obtain rfl:v16=.string ⟨(withinT true kt).toArray⟩:=s16
        obtain ⟨v17,s17,g17⟩:=h 17 _ rfl
        have e17:=g17 42 rfl
        obtain rfl:v17=.string ⟨(acc ++ withinT true kt).toArray⟩:=s17
        obtain ⟨v18,s18,g18⟩:=h 18 _ rfl
        have e18:=g18 3 rfl
        obtain rfl:v18=.string ⟨(acc ++ withinT true kt).toArray⟩:=s18
        have ha:=act_of [(25,.string ⟨acc.toArray⟩),(26,.agg #[.int .i64 4,.int .i64 m',.bool z',.int .u64 (wd p' 0:Nat),.int .u64 (wd p' 1:Nat),.int .u64 (wd p' 2:Nat),.int .u64 (wd p' 3:Nat),.slice B n' c']),(27,.string ⟨kt.toArray⟩),(28,.pointer (some ⟨gk,0,none⟩)),(29,.int .i64 4),(30,.bool false),(31,.bool false),(32,.pointer (some ⟨gk,0,none⟩)),(33,.int .i64 4),(34,.bool true),(35,.bool true),(36,.bool true),(37,undef),(38,undef),(39,undef),(40,.bool true),(41,.string ⟨(withinT true kt).toArray⟩),(42,.string ⟨(acc ++ withinT true kt).toArray⟩),(3,.string ⟨(acc ++ withinT true kt).toArray⟩)] rfl hsz hdf (by intro p hp;simp only [List.mem_cons,List.not_mem_nil,or_false] at hp;rcases hp with rfl | rfl | rfl | rfl | rfl | rfl | rfl | rfl | rfl | rfl | rfl | rfl | rfl | rfl | rfl | rfl | rfl | rfl | rfl <;> first | exact e0 | exact e1 | exact e2 | exact e3 | exact e4 | exact e5 | exact e6 | exact e7 | exact e8 | exact e9 | exact e10 | exact e11 | exact e12 | exact e13 | exact e14 | exact e15 | exact e16 | exact e17 | exact e18) hrest
        clear h hrest hsz hdf e0 e1 e2 e3 e4 e5 e6 e7 e8 e9 e10 e11 e12 e13 e14 e15 e16 e17 e18 g0 g1 g2 g3 g4 g5 g6 g7 g8 g9 g10 g11 g12 g13 g14 g15 g16 g17 g18
        subst ha
        simp only [List.foldl_cons,List.foldl_nil,Act.put,List.setIfInBounds_toArray,List.set_cons_succ,List.set_cons_zero]
        have hxe:=Lib.hid (Ext.trans hxk.out hE)
        clear hE
        go_wp2
        go_roundg (ks.length-(i+1))
        case measure=>omega
        case rel=>exact ⟨i+1,by omega,rfl,by rw [HST2.out],by go_num,hxe.out⟩
      focus
       obtain ⟨b1,hb1⟩:∃ b1,(k' == 1)=b1:=⟨_,rfl⟩
       have hk3b:(k' == 3)=false:=by simp [j3]
       have hk4b:(k' == 4)=false:=by simp [j4]
       have hwl:=within_len b1 kt
       have hm2:¬ 9223372036854775807<acc.length+(withinT b1 kt).length:=by omega
       have HST2:=Lib.hid (show catT (ks.take (i+1))=acc ++ withinT b1 kt from by rw [HST.out,← hb1];congr 2;simp [j3,j4];rfl)
       clear hwl j3 j4
       refine wp_region_dag (E:=Ext) (w0:=wk) (Φ:=fun i v w=>match i with | 0=>(v=.string ⟨acc.toArray⟩) | 1=>(v=.agg #[.int .i64 k',.int .i64 m',.bool z',.int .u64 (wd p' 0:Nat),.int .u64 (wd p' 1:Nat),.int .u64 (wd p' 2:Nat),.int .u64 (wd p' 3:Nat),.slice B n' c']) | 2=>(v=.string ⟨kt.toArray⟩) | 3=>(v=.pointer (some ⟨gk,0,none⟩)) | 4=>(v=.int .i64 k') | 5=>(v=.bool false) | 6=>(v=.bool false) | 7=>(v=.pointer (some ⟨gk,0,none⟩)) | 8=>(v=.int .i64 k') | 9=>(v=.bool false) | 10=>(v=.bool false) | 11=>(v=.bool false) | 12=>(v=.pointer (some ⟨gk,0,none⟩)) | 13=>(v=.int .i64 k') | 14=>(v=.bool b1) | 15=>(v=.bool b1) | 16=>(v=.string ⟨(withinT b1 kt).toArray⟩) | 17=>(v=.string ⟨(acc ++ withinT b1 kt).toArray⟩) | 18=>(v=.string ⟨(acc ++ withinT b1 kt).toArray⟩) | _=>True) (show Tryd.prog.follows .mixedOrders=true from Checked.mixed Tryd.checked) 99 rfl (by decide +kernel) ?_ ((Below.refl _ _).drew) ?_ ⟨?_,?_,?_,?_,?_,?_,?_,?_,?_,?_,?_,?_,?_,?_,?_,?_,?_,?_,?_,trivial⟩ ?_
       ·intro i v w w' h hE
        match i,h with
        | 0,h=>exact h
        | 1,h=>exact h
        | 2,h=>exact h
        | 3,h=>exact h
        | 4,h=>exact h
        | 5,h=>exact h
        | 6,h=>exact h
        | 7,h=>exact h
        | 8,h=>exact h
        | 9,h=>exact h
        | 10,h=>exact h
        | 11,h=>exact h
        | 12,h=>exact h
        | 13,h=>exact h
        | 14,h=>exact h
        | 15,h=>exact h
        | 16,h=>exact h
        | 17,h=>exact h
        | 18,h=>exact h
        | _+19,_=>trivial
       ·exact fun w w' h h'=>h.trans h'
       ·
        intro ac wx hE hsz hdf h
        have e3:ac.tmps[3]?=some (.string ⟨acc.toArray⟩):=by obtain ⟨v,h1,h2⟩:=h 3 (by decide +kernel);exact h1.trans (h2.symm.trans rfl)
        clear h hsz hdf
        go_wp2
        exact ⟨_,rfl,rfl,Ext.refl _⟩
       ·
        intro ac wx hE hsz hdf h
        have e5:ac.tmps[5]?=some (.pointer (some ⟨gk,0,none⟩)):=by obtain ⟨v,h1,h2⟩:=h 5 (by decide +kernel);exact h1.trans (h2.symm.trans rfl)
        clear h hsz hdf
        obtain ⟨q0,q1,q2,q3,q4,q5,q6,q7⟩:=(HBk.out.keep hE).cells
        go_wp2
        exact ⟨_,rfl,rfl,Ext.refl _⟩
       ·
        intro ac wx hE hsz hdf h
        have e26:ac.tmps[26]?=some (.agg #[.int .i64 k',.int .i64 m',.bool z',.int .u64 (wd p' 0:Nat),.int .u64 (wd p' 1:Nat),.int .u64 (wd p' 2:Nat),.int .u64 (wd p' 3:Nat),.slice B n' c']):=by obtain ⟨v,h1,h2⟩:=h 26 (by decide +kernel);rw [h1];exact congrArg some h2
        clear h hsz hdf
        go_wp2_with ((go_at_call 24;refine (ih _ HS.out.1 HS.out.2.1 HS.out.2.2 S _ (nodeC k' m' z' p' B n' c') (HVk.out.keep hE) (HTk.out.keep hE)).mono ?_;rintro e w9 ⟨rfl,hb9⟩;rw [HKT.out]))
        exact ⟨_,rfl,rfl,hb9⟩
       ·
        intro ac wx hE hsz hdf h
        have e5:ac.tmps[5]?=some (.pointer (some ⟨gk,0,none⟩)):=by obtain ⟨v,h1,h2⟩:=h 5 (by decide +kernel);exact h1.trans (h2.symm.trans rfl)
        clear h hsz hdf
        go_wp2
        exact ⟨_,rfl,rfl,Ext.refl _⟩
       ·
        intro ac wx hE hsz hdf h
        have e28:ac.tmps[28]?=some (.pointer (some ⟨gk,0,none⟩)):=by obtain ⟨v,h1,h2⟩:=h 28 (by decide +kernel);rw [h1];exact congrArg some h2
        clear h hsz hdf
        obtain ⟨q0,q1,q2,q3,q4,q5,q6,q7⟩:=(HBk.out.keep hE).cells
        go_wp2
        exact ⟨_,rfl,rfl,Ext.refl _⟩
       ·
        intro ac wx hE hsz hdf h
        have e29:ac.tmps[29]?=some (.int .i64 k'):=by obtain ⟨v,h1,h2⟩:=h 29 (by decide +kernel);rw [h1];exact congrArg some h2
        clear h hsz hdf
        go_wp2
        exact ⟨_,rfl,rfl,Ext.refl _⟩
       ·
        intro ac wx hE hsz hdf h
        have e30:ac.tmps[30]?=some (.bool false):=by obtain ⟨v,h1,h2⟩:=h 30 (by decide +kernel);rw [h1];exact congrArg some h2
        clear h hsz hdf
        go_wp2
        exact ⟨_,rfl,rfl,Ext.refl _⟩
       ·
        intro ac wx hE hsz hdf h
        have e5:ac.tmps[5]?=some (.pointer (some ⟨gk,0,none⟩)):=by obtain ⟨v,h1,h2⟩:=h 5 (by decide +kernel);exact h1.trans (h2.symm.trans rfl)
        have e31:ac.tmps[31]?=some (.bool false):=by obtain ⟨v,h1,h2⟩:=h 31 (by decide +kernel);rw [h1];exact congrArg some h2
        clear h hsz hdf
        go_wp2
        exact ⟨_,rfl,rfl,Ext.refl _⟩
       ·
        intro ac wx hE hsz hdf h
        have e32:ac.tmps[32]?=some (.pointer (some ⟨gk,0,none⟩)):=by obtain ⟨v,h1,h2⟩:=h 32 (by decide +kernel);rw [h1];exact congrArg some h2
        have e31:ac.tmps[31]?=some (.bool false):=by obtain ⟨v,h1,h2⟩:=h 31 (by decide +kernel);rw [h1];exact congrArg some h2
        clear h hsz hdf
        obtain ⟨q0,q1,q2,q3,q4,q5,q6,q7⟩:=(HBk.out.keep hE).cells
        go_wp2
        exact ⟨_,rfl,rfl,Ext.refl _⟩
       ·
        intro ac wx hE hsz hdf h
        have e33:ac.tmps[33]?=some (.int .i64 k'):=by obtain ⟨v,h1,h2⟩:=h 33 (by decide +kernel);rw [h1];exact congrArg some h2
        have e31:ac.tmps[31]?=some (.bool false):=by obtain ⟨v,h1,h2⟩:=h 31 (by decide +kernel);rw [h1];exact congrArg some h2
        clear h hsz hdf
        go_wp2
        exact ⟨_,rfl,rfl,Ext.refl _⟩
       ·
        intro ac wx hE hsz hdf h
        have e31:ac.tmps[31]?=some (.bool false):=by obtain ⟨v,h1,h2⟩:=h 31 (by decide +kernel);rw [h1];exact congrArg some h2
        have e34:ac.tmps[34]?=some (.bool false):=by obtain ⟨v,h1,h2⟩:=h 34 (by decide +kernel);rw [h1];exact congrArg some h2
        clear h hsz hdf
        go_wp2
        exact ⟨_,rfl,rfl,Ext.refl _⟩
       ·
        intro ac wx hE hsz hdf h
        have e35:ac.tmps[35]?=some (.bool false):=by obtain ⟨v,h1,h2⟩:=h 35 (by decide +kernel);rw [h1];exact congrArg some h2
        clear h hsz hdf
        go_wp2
        exact ⟨_,rfl,rfl,Ext.refl _⟩
       ·
        intro ac wx hE hsz hdf h
        have e5:ac.tmps[5]?=some (.pointer (some ⟨gk,0,none⟩)):=by obtain ⟨v,h1,h2⟩:=h 5 (by decide +kernel);exact h1.trans (h2.symm.trans rfl)
        have e36:ac.tmps[36]?=some (.bool false):=by obtain ⟨v,h1,h2⟩:=h 36 (by decide +kernel);rw [h1];exact congrArg some h2
        clear h hsz hdf
        go_wp2
        exact ⟨_,rfl,rfl,Ext.refl _⟩
       ·
        intro ac wx hE hsz hdf h
        have e37:ac.tmps[37]?=some (.pointer (some ⟨gk,0,none⟩)):=by obtain ⟨v,h1,h2⟩:=h 37 (by decide +kernel);rw [h1];exact congrArg some h2
        have e36:ac.tmps[36]?=some (.bool false):=by obtain ⟨v,h1,h2⟩:=h 36 (by decide +kernel);rw [h1];exact congrArg some h2
        clear h hsz hdf
        obtain ⟨q0,q1,q2,q3,q4,q5,q6,q7⟩:=(HBk.out.keep hE).cells
        go_wp2
        exact ⟨_,rfl,rfl,Ext.refl _⟩
       ·
        intro ac wx hE hsz hdf h
        have e38:ac.tmps[38]?=some (.int .i64 k'):=by obtain ⟨v,h1,h2⟩:=h 38 (by decide +kernel);rw [h1];exact congrArg some h2
        have e36:ac.tmps[36]?=some (.bool false):=by obtain ⟨v,h1,h2⟩:=h 36 (by decide +kernel);rw [h1];exact congrArg some h2
        clear h hsz hdf
        go_wp2
        exact ⟨_,rfl,rfl,Ext.refl _⟩
       ·
        intro ac wx hE hsz hdf h
        have e36:ac.tmps[36]?=some (.bool false):=by obtain ⟨v,h1,h2⟩:=h 36 (by decide +kernel);rw [h1];exact congrArg some h2
        have e39:ac.tmps[39]?=some (.bool b1):=by obtain ⟨v,h1,h2⟩:=h 39 (by decide +kernel);rw [h1];exact congrArg some h2
        clear h hsz hdf
        go_wp2
        exact ⟨_,rfl,rfl,Ext.refl _⟩
       ·
        intro ac wx hE hsz hdf h
        have e27:ac.tmps[27]?=some (.string ⟨kt.toArray⟩):=by obtain ⟨v,h1,h2⟩:=h 27 (by decide +kernel);rw [h1];exact congrArg some h2
        have e40:ac.tmps[40]?=some (.bool b1):=by obtain ⟨v,h1,h2⟩:=h 40 (by decide +kernel);rw [h1];exact congrArg some h2
        clear h hsz hdf
        go_wp2_with ((go_at_call 36;refine (rxWithin b1 kt (by have:=HLK.out;omega) _).mono ?_;rintro e w9 ⟨rfl,hb9⟩))
        exact ⟨_,rfl,rfl,hb9⟩
       ·
        intro ac wx hE hsz hdf h
        have e25:ac.tmps[25]?=some (.string ⟨acc.toArray⟩):=by obtain ⟨v,h1,h2⟩:=h 25 (by decide +kernel);rw [h1];exact congrArg some h2
        have e41:ac.tmps[41]?=some (.string ⟨(withinT b1 kt).toArray⟩):=by obtain ⟨v,h1,h2⟩:=h 41 (by decide +kernel);rw [h1];exact congrArg some h2
        clear h hsz hdf
        go_wp2
        exact ⟨_,rfl,rfl,Ext.refl _⟩
       ·
        intro ac wx hE hsz hdf h
        have e42:ac.tmps[42]?=some (.string ⟨(acc ++ withinT b1 kt).toArray⟩):=by obtain ⟨v,h1,h2⟩:=h 42 (by decide +kernel);rw [h1];exact congrArg some h2
        clear h hsz hdf
        go_wp2
        exact ⟨_,rfl,rfl,Ext.refl _⟩
       ·intro ac w9 hE hsz hdf h hrest
        obtain ⟨v0,s0,g0⟩:=h 0 _ rfl
        have e0:=g0 25 rfl
        obtain rfl:v0=.string ⟨acc.toArray⟩:=s0
        obtain ⟨v1,s1,g1⟩:=h 1 _ rfl
        have e1:=g1 26 rfl
        obtain rfl:v1=.agg #[.int .i64 k',.int .i64 m',.bool z',.int .u64 (wd p' 0:Nat),.int .u64 (wd p' 1:Nat),.int .u64 (wd p' 2:Nat),.int .u64 (wd p' 3:Nat),.slice B n' c']:=s1
        obtain ⟨v2,s2,g2⟩:=h 2 _ rfl
        have e2:=g2 27 rfl
        obtain rfl:v2=.string ⟨kt.toArray⟩:=s2
        obtain ⟨v3,s3,g3⟩:=h 3 _ rfl
        have e3:=g3 28 rfl
        obtain rfl:v3=.pointer (some ⟨gk,0,none⟩):=s3
        obtain ⟨v4,s4,g4⟩:=h 4 _ rfl
        have e4:=g4 29 rfl
        obtain rfl:v4=.int .i64 k':=s4
        obtain ⟨v5,s5,g5⟩:=h 5 _ rfl
        have e5:=g5 30 rfl
        obtain rfl:v5=.bool false:=s5
        obtain ⟨v6,s6,g6⟩:=h 6 _ rfl
        have e6:=g6 31 rfl
        obtain rfl:v6=.bool false:=s6
        obtain ⟨v7,s7,g7⟩:=h 7 _ rfl
        have e7:=g7 32 rfl
        obtain rfl:v7=.pointer (some ⟨gk,0,none⟩):=s7
        obtain ⟨v8,s8,g8⟩:=h 8 _ rfl
        have e8:=g8 33 rfl
        obtain rfl:v8=.int .i64 k':=s8
        obtain ⟨v9,s9,g9⟩:=h 9 _ rfl
        have e9:=g9 34 rfl
        obtain rfl:v9=.bool false:=s9
        obtain ⟨v10,s10,g10⟩:=h 10 _ rfl
        have e10:=g10 35 rfl
        obtain rfl:v10=.bool false:=s10
        obtain ⟨v11,s11,g11⟩:=h 11 _ rfl
        have e11:=g11 36 rfl
        obtain rfl:v11=.bool false:=s11
        obtain ⟨v12,s12,g12⟩:=h 12 _ rfl
        have e12:=g12 37 rfl
        obtain rfl:v12=.pointer (some ⟨gk,0,none⟩):=s12
        obtain ⟨v13,s13,g13⟩:=h 13 _ rfl
        have e13:=g13 38 rfl
        obtain rfl:v13=.int .i64 k':=s13
        obtain ⟨v14,s14,g14⟩:=h 14 _ rfl
        have e14:=g14 39 rfl
        obtain rfl:v14=.bool b1:=s14
        obtain ⟨v15,s15,g15⟩:=h 15 _ rfl
        have e15:=g15 40 rfl
        obtain rfl:v15=.bool b1:=s15
        obtain ⟨v16,s16,g16⟩:=h 16 _ rfl
        have e16:=g16 41 rfl
        obtain rfl:v16=.string ⟨(withinT b1 kt).toArray⟩:=s16
        obtain ⟨v17,s17,g17⟩:=h 17 _ rfl
        have e17:=g17 42 rfl
        obtain rfl:v17=.string ⟨(acc ++ withinT b1 kt).toArray⟩:=s17
        obtain ⟨v18,s18,g18⟩:=h 18 _ rfl
        have e18:=g18 3 rfl
        obtain rfl:v18=.string ⟨(acc ++ withinT b1 kt).toArray⟩:=s18
        have ha:=act_of [(25,.string ⟨acc.toArray⟩),(26,.agg #[.int .i64 k',.int .i64 m',.bool z',.int .u64 (wd p' 0:Nat),.int .u64 (wd p' 1:Nat),.int .u64 (wd p' 2:Nat),.int .u64 (wd p' 3:Nat),.slice B n' c']),(27,.string ⟨kt.toArray⟩),(28,.pointer (some ⟨gk,0,none⟩)),(29,.int .i64 k'),(30,.bool false),(31,.bool false),(32,.pointer (some ⟨gk,0,none⟩)),(33,.int .i64 k'),(34,.bool false),(35,.bool false),(36,.bool false),(37,.pointer (some ⟨gk,0,none⟩)),(38,.int .i64 k'),(39,.bool b1),(40,.bool b1),(41,.string ⟨(withinT b1 kt).toArray⟩),(42,.string ⟨(acc ++ withinT b1 kt).toArray⟩),(3,.string ⟨(acc ++ withinT b1 kt).toArray⟩)] rfl hsz hdf (by intro p hp;simp only [List.mem_cons,List.not_mem_nil,or_false] at hp;rcases hp with rfl | rfl | rfl | rfl | rfl | rfl | rfl | rfl | rfl | rfl | rfl | rfl | rfl | rfl | rfl | rfl | rfl | rfl | rfl <;> first | exact e0 | exact e1 | exact e2 | exact e3 | exact e4 | exact e5 | exact e6 | exact e7 | exact e8 | exact e9 | exact e10 | exact e11 | exact e12 | exact e13 | exact e14 | exact e15 | exact e16 | exact e17 | exact e18) hrest
        clear h hrest hsz hdf e0 e1 e2 e3 e4 e5 e6 e7 e8 e9 e10 e11 e12 e13 e14 e15 e16 e17 e18 g0 g1 g2 g3 g4 g5 g6 g7 g8 g9 g10 g11 g12 g13 g14 g15 g16 g17 g18
        subst ha
        simp only [List.foldl_cons,List.foldl_nil,Act.put,List.setIfInBounds_toArray,List.set_cons_succ,List.set_cons_zero]
        have hxe:=Lib.hid (Ext.trans hxk.out hE)
        clear hE
        go_wp2
        go_roundg (ks.length-(i+1))
        case measure=>omega
        case rel=>exact ⟨i+1,by omega,rfl,by rw [HST2.out],by go_num,hxe.out⟩
     ·obtain rfl:i=ks.length:=by omega
      have hlt':¬ (ks.length:Int)<(ks.length:Int):=by omega
      rw [List.take_length]
      go_wp2
      go_ret
      exact ⟨by simp,hx⟩
   by_cases k4:k=4
   ·subst k4
    have hv:T.text (.node 4 m z p ks)=altT ks:=by unfold T.text;rw [if_neg (by decide),if_neg (by decide),if_pos rfl]
    rw [hv]
    clear hv
    go_enter Tryd.func24,Tryd.ntmps24
    go_wp2
    clear k2 k3
    go_loopg [3,49] (ks.length) (fun g a b wr=>∃ i:Nat,i≤ks.length∧g=ks.length-i∧a=.string ⟨(altT (ks.take i)).toArray⟩∧b=.int .i64 (i:Nat)∧Ext w wr)
    case atStart=>exact ⟨0,by omega,rfl,by simp [altT],rfl,hx0.out⟩
    case round =>
     obtain ⟨i,hi,rfl,rfl,rfl,hx⟩:=hrel
     by_cases hlt:i<ks.length
     ·obtain ⟨b,o,k',m',z',p',B,n',c',rfl,hv,hk⟩:=kid_at HR.out HK.out hlt
      obtain ⟨c0,c1,c2,c3,c4,c5,c6,c7⟩:=hk.out wr hx
      have hmem:=sizeL_mem (List.getElem_mem hlt)
      have hf1:=fitL_mem HFL.out (List.getElem_mem hlt)
      have hll:=altT_len_take ks (i+1)
      have hl0:=altT_len_take ks i
      have hlt0:=text_len_le (ks[i]'hlt)
      obtain ⟨kt,hkt⟩:∃ q,(ks[i]'hlt).text=q:=⟨_,rfl⟩
      have hkf:=kind_form hv
      rw [hkt] at hlt0
      have hw2:IntKind.i64.wrap ((i:Int)+1)=(i:Int)+1:=wrap_id (by omega) (by omega)
      have hlt':(i:Int)<(ks.length:Int):=by omega
      have HS:=Lib.hid (show (ks[i]'hlt).size≤n∧(ks[i]'hlt).size≤1000000∧(ks[i]'hlt).fit from ⟨by omega,by omega,hf1⟩)
      have HKF:=Lib.hid hkf
      have HKT:=Lib.hid hkt
      have HLK:=Lib.hid (show kt.length≤1000000000000 by omega)
      have HLA:=Lib.hid (show (altT (ks.take i)).length+1≤1000000000000 by omega)
      have HVk:=Lib.hid ((hv.keep hx).keep (Ext.new1 wr (.cells (nodeC k' m' z' p' B n' c').toArray 28)))
      have HBk:=Lib.hid (NodeB.new wr k' m' z' p' B n' c')
      have hxk:=Lib.hid (Ext.trans hx (Ext.new1 wr (.cells (nodeC k' m' z' p' B n' c').toArray 28)))
      have HTk:=Lib.hid (HT.out.keep hxk.out)
      obtain ⟨b4,hb4⟩:∃ b4,(k' == 4)=b4:=⟨_,rfl⟩
      have hwl:=within_len b4 kt
      have HB4:=Lib.hid (show decide ((ks[i]'hlt).kind=4)=b4 from by rw [hkf,← hb4];rfl)
      clear hv hmem hkt hlt0 hll hl0 hf1 hsz ht hx hkf
      by_cases i0:i=0
      focus
       subst i0
       have hi0':¬ (0:Int)<((0:Nat):Int):=by omega
       obtain ⟨acc,hacc⟩:∃ acc,altT (ks.take 0)=acc:=⟨_,rfl⟩
       have HST2:=Lib.hid (show altT (ks.take (0+1))=acc ++ withinT b4 kt from by rw [altT_take0 hlt,HB4.out,HKT.out,← hacc];simp [altT])
       have hm2:¬ 9223372036854775807<acc.length+(withinT b4 kt).length:=by have:=HLA.out;have:=HLK.out;rw [← hacc];omega
       rw [hacc]
       clear hacc
       simp only [Nat.zero_mul,Nat.add_zero] at c0 c1 c2 c3 c4 c5 c6 c7
       go_upto_region 17 with fail
       clear c0 c1 c2 c3 c4 c5 c6 c7 hk
       unfold nodeC at HVk HTk hxk
       generalize wr.alloc (.cells #[.int .i64 k',.int .i64 m',.bool z',.int .u64 (wd p' 0:Nat),.int .u64 (wd p' 1:Nat),.int .u64 (wd p' 2:Nat),.int .u64 (wd p' 3:Nat),.slice B n' c'] 28)=wk at *
       generalize wr.heap.size=gk at *
       refine wp_region_dag (E:=Ext) (w0:=wk) (Φ:=fun i v w=>match i with | 0=>(v=.string ⟨acc.toArray⟩) | 1=>(v=.agg #[.int .i64 k',.int .i64 m',.bool z',.int .u64 (wd p' 0:Nat),.int .u64 (wd p' 1:Nat),.int .u64 (wd p' 2:Nat),.int .u64 (wd p' 3:Nat),.slice B n' c']) | 2=>(v=.string ⟨kt.toArray⟩) | 3=>(v=.pointer (some ⟨gk,0,none⟩)) | 4=>(v=.int .i64 k') | 5=>(v=.bool b4) | 6=>(v=.string ⟨(withinT b4 kt).toArray⟩) | 7=>(v=.string ⟨(acc ++ withinT b4 kt).toArray⟩) | 8=>(v=.string ⟨(acc ++ withinT b4 kt).toArray⟩) | _=>True) (show Tryd.prog.follows .mixedOrders=true from Checked.mixed Tryd.checked) 99 rfl (by decide +kernel) ?_ ((Below.refl _ _).drew) ?_ ⟨?_,?_,?_,?_,?_,?_,?_,?_,?_,trivial⟩ ?_
       ·intro i v w w' h hE
        match i,h with
        | 0,h=>exact h
        | 1,h=>exact h
        | 2,h=>exact h
        | 3,h=>exact h
        | 4,h=>exact h
        | 5,h=>exact h
        | 6,h=>exact h
        | 7,h=>exact h
        | 8,h=>exact h
        | _+9,_=>trivial
       ·exact fun w w' h h'=>h.trans h'
       ·
        intro ac wx hE hsz hdf h
        have e3:ac.tmps[3]?=some (.string ⟨acc.toArray⟩):=by obtain ⟨v,h1,h2⟩:=h 3 (by decide +kernel);exact h1.trans (h2.symm.trans rfl)
        clear h hsz hdf
        go_wp2
        exact ⟨_,rfl,rfl,Ext.refl _⟩
       ·
        intro ac wx hE hsz hdf h
        have e7:ac.tmps[7]?=some (.pointer (some ⟨gk,0,none⟩)):=by obtain ⟨v,h1,h2⟩:=h 7 (by decide +kernel);exact h1.trans (h2.symm.trans rfl)
        clear h hsz hdf
        obtain ⟨q0,q1,q2,q3,q4,q5,q6,q7⟩:=(HBk.out.keep hE).cells
        go_wp2
        exact ⟨_,rfl,rfl,Ext.refl _⟩
       ·
        intro ac wx hE hsz hdf h
        have e59:ac.tmps[59]?=some (.agg #[.int .i64 k',.int .i64 m',.bool z',.int .u64 (wd p' 0:Nat),.int .u64 (wd p' 1:Nat),.int .u64 (wd p' 2:Nat),.int .u64 (wd p' 3:Nat),.slice B n' c']):=by obtain ⟨v,h1,h2⟩:=h 59 (by decide +kernel);rw [h1];exact congrArg some h2
        clear h hsz hdf
        go_wp2_with ((go_at_call 24;refine (ih _ HS.out.1 HS.out.2.1 HS.out.2.2 S _ (nodeC k' m' z' p' B n' c') (HVk.out.keep hE) (HTk.out.keep hE)).mono ?_;rintro e w9 ⟨rfl,hb9⟩;rw [HKT.out]))
        exact ⟨_,rfl,rfl,hb9⟩
       ·
        intro ac wx hE hsz hdf h
        have e7:ac.tmps[7]?=some (.pointer (some ⟨gk,0,none⟩)):=by obtain ⟨v,h1,h2⟩:=h 7 (by decide +kernel);exact h1.trans (h2.symm.trans rfl)
        clear h hsz hdf
        go_wp2
        exact ⟨_,rfl,rfl,Ext.refl _⟩
       ·
        intro ac wx hE hsz hdf h
        have e61:ac.tmps[61]?=some (.pointer (some ⟨gk,0,none⟩)):=by obtain ⟨v,h1,h2⟩:=h 61 (by decide +kernel);rw [h1];exact congrArg some h2
        clear h hsz hdf
        obtain ⟨q0,q1,q2,q3,q4,q5,q6,q7⟩:=(HBk.out.keep hE).cells
        go_wp2
        exact ⟨_,rfl,rfl,Ext.refl _⟩
       ·
        intro ac wx hE hsz hdf h
        have e62:ac.tmps[62]?=some (.int .i64 k'):=by obtain ⟨v,h1,h2⟩:=h 62 (by decide +kernel);rw [h1];exact congrArg some h2
        clear h hsz hdf
        go_wp2
        exact ⟨_,rfl,rfl,Ext.refl _⟩
       ·
        intro ac wx hE hsz hdf h
        have e60:ac.tmps[60]?=some (.string ⟨kt.toArray⟩):=by obtain ⟨v,h1,h2⟩:=h 60 (by decide +kernel);rw [h1];exact congrArg some h2
        have e63:ac.tmps[63]?=some (.bool b4):=by obtain ⟨v,h1,h2⟩:=h 63 (by decide +kernel);rw [h1];exact congrArg some h2
        clear h hsz hdf
        go_wp2_with ((go_at_call 36;refine (rxWithin b4 kt (by have:=HLK.out;omega) _).mono ?_;rintro e w9 ⟨rfl,hb9⟩))
        exact ⟨_,rfl,rfl,hb9⟩
       ·
        intro ac wx hE hsz hdf h
        have e58:ac.tmps[58]?=some (.string ⟨acc.toArray⟩):=by obtain ⟨v,h1,h2⟩:=h 58 (by decide +kernel);rw [h1];exact congrArg some h2
        have e64:ac.tmps[64]?=some (.string ⟨(withinT b4 kt).toArray⟩):=by obtain ⟨v,h1,h2⟩:=h 64 (by decide +kernel);rw [h1];exact congrArg some h2
        clear h hsz hdf
        go_wp2
        exact ⟨_,rfl,rfl,Ext.refl _⟩
       ·
        intro ac wx hE hsz hdf h
        have e65:ac.tmps[65]?=some (.string ⟨(acc ++ withinT b4 kt).toArray⟩):=by obtain ⟨v,h1,h2⟩:=h 65 (by decide +kernel);rw [h1];exact congrArg some h2
        clear h hsz hdf
        go_wp2
        exact ⟨_,rfl,rfl,Ext.refl _⟩
       ·intro ac w9 hE hsz hdf h hrest
        obtain ⟨v0,s0,g0⟩:=h 0 _ rfl
        have e0:=g0 58 rfl
        obtain rfl:v0=.string ⟨acc.toArray⟩:=s0
        obtain ⟨v1,s1,g1⟩:=h 1 _ rfl
        have e1:=g1 59 rfl
        obtain rfl:v1=.agg #[.int .i64 k',.int .i64 m',.bool z',.int .u64 (wd p' 0:Nat),.int .u64 (wd p' 1:Nat),.int .u64 (wd p' 2:Nat),.int .u64 (wd p' 3:Nat),.slice B n' c']:=s1
        obtain ⟨v2,s2,g2⟩:=h 2 _ rfl
        have e2:=g2 60 rfl
        obtain rfl:v2=.string ⟨kt.toArray⟩:=s2
        obtain ⟨v3,s3,g3⟩:=h 3 _ rfl
        have e3:=g3 61 rfl
        obtain rfl:v3=.pointer (some ⟨gk,0,none⟩):=s3
        obtain ⟨v4,s4,g4⟩:=h 4 _ rfl
        have e4:=g4 62 rfl
        obtain rfl:v4=.int .i64 k':=s4
        obtain ⟨v5,s5,g5⟩:=h 5 _ rfl
        have e5:=g5 63 rfl
        obtain rfl:v5=.bool b4:=s5
        obtain ⟨v6,s6,g6⟩:=h 6 _ rfl
        have e6:=g6 64 rfl
        obtain rfl:v6=.string ⟨(withinT b4 kt).toArray⟩:=s6
        obtain ⟨v7,s7,g7⟩:=h 7 _ rfl
        have e7:=g7 65 rfl
        obtain rfl:v7=.string ⟨(acc ++ withinT b4 kt).toArray⟩:=s7
        obtain ⟨v8,s8,g8⟩:=h 8 _ rfl
        have e8:=g8 3 rfl
        obtain rfl:v8=.string ⟨(acc ++ withinT b4 kt).toArray⟩:=s8
        have ha:=act_of [(58,.string ⟨acc.toArray⟩),(59,.agg #[.int .i64 k',.int .i64 m',.bool z',.int .u64 (wd p' 0:Nat),.int .u64 (wd p' 1:Nat),.int .u64 (wd p' 2:Nat),.int .u64 (wd p' 3:Nat),.slice B n' c']),(60,.string ⟨kt.toArray⟩),(61,.pointer (some ⟨gk,0,none⟩)),(62,.int .i64 k'),(63,.bool b4),(64,.string ⟨(withinT b4 kt).toArray⟩),(65,.string ⟨(acc ++ withinT b4 kt).toArray⟩),(3,.string ⟨(acc ++ withinT b4 kt).toArray⟩)] rfl hsz hdf (by intro p hp;simp only [List.mem_cons,List.not_mem_nil,or_false] at hp;rcases hp with rfl | rfl | rfl | rfl | rfl | rfl | rfl | rfl | rfl <;> first | exact e0 | exact e1 | exact e2 | exact e3 | exact e4 | exact e5 | exact e6 | exact e7 | exact e8) hrest
        clear h hrest hsz hdf e0 e1 e2 e3 e4 e5 e6 e7 e8 g0 g1 g2 g3 g4 g5 g6 g7 g8
        subst ha
        simp only [List.foldl_cons,List.foldl_nil,Act.put,List.setIfInBounds_toArray,List.set_cons_succ,List.set_cons_zero]
        have hxe:=Lib.hid (Ext.trans hxk.out hE)
        clear hE
        go_wp2
        go_roundg (ks.length-(0+1))
        case measure=>omega
        case rel=>exact ⟨0+1,by omega,rfl,by rw [HST2.out],by go_num,hxe.out⟩
      focus
       have hi0':(0:Int)<((i:Nat):Int):=by omega
       obtain ⟨ac0,hacc⟩:∃ acc,altT (ks.take i)=acc:=⟨_,rfl⟩
       have HST2:=Lib.hid (show altT (ks.take (i+1))=(ac0 ++ [124]) ++ withinT b4 kt from by rw [altT_take hlt (by omega),HB4.out,HKT.out,hacc])
       have hm1:¬ 9223372036854775807<ac0.length+1:=by have:=HLA.out;rw [← hacc];omega
       have hm2:¬ 9223372036854775807<(ac0 ++ [124]).length+(withinT b4 kt).length:=by have:=HLA.out;have:=HLK.out;simp only [List.length_append,List.length_cons,List.length_nil];rw [← hacc];omega
       rw [hacc]
       clear hacc i0
       go_upto_region 17 with fail
       clear c0 c1 c2 c3 c4 c5 c6 c7 hk
       unfold nodeC at HVk HTk hxk
       generalize wr.alloc (.cells #[.int .i64 k',.int .i64 m',.bool z',.int .u64 (wd p' 0:Nat),.int .u64 (wd p' 1:Nat),.int .u64 (wd p' 2:Nat),.int .u64 (wd p' 3:Nat),.slice B n' c'] 28)=wk at *
       generalize wr.heap.size=gk at *
       generalize hac:ac0 ++ [124]=acc at *
       refine wp_region_dag (E:=Ext) (w0:=wk) (Φ:=fun i v w=>match i with | 0=>(v=.string ⟨acc.toArray⟩) | 1=>(v=.agg #[.int .i64 k',.int .i64 m',.bool z',.int .u64 (wd p' 0:Nat),.int .u64 (wd p' 1:Nat),.int .u64 (wd p' 2:Nat),.int .u64 (wd p' 3:Nat),.slice B n' c']) | 2=>(v=.string ⟨kt.toArray⟩) | 3=>(v=.pointer (some ⟨gk,0,none⟩)) | 4=>(v=.int .i64 k') | 5=>(v=.bool b4) | 6=>(v=.string ⟨(withinT b4 kt).toArray⟩) | 7=>(v=.string ⟨(acc ++ withinT b4 kt).toArray⟩) | 8=>(v=.string ⟨(acc ++ withinT b4 kt).toArray⟩) | _=>True) (show Tryd.prog.follows .mixedOrders=true from Checked.mixed Tryd.checked) 99 rfl (by decide +kernel) ?_ ((Below.refl _ _).drew) ?_ ⟨?_,?_,?_,?_,?_,?_,?_,?_,?_,trivial⟩ ?_
       ·intro i v w w' h hE
        match i,h with
        | 0,h=>exact h
        | 1,h=>exact h
        | 2,h=>exact h
        | 3,h=>exact h
        | 4,h=>exact h
        | 5,h=>exact h
        | 6,h=>exact h
        | 7,h=>exact h
        | 8,h=>exact h
        | _+9,_=>trivial
       ·exact fun w w' h h'=>h.trans h'
       ·
        intro ac wx hE hsz hdf h
        have e3:ac.tmps[3]?=some (.string ⟨acc.toArray⟩):=by obtain ⟨v,h1,h2⟩:=h 3 (by decide +kernel);exact h1.trans (h2.symm.trans rfl)
        clear h hsz hdf
        go_wp2
        exact ⟨_,rfl,rfl,Ext.refl _⟩
       ·
        intro ac wx hE hsz hdf h
        have e7:ac.tmps[7]?=some (.pointer (some ⟨gk,0,none⟩)):=by obtain ⟨v,h1,h2⟩:=h 7 (by decide +kernel);exact h1.trans (h2.symm.trans rfl)
        clear h hsz hdf
        obtain ⟨q0,q1,q2,q3,q4,q5,q6,q7⟩:=(HBk.out.keep hE).cells
        go_wp2
        exact ⟨_,rfl,rfl,Ext.refl _⟩
       ·
        intro ac wx hE hsz hdf h
        have e59:ac.tmps[59]?=some (.agg #[.int .i64 k',.int .i64 m',.bool z',.int .u64 (wd p' 0:Nat),.int .u64 (wd p' 1:Nat),.int .u64 (wd p' 2:Nat),.int .u64 (wd p' 3:Nat),.slice B n' c']):=by obtain ⟨v,h1,h2⟩:=h 59 (by decide +kernel);rw [h1];exact congrArg some h2
        clear h hsz hdf
        go_wp2_with ((go_at_call 24;refine (ih _ HS.out.1 HS.out.2.1 HS.out.2.2 S _ (nodeC k' m' z' p' B n' c') (HVk.out.keep hE) (HTk.out.keep hE)).mono ?_;rintro e w9 ⟨rfl,hb9⟩;rw [HKT.out]))
        exact ⟨_,rfl,rfl,hb9⟩
       ·
        intro ac wx hE hsz hdf h
        have e7:ac.tmps[7]?=some (.pointer (some ⟨gk,0,none⟩)):=by obtain ⟨v,h1,h2⟩:=h 7 (by decide +kernel);exact h1.trans (h2.symm.trans rfl)
        clear h hsz hdf
        go_wp2
        exact ⟨_,rfl,rfl,Ext.refl _⟩
       ·
        intro ac wx hE hsz hdf h
        have e61:ac.tmps[61]?=some (.pointer (some ⟨gk,0,none⟩)):=by obtain ⟨v,h1,h2⟩:=h 61 (by decide +kernel);rw [h1];exact congrArg some h2
        clear h hsz hdf
        obtain ⟨q0,q1,q2,q3,q4,q5,q6,q7⟩:=(HBk.out.keep hE).cells
        go_wp2
        exact ⟨_,rfl,rfl,Ext.refl _⟩
       ·
        intro ac wx hE hsz hdf h
        have e62:ac.tmps[62]?=some (.int .i64 k'):=by obtain ⟨v,h1,h2⟩:=h 62 (by decide +kernel);rw [h1];exact congrArg some h2
        clear h hsz hdf
        go_wp2
        exact ⟨_,rfl,rfl,Ext.refl _⟩
       ·
        intro ac wx hE hsz hdf h
        have e60:ac.tmps[60]?=some (.string ⟨kt.toArray⟩):=by obtain ⟨v,h1,h2⟩:=h 60 (by decide +kernel);rw [h1];exact congrArg some h2
        have e63:ac.tmps[63]?=some (.bool b4):=by obtain ⟨v,h1,h2⟩:=h 63 (by decide +kernel);rw [h1];exact congrArg some h2
        clear h hsz hdf
        go_wp2_with ((go_at_call 36;refine (rxWithin b4 kt (by have:=HLK.out;omega) _).mono ?_;rintro e w9 ⟨rfl,hb9⟩))
        exact ⟨_,rfl,rfl,hb9⟩
       ·
        intro ac wx hE hsz hdf h
        have e58:ac.tmps[58]?=some (.string ⟨acc.toArray⟩):=by obtain ⟨v,h1,h2⟩:=h 58 (by decide +kernel);rw [h1];exact congrArg some h2
        have e64:ac.tmps[64]?=some (.string ⟨(withinT b4 kt).toArray⟩):=by obtain ⟨v,h1,h2⟩:=h 64 (by decide +kernel);rw [h1];exact congrArg some h2
        clear h hsz hdf
        go_wp2
        exact ⟨_,rfl,rfl,Ext.refl _⟩
       ·
        intro ac wx hE hsz hdf h
        have e65:ac.tmps[65]?=some (.string ⟨(acc ++ withinT b4 kt).toArray⟩):=by obtain ⟨v,h1,h2⟩:=h 65 (by decide +kernel);rw [h1];exact congrArg some h2
        clear h hsz hdf
        go_wp2
        exact ⟨_,rfl,rfl,Ext.refl _⟩
       ·intro ac w9 hE hsz hdf h hrest
        obtain ⟨v0,s0,g0⟩:=h 0 _ rfl
        have e0:=g0 58 rfl
        obtain rfl:v0=.string ⟨acc.toArray⟩:=s0
        obtain ⟨v1,s1,g1⟩:=h 1 _ rfl
        have e1:=g1 59 rfl
        obtain rfl:v1=.agg #[.int .i64 k',.int .i64 m',.bool z',.int .u64 (wd p' 0:Nat),.int .u64 (wd p' 1:Nat),.int .u64 (wd p' 2:Nat),.int .u64 (wd p' 3:Nat),.slice B n' c']:=s1
        obtain ⟨v2,s2,g2⟩:=h 2 _ rfl
        have e2:=g2 60 rfl
        obtain rfl:v2=.string ⟨kt.toArray⟩:=s2
        obtain ⟨v3,s3,g3⟩:=h 3 _ rfl
        have e3:=g3 61 rfl
        obtain rfl:v3=.pointer (some ⟨gk,0,none⟩):=s3
        obtain ⟨v4,s4,g4⟩:=h 4 _ rfl
        have e4:=g4 62 rfl
        obtain rfl:v4=.int .i64 k':=s4
        obtain ⟨v5,s5,g5⟩:=h 5 _ rfl
        have e5:=g5 63 rfl
        obtain rfl:v5=.bool b4:=s5
        obtain ⟨v6,s6,g6⟩:=h 6 _ rfl
        have e6:=g6 64 rfl
        obtain rfl:v6=.string ⟨(withinT b4 kt).toArray⟩:=s6
        obtain ⟨v7,s7,g7⟩:=h 7 _ rfl
        have e7:=g7 65 rfl
        obtain rfl:v7=.string ⟨(acc ++ withinT b4 kt).toArray⟩:=s7
        obtain ⟨v8,s8,g8⟩:=h 8 _ rfl
        have e8:=g8 3 rfl
        obtain rfl:v8=.string ⟨(acc ++ withinT b4 kt).toArray⟩:=s8
        have ha:=act_of [(58,.string ⟨acc.toArray⟩),(59,.agg #[.int .i64 k',.int .i64 m',.bool z',.int .u64 (wd p' 0:Nat),.int .u64 (wd p' 1:Nat),.int .u64 (wd p' 2:Nat),.int .u64 (wd p' 3:Nat),.slice B n' c']),(60,.string ⟨kt.toArray⟩),(61,.pointer (some ⟨gk,0,none⟩)),(62,.int .i64 k'),(63,.bool b4),(64,.string ⟨(withinT b4 kt).toArray⟩),(65,.string ⟨(acc ++ withinT b4 kt).toArray⟩),(3,.string ⟨(acc ++ withinT b4 kt).toArray⟩)] rfl hsz hdf (by intro p hp;simp only [List.mem_cons,List.not_mem_nil,or_false] at hp;rcases hp with rfl | rfl | rfl | rfl | rfl | rfl | rfl | rfl | rfl <;> first | exact e0 | exact e1 | exact e2 | exact e3 | exact e4 | exact e5 | exact e6 | exact e7 | exact e8) hrest
        clear h hrest hsz hdf e0 e1 e2 e3 e4 e5 e6 e7 e8 g0 g1 g2 g3 g4 g5 g6 g7 g8
        subst ha
        simp only [List.foldl_cons,List.foldl_nil,Act.put,List.setIfInBounds_toArray,List.set_cons_succ,List.set_cons_zero]
        have hxe:=Lib.hid (Ext.trans hxk.out hE)
        clear hE
        go_wp2
        go_roundg (ks.length-(i+1))
        case measure=>omega
        case rel=>exact ⟨i+1,by omega,rfl,by rw [HST2.out],by go_num,hxe.out⟩
     ·obtain rfl:i=ks.length:=by omega
      have hlt':¬ (ks.length:Int)<(ks.length:Int):=by omega
      rw [List.take_length]
      go_wp2
      go_ret
      exact ⟨by simp,hx⟩
   by_cases k8:k=8
   ·subst k8
    have hv:T.text (.node 8 m z p ks)=40 :: (headT ks ++ [41]):=by unfold T.text;rw [if_neg (by decide),if_neg (by decide),if_neg (by decide),if_pos rfl]
    have hpos:0<ks.length:=List.length_pos_iff.2 (HF8.out (by decide))
    obtain ⟨b,o,k',m',z',p',B,n',c',rfl,hv1,hk⟩:=kid_at HR.out HK.out hpos
    obtain ⟨c0,c1,c2,c3,c4,c5,c6,c7⟩:=hk.out _ hx0.out
    simp only [Nat.zero_mul,Nat.add_zero] at c0 c1 c2 c3 c4 c5 c6 c7
    have hmem:=sizeL_mem (List.getElem_mem hpos)
    have hlt0:=text_len_le (ks[0]'hpos)
    rw [hv,head_text hpos]
    have HS:=Lib.hid (show (ks[0]'hpos).size≤n∧(ks[0]'hpos).size≤1000000∧(ks[0]'hpos).fit from ⟨by omega,by omega,fitL_mem HFL.out (List.getElem_mem hpos)⟩)
    have HVk:=Lib.hid (hv1.keep hx0.out)
    have HTk:=Lib.hid (HT.out.keep hx0.out)
    obtain ⟨kt,hkt⟩:∃ q,(ks[0]'hpos).text=q:=⟨_,rfl⟩
    rw [hkt] at hlt0 ⊢
    have HKT:=Lib.hid hkt
    have hpos':(0:Int)<(ks.length:Int):=by omega
    have hm1:¬ 9223372036854775807<1+kt.length:=by omega
    have hm2:¬ 9223372036854775807<kt.length+1:=by omega
    have hm3:¬ 9223372036854775807<kt.length+1+1:=by omega
    clear hv hkt hv1 hmem hlt0 k2 k3 k4 hsz ht
    go_enter Tryd.func24,Tryd.ntmps24
    go_wp2_with (go_at_call 24;refine (ih _ HS.out.1 HS.out.2.1 HS.out.2.2 S _ (nodeC k' m' z' p' B n' c') HVk.out HTk.out).mono ?_;rintro e w1 ⟨rfl,hx1⟩;rw [HKT.out])
    go_ret
    exact ⟨by simp,Ext.trans hx0.out hx1⟩
   have fin567:k=5∨k=6∨k=7∨¬ (k=5∨k=6∨k=7):=by
    by_cases h:k=5∨k=6∨k=7
    ·rcases h with h | h | h <;> simp [h]
    ·exact .inr (.inr (.inr h))
   rcases fin567 with rfl | rfl | rfl | hno
   focus
    have hv:T.text (.node 5 m z p ks)=headW ks ++ signR 5 z:=by unfold T.text;rw [if_neg (by decide),if_neg (by decide),if_neg (by decide),if_neg (by decide),if_pos (by decide)]
    have hpos:0<ks.length:=List.length_pos_iff.2 (HF8.out (by decide))
    have H5:=Lib.hid (show (5:Int)=5∨(5:Int)=6∨(5:Int)=7 by decide)
    obtain ⟨bb,oo,k',m',z',p',B,n',c',rfl,hv1,hk⟩:=kid_at HR.out HK.out hpos
    obtain ⟨c0,c1,c2,c3,c4,c5,c6,c7⟩:=hk.out _ hx0.out
    simp only [Nat.zero_mul,Nat.add_zero] at c0 c1 c2 c3 c4 c5 c6 c7
    have hmem:=sizeL_mem (List.getElem_mem hpos)
    have hlt0:=text_len_le (ks[0]'hpos)
    have hkf:=kind_form hv1
    have hsl:=signR_len 5 z
    rw [hv,head_W hpos,hkf]
    have HS:=Lib.hid (show (ks[0]'hpos).size≤n∧(ks[0]'hpos).size≤1000000∧(ks[0]'hpos).fit from ⟨by omega,by omega,fitL_mem HFL.out (List.getElem_mem hpos)⟩)
    have HVk:=Lib.hid ((hv1.keep hx0.out).keep (Ext.new1 _ (.cells (nodeC k' m' z' p' B n' c').toArray 28)))
    have HBk:=Lib.hid (NodeB.new (w.alloc (.cells #[.int .i64 5,.int .i64 m,.bool z,.int .u64 (wd p 0:Nat),.int .u64 (wd p 1:Nat),.int .u64 (wd p 2:Nat),.int .u64 (wd p 3:Nat),.slice (some ⟨bb,oo,none⟩) ks.length c] 28)) k' m' z' p' B n' c')
    have hxk:=Lib.hid (Ext.trans hx0.out (Ext.new1 _ (.cells (nodeC k' m' z' p' B n' c').toArray 28)))
    have HB0:=Lib.hid (HB0.out.keep (Ext.new1 _ (.cells (nodeC k' m' z' p' B n' c').toArray 28)))
    have HTk:=Lib.hid (HT.out.keep hxk.out)
    obtain ⟨kt,hkt⟩:∃ q,(ks[0]'hpos).text=q:=⟨_,rfl⟩
    rw [hkt] at hlt0 ⊢
    have HKT:=Lib.hid hkt
    have HLK:=Lib.hid (show kt.length≤1000000000000 by omega)
    have hpos':(0:Int)<(ks.length:Int):=by omega
    clear hv hkt hv1 hmem k2 k3 k4 k8 hsz ht hkf
    go_enter Tryd.func24,Tryd.ntmps24
    go_upto_region 25 with fail
    clear c0 c1 c2 c3 c4 c5 c6 c7 hk hx0
    unfold nodeC at HVk HTk hxk HB0
    generalize World.alloc _ (.cells #[.int .i64 k',.int .i64 m',.bool z',.int .u64 (wd p' 0:Nat),.int .u64 (wd p' 1:Nat),.int .u64 (wd p' 2:Nat),.int .u64 (wd p' 3:Nat),.slice B n' c'] 28)=wk at *
    rw [show (w.alloc (.cells #[.int .i64 5,.int .i64 m,.bool z,.int .u64 (wd p 0:Nat),.int .u64 (wd p 1:Nat),.int .u64 (wd p 2:Nat),.int .u64 (wd p 3:Nat),.slice (some ⟨bb,oo,none⟩) ks.length c] 28)).heap.size=w.heap.size+1 by simp] at HBk
    generalize w.heap.size+1=gk at *
    generalize w.heap.size=g0 at *
    by_cases j2:k'=2
    focus
     subst j2
     have hwl:=within_len false kt
     have hm2:¬ 9223372036854775807<(withinT false kt).length+(signR 5 z).length:=by have:=HLK.out;omega
     have HW:=Lib.hid (show withinT (decide ((2:Int) ≠ 2∧(2:Int) ≠ 8)) kt=withinT false kt from rfl)
     clear hwl hlt0 hsl
     refine wp_region_dag (E:=Ext) (w0:=wk) (Φ:=fun i v w=>match i with | 0=>(v=.agg #[.int .i64 2,.int .i64 m',.bool z',.int .u64 (wd p' 0:Nat),.int .u64 (wd p' 1:Nat),.int .u64 (wd p' 2:Nat),.int .u64 (wd p' 3:Nat),.slice B n' c']) | 1=>(v=.string ⟨kt.toArray⟩) | 2=>(v=.pointer (some ⟨gk,0,none⟩)) | 3=>(v=.int .i64 2) | 4=>(v=.bool false) | 5=>(v=.bool false) | 6=>(v=undef) | 7=>(v=undef) | 8=>(v=undef) | 9=>(v=.bool false) | 10=>(v=.string ⟨(withinT false kt).toArray⟩) | 11=>(v=.agg #[.int .i64 5,.int .i64 m,.bool z,.int .u64 (wd p 0:Nat),.int .u64 (wd p 1:Nat),.int .u64 (wd p 2:Nat),.int .u64 (wd p 3:Nat),.slice (some ⟨bb,oo,none⟩) ks.length c]) | 12=>(v=.string ⟨(signR 5 z).toArray⟩) | 13=>(v=.string ⟨(withinT false kt ++ signR 5 z).toArray⟩) | 14=>(v=.string ⟨(withinT false kt ++ signR 5 z).toArray⟩) | _=>True) (show Tryd.prog.follows .mixedOrders=true from Checked.mixed Tryd.checked) 99 rfl (by decide +kernel) ?_ ((Below.refl _ _).drew) ?_ ⟨?_,?_,?_,?_,?_,?_,?_,?_,?_,?_,?_,?_,?_,?_,?_,trivial⟩ ?_
     ·intro i v w w' h hE
      match i,h with
      | 0,h=>exact h
      | 1,h=>exact h
      | 2,h=>exact h
      | 3,h=>exact h
      | 4,h=>exact h
      | 5,h=>exact h
      | 6,h=>exact h
      | 7,h=>exact h
      | 8,h=>exact h
      | 9,h=>exact h
      | 10,h=>exact h
      | 11,h=>exact h
      | 12,h=>exact h
      | 13,h=>exact h
      | 14,h=>exact h
      | _+15,_=>trivial
     ·exact fun w w' h h'=>h.trans h'
     ·
      intro ac wx hE hsz hdf h
      have e8:ac.tmps[8]?=some (.pointer (some ⟨gk,0,none⟩)):=by obtain ⟨v,h1,h2⟩:=h 8 (by decide +kernel);exact h1.trans (h2.symm.trans rfl)
      clear h hsz hdf
      obtain ⟨q0,q1,q2,q3,q4,q5,q6,q7⟩:=(HBk.out.keep hE).cells
      go_wp2
      exact ⟨_,rfl,rfl,Ext.refl _⟩
     ·
      intro ac wx hE hsz hdf h
      have e84:ac.tmps[84]?=some (.agg #[.int .i64 2,.int .i64 m',.bool z',.int .u64 (wd p' 0:Nat),.int .u64 (wd p' 1:Nat),.int .u64 (wd p' 2:Nat),.int .u64 (wd p' 3:Nat),.slice B n' c']):=by obtain ⟨v,h1,h2⟩:=h 84 (by decide +kernel);rw [h1];exact congrArg some h2
      clear h hsz hdf
      go_wp2_with ((go_at_call 24;refine (ih _ HS.out.1 HS.out.2.1 HS.out.2.2 S _ (nodeC 2 m' z' p' B n' c') (HVk.out.keep hE) (HTk.out.keep hE)).mono ?_;rintro e w9 ⟨rfl,hb9⟩;rw [HKT.out]))
      exact ⟨_,rfl,rfl,hb9⟩
     ·
      intro ac wx hE hsz hdf h
      have e8:ac.tmps[8]?=some (.pointer (some ⟨gk,0,none⟩)):=by obtain ⟨v,h1,h2⟩:=h 8 (by decide +kernel);exact h1.trans (h2.symm.trans rfl)
      clear h hsz hdf
      go_wp2
      exact ⟨_,rfl,rfl,Ext.refl _⟩
     ·
      intro ac wx hE hsz hdf h
      have e86:ac.tmps[86]?=some (.pointer (some ⟨gk,0,none⟩)):=by obtain ⟨v,h1,h2⟩:=h 86 (by decide +kernel);rw [h1];exact congrArg some h2
      clear h hsz hdf
      obtain ⟨q0,q1,q2,q3,q4,q5,q6,q7⟩:=(HBk.out.keep hE).cells
      go_wp2
      exact ⟨_,rfl,rfl,Ext.refl _⟩
     ·
      intro ac wx hE hsz hdf h
      have e87:ac.tmps[87]?=some (.int .i64 2):=by obtain ⟨v,h1,h2⟩:=h 87 (by decide +kernel);rw [h1];exact congrArg some h2
      clear h hsz hdf
      go_wp2
      exact ⟨_,rfl,rfl,Ext.refl _⟩
     ·
      intro ac wx hE hsz hdf h
      have e88:ac.tmps[88]?=some (.bool false):=by obtain ⟨v,h1,h2⟩:=h 88 (by decide +kernel);rw [h1];exact congrArg some h2
      clear h hsz hdf
      go_wp2
      exact ⟨_,rfl,rfl,Ext.refl _⟩
     ·
      intro ac wx hE hsz hdf h
      have e89:ac.tmps[89]?=some (.bool false):=by obtain ⟨v,h1,h2⟩:=h 89 (by decide +kernel);rw [h1];exact congrArg some h2
      clear h hsz hdf
      go_wp2
      exact ⟨_,rfl,rfl,Ext.refl _⟩
     ·
      intro ac wx hE hsz hdf h
      have e89:ac.tmps[89]?=some (.bool false):=by obtain ⟨v,h1,h2⟩:=h 89 (by decide +kernel);rw [h1];exact congrArg some h2
      clear h hsz hdf
      obtain ⟨q0,q1,q2,q3,q4,q5,q6,q7⟩:=(HBk.out.keep hE).cells
      go_wp2
      exact ⟨_,rfl,rfl,Ext.refl _⟩
     ·
      intro ac wx hE hsz hdf h
      have e89:ac.tmps[89]?=some (.bool false):=by obtain ⟨v,h1,h2⟩:=h 89 (by decide +kernel);rw [h1];exact congrArg some h2
      clear h hsz hdf
      go_wp2
      exact ⟨_,rfl,rfl,Ext.refl _⟩
     ·
      intro ac wx hE hsz hdf h
      have e89:ac.tmps[89]?=some (.bool false):=by obtain ⟨v,h1,h2⟩:=h 89 (by decide +kernel);rw [h1];exact congrArg some h2
      have e92:ac.tmps[92]?=some (undef):=by obtain ⟨v,h1,h2⟩:=h 92 (by decide +kernel);rw [h1];exact congrArg some h2
      clear h hsz hdf
      go_wp2
      exact ⟨_,rfl,rfl,Ext.refl _⟩
     ·
      intro ac wx hE hsz hdf h
      have e85:ac.tmps[85]?=some (.string ⟨kt.toArray⟩):=by obtain ⟨v,h1,h2⟩:=h 85 (by decide +kernel);rw [h1];exact congrArg some h2
      have e93:ac.tmps[93]?=some (.bool false):=by obtain ⟨v,h1,h2⟩:=h 93 (by decide +kernel);rw [h1];exact congrArg some h2
      clear h hsz hdf
      go_wp2_with ((go_at_call 36;refine (rxWithin false kt (by have:=HLK.out;omega) _).mono ?_;rintro e w9 ⟨rfl,hb9⟩))
      exact ⟨_,rfl,rfl,hb9⟩
     ·
      intro ac wx hE hsz hdf h
      have e1:ac.tmps[1]?=some (.pointer (some ⟨g0,0,none⟩)):=by obtain ⟨v,h1,h2⟩:=h 1 (by decide +kernel);exact h1.trans (h2.symm.trans rfl)
      clear h hsz hdf
      obtain ⟨q0,q1,q2,q3,q4,q5,q6,q7⟩:=(HB0.out.keep hE).cells
      go_wp2
      exact ⟨_,rfl,rfl,Ext.refl _⟩
     ·
      intro ac wx hE hsz hdf h
      have e95:ac.tmps[95]?=some (.agg #[.int .i64 5,.int .i64 m,.bool z,.int .u64 (wd p 0:Nat),.int .u64 (wd p 1:Nat),.int .u64 (wd p 2:Nat),.int .u64 (wd p 3:Nat),.slice (some ⟨bb,oo,none⟩) ks.length c]):=by obtain ⟨v,h1,h2⟩:=h 95 (by decide +kernel);rw [h1];exact congrArg some h2
      clear h hsz hdf
      go_wp2_with ((go_at_call 37;refine (rxSign 5 m z p _ ks.length c H5.out _).mono ?_;rintro e w9 ⟨rfl,hb9⟩))
      exact ⟨_,rfl,rfl,hb9⟩
     ·
      intro ac wx hE hsz hdf h
      have e94:ac.tmps[94]?=some (.string ⟨(withinT false kt).toArray⟩):=by obtain ⟨v,h1,h2⟩:=h 94 (by decide +kernel);rw [h1];exact congrArg some h2
      have e96:ac.tmps[96]?=some (.string ⟨(signR 5 z).toArray⟩):=by obtain ⟨v,h1,h2⟩:=h 96 (by decide +kernel);rw [h1];exact congrArg some h2
      clear h hsz hdf
      go_wp2
      exact ⟨_,rfl,rfl,Ext.refl _⟩
     ·
      intro ac wx hE hsz hdf h
      have e97:ac.tmps[97]?=some (.string ⟨(withinT false kt ++ signR 5 z).toArray⟩):=by obtain ⟨v,h1,h2⟩:=h 97 (by decide +kernel);rw [h1];exact congrArg some h2
      clear h hsz hdf
      go_wp2
      exact ⟨_,rfl,rfl,Ext.refl _⟩
     ·intro ac w9 hE hsz hdf h hrest
      obtain ⟨v0,s0,g0⟩:=h 0 _ rfl
      have e0:=g0 84 rfl
      obtain rfl:v0=.agg #[.int .i64 2,.int .i64 m',.bool z',.int .u64 (wd p' 0:Nat),.int .u64 (wd p' 1:Nat),.int .u64 (wd p' 2:Nat),.int .u64 (wd p' 3:Nat),.slice B n' c']:=s0
      obtain ⟨v1,s1,g1⟩:=h 1 _ rfl
      have e1:=g1 85 rfl
      obtain rfl:v1=.string ⟨kt.toArray⟩:=s1
      obtain ⟨v2,s2,g2⟩:=h 2 _ rfl
      have e2:=g2 86 rfl
      obtain rfl:v2=.pointer (some ⟨gk,0,none⟩):=s2
      obtain ⟨v3,s3,g3⟩:=h 3 _ rfl
      have e3:=g3 87 rfl
      obtain rfl:v3=.int .i64 2:=s3
      obtain ⟨v4,s4,g4⟩:=h 4 _ rfl
      have e4:=g4 88 rfl
      obtain rfl:v4=.bool false:=s4
      obtain ⟨v5,s5,g5⟩:=h 5 _ rfl
      have e5:=g5 89 rfl
      obtain rfl:v5=.bool false:=s5
      obtain ⟨v6,s6,g6⟩:=h 6 _ rfl
      have e6:=g6 90 rfl
      obtain rfl:v6=undef:=s6
      obtain ⟨v7,s7,g7⟩:=h 7 _ rfl
      have e7:=g7 91 rfl
      obtain rfl:v7=undef:=s7
      obtain ⟨v8,s8,g8⟩:=h 8 _ rfl
      have e8:=g8 92 rfl
      obtain rfl:v8=undef:=s8
      obtain ⟨v9,s9,g9⟩:=h 9 _ rfl
      have e9:=g9 93 rfl
      obtain rfl:v9=.bool false:=s9
      obtain ⟨v10,s10,g10⟩:=h 10 _ rfl
      have e10:=g10 94 rfl
      obtain rfl:v10=.string ⟨(withinT false kt).toArray⟩:=s10
      obtain ⟨v11,s11,g11⟩:=h 11 _ rfl
      have e11:=g11 95 rfl
      obtain rfl:v11=.agg #[.int .i64 5,.int .i64 m,.bool z,.int .u64 (wd p 0:Nat),.int .u64 (wd p 1:Nat),.int .u64 (wd p 2:Nat),.int .u64 (wd p 3:Nat),.slice (some ⟨bb,oo,none⟩) ks.length c]:=s11
      obtain ⟨v12,s12,g12⟩:=h 12 _ rfl
      have e12:=g12 96 rfl
      obtain rfl:v12=.string ⟨(signR 5 z).toArray⟩:=s12
      obtain ⟨v13,s13,g13⟩:=h 13 _ rfl
      have e13:=g13 97 rfl
      obtain rfl:v13=.string ⟨(withinT false kt ++ signR 5 z).toArray⟩:=s13
      obtain ⟨v14,s14,g14⟩:=h 14 _ rfl
      have e14:=g14 3 rfl
      obtain rfl:v14=.string ⟨(withinT false kt ++ signR 5 z).toArray⟩:=s14
      have ha:=act_of [(84,.agg #[.int .i64 2,.int .i64 m',.bool z',.int .u64 (wd p' 0:Nat),.int .u64 (wd p' 1:Nat),.int .u64 (wd p' 2:Nat),.int .u64 (wd p' 3:Nat),.slice B n' c']),(85,.string ⟨kt.toArray⟩),(86,.pointer (some ⟨gk,0,none⟩)),(87,.int .i64 2),(88,.bool false),(89,.bool false),(90,undef),(91,undef),(92,undef),(93,.bool false),(94,.string ⟨(withinT false kt).toArray⟩),(95,.agg #[.int .i64 5,.int .i64 m,.bool z,.int .u64 (wd p 0:Nat),.int .u64 (wd p 1:Nat),.int .u64 (wd p 2:Nat),.int .u64 (wd p 3:Nat),.slice (some ⟨bb,oo,none⟩) ks.length c]),(96,.string ⟨(signR 5 z).toArray⟩),(97,.string ⟨(withinT false kt ++ signR 5 z).toArray⟩),(3,.string ⟨(withinT false kt ++ signR 5 z).toArray⟩)] rfl hsz hdf (by intro p hp;simp only [List.mem_cons,List.not_mem_nil,or_false] at hp;rcases hp with rfl | rfl | rfl | rfl | rfl | rfl | rfl | rfl | rfl | rfl | rfl | rfl | rfl | rfl | rfl <;> first | exact e0 | exact e1 | exact e2 | exact e3 | exact e4 | exact e5 | exact e6 | exact e7 | exact e8 | exact e9 | exact e10 | exact e11 | exact e12 | exact e13 | exact e14) hrest
      clear h hrest hsz hdf e0 e1 e2 e3 e4 e5 e6 e7 e8 e9 e10 e11 e12 e13 e14 g0 g1 g2 g3 g4 g5 g6 g7 g8 g9 g10 g11 g12 g13 g14
      subst ha
      simp only [List.foldl_cons,List.foldl_nil,Act.put,List.setIfInBounds_toArray,List.set_cons_succ,List.set_cons_zero]
      have hxe:=Lib.hid (Ext.trans hxk.out hE)
      clear hE
      go_wp2
      go_ret
      exact ⟨by first | rfl | (rw [HW.out];rfl),hxe.out⟩
    focus
     obtain ⟨b8,hb8⟩:∃ b8,(k' != 8)=b8:=⟨_,rfl⟩
     have hj2:(k' != 2)=true:=by simp [j2]
     have hwl:=within_len b8 kt
     have hm2:¬ 9223372036854775807<(withinT b8 kt).length+(signR 5 z).length:=by have:=HLK.out;omega
     have HW:=Lib.hid (show withinT (!decide (k'=2) && !decide (k'=8)) kt=withinT b8 kt from by rw [← hb8,decide_eq_false j2];rfl)
     clear hwl hlt0 hsl j2
     refine wp_region_dag (E:=Ext) (w0:=wk) (Φ:=fun i v w=>match i with | 0=>(v=.agg #[.int .i64 k',.int .i64 m',.bool z',.int .u64 (wd p' 0:Nat),.int .u64 (wd p' 1:Nat),.int .u64 (wd p' 2:Nat),.int .u64 (wd p' 3:Nat),.slice B n' c']) | 1=>(v=.string ⟨kt.toArray⟩) | 2=>(v=.pointer (some ⟨gk,0,none⟩)) | 3=>(v=.int .i64 k') | 4=>(v=.bool true) | 5=>(v=.bool true) | 6=>(v=.pointer (some ⟨gk,0,none⟩)) | 7=>(v=.int .i64 k') | 8=>(v=.bool b8) | 9=>(v=.bool b8) | 10=>(v=.string ⟨(withinT b8 kt).toArray⟩) | 11=>(v=.agg #[.int .i64 5,.int .i64 m,.bool z,.int .u64 (wd p 0:Nat),.int .u64 (wd p 1:Nat),.int .u64 (wd p 2:Nat),.int .u64 (wd p 3:Nat),.slice (some ⟨bb,oo,none⟩) ks.length c]) | 12=>(v=.string ⟨(signR 5 z).toArray⟩) | 13=>(v=.string ⟨(withinT b8 kt ++ signR 5 z).toArray⟩) | 14=>(v=.string ⟨(withinT b8 kt ++ signR 5 z).toArray⟩) | _=>True) (show Tryd.prog.follows .mixedOrders=true from Checked.mixed Tryd.checked) 99 rfl (by decide +kernel) ?_ ((Below.refl _ _).drew) ?_ ⟨?_,?_,?_,?_,?_,?_,?_,?_,?_,?_,?_,?_,?_,?_,?_,trivial⟩ ?_
     ·intro i v w w' h hE
      match i,h with
      | 0,h=>exact h
      | 1,h=>exact h
      | 2,h=>exact h
      | 3,h=>exact h
      | 4,h=>exact h
      | 5,h=>exact h
      | 6,h=>exact h
      | 7,h=>exact h
      | 8,h=>exact h
      | 9,h=>exact h
      | 10,h=>exact h
      | 11,h=>exact h
      | 12,h=>exact h
      | 13,h=>exact h
      | 14,h=>exact h
      | _+15,_=>trivial
     ·exact fun w w' h h'=>h.trans h'
     ·
      intro ac wx hE hsz hdf h
      have e8:ac.tmps[8]?=some (.pointer (some ⟨gk,0,none⟩)):=by obtain ⟨v,h1,h2⟩:=h 8 (by decide +kernel);exact h1.trans (h2.symm.trans rfl)
      clear h hsz hdf
      obtain ⟨q0,q1,q2,q3,q4,q5,q6,q7⟩:=(HBk.out.keep hE).cells
      go_wp2
      exact ⟨_,rfl,rfl,Ext.refl _⟩
     ·
      intro ac wx hE hsz hdf h
      have e84:ac.tmps[84]?=some (.agg #[.int .i64 k',.int .i64 m',.bool z',.int .u64 (wd p' 0:Nat),.int .u64 (wd p' 1:Nat),.int .u64 (wd p' 2:Nat),.int .u64 (wd p' 3:Nat),.slice B n' c']):=by obtain ⟨v,h1,h2⟩:=h 84 (by decide +kernel);rw [h1];exact congrArg some h2
      clear h hsz hdf
      go_wp2_with ((go_at_call 24;refine (ih _ HS.out.1 HS.out.2.1 HS.out.2.2 S _ (nodeC k' m' z' p' B n' c') (HVk.out.keep hE) (HTk.out.keep hE)).mono ?_;rintro e w9 ⟨rfl,hb9⟩;rw [HKT.out]))
      exact ⟨_,rfl,rfl,hb9⟩
     ·
      intro ac wx hE hsz hdf h
      have e8:ac.tmps[8]?=some (.pointer (some ⟨gk,0,none⟩)):=by obtain ⟨v,h1,h2⟩:=h 8 (by decide +kernel);exact h1.trans (h2.symm.trans rfl)
      clear h hsz hdf
      go_wp2
      exact ⟨_,rfl,rfl,Ext.refl _⟩
     ·
      intro ac wx hE hsz hdf h
      have e86:ac.tmps[86]?=some (.pointer (some ⟨gk,0,none⟩)):=by obtain ⟨v,h1,h2⟩:=h 86 (by decide +kernel);rw [h1];exact congrArg some h2
      clear h hsz hdf
      obtain ⟨q0,q1,q2,q3,q4,q5,q6,q7⟩:=(HBk.out.keep hE).cells
      go_wp2
      exact ⟨_,rfl,rfl,Ext.refl _⟩
     ·
      intro ac wx hE hsz hdf h
      have e87:ac.tmps[87]?=some (.int .i64 k'):=by obtain ⟨v,h1,h2⟩:=h 87 (by decide +kernel);rw [h1];exact congrArg some h2
      clear h hsz hdf
      go_wp2
      exact ⟨_,rfl,rfl,Ext.refl _⟩
     ·
      intro ac wx hE hsz hdf h
      have e88:ac.tmps[88]?=some (.bool true):=by obtain ⟨v,h1,h2⟩:=h 88 (by decide +kernel);rw [h1];exact congrArg some h2
      clear h hsz hdf
      go_wp2
      exact ⟨_,rfl,rfl,Ext.refl _⟩
     ·
      intro ac wx hE hsz hdf h
      have e8:ac.tmps[8]?=some (.pointer (some ⟨gk,0,none⟩)):=by obtain ⟨v,h1,h2⟩:=h 8 (by decide +kernel);exact h1.trans (h2.symm.trans rfl)
      have e89:ac.tmps[89]?=some (.bool true):=by obtain ⟨v,h1,h2⟩:=h 89 (by decide +kernel);rw [h1];exact congrArg some h2
      clear h hsz hdf
      go_wp2
      exact ⟨_,rfl,rfl,Ext.refl _⟩
     ·
      intro ac wx hE hsz hdf h
      have e90:ac.tmps[90]?=some (.pointer (some ⟨gk,0,none⟩)):=by obtain ⟨v,h1,h2⟩:=h 90 (by decide +kernel);rw [h1];exact congrArg some h2
      have e89:ac.tmps[89]?=some (.bool true):=by obtain ⟨v,h1,h2⟩:=h 89 (by decide +kernel);rw [h1];exact congrArg some h2
      clear h hsz hdf
      obtain ⟨q0,q1,q2,q3,q4,q5,q6,q7⟩:=(HBk.out.keep hE).cells
      go_wp2
      exact ⟨_,rfl,rfl,Ext.refl _⟩
     ·
      intro ac wx hE hsz hdf h
      have e91:ac.tmps[91]?=some (.int .i64 k'):=by obtain ⟨v,h1,h2⟩:=h 91 (by decide +kernel);rw [h1];exact congrArg some h2
      have e89:ac.tmps[89]?=some (.bool true):=by obtain ⟨v,h1,h2⟩:=h 89 (by decide +kernel);rw [h1];exact congrArg some h2
      clear h hsz hdf
      go_wp2
      exact ⟨_,rfl,rfl,Ext.refl _⟩
     ·
      intro ac wx hE hsz hdf h
      have e89:ac.tmps[89]?=some (.bool true):=by obtain ⟨v,h1,h2⟩:=h 89 (by decide +kernel);rw [h1];exact congrArg some h2
      have e92:ac.tmps[92]?=some (.bool b8):=by obtain ⟨v,h1,h2⟩:=h 92 (by decide +kernel);rw [h1];exact congrArg some h2
      clear h hsz hdf
      go_wp2
      exact ⟨_,rfl,rfl,Ext.refl _⟩
     ·
      intro ac wx hE hsz hdf h
      have e85:ac.tmps[85]?=some (.string ⟨kt.toArray⟩):=by obtain ⟨v,h1,h2⟩:=h 85 (by decide +kernel);rw [h1];exact congrArg some h2
      have e93:ac.tmps[93]?=some (.bool b8):=by obtain ⟨v,h1,h2⟩:=h 93 (by decide +kernel);rw [h1];exact congrArg some h2
      clear h hsz hdf
      go_wp2_with ((go_at_call 36;refine (rxWithin b8 kt (by have:=HLK.out;omega) _).mono ?_;rintro e w9 ⟨rfl,hb9⟩))
      exact ⟨_,rfl,rfl,hb9⟩
     ·
      intro ac wx hE hsz hdf h
      have e1:ac.tmps[1]?=some (.pointer (some ⟨g0,0,none⟩)):=by obtain ⟨v,h1,h2⟩:=h 1 (by decide +kernel);exact h1.trans (h2.symm.trans rfl)
      clear h hsz hdf
      obtain ⟨q0,q1,q2,q3,q4,q5,q6,q7⟩:=(HB0.out.keep hE).cells
      go_wp2
      exact ⟨_,rfl,rfl,Ext.refl _⟩
     ·
      intro ac wx hE hsz hdf h
      have e95:ac.tmps[95]?=some (.agg #[.int .i64 5,.int .i64 m,.bool z,.int .u64 (wd p 0:Nat),.int .u64 (wd p 1:Nat),.int .u64 (wd p 2:Nat),.int .u64 (wd p 3:Nat),.slice (some ⟨bb,oo,none⟩) ks.length c]):=by obtain ⟨v,h1,h2⟩:=h 95 (by decide +kernel);rw [h1];exact congrArg some h2
      clear h hsz hdf
      go_wp2_with ((go_at_call 37;refine (rxSign 5 m z p _ ks.length c H5.out _).mono ?_;rintro e w9 ⟨rfl,hb9⟩))
      exact ⟨_,rfl,rfl,hb9⟩
     ·
      intro ac wx hE hsz hdf h
      have e94:ac.tmps[94]?=some (.string ⟨(withinT b8 kt).toArray⟩):=by obtain ⟨v,h1,h2⟩:=h 94 (by decide +kernel);rw [h1];exact congrArg some h2
      have e96:ac.tmps[96]?=some (.string ⟨(signR 5 z).toArray⟩):=by obtain ⟨v,h1,h2⟩:=h 96 (by decide +kernel);rw [h1];exact congrArg some h2
      clear h hsz hdf
      go_wp2
      exact ⟨_,rfl,rfl,Ext.refl _⟩
     ·
      intro ac wx hE hsz hdf h
      have e97:ac.tmps[97]?=some (.string ⟨(withinT b8 kt ++ signR 5 z).toArray⟩):=by obtain ⟨v,h1,h2⟩:=h 97 (by decide +kernel);rw [h1];exact congrArg some h2
      clear h hsz hdf
      go_wp2
      exact ⟨_,rfl,rfl,Ext.refl _⟩
     ·intro ac w9 hE hsz hdf h hrest
      obtain ⟨v0,s0,g0⟩:=h 0 _ rfl
      have e0:=g0 84 rfl
      obtain rfl:v0=.agg #[.int .i64 k',.int .i64 m',.bool z',.int .u64 (wd p' 0:Nat),.int .u64 (wd p' 1:Nat),.int .u64 (wd p' 2:Nat),.int .u64 (wd p' 3:Nat),.slice B n' c']:=s0
      obtain ⟨v1,s1,g1⟩:=h 1 _ rfl
      have e1:=g1 85 rfl
      obtain rfl:v1=.string ⟨kt.toArray⟩:=s1
      obtain ⟨v2,s2,g2⟩:=h 2 _ rfl
      have e2:=g2 86 rfl
      obtain rfl:v2=.pointer (some ⟨gk,0,none⟩):=s2
      obtain ⟨v3,s3,g3⟩:=h 3 _ rfl
      have e3:=g3 87 rfl
      obtain rfl:v3=.int .i64 k':=s3
      obtain ⟨v4,s4,g4⟩:=h 4 _ rfl
      have e4:=g4 88 rfl
      obtain rfl:v4=.bool true:=s4
      obtain ⟨v5,s5,g5⟩:=h 5 _ rfl
      have e5:=g5 89 rfl
      obtain rfl:v5=.bool true:=s5
      obtain ⟨v6,s6,g6⟩:=h 6 _ rfl
      have e6:=g6 90 rfl
      obtain rfl:v6=.pointer (some ⟨gk,0,none⟩):=s6
      obtain ⟨v7,s7,g7⟩:=h 7 _ rfl
      have e7:=g7 91 rfl
      obtain rfl:v7=.int .i64 k':=s7
      obtain ⟨v8,s8,g8⟩:=h 8 _ rfl
      have e8:=g8 92 rfl
      obtain rfl:v8=.bool b8:=s8
      obtain ⟨v9,s9,g9⟩:=h 9 _ rfl
      have e9:=g9 93 rfl
      obtain rfl:v9=.bool b8:=s9
      obtain ⟨v10,s10,g10⟩:=h 10 _ rfl
      have e10:=g10 94 rfl
      obtain rfl:v10=.string ⟨(withinT b8 kt).toArray⟩:=s10
      obtain ⟨v11,s11,g11⟩:=h 11 _ rfl
      have e11:=g11 95 rfl
      obtain rfl:v11=.agg #[.int .i64 5,.int .i64 m,.bool z,.int .u64 (wd p 0:Nat),.int .u64 (wd p 1:Nat),.int .u64 (wd p 2:Nat),.int .u64 (wd p 3:Nat),.slice (some ⟨bb,oo,none⟩) ks.length c]:=s11
      obtain ⟨v12,s12,g12⟩:=h 12 _ rfl
      have e12:=g12 96 rfl
      obtain rfl:v12=.string ⟨(signR 5 z).toArray⟩:=s12
      obtain ⟨v13,s13,g13⟩:=h 13 _ rfl
      have e13:=g13 97 rfl
      obtain rfl:v13=.string ⟨(withinT b8 kt ++ signR 5 z).toArray⟩:=s13
      obtain ⟨v14,s14,g14⟩:=h 14 _ rfl
      have e14:=g14 3 rfl
      obtain rfl:v14=.string ⟨(withinT b8 kt ++ signR 5 z).toArray⟩:=s14
      have ha:=act_of [(84,.agg #[.int .i64 k',.int .i64 m',.bool z',.int .u64 (wd p' 0:Nat),.int .u64 (wd p' 1:Nat),.int .u64 (wd p' 2:Nat),.int .u64 (wd p' 3:Nat),.slice B n' c']),(85,.string ⟨kt.toArray⟩),(86,.pointer (some ⟨gk,0,none⟩)),(87,.int .i64 k'),(88,.bool true),(89,.bool true),(90,.pointer (some ⟨gk,0,none⟩)),(91,.int .i64 k'),(92,.bool b8),(93,.bool b8),(94,.string ⟨(withinT b8 kt).toArray⟩),(95,.agg #[.int .i64 5,.int .i64 m,.bool z,.int .u64 (wd p 0:Nat),.int .u64 (wd p 1:Nat),.int .u64 (wd p 2:Nat),.int .u64 (wd p 3:Nat),.slice (some ⟨bb,oo,none⟩) ks.length c]),(96,.string ⟨(signR 5 z).toArray⟩),(97,.string ⟨(withinT b8 kt ++ signR 5 z).toArray⟩),(3,.string ⟨(withinT b8 kt ++ signR 5 z).toArray⟩)] rfl hsz hdf (by intro p hp;simp only [List.mem_cons,List.not_mem_nil,or_false] at hp;rcases hp with rfl | rfl | rfl | rfl | rfl | rfl | rfl | rfl | rfl | rfl | rfl | rfl | rfl | rfl | rfl <;> first | exact e0 | exact e1 | exact e2 | exact e3 | exact e4 | exact e5 | exact e6 | exact e7 | exact e8 | exact e9 | exact e10 | exact e11 | exact e12 | exact e13 | exact e14) hrest
      clear h hrest hsz hdf e0 e1 e2 e3 e4 e5 e6 e7 e8 e9 e10 e11 e12 e13 e14 g0 g1 g2 g3 g4 g5 g6 g7 g8 g9 g10 g11 g12 g13 g14
      subst ha
      simp only [List.foldl_cons,List.foldl_nil,Act.put,List.setIfInBounds_toArray,List.set_cons_succ,List.set_cons_zero]
      have hxe:=Lib.hid (Ext.trans hxk.out hE)
      clear hE
      go_wp2
      go_ret
      exact ⟨by first | rfl | (rw [HW.out];rfl),hxe.out⟩
   focus
    have hv:T.text (.node 6 m z p ks)=headW ks ++ signR 6 z:=by unfold T.text;rw [if_neg (by decide),if_neg (by decide),if_neg (by decide),if_neg (by decide),if_pos (by decide)]
    have hpos:0<ks.length:=List.length_pos_iff.2 (HF8.out (by decide))
    have H6:=Lib.hid (show (6:Int)=5∨(6:Int)=6∨(6:Int)=7 by decide)
    obtain ⟨bb,oo,k',m',z',p',B,n',c',rfl,hv1,hk⟩:=kid_at HR.out HK.out hpos
    obtain ⟨c0,c1,c2,c3,c4,c5,c6,c7⟩:=hk.out _ hx0.out
    simp only [Nat.zero_mul,Nat.add_zero] at c0 c1 c2 c3 c4 c5 c6 c7
    have hmem:=sizeL_mem (List.getElem_mem hpos)
    have hlt0:=text_len_le (ks[0]'hpos)
    have hkf:=kind_form hv1
    have hsl:=signR_len 6 z
    rw [hv,head_W hpos,hkf]
    have HS:=Lib.hid (show (ks[0]'hpos).size≤n∧(ks[0]'hpos).size≤1000000∧(ks[0]'hpos).fit from ⟨by omega,by omega,fitL_mem HFL.out (List.getElem_mem hpos)⟩)
    have HVk:=Lib.hid ((hv1.keep hx0.out).keep (Ext.new1 _ (.cells (nodeC k' m' z' p' B n' c').toArray 28)))
    have HBk:=Lib.hid (NodeB.new (w.alloc (.cells #[.int .i64 6,.int .i64 m,.bool z,.int .u64 (wd p 0:Nat),.int .u64 (wd p 1:Nat),.int .u64 (wd p 2:Nat),.int .u64 (wd p 3:Nat),.slice (some ⟨bb,oo,none⟩) ks.length c] 28)) k' m' z' p' B n' c')
    have hxk:=Lib.hid (Ext.trans hx0.out (Ext.new1 _ (.cells (nodeC k' m' z' p' B n' c').toArray 28)))
    have HB0:=Lib.hid (HB0.out.keep (Ext.new1 _ (.cells (nodeC k' m' z' p' B n' c').toArray 28)))
    have HTk:=Lib.hid (HT.out.keep hxk.out)
    obtain ⟨kt,hkt⟩:∃ q,(ks[0]'hpos).text=q:=⟨_,rfl⟩
    rw [hkt] at hlt0 ⊢
    have HKT:=Lib.hid hkt
    have HLK:=Lib.hid (show kt.length≤1000000000000 by omega)
    have hpos':(0:Int)<(ks.length:Int):=by omega
    clear hv hkt hv1 hmem k2 k3 k4 k8 hsz ht hkf
    go_enter Tryd.func24,Tryd.ntmps24
    go_upto_region 25 with fail
    clear c0 c1 c2 c3 c4 c5 c6 c7 hk hx0
    unfold nodeC at HVk HTk hxk HB0
    generalize World.alloc _ (.cells #[.int .i64 k',.int .i64 m',.bool z',.int .u64 (wd p' 0:Nat),.int .u64 (wd p' 1:Nat),.int .u64 (wd p' 2:Nat),.int .u64 (wd p' 3:Nat),.slice B n' c'] 28)=wk at *
    rw [show (w.alloc (.cells #[.int .i64 6,.int .i64 m,.bool z,.int .u64 (wd p 0:Nat),.int .u64 (wd p 1:Nat),.int .u64 (wd p 2:Nat),.int .u64 (wd p 3:Nat),.slice (some ⟨bb,oo,none⟩) ks.length c] 28)).heap.size=w.heap.size+1 by simp] at HBk
    generalize w.heap.size+1=gk at *
    generalize w.heap.size=g0 at *
    by_cases j2:k'=2
    focus
     subst j2
     have hwl:=within_len false kt
     have hm2:¬ 9223372036854775807<(withinT false kt).length+(signR 6 z).length:=by have:=HLK.out;omega
     have HW:=Lib.hid (show withinT (decide ((2:Int) ≠ 2∧(2:Int) ≠ 8)) kt=withinT false kt from rfl)
     clear hwl hlt0 hsl
     refine wp_region_dag (E:=Ext) (w0:=wk) (Φ:=fun i v w=>match i with | 0=>(v=.agg #[.int .i64 2,.int .i64 m',.bool z',.int .u64 (wd p' 0:Nat),.int .u64 (wd p' 1:Nat),.int .u64 (wd p' 2:Nat),.int .u64 (wd p' 3:Nat),.slice B n' c']) | 1=>(v=.string ⟨kt.toArray⟩) | 2=>(v=.pointer (some ⟨gk,0,none⟩)) | 3=>(v=.int .i64 2) | 4=>(v=.bool false) | 5=>(v=.bool false) | 6=>(v=undef) | 7=>(v=undef) | 8=>(v=undef) | 9=>(v=.bool false) | 10=>(v=.string ⟨(withinT false kt).toArray⟩) | 11=>(v=.agg #[.int .i64 6,.int .i64 m,.bool z,.int .u64 (wd p 0:Nat),.int .u64 (wd p 1:Nat),.int .u64 (wd p 2:Nat),.int .u64 (wd p 3:Nat),.slice (some ⟨bb,oo,none⟩) ks.length c]) | 12=>(v=.string ⟨(signR 6 z).toArray⟩) | 13=>(v=.string ⟨(withinT false kt ++ signR 6 z).toArray⟩) | 14=>(v=.string ⟨(withinT false kt ++ signR 6 z).toArray⟩) | _=>True) (show Tryd.prog.follows .mixedOrders=true from Checked.mixed Tryd.checked) 99 rfl (by decide +kernel) ?_ ((Below.refl _ _).drew) ?_ ⟨?_,?_,?_,?_,?_,?_,?_,?_,?_,?_,?_,?_,?_,?_,?_,trivial⟩ ?_
     ·intro i v w w' h hE
      match i,h with
      | 0,h=>exact h
      | 1,h=>exact h
      | 2,h=>exact h
      | 3,h=>exact h
      | 4,h=>exact h
      | 5,h=>exact h
      | 6,h=>exact h
      | 7,h=>exact h
      | 8,h=>exact h
      | 9,h=>exact h
      | 10,h=>exact h
      | 11,h=>exact h
      | 12,h=>exact h
      | 13,h=>exact h
      | 14,h=>exact h
      | _+15,_=>trivial
     ·exact fun w w' h h'=>h.trans h'
     ·
      intro ac wx hE hsz hdf h
      have e8:ac.tmps[8]?=some (.pointer (some ⟨gk,0,none⟩)):=by obtain ⟨v,h1,h2⟩:=h 8 (by decide +kernel);exact h1.trans (h2.symm.trans rfl)
      clear h hsz hdf
      obtain ⟨q0,q1,q2,q3,q4,q5,q6,q7⟩:=(HBk.out.keep hE).cells
      go_wp2
      exact ⟨_,rfl,rfl,Ext.refl _⟩
     ·
      intro ac wx hE hsz hdf h
      have e84:ac.tmps[84]?=some (.agg #[.int .i64 2,.int .i64 m',.bool z',.int .u64 (wd p' 0:Nat),.int .u64 (wd p' 1:Nat),.int .u64 (wd p' 2:Nat),.int .u64 (wd p' 3:Nat),.slice B n' c']):=by obtain ⟨v,h1,h2⟩:=h 84 (by decide +kernel);rw [h1];exact congrArg some h2
      clear h hsz hdf
      go_wp2_with ((go_at_call 24;refine (ih _ HS.out.1 HS.out.2.1 HS.out.2.2 S _ (nodeC 2 m' z' p' B n' c') (HVk.out.keep hE) (HTk.out.keep hE)).mono ?_;rintro e w9 ⟨rfl,hb9⟩;rw [HKT.out]))
      exact ⟨_,rfl,rfl,hb9⟩
     ·
      intro ac wx hE hsz hdf h
      have e8:ac.tmps[8]?=some (.pointer (some ⟨gk,0,none⟩)):=by obtain ⟨v,h1,h2⟩:=h 8 (by decide +kernel);exact h1.trans (h2.symm.trans rfl)
      clear h hsz hdf
      go_wp2
      exact ⟨_,rfl,rfl,Ext.refl _⟩
     ·
      intro ac wx hE hsz hdf h
      have e86:ac.tmps[86]?=some (.pointer (some ⟨gk,0,none⟩)):=by obtain ⟨v,h1,h2⟩:=h 86 (by decide +kernel);rw [h1];exact congrArg some h2
      clear h hsz hdf
      obtain ⟨q0,q1,q2,q3,q4,q5,q6,q7⟩:=(HBk.out.keep hE).cells
      go_wp2
      exact ⟨_,rfl,rfl,Ext.refl _⟩
     ·
      intro ac wx hE hsz hdf h
      have e87:ac.tmps[87]?=some (.int .i64 2):=by obtain ⟨v,h1,h2⟩:=h 87 (by decide +kernel);rw [h1];exact congrArg some h2
      clear h hsz hdf
      go_wp2
      exact ⟨_,rfl,rfl,Ext.refl _⟩
     ·
      intro ac wx hE hsz hdf h
      have e88:ac.tmps[88]?=some (.bool false):=by obtain ⟨v,h1,h2⟩:=h 88 (by decide +kernel);rw [h1];exact congrArg some h2
      clear h hsz hdf
      go_wp2
      exact ⟨_,rfl,rfl,Ext.refl _⟩
     ·
      intro ac wx hE hsz hdf h
      have e89:ac.tmps[89]?=some (.bool false):=by obtain ⟨v,h1,h2⟩:=h 89 (by decide +kernel);rw [h1];exact congrArg some h2
      clear h hsz hdf
      go_wp2
      exact ⟨_,rfl,rfl,Ext.refl _⟩
     ·
      intro ac wx hE hsz hdf h
      have e89:ac.tmps[89]?=some (.bool false):=by obtain ⟨v,h1,h2⟩:=h 89 (by decide +kernel);rw [h1];exact congrArg some h2
      clear h hsz hdf
      obtain ⟨q0,q1,q2,q3,q4,q5,q6,q7⟩:=(HBk.out.keep hE).cells
      go_wp2
      exact ⟨_,rfl,rfl,Ext.refl _⟩
     ·
      intro ac wx hE hsz hdf h
      have e89:ac.tmps[89]?=some (.bool false):=by obtain ⟨v,h1,h2⟩:=h 89 (by decide +kernel);rw [h1];exact congrArg some h2
      clear h hsz hdf
      go_wp2
      exact ⟨_,rfl,rfl,Ext.refl _⟩
     ·
      intro ac wx hE hsz hdf h
      have e89:ac.tmps[89]?=some (.bool false):=by obtain ⟨v,h1,h2⟩:=h 89 (by decide +kernel);rw [h1];exact congrArg some h2
      have e92:ac.tmps[92]?=some (undef):=by obtain ⟨v,h1,h2⟩:=h 92 (by decide +kernel);rw [h1];exact congrArg some h2
      clear h hsz hdf
      go_wp2
      exact ⟨_,rfl,rfl,Ext.refl _⟩
     ·
      intro ac wx hE hsz hdf h
      have e85:ac.tmps[85]?=some (.string ⟨kt.toArray⟩):=by obtain ⟨v,h1,h2⟩:=h 85 (by decide +kernel);rw [h1];exact congrArg some h2
      have e93:ac.tmps[93]?=some (.bool false):=by obtain ⟨v,h1,h2⟩:=h 93 (by decide +kernel);rw [h1];exact congrArg some h2
      clear h hsz hdf
      go_wp2_with ((go_at_call 36;refine (rxWithin false kt (by have:=HLK.out;omega) _).mono ?_;rintro e w9 ⟨rfl,hb9⟩))
      exact ⟨_,rfl,rfl,hb9⟩
     ·
      intro ac wx hE hsz hdf h
      have e1:ac.tmps[1]?=some (.pointer (some ⟨g0,0,none⟩)):=by obtain ⟨v,h1,h2⟩:=h 1 (by decide +kernel);exact h1.trans (h2.symm.trans rfl)
      clear h hsz hdf
      obtain ⟨q0,q1,q2,q3,q4,q5,q6,q7⟩:=(HB0.out.keep hE).cells
      go_wp2
      exact ⟨_,rfl,rfl,Ext.refl _⟩
     ·
      intro ac wx hE hsz hdf h
      have e95:ac.tmps[95]?=some (.agg #[.int .i64 6,.int .i64 m,.bool z,.int .u64 (wd p 0:Nat),.int .u64 (wd p 1:Nat),.int .u64 (wd p 2:Nat),.int .u64 (wd p 3:Nat),.slice (some ⟨bb,oo,none⟩) ks.length c]):=by obtain ⟨v,h1,h2⟩:=h 95 (by decide +kernel);rw [h1];exact congrArg some h2
      clear h hsz hdf
      go_wp2_with ((go_at_call 37;refine (rxSign 6 m z p _ ks.length c H6.out _).mono ?_;rintro e w9 ⟨rfl,hb9⟩))
      exact ⟨_,rfl,rfl,hb9⟩
     ·
      intro ac wx hE hsz hdf h
      have e94:ac.tmps[94]?=some (.string ⟨(withinT false kt).toArray⟩):=by obtain ⟨v,h1,h2⟩:=h 94 (by decide +kernel);rw [h1];exact congrArg some h2
      have e96:ac.tmps[96]?=some (.string ⟨(signR 6 z).toArray⟩):=by obtain ⟨v,h1,h2⟩:=h 96 (by decide +kernel);rw [h1];exact congrArg some h2
      clear h hsz hdf
      go_wp2
      exact ⟨_,rfl,rfl,Ext.refl _⟩
     ·
      intro ac wx hE hsz hdf h
      have e97:ac.tmps[97]?=some (.string ⟨(withinT false kt ++ signR 6 z).toArray⟩):=by obtain ⟨v,h1,h2⟩:=h 97 (by decide +kernel);rw [h1];exact congrArg some h2
      clear h hsz hdf
      go_wp2
      exact ⟨_,rfl,rfl,Ext.refl _⟩
     ·intro ac w9 hE hsz hdf h hrest
      obtain ⟨v0,s0,g0⟩:=h 0 _ rfl
      have e0:=g0 84 rfl
      obtain rfl:v0=.agg #[.int .i64 2,.int .i64 m',.bool z',.int .u64 (wd p' 0:Nat),.int .u64 (wd p' 1:Nat),.int .u64 (wd p' 2:Nat),.int .u64 (wd p' 3:Nat),.slice B n' c']:=s0
      obtain ⟨v1,s1,g1⟩:=h 1 _ rfl
      have e1:=g1 85 rfl
      obtain rfl:v1=.string ⟨kt.toArray⟩:=s1
      obtain ⟨v2,s2,g2⟩:=h 2 _ rfl
      have e2:=g2 86 rfl
      obtain rfl:v2=.pointer (some ⟨gk,0,none⟩):=s2
      obtain ⟨v3,s3,g3⟩:=h 3 _ rfl
      have e3:=g3 87 rfl
      obtain rfl:v3=.int .i64 2:=s3
      obtain ⟨v4,s4,g4⟩:=h 4 _ rfl
      have e4:=g4 88 rfl
      obtain rfl:v4=.bool false:=s4
      obtain ⟨v5,s5,g5⟩:=h 5 _ rfl
      have e5:=g5 89 rfl
      obtain rfl:v5=.bool false:=s5
      obtain ⟨v6,s6,g6⟩:=h 6 _ rfl
      have e6:=g6 90 rfl
      obtain rfl:v6=undef:=s6
      obtain ⟨v7,s7,g7⟩:=h 7 _ rfl
      have e7:=g7 91 rfl
      obtain rfl:v7=undef:=s7
      obtain ⟨v8,s8,g8⟩:=h 8 _ rfl
      have e8:=g8 92 rfl
      obtain rfl:v8=undef:=s8
      obtain ⟨v9,s9,g9⟩:=h 9 _ rfl
      have e9:=g9 93 rfl
      obtain rfl:v9=.bool false:=s9
      obtain ⟨v10,s10,g10⟩:=h 10 _ rfl
      have e10:=g10 94 rfl
      obtain rfl:v10=.string ⟨(withinT false kt).toArray⟩:=s10
      obtain ⟨v11,s11,g11⟩:=h 11 _ rfl
      have e11:=g11 95 rfl
      obtain rfl:v11=.agg #[.int .i64 6,.int .i64 m,.bool z,.int .u64 (wd p 0:Nat),.int .u64 (wd p 1:Nat),.int .u64 (wd p 2:Nat),.int .u64 (wd p 3:Nat),.slice (some ⟨bb,oo,none⟩) ks.length c]:=s11
      obtain ⟨v12,s12,g12⟩:=h 12 _ rfl
      have e12:=g12 96 rfl
      obtain rfl:v12=.string ⟨(signR 6 z).toArray⟩:=s12
      obtain ⟨v13,s13,g13⟩:=h 13 _ rfl
      have e13:=g13 97 rfl
      obtain rfl:v13=.string ⟨(withinT false kt ++ signR 6 z).toArray⟩:=s13
      obtain ⟨v14,s14,g14⟩:=h 14 _ rfl
      have e14:=g14 3 rfl
      obtain rfl:v14=.string ⟨(withinT false kt ++ signR 6 z).toArray⟩:=s14
      have ha:=act_of [(84,.agg #[.int .i64 2,.int .i64 m',.bool z',.int .u64 (wd p' 0:Nat),.int .u64 (wd p' 1:Nat),.int .u64 (wd p' 2:Nat),.int .u64 (wd p' 3:Nat),.slice B n' c']),(85,.string ⟨kt.toArray⟩),(86,.pointer (some ⟨gk,0,none⟩)),(87,.int .i64 2),(88,.bool false),(89,.bool false),(90,undef),(91,undef),(92,undef),(93,.bool false),(94,.string ⟨(withinT false kt).toArray⟩),(95,.agg #[.int .i64 6,.int .i64 m,.bool z,.int .u64 (wd p 0:Nat),.int .u64 (wd p 1:Nat),.int .u64 (wd p 2:Nat),.int .u64 (wd p 3:Nat),.slice (some ⟨bb,oo,none⟩) ks.length c]),(96,.string ⟨(signR 6 z).toArray⟩),(97,.string ⟨(withinT false kt ++ signR 6 z).toArray⟩),(3,.string ⟨(withinT false kt ++ signR 6 z).toArray⟩)] rfl hsz hdf (by intro p hp;simp only [List.mem_cons,List.not_mem_nil,or_false] at hp;rcases hp with rfl | rfl | rfl | rfl | rfl | rfl | rfl | rfl | rfl | rfl | rfl | rfl | rfl | rfl | rfl <;> first | exact e0 | exact e1 | exact e2 | exact e3 | exact e4 | exact e5 | exact e6 | exact e7 | exact e8 | exact e9 | exact e10 | exact e11 | exact e12 | exact e13 | exact e14) hrest
      clear h hrest hsz hdf e0 e1 e2 e3 e4 e5 e6 e7 e8 e9 e10 e11 e12 e13 e14 g0 g1 g2 g3 g4 g5 g6 g7 g8 g9 g10 g11 g12 g13 g14
      subst ha
      simp only [List.foldl_cons,List.foldl_nil,Act.put,List.setIfInBounds_toArray,List.set_cons_succ,List.set_cons_zero]
      have hxe:=Lib.hid (Ext.trans hxk.out hE)
      clear hE
      go_wp2
      go_ret
      exact ⟨by first | rfl | (rw [HW.out];rfl),hxe.out⟩
    focus
     obtain ⟨b8,hb8⟩:∃ b8,(k' != 8)=b8:=⟨_,rfl⟩
     have hj2:(k' != 2)=true:=by simp [j2]
     have hwl:=within_len b8 kt
     have hm2:¬ 9223372036854775807<(withinT b8 kt).length+(signR 6 z).length:=by have:=HLK.out;omega
     have HW:=Lib.hid (show withinT (!decide (k'=2) && !decide (k'=8)) kt=withinT b8 kt from by rw [← hb8,decide_eq_false j2];rfl)
     clear hwl hlt0 hsl j2
     refine wp_region_dag (E:=Ext) (w0:=wk) (Φ:=fun i v w=>match i with | 0=>(v=.agg #[.int .i64 k',.int .i64 m',.bool z',.int .u64 (wd p' 0:Nat),.int .u64 (wd p' 1:Nat),.int .u64 (wd p' 2:Nat),.int .u64 (wd p' 3:Nat),.slice B n' c']) | 1=>(v=.string ⟨kt.toArray⟩) | 2=>(v=.pointer (some ⟨gk,0,none⟩)) | 3=>(v=.int .i64 k') | 4=>(v=.bool true) | 5=>(v=.bool true) | 6=>(v=.pointer (some ⟨gk,0,none⟩)) | 7=>(v=.int .i64 k') | 8=>(v=.bool b8) | 9=>(v=.bool b8) | 10=>(v=.string ⟨(withinT b8 kt).toArray⟩) | 11=>(v=.agg #[.int .i64 6,.int .i64 m,.bool z,.int .u64 (wd p 0:Nat),.int .u64 (wd p 1:Nat),.int .u64 (wd p 2:Nat),.int .u64 (wd p 3:Nat),.slice (some ⟨bb,oo,none⟩) ks.length c]) | 12=>(v=.string ⟨(signR 6 z).toArray⟩) | 13=>(v=.string ⟨(withinT b8 kt ++ signR 6 z).toArray⟩) | 14=>(v=.string ⟨(withinT b8 kt ++ signR 6 z).toArray⟩) | _=>True) (show Tryd.prog.follows .mixedOrders=true from Checked.mixed Tryd.checked) 99 rfl (by decide +kernel) ?_ ((Below.refl _ _).drew) ?_ ⟨?_,?_,?_,?_,?_,?_,?_,?_,?_,?_,?_,?_,?_,?_,?_,trivial⟩ ?_
     ·intro i v w w' h hE
      match i,h with
      | 0,h=>exact h
      | 1,h=>exact h
      | 2,h=>exact h
      | 3,h=>exact h
      | 4,h=>exact h
      | 5,h=>exact h
      | 6,h=>exact h
      | 7,h=>exact h
      | 8,h=>exact h
      | 9,h=>exact h
      | 10,h=>exact h
      | 11,h=>exact h
      | 12,h=>exact h
      | 13,h=>exact h
      | 14,h=>exact h
      | _+15,_=>trivial
     ·exact fun w w' h h'=>h.trans h'
     ·
      intro ac wx hE hsz hdf h
      have e8:ac.tmps[8]?=some (.pointer (some ⟨gk,0,none⟩)):=by obtain ⟨v,h1,h2⟩:=h 8 (by decide +kernel);exact h1.trans (h2.symm.trans rfl)
      clear h hsz hdf
      obtain ⟨q0,q1,q2,q3,q4,q5,q6,q7⟩:=(HBk.out.keep hE).cells
      go_wp2
      exact ⟨_,rfl,rfl,Ext.refl _⟩
     ·
      intro ac wx hE hsz hdf h
      have e84:ac.tmps[84]?=some (.agg #[.int .i64 k',.int .i64 m',.bool z',.int .u64 (wd p' 0:Nat),.int .u64 (wd p' 1:Nat),.int .u64 (wd p' 2:Nat),.int .u64 (wd p' 3:Nat),.slice B n' c']):=by obtain ⟨v,h1,h2⟩:=h 84 (by decide +kernel);rw [h1];exact congrArg some h2
      clear h hsz hdf
      go_wp2_with ((go_at_call 24;refine (ih _ HS.out.1 HS.out.2.1 HS.out.2.2 S _ (nodeC k' m' z' p' B n' c') (HVk.out.keep hE) (HTk.out.keep hE)).mono ?_;rintro e w9 ⟨rfl,hb9⟩;rw [HKT.out]))
      exact ⟨_,rfl,rfl,hb9⟩
     ·
      intro ac wx hE hsz hdf h
      have e8:ac.tmps[8]?=some (.pointer (some ⟨gk,0,none⟩)):=by obtain ⟨v,h1,h2⟩:=h 8 (by decide +kernel);exact h1.trans (h2.symm.trans rfl)
      clear h hsz hdf
      go_wp2
      exact ⟨_,rfl,rfl,Ext.refl _⟩
     ·
      intro ac wx hE hsz hdf h
      have e86:ac.tmps[86]?=some (.pointer (some ⟨gk,0,none⟩)):=by obtain ⟨v,h1,h2⟩:=h 86 (by decide +kernel);rw [h1];exact congrArg some h2
      clear h hsz hdf
      obtain ⟨q0,q1,q2,q3,q4,q5,q6,q7⟩:=(HBk.out.keep hE).cells
      go_wp2
      exact ⟨_,rfl,rfl,Ext.refl _⟩
     ·
      intro ac wx hE hsz hdf h
      have e87:ac.tmps[87]?=some (.int .i64 k'):=by obtain ⟨v,h1,h2⟩:=h 87 (by decide +kernel);rw [h1];exact congrArg some h2
      clear h hsz hdf
      go_wp2
      exact ⟨_,rfl,rfl,Ext.refl _⟩
     ·
      intro ac wx hE hsz hdf h
      have e88:ac.tmps[88]?=some (.bool true):=by obtain ⟨v,h1,h2⟩:=h 88 (by decide +kernel);rw [h1];exact congrArg some h2
      clear h hsz hdf
      go_wp2
      exact ⟨_,rfl,rfl,Ext.refl _⟩
     ·
      intro ac wx hE hsz hdf h
      have e8:ac.tmps[8]?=some (.pointer (some ⟨gk,0,none⟩)):=by obtain ⟨v,h1,h2⟩:=h 8 (by decide +kernel);exact h1.trans (h2.symm.trans rfl)
      have e89:ac.tmps[89]?=some (.bool true):=by obtain ⟨v,h1,h2⟩:=h 89 (by decide +kernel);rw [h1];exact congrArg some h2
      clear h hsz hdf
      go_wp2
      exact ⟨_,rfl,rfl,Ext.refl _⟩
     ·
      intro ac wx hE hsz hdf h
      have e90:ac.tmps[90]?=some (.pointer (some ⟨gk,0,none⟩)):=by obtain ⟨v,h1,h2⟩:=h 90 (by decide +kernel);rw [h1];exact congrArg some h2
      have e89:ac.tmps[89]?=some (.bool true):=by obtain ⟨v,h1,h2⟩:=h 89 (by decide +kernel);rw [h1];exact congrArg some h2
      clear h hsz hdf
      obtain ⟨q0,q1,q2,q3,q4,q5,q6,q7⟩:=(HBk.out.keep hE).cells
      go_wp2
      exact ⟨_,rfl,rfl,Ext.refl _⟩
     ·
      intro ac wx hE hsz hdf h
      have e91:ac.tmps[91]?=some (.int .i64 k'):=by obtain ⟨v,h1,h2⟩:=h 91 (by decide +kernel);rw [h1];exact congrArg some h2
      have e89:ac.tmps[89]?=some (.bool true):=by obtain ⟨v,h1,h2⟩:=h 89 (by decide +kernel);rw [h1];exact congrArg some h2
      clear h hsz hdf
      go_wp2
      exact ⟨_,rfl,rfl,Ext.refl _⟩
     ·
      intro ac wx hE hsz hdf h
      have e89:ac.tmps[89]?=some (.bool true):=by obtain ⟨v,h1,h2⟩:=h 89 (by decide +kernel);rw [h1];exact congrArg some h2
      have e92:ac.tmps[92]?=some (.bool b8):=by obtain ⟨v,h1,h2⟩:=h 92 (by decide +kernel);rw [h1];exact congrArg some h2
      clear h hsz hdf
      go_wp2
      exact ⟨_,rfl,rfl,Ext.refl _⟩
     ·
      intro ac wx hE hsz hdf h
      have e85:ac.tmps[85]?=some (.string ⟨kt.toArray⟩):=by obtain ⟨v,h1,h2⟩:=h 85 (by decide +kernel);rw [h1];exact congrArg some h2
      have e93:ac.tmps[93]?=some (.bool b8):=by obtain ⟨v,h1,h2⟩:=h 93 (by decide +kernel);rw [h1];exact congrArg some h2
      clear h hsz hdf
      go_wp2_with ((go_at_call 36;refine (rxWithin b8 kt (by have:=HLK.out;omega) _).mono ?_;rintro e w9 ⟨rfl,hb9⟩))
      exact ⟨_,rfl,rfl,hb9⟩
     ·
      intro ac wx hE hsz hdf h
      have e1:ac.tmps[1]?=some (.pointer (some ⟨g0,0,none⟩)):=by obtain ⟨v,h1,h2⟩:=h 1 (by decide +kernel);exact h1.trans (h2.symm.trans rfl)
      clear h hsz hdf
      obtain ⟨q0,q1,q2,q3,q4,q5,q6,q7⟩:=(HB0.out.keep hE).cells
      go_wp2
      exact ⟨_,rfl,rfl,Ext.refl _⟩
     ·
      intro ac wx hE hsz hdf h
      have e95:ac.tmps[95]?=some (.agg #[.int .i64 6,.int .i64 m,.bool z,.int .u64 (wd p 0:Nat),.int .u64 (wd p 1:Nat),.int .u64 (wd p 2:Nat),.int .u64 (wd p 3:Nat),.slice (some ⟨bb,oo,none⟩) ks.length c]):=by obtain ⟨v,h1,h2⟩:=h 95 (by decide +kernel);rw [h1];exact congrArg some h2
      clear h hsz hdf
      go_wp2_with ((go_at_call 37;refine (rxSign 6 m z p _ ks.length c H6.out _).mono ?_;rintro e w9 ⟨rfl,hb9⟩))
      exact ⟨_,rfl,rfl,hb9⟩
     ·
      intro ac wx hE hsz hdf h
      have e94:ac.tmps[94]?=some (.string ⟨(withinT b8 kt).toArray⟩):=by obtain ⟨v,h1,h2⟩:=h 94 (by decide +kernel);rw [h1];exact congrArg some h2
      have e96:ac.tmps[96]?=some (.string ⟨(signR 6 z).toArray⟩):=by obtain ⟨v,h1,h2⟩:=h 96 (by decide +kernel);rw [h1];exact congrArg some h2
      clear h hsz hdf
      go_wp2
      exact ⟨_,rfl,rfl,Ext.refl _⟩
     ·
      intro ac wx hE hsz hdf h
      have e97:ac.tmps[97]?=some (.string ⟨(withinT b8 kt ++ signR 6 z).toArray⟩):=by obtain ⟨v,h1,h2⟩:=h 97 (by decide +kernel);rw [h1];exact congrArg some h2
      clear h hsz hdf
      go_wp2
      exact ⟨_,rfl,rfl,Ext.refl _⟩
     ·intro ac w9 hE hsz hdf h hrest
      obtain ⟨v0,s0,g0⟩:=h 0 _ rfl
      have e0:=g0 84 rfl
      obtain rfl:v0=.agg #[.int .i64 k',.int .i64 m',.bool z',.int .u64 (wd p' 0:Nat),.int .u64 (wd p' 1:Nat),.int .u64 (wd p' 2:Nat),.int .u64 (wd p' 3:Nat),.slice B n' c']:=s0
      obtain ⟨v1,s1,g1⟩:=h 1 _ rfl
      have e1:=g1 85 rfl
      obtain rfl:v1=.string ⟨kt.toArray⟩:=s1
      obtain ⟨v2,s2,g2⟩:=h 2 _ rfl
      have e2:=g2 86 rfl
      obtain rfl:v2=.pointer (some ⟨gk,0,none⟩):=s2
      obtain ⟨v3,s3,g3⟩:=h 3 _ rfl
      have e3:=g3 87 rfl
      obtain rfl:v3=.int .i64 k':=s3
      obtain ⟨v4,s4,g4⟩:=h 4 _ rfl
      have e4:=g4 88 rfl
      obtain rfl:v4=.bool true:=s4
      obtain ⟨v5,s5,g5⟩:=h 5 _ rfl
      have e5:=g5 89 rfl
      obtain rfl:v5=.bool true:=s5
      obtain ⟨v6,s6,g6⟩:=h 6 _ rfl
      have e6:=g6 90 rfl
      obtain rfl:v6=.pointer (some ⟨gk,0,none⟩):=s6
      obtain ⟨v7,s7,g7⟩:=h 7 _ rfl
      have e7:=g7 91 rfl
      obtain rfl:v7=.int .i64 k':=s7
      obtain ⟨v8,s8,g8⟩:=h 8 _ rfl
      have e8:=g8 92 rfl
      obtain rfl:v8=.bool b8:=s8
      obtain ⟨v9,s9,g9⟩:=h 9 _ rfl
      have e9:=g9 93 rfl
      obtain rfl:v9=.bool b8:=s9
      obtain ⟨v10,s10,g10⟩:=h 10 _ rfl
      have e10:=g10 94 rfl
      obtain rfl:v10=.string ⟨(withinT b8 kt).toArray⟩:=s10
      obtain ⟨v11,s11,g11⟩:=h 11 _ rfl
      have e11:=g11 95 rfl
      obtain rfl:v11=.agg #[.int .i64 6,.int .i64 m,.bool z,.int .u64 (wd p 0:Nat),.int .u64 (wd p 1:Nat),.int .u64 (wd p 2:Nat),.int .u64 (wd p 3:Nat),.slice (some ⟨bb,oo,none⟩) ks.length c]:=s11
      obtain ⟨v12,s12,g12⟩:=h 12 _ rfl
      have e12:=g12 96 rfl
      obtain rfl:v12=.string ⟨(signR 6 z).toArray⟩:=s12
      obtain ⟨v13,s13,g13⟩:=h 13 _ rfl
      have e13:=g13 97 rfl
      obtain rfl:v13=.string ⟨(withinT b8 kt ++ signR 6 z).toArray⟩:=s13
      obtain ⟨v14,s14,g14⟩:=h 14 _ rfl
      have e14:=g14 3 rfl
      obtain rfl:v14=.string ⟨(withinT b8 kt ++ signR 6 z).toArray⟩:=s14
      have ha:=act_of [(84,.agg #[.int .i64 k',.int .i64 m',.bool z',.int .u64 (wd p' 0:Nat),.int .u64 (wd p' 1:Nat),.int .u64 (wd p' 2:Nat),.int .u64 (wd p' 3:Nat),.slice B n' c']),(85,.string ⟨kt.toArray⟩),(86,.pointer (some ⟨gk,0,none⟩)),(87,.int .i64 k'),(88,.bool true),(89,.bool true),(90,.pointer (some ⟨gk,0,none⟩)),(91,.int .i64 k'),(92,.bool b8),(93,.bool b8),(94,.string ⟨(withinT b8 kt).toArray⟩),(95,.agg #[.int .i64 6,.int .i64 m,.bool z,.int .u64 (wd p 0:Nat),.int .u64 (wd p 1:Nat),.int .u64 (wd p 2:Nat),.int .u64 (wd p 3:Nat),.slice (some ⟨bb,oo,none⟩) ks.length c]),(96,.string ⟨(signR 6 z).toArray⟩),(97,.string ⟨(withinT b8 kt ++ signR 6 z).toArray⟩),(3,.string ⟨(withinT b8 kt ++ signR 6 z).toArray⟩)] rfl hsz hdf (by intro p hp;simp only [List.mem_cons,List.not_mem_nil,or_false] at hp;rcases hp with rfl | rfl | rfl | rfl | rfl | rfl | rfl | rfl | rfl | rfl | rfl | rfl | rfl | rfl | rfl <;> first | exact e0 | exact e1 | exact e2 | exact e3 | exact e4 | exact e5 | exact e6 | exact e7 | exact e8 | exact e9 | exact e10 | exact e11 | exact e12 | exact e13 | exact e14) hrest
      clear h hrest hsz hdf e0 e1 e2 e3 e4 e5 e6 e7 e8 e9 e10 e11 e12 e13 e14 g0 g1 g2 g3 g4 g5 g6 g7 g8 g9 g10 g11 g12 g13 g14
      subst ha
      simp only [List.foldl_cons,List.foldl_nil,Act.put,List.setIfInBounds_toArray,List.set_cons_succ,List.set_cons_zero]
      have hxe:=Lib.hid (Ext.trans hxk.out hE)
      clear hE
      go_wp2
      go_ret
      exact ⟨by first | rfl | (rw [HW.out];rfl),hxe.out⟩
   focus
    have hv:T.text (.node 7 m z p ks)=headW ks ++ signR 7 z:=by unfold T.text;rw [if_neg (by decide),if_neg (by decide),if_neg (by decide),if_neg (by decide),if_pos (by decide)]
    have hpos:0<ks.length:=List.length_pos_iff.2 (HF8.out (by decide))
    have H7:=Lib.hid (show (7:Int)=5∨(7:Int)=6∨(7:Int)=7 by decide)
    obtain ⟨bb,oo,k',m',z',p',B,n',c',rfl,hv1,hk⟩:=kid_at HR.out HK.out hpos
    obtain ⟨c0,c1,c2,c3,c4,c5,c6,c7⟩:=hk.out _ hx0.out
    simp only [Nat.zero_mul,Nat.add_zero] at c0 c1 c2 c3 c4 c5 c6 c7
    have hmem:=sizeL_mem (List.getElem_mem hpos)
    have hlt0:=text_len_le (ks[0]'hpos)
    have hkf:=kind_form hv1
    have hsl:=signR_len 7 z
    rw [hv,head_W hpos,hkf]
    have HS:=Lib.hid (show (ks[0]'hpos).size≤n∧(ks[0]'hpos).size≤1000000∧(ks[0]'hpos).fit from ⟨by omega,by omega,fitL_mem HFL.out (List.getElem_mem hpos)⟩)
    have HVk:=Lib.hid ((hv1.keep hx0.out).keep (Ext.new1 _ (.cells (nodeC k' m' z' p' B n' c').toArray 28)))
    have HBk:=Lib.hid (NodeB.new (w.alloc (.cells #[.int .i64 7,.int .i64 m,.bool z,.int .u64 (wd p 0:Nat),.int .u64 (wd p 1:Nat),.int .u64 (wd p 2:Nat),.int .u64 (wd p 3:Nat),.slice (some ⟨bb,oo,none⟩) ks.length c] 28)) k' m' z' p' B n' c')
    have hxk:=Lib.hid (Ext.trans hx0.out (Ext.new1 _ (.cells (nodeC k' m' z' p' B n' c').toArray 28)))
    have HB0:=Lib.hid (HB0.out.keep (Ext.new1 _ (.cells (nodeC k' m' z' p' B n' c').toArray 28)))
    have HTk:=Lib.hid (HT.out.keep hxk.out)
    obtain ⟨kt,hkt⟩:∃ q,(ks[0]'hpos).text=q:=⟨_,rfl⟩
    rw [hkt] at hlt0 ⊢
    have HKT:=Lib.hid hkt
    have HLK:=Lib.hid (show kt.length≤1000000000000 by omega)
    have hpos':(0:Int)<(ks.length:Int):=by omega
    clear hv hkt hv1 hmem k2 k3 k4 k8 hsz ht hkf
    go_enter Tryd.func24,Tryd.ntmps24
    go_upto_region 25 with fail
    clear c0 c1 c2 c3 c4 c5 c6 c7 hk hx0
    unfold nodeC at HVk HTk hxk HB0
    generalize World.alloc _ (.cells #[.int .i64 k',.int .i64 m',.bool z',.int .u64 (wd p' 0:Nat),.int .u64 (wd p' 1:Nat),.int .u64 (wd p' 2:Nat),.int .u64 (wd p' 3:Nat),.slice B n' c'] 28)=wk at *
    rw [show (w.alloc (.cells #[.int .i64 7,.int .i64 m,.bool z,.int .u64 (wd p 0:Nat),.int .u64 (wd p 1:Nat),.int .u64 (wd p 2:Nat),.int .u64 (wd p 3:Nat),.slice (some ⟨bb,oo,none⟩) ks.length c] 28)).heap.size=w.heap.size+1 by simp] at HBk
    generalize w.heap.size+1=gk at *
    generalize w.heap.size=g0 at *
    by_cases j2:k'=2
    focus
     subst j2
     have hwl:=within_len false kt
     have hm2:¬ 9223372036854775807<(withinT false kt).length+(signR 7 z).length:=by have:=HLK.out;omega
     have HW:=Lib.hid (show withinT (decide ((2:Int) ≠ 2∧(2:Int) ≠ 8)) kt=withinT false kt from rfl)
     clear hwl hlt0 hsl
     refine wp_region_dag (E:=Ext) (w0:=wk) (Φ:=fun i v w=>match i with | 0=>(v=.agg #[.int .i64 2,.int .i64 m',.bool z',.int .u64 (wd p' 0:Nat),.int .u64 (wd p' 1:Nat),.int .u64 (wd p' 2:Nat),.int .u64 (wd p' 3:Nat),.slice B n' c']) | 1=>(v=.string ⟨kt.toArray⟩) | 2=>(v=.pointer (some ⟨gk,0,none⟩)) | 3=>(v=.int .i64 2) | 4=>(v=.bool false) | 5=>(v=.bool false) | 6=>(v=undef) | 7=>(v=undef) | 8=>(v=undef) | 9=>(v=.bool false) | 10=>(v=.string ⟨(withinT false kt).toArray⟩) | 11=>(v=.agg #[.int .i64 7,.int .i64 m,.bool z,.int .u64 (wd p 0:Nat),.int .u64 (wd p 1:Nat),.int .u64 (wd p 2:Nat),.int .u64 (wd p 3:Nat),.slice (some ⟨bb,oo,none⟩) ks.length c]) | 12=>(v=.string ⟨(signR 7 z).toArray⟩) | 13=>(v=.string ⟨(withinT false kt ++ signR 7 z).toArray⟩) | 14=>(v=.string ⟨(withinT false kt ++ signR 7 z).toArray⟩) | _=>True) (show Tryd.prog.follows .mixedOrders=true from Checked.mixed Tryd.checked) 99 rfl (by decide +kernel) ?_ ((Below.refl _ _).drew) ?_ ⟨?_,?_,?_,?_,?_,?_,?_,?_,?_,?_,?_,?_,?_,?_,?_,trivial⟩ ?_
     ·intro i v w w' h hE
      match i,h with
      | 0,h=>exact h
      | 1,h=>exact h
      | 2,h=>exact h
      | 3,h=>exact h
      | 4,h=>exact h
      | 5,h=>exact h
      | 6,h=>exact h
      | 7,h=>exact h
      | 8,h=>exact h
      | 9,h=>exact h
      | 10,h=>exact h
      | 11,h=>exact h
      | 12,h=>exact h
      | 13,h=>exact h
      | 14,h=>exact h
      | _+15,_=>trivial
     ·exact fun w w' h h'=>h.trans h'
     ·
      intro ac wx hE hsz hdf h
      have e8:ac.tmps[8]?=some (.pointer (some ⟨gk,0,none⟩)):=by obtain ⟨v,h1,h2⟩:=h 8 (by decide +kernel);exact h1.trans (h2.symm.trans rfl)
      clear h hsz hdf
      obtain ⟨q0,q1,q2,q3,q4,q5,q6,q7⟩:=(HBk.out.keep hE).cells
      go_wp2
      exact ⟨_,rfl,rfl,Ext.refl _⟩
     ·
      intro ac wx hE hsz hdf h
      have e84:ac.tmps[84]?=some (.agg #[.int .i64 2,.int .i64 m',.bool z',.int .u64 (wd p' 0:Nat),.int .u64 (wd p' 1:Nat),.int .u64 (wd p' 2:Nat),.int .u64 (wd p' 3:Nat),.slice B n' c']):=by obtain ⟨v,h1,h2⟩:=h 84 (by decide +kernel);rw [h1];exact congrArg some h2
      clear h hsz hdf
      go_wp2_with ((go_at_call 24;refine (ih _ HS.out.1 HS.out.2.1 HS.out.2.2 S _ (nodeC 2 m' z' p' B n' c') (HVk.out.keep hE) (HTk.out.keep hE)).mono ?_;rintro e w9 ⟨rfl,hb9⟩;rw [HKT.out]))
      exact ⟨_,rfl,rfl,hb9⟩
     ·
      intro ac wx hE hsz hdf h
      have e8:ac.tmps[8]?=some (.pointer (some ⟨gk,0,none⟩)):=by obtain ⟨v,h1,h2⟩:=h 8 (by decide +kernel);exact h1.trans (h2.symm.trans rfl)
      clear h hsz hdf
      go_wp2
      exact ⟨_,rfl,rfl,Ext.refl _⟩
     ·
      intro ac wx hE hsz hdf h
      have e86:ac.tmps[86]?=some (.pointer (some ⟨gk,0,none⟩)):=by obtain ⟨v,h1,h2⟩:=h 86 (by decide +kernel);rw [h1];exact congrArg some h2
      clear h hsz hdf
      obtain ⟨q0,q1,q2,q3,q4,q5,q6,q7⟩:=(HBk.out.keep hE).cells
      go_wp2
      exact ⟨_,rfl,rfl,Ext.refl _⟩
     ·
      intro ac wx hE hsz hdf h
      have e87:ac.tmps[87]?=some (.int .i64 2):=by obtain ⟨v,h1,h2⟩:=h 87 (by decide +kernel);rw [h1];exact congrArg some h2
      clear h hsz hdf
      go_wp2
      exact ⟨_,rfl,rfl,Ext.refl _⟩
     ·
      intro ac wx hE hsz hdf h
      have e88:ac.tmps[88]?=some (.bool false):=by obtain ⟨v,h1,h2⟩:=h 88 (by decide +kernel);rw [h1];exact congrArg some h2
      clear h hsz hdf
      go_wp2
      exact ⟨_,rfl,rfl,Ext.refl _⟩
     ·
      intro ac wx hE hsz hdf h
      have e89:ac.tmps[89]?=some (.bool false):=by obtain ⟨v,h1,h2⟩:=h 89 (by decide +kernel);rw [h1];exact congrArg some h2
      clear h hsz hdf
      go_wp2
      exact ⟨_,rfl,rfl,Ext.refl _⟩
     ·
      intro ac wx hE hsz hdf h
      have e89:ac.tmps[89]?=some (.bool false):=by obtain ⟨v,h1,h2⟩:=h 89 (by decide +kernel);rw [h1];exact congrArg some h2
      clear h hsz hdf
      obtain ⟨q0,q1,q2,q3,q4,q5,q6,q7⟩:=(HBk.out.keep hE).cells
      go_wp2
      exact ⟨_,rfl,rfl,Ext.refl _⟩
     ·
      intro ac wx hE hsz hdf h
      have e89:ac.tmps[89]?=some (.bool false):=by obtain ⟨v,h1,h2⟩:=h 89 (by decide +kernel);rw [h1];exact congrArg some h2
      clear h hsz hdf
      go_wp2
      exact ⟨_,rfl,rfl,Ext.refl _⟩
     ·
      intro ac wx hE hsz hdf h
      have e89:ac.tmps[89]?=some (.bool false):=by obtain ⟨v,h1,h2⟩:=h 89 (by decide +kernel);rw [h1];exact congrArg some h2
      have e92:ac.tmps[92]?=some (undef):=by obtain ⟨v,h1,h2⟩:=h 92 (by decide +kernel);rw [h1];exact congrArg some h2
      clear h hsz hdf
      go_wp2
      exact ⟨_,rfl,rfl,Ext.refl _⟩
     ·
      intro ac wx hE hsz hdf h
      have e85:ac.tmps[85]?=some (.string ⟨kt.toArray⟩):=by obtain ⟨v,h1,h2⟩:=h 85 (by decide +kernel);rw [h1];exact congrArg some h2
      have e93:ac.tmps[93]?=some (.bool false):=by obtain ⟨v,h1,h2⟩:=h 93 (by decide +kernel);rw [h1];exact congrArg some h2
      clear h hsz hdf
      go_wp2_with ((go_at_call 36;refine (rxWithin false kt (by have:=HLK.out;omega) _).mono ?_;rintro e w9 ⟨rfl,hb9⟩))
      exact ⟨_,rfl,rfl,hb9⟩
     ·
      intro ac wx hE hsz hdf h
      have e1:ac.tmps[1]?=some (.pointer (some ⟨g0,0,none⟩)):=by obtain ⟨v,h1,h2⟩:=h 1 (by decide +kernel);exact h1.trans (h2.symm.trans rfl)
      clear h hsz hdf
      obtain ⟨q0,q1,q2,q3,q4,q5,q6,q7⟩:=(HB0.out.keep hE).cells
      go_wp2
      exact ⟨_,rfl,rfl,Ext.refl _⟩
     ·
      intro ac wx hE hsz hdf h
      have e95:ac.tmps[95]?=some (.agg #[.int .i64 7,.int .i64 m,.bool z,.int .u64 (wd p 0:Nat),.int .u64 (wd p 1:Nat),.int .u64 (wd p 2:Nat),.int .u64 (wd p 3:Nat),.slice (some ⟨bb,oo,none⟩) ks.length c]):=by obtain ⟨v,h1,h2⟩:=h 95 (by decide +kernel);rw [h1];exact congrArg some h2
      clear h hsz hdf
      go_wp2_with ((go_at_call 37;refine (rxSign 7 m z p _ ks.length c H7.out _).mono ?_;rintro e w9 ⟨rfl,hb9⟩))
      exact ⟨_,rfl,rfl,hb9⟩
     ·
      intro ac wx hE hsz hdf h
      have e94:ac.tmps[94]?=some (.string ⟨(withinT false kt).toArray⟩):=by obtain ⟨v,h1,h2⟩:=h 94 (by decide +kernel);rw [h1];exact congrArg some h2
      have e96:ac.tmps[96]?=some (.string ⟨(signR 7 z).toArray⟩):=by obtain ⟨v,h1,h2⟩:=h 96 (by decide +kernel);rw [h1];exact congrArg some h2
      clear h hsz hdf
      go_wp2
      exact ⟨_,rfl,rfl,Ext.refl _⟩
     ·
      intro ac wx hE hsz hdf h
      have e97:ac.tmps[97]?=some (.string ⟨(withinT false kt ++ signR 7 z).toArray⟩):=by obtain ⟨v,h1,h2⟩:=h 97 (by decide +kernel);rw [h1];exact congrArg some h2
      clear h hsz hdf
      go_wp2
      exact ⟨_,rfl,rfl,Ext.refl _⟩
     ·intro ac w9 hE hsz hdf h hrest
      obtain ⟨v0,s0,g0⟩:=h 0 _ rfl
      have e0:=g0 84 rfl
      obtain rfl:v0=.agg #[.int .i64 2,.int .i64 m',.bool z',.int .u64 (wd p' 0:Nat),.int .u64 (wd p' 1:Nat),.int .u64 (wd p' 2:Nat),.int .u64 (wd p' 3:Nat),.slice B n' c']:=s0
      obtain ⟨v1,s1,g1⟩:=h 1 _ rfl
      have e1:=g1 85 rfl
      obtain rfl:v1=.string ⟨kt.toArray⟩:=s1
      obtain ⟨v2,s2,g2⟩:=h 2 _ rfl
      have e2:=g2 86 rfl
      obtain rfl:v2=.pointer (some ⟨gk,0,none⟩):=s2
      obtain ⟨v3,s3,g3⟩:=h 3 _ rfl
      have e3:=g3 87 rfl
      obtain rfl:v3=.int .i64 2:=s3
      obtain ⟨v4,s4,g4⟩:=h 4 _ rfl
      have e4:=g4 88 rfl
      obtain rfl:v4=.bool false:=s4
      obtain ⟨v5,s5,g5⟩:=h 5 _ rfl
      have e5:=g5 89 rfl
      obtain rfl:v5=.bool false:=s5
      obtain ⟨v6,s6,g6⟩:=h 6 _ rfl
      have e6:=g6 90 rfl
      obtain rfl:v6=undef:=s6
      obtain ⟨v7,s7,g7⟩:=h 7 _ rfl
      have e7:=g7 91 rfl
      obtain rfl:v7=undef:=s7
      obtain ⟨v8,s8,g8⟩:=h 8 _ rfl
      have e8:=g8 92 rfl
      obtain rfl:v8=undef:=s8
      obtain ⟨v9,s9,g9⟩:=h 9 _ rfl
      have e9:=g9 93 rfl
      obtain rfl:v9=.bool false:=s9
      obtain ⟨v10,s10,g10⟩:=h 10 _ rfl
      have e10:=g10 94 rfl
      obtain rfl:v10=.string ⟨(withinT false kt).toArray⟩:=s10
      obtain ⟨v11,s11,g11⟩:=h 11 _ rfl
      have e11:=g11 95 rfl
      obtain rfl:v11=.agg #[.int .i64 7,.int .i64 m,.bool z,.int .u64 (wd p 0:Nat),.int .u64 (wd p 1:Nat),.int .u64 (wd p 2:Nat),.int .u64 (wd p 3:Nat),.slice (some ⟨bb,oo,none⟩) ks.length c]:=s11
      obtain ⟨v12,s12,g12⟩:=h 12 _ rfl
      have e12:=g12 96 rfl
      obtain rfl:v12=.string ⟨(signR 7 z).toArray⟩:=s12
      obtain ⟨v13,s13,g13⟩:=h 13 _ rfl
      have e13:=g13 97 rfl
      obtain rfl:v13=.string ⟨(withinT false kt ++ signR 7 z).toArray⟩:=s13
      obtain ⟨v14,s14,g14⟩:=h 14 _ rfl
      have e14:=g14 3 rfl
      obtain rfl:v14=.string ⟨(withinT false kt ++ signR 7 z).toArray⟩:=s14
      have ha:=act_of [(84,.agg #[.int .i64 2,.int .i64 m',.bool z',.int .u64 (wd p' 0:Nat),.int .u64 (wd p' 1:Nat),.int .u64 (wd p' 2:Nat),.int .u64 (wd p' 3:Nat),.slice B n' c']),(85,.string ⟨kt.toArray⟩),(86,.pointer (some ⟨gk,0,none⟩)),(87,.int .i64 2),(88,.bool false),(89,.bool false),(90,undef),(91,undef),(92,undef),(93,.bool false),(94,.string ⟨(withinT false kt).toArray⟩),(95,.agg #[.int .i64 7,.int .i64 m,.bool z,.int .u64 (wd p 0:Nat),.int .u64 (wd p 1:Nat),.int .u64 (wd p 2:Nat),.int .u64 (wd p 3:Nat),.slice (some ⟨bb,oo,none⟩) ks.length c]),(96,.string ⟨(signR 7 z).toArray⟩),(97,.string ⟨(withinT false kt ++ signR 7 z).toArray⟩),(3,.string ⟨(withinT false kt ++ signR 7 z).toArray⟩)] rfl hsz hdf (by intro p hp;simp only [List.mem_cons,List.not_mem_nil,or_false] at hp;rcases hp with rfl | rfl | rfl | rfl | rfl | rfl | rfl | rfl | rfl | rfl | rfl | rfl | rfl | rfl | rfl <;> first | exact e0 | exact e1 | exact e2 | exact e3 | exact e4 | exact e5 | exact e6 | exact e7 | exact e8 | exact e9 | exact e10 | exact e11 | exact e12 | exact e13 | exact e14) hrest
      clear h hrest hsz hdf e0 e1 e2 e3 e4 e5 e6 e7 e8 e9 e10 e11 e12 e13 e14 g0 g1 g2 g3 g4 g5 g6 g7 g8 g9 g10 g11 g12 g13 g14
      subst ha
      simp only [List.foldl_cons,List.foldl_nil,Act.put,List.setIfInBounds_toArray,List.set_cons_succ,List.set_cons_zero]
      have hxe:=Lib.hid (Ext.trans hxk.out hE)
      clear hE
      go_wp2
      go_ret
      exact ⟨by first | rfl | (rw [HW.out];rfl),hxe.out⟩
    focus
     obtain ⟨b8,hb8⟩:∃ b8,(k' != 8)=b8:=⟨_,rfl⟩
     have hj2:(k' != 2)=true:=by simp [j2]
     have hwl:=within_len b8 kt
     have hm2:¬ 9223372036854775807<(withinT b8 kt).length+(signR 7 z).length:=by have:=HLK.out;omega
     have HW:=Lib.hid (show withinT (!decide (k'=2) && !decide (k'=8)) kt=withinT b8 kt from by rw [← hb8,decide_eq_false j2];rfl)
     clear hwl hlt0 hsl j2
     refine wp_region_dag (E:=Ext) (w0:=wk) (Φ:=fun i v w=>match i with | 0=>(v=.agg #[.int .i64 k',.int .i64 m',.bool z',.int .u64 (wd p' 0:Nat),.int .u64 (wd p' 1:Nat),.int .u64 (wd p' 2:Nat),.int .u64 (wd p' 3:Nat),.slice B n' c']) | 1=>(v=.string ⟨kt.toArray⟩) | 2=>(v=.pointer (some ⟨gk,0,none⟩)) | 3=>(v=.int .i64 k') | 4=>(v=.bool true) | 5=>(v=.bool true) | 6=>(v=.pointer (some ⟨gk,0,none⟩)) | 7=>(v=.int .i64 k') | 8=>(v=.bool b8) | 9=>(v=.bool b8) | 10=>(v=.string ⟨(withinT b8 kt).toArray⟩) | 11=>(v=.agg #[.int .i64 7,.int .i64 m,.bool z,.int .u64 (wd p 0:Nat),.int .u64 (wd p 1:Nat),.int .u64 (wd p 2:Nat),.int .u64 (wd p 3:Nat),.slice (some ⟨bb,oo,none⟩) ks.length c]) | 12=>(v=.string ⟨(signR 7 z).toArray⟩) | 13=>(v=.string ⟨(withinT b8 kt ++ signR 7 z).toArray⟩) | 14=>(v=.string ⟨(withinT b8 kt ++ signR 7 z).toArray⟩) | _=>True) (show Tryd.prog.follows .mixedOrders=true from Checked.mixed Tryd.checked) 99 rfl (by decide +kernel) ?_ ((Below.refl _ _).drew) ?_ ⟨?_,?_,?_,?_,?_,?_,?_,?_,?_,?_,?_,?_,?_,?_,?_,trivial⟩ ?_
     ·intro i v w w' h hE
      match i,h with
      | 0,h=>exact h
      | 1,h=>exact h
      | 2,h=>exact h
      | 3,h=>exact h
      | 4,h=>exact h
      | 5,h=>exact h
      | 6,h=>exact h
      | 7,h=>exact h
      | 8,h=>exact h
      | 9,h=>exact h
      | 10,h=>exact h
      | 11,h=>exact h
      | 12,h=>exact h
      | 13,h=>exact h
      | 14,h=>exact h
      | _+15,_=>trivial
     ·exact fun w w' h h'=>h.trans h'
     ·
      intro ac wx hE hsz hdf h
      have e8:ac.tmps[8]?=some (.pointer (some ⟨gk,0,none⟩)):=by obtain ⟨v,h1,h2⟩:=h 8 (by decide +kernel);exact h1.trans (h2.symm.trans rfl)
      clear h hsz hdf
      obtain ⟨q0,q1,q2,q3,q4,q5,q6,q7⟩:=(HBk.out.keep hE).cells
      go_wp2
      exact ⟨_,rfl,rfl,Ext.refl _⟩
     ·
      intro ac wx hE hsz hdf h
      have e84:ac.tmps[84]?=some (.agg #[.int .i64 k',.int .i64 m',.bool z',.int .u64 (wd p' 0:Nat),.int .u64 (wd p' 1:Nat),.int .u64 (wd p' 2:Nat),.int .u64 (wd p' 3:Nat),.slice B n' c']):=by obtain ⟨v,h1,h2⟩:=h 84 (by decide +kernel);rw [h1];exact congrArg some h2
      clear h hsz hdf
      go_wp2_with ((go_at_call 24;refine (ih _ HS.out.1 HS.out.2.1 HS.out.2.2 S _ (nodeC k' m' z' p' B n' c') (HVk.out.keep hE) (HTk.out.keep hE)).mono ?_;rintro e w9 ⟨rfl,hb9⟩;rw [HKT.out]))
      exact ⟨_,rfl,rfl,hb9⟩
     ·
      intro ac wx hE hsz hdf h
      have e8:ac.tmps[8]?=some (.pointer (some ⟨gk,0,none⟩)):=by obtain ⟨v,h1,h2⟩:=h 8 (by decide +kernel);exact h1.trans (h2.symm.trans rfl)
      clear h hsz hdf
      go_wp2
      exact ⟨_,rfl,rfl,Ext.refl _⟩
     ·
      intro ac wx hE hsz hdf h
      have e86:ac.tmps[86]?=some (.pointer (some ⟨gk,0,none⟩)):=by obtain ⟨v,h1,h2⟩:=h 86 (by decide +kernel);rw [h1];exact congrArg some h2
      clear h hsz hdf
      obtain ⟨q0,q1,q2,q3,q4,q5,q6,q7⟩:=(HBk.out.keep hE).cells
      go_wp2
      exact ⟨_,rfl,rfl,Ext.refl _⟩
     ·
      intro ac wx hE hsz hdf h
      have e87:ac.tmps[87]?=some (.int .i64 k'):=by obtain ⟨v,h1,h2⟩:=h 87 (by decide +kernel);rw [h1];exact congrArg some h2
      clear h hsz hdf
      go_wp2
      exact ⟨_,rfl,rfl,Ext.refl _⟩
     ·
      intro ac wx hE hsz hdf h
      have e88:ac.tmps[88]?=some (.bool true):=by obtain ⟨v,h1,h2⟩:=h 88 (by decide +kernel);rw [h1];exact congrArg some h2
      clear h hsz hdf
      go_wp2
      exact ⟨_,rfl,rfl,Ext.refl _⟩
     ·
      intro ac wx hE hsz hdf h
      have e8:ac.tmps[8]?=some (.pointer (some ⟨gk,0,none⟩)):=by obtain ⟨v,h1,h2⟩:=h 8 (by decide +kernel);exact h1.trans (h2.symm.trans rfl)
      have e89:ac.tmps[89]?=some (.bool true):=by obtain ⟨v,h1,h2⟩:=h 89 (by decide +kernel);rw [h1];exact congrArg some h2
      clear h hsz hdf
      go_wp2
      exact ⟨_,rfl,rfl,Ext.refl _⟩
     ·
      intro ac wx hE hsz hdf h
      have e90:ac.tmps[90]?=some (.pointer (some ⟨gk,0,none⟩)):=by obtain ⟨v,h1,h2⟩:=h 90 (by decide +kernel);rw [h1];exact congrArg some h2
      have e89:ac.tmps[89]?=some (.bool true):=by obtain ⟨v,h1,h2⟩:=h 89 (by decide +kernel);rw [h1];exact congrArg some h2
      clear h hsz hdf
      obtain ⟨q0,q1,q2,q3,q4,q5,q6,q7⟩:=(HBk.out.keep hE).cells
      go_wp2
      exact ⟨_,rfl,rfl,Ext.refl _⟩
     ·
      intro ac wx hE hsz hdf h
      have e91:ac.tmps[91]?=some (.int .i64 k'):=by obtain ⟨v,h1,h2⟩:=h 91 (by decide +kernel);rw [h1];exact congrArg some h2
      have e89:ac.tmps[89]?=some (.bool true):=by obtain ⟨v,h1,h2⟩:=h 89 (by decide +kernel);rw [h1];exact congrArg some h2
      clear h hsz hdf
      go_wp2
      exact ⟨_,rfl,rfl,Ext.refl _⟩
     ·
      intro ac wx hE hsz hdf h
      have e89:ac.tmps[89]?=some (.bool true):=by obtain ⟨v,h1,h2⟩:=h 89 (by decide +kernel);rw [h1];exact congrArg some h2
      have e92:ac.tmps[92]?=some (.bool b8):=by obtain ⟨v,h1,h2⟩:=h 92 (by decide +kernel);rw [h1];exact congrArg some h2
      clear h hsz hdf
      go_wp2
      exact ⟨_,rfl,rfl,Ext.refl _⟩
     ·
      intro ac wx hE hsz hdf h
      have e85:ac.tmps[85]?=some (.string ⟨kt.toArray⟩):=by obtain ⟨v,h1,h2⟩:=h 85 (by decide +kernel);rw [h1];exact congrArg some h2
      have e93:ac.tmps[93]?=some (.bool b8):=by obtain ⟨v,h1,h2⟩:=h 93 (by decide +kernel);rw [h1];exact congrArg some h2
      clear h hsz hdf
      go_wp2_with ((go_at_call 36;refine (rxWithin b8 kt (by have:=HLK.out;omega) _).mono ?_;rintro e w9 ⟨rfl,hb9⟩))
      exact ⟨_,rfl,rfl,hb9⟩
     ·
      intro ac wx hE hsz hdf h
      have e1:ac.tmps[1]?=some (.pointer (some ⟨g0,0,none⟩)):=by obtain ⟨v,h1,h2⟩:=h 1 (by decide +kernel);exact h1.trans (h2.symm.trans rfl)
      clear h hsz hdf
      obtain ⟨q0,q1,q2,q3,q4,q5,q6,q7⟩:=(HB0.out.keep hE).cells
      go_wp2
      exact ⟨_,rfl,rfl,Ext.refl _⟩
     ·
      intro ac wx hE hsz hdf h
      have e95:ac.tmps[95]?=some (.agg #[.int .i64 7,.int .i64 m,.bool z,.int .u64 (wd p 0:Nat),.int .u64 (wd p 1:Nat),.int .u64 (wd p 2:Nat),.int .u64 (wd p 3:Nat),.slice (some ⟨bb,oo,none⟩) ks.length c]):=by obtain ⟨v,h1,h2⟩:=h 95 (by decide +kernel);rw [h1];exact congrArg some h2
      clear h hsz hdf
      go_wp2_with ((go_at_call 37;refine (rxSign 7 m z p _ ks.length c H7.out _).mono ?_;rintro e w9 ⟨rfl,hb9⟩))
      exact ⟨_,rfl,rfl,hb9⟩
     ·
      intro ac wx hE hsz hdf h
      have e94:ac.tmps[94]?=some (.string ⟨(withinT b8 kt).toArray⟩):=by obtain ⟨v,h1,h2⟩:=h 94 (by decide +kernel);rw [h1];exact congrArg some h2
      have e96:ac.tmps[96]?=some (.string ⟨(signR 7 z).toArray⟩):=by obtain ⟨v,h1,h2⟩:=h 96 (by decide +kernel);rw [h1];exact congrArg some h2
      clear h hsz hdf
      go_wp2
      exact ⟨_,rfl,rfl,Ext.refl _⟩
     ·
      intro ac wx hE hsz hdf h
      have e97:ac.tmps[97]?=some (.string ⟨(withinT b8 kt ++ signR 7 z).toArray⟩):=by obtain ⟨v,h1,h2⟩:=h 97 (by decide +kernel);rw [h1];exact congrArg some h2
      clear h hsz hdf
      go_wp2
      exact ⟨_,rfl,rfl,Ext.refl _⟩
     ·intro ac w9 hE hsz hdf h hrest
      obtain ⟨v0,s0,g0⟩:=h 0 _ rfl
      have e0:=g0 84 rfl
      obtain rfl:v0=.agg #[.int .i64 k',.int .i64 m',.bool z',.int .u64 (wd p' 0:Nat),.int .u64 (wd p' 1:Nat),.int .u64 (wd p' 2:Nat),.int .u64 (wd p' 3:Nat),.slice B n' c']:=s0
      obtain ⟨v1,s1,g1⟩:=h 1 _ rfl
      have e1:=g1 85 rfl
      obtain rfl:v1=.string ⟨kt.toArray⟩:=s1
      obtain ⟨v2,s2,g2⟩:=h 2 _ rfl
      have e2:=g2 86 rfl
      obtain rfl:v2=.pointer (some ⟨gk,0,none⟩):=s2
      obtain ⟨v3,s3,g3⟩:=h 3 _ rfl
      have e3:=g3 87 rfl
      obtain rfl:v3=.int .i64 k':=s3
      obtain ⟨v4,s4,g4⟩:=h 4 _ rfl
      have e4:=g4 88 rfl
      obtain rfl:v4=.bool true:=s4
      obtain ⟨v5,s5,g5⟩:=h 5 _ rfl
      have e5:=g5 89 rfl
      obtain rfl:v5=.bool true:=s5
      obtain ⟨v6,s6,g6⟩:=h 6 _ rfl
      have e6:=g6 90 rfl
      obtain rfl:v6=.pointer (some ⟨gk,0,none⟩):=s6
      obtain ⟨v7,s7,g7⟩:=h 7 _ rfl
      have e7:=g7 91 rfl
      obtain rfl:v7=.int .i64 k':=s7
      obtain ⟨v8,s8,g8⟩:=h 8 _ rfl
      have e8:=g8 92 rfl
      obtain rfl:v8=.bool b8:=s8
      obtain ⟨v9,s9,g9⟩:=h 9 _ rfl
      have e9:=g9 93 rfl
      obtain rfl:v9=.bool b8:=s9
      obtain ⟨v10,s10,g10⟩:=h 10 _ rfl
      have e10:=g10 94 rfl
      obtain rfl:v10=.string ⟨(withinT b8 kt).toArray⟩:=s10
      obtain ⟨v11,s11,g11⟩:=h 11 _ rfl
      have e11:=g11 95 rfl
      obtain rfl:v11=.agg #[.int .i64 7,.int .i64 m,.bool z,.int .u64 (wd p 0:Nat),.int .u64 (wd p 1:Nat),.int .u64 (wd p 2:Nat),.int .u64 (wd p 3:Nat),.slice (some ⟨bb,oo,none⟩) ks.length c]:=s11
      obtain ⟨v12,s12,g12⟩:=h 12 _ rfl
      have e12:=g12 96 rfl
      obtain rfl:v12=.string ⟨(signR 7 z).toArray⟩:=s12
      obtain ⟨v13,s13,g13⟩:=h 13 _ rfl
      have e13:=g13 97 rfl
      obtain rfl:v13=.string ⟨(withinT b8 kt ++ signR 7 z).toArray⟩:=s13
      obtain ⟨v14,s14,g14⟩:=h 14 _ rfl
      have e14:=g14 3 rfl
      obtain rfl:v14=.string ⟨(withinT b8 kt ++ signR 7 z).toArray⟩:=s14
      have ha:=act_of [(84,.agg #[.int .i64 k',.int .i64 m',.bool z',.int .u64 (wd p' 0:Nat),.int .u64 (wd p' 1:Nat),.int .u64 (wd p' 2:Nat),.int .u64 (wd p' 3:Nat),.slice B n' c']),(85,.string ⟨kt.toArray⟩),(86,.pointer (some ⟨gk,0,none⟩)),(87,.int .i64 k'),(88,.bool true),(89,.bool true),(90,.pointer (some ⟨gk,0,none⟩)),(91,.int .i64 k'),(92,.bool b8),(93,.bool b8),(94,.string ⟨(withinT b8 kt).toArray⟩),(95,.agg #[.int .i64 7,.int .i64 m,.bool z,.int .u64 (wd p 0:Nat),.int .u64 (wd p 1:Nat),.int .u64 (wd p 2:Nat),.int .u64 (wd p 3:Nat),.slice (some ⟨bb,oo,none⟩) ks.length c]),(96,.string ⟨(signR 7 z).toArray⟩),(97,.string ⟨(withinT b8 kt ++ signR 7 z).toArray⟩),(3,.string ⟨(withinT b8 kt ++ signR 7 z).toArray⟩)] rfl hsz hdf (by intro p hp;simp only [List.mem_cons,List.not_mem_nil,or_false] at hp;rcases hp with rfl | rfl | rfl | rfl | rfl | rfl | rfl | rfl | rfl | rfl | rfl | rfl | rfl | rfl | rfl <;> first | exact e0 | exact e1 | exact e2 | exact e3 | exact e4 | exact e5 | exact e6 | exact e7 | exact e8 | exact e9 | exact e10 | exact e11 | exact e12 | exact e13 | exact e14) hrest
      clear h hrest hsz hdf e0 e1 e2 e3 e4 e5 e6 e7 e8 e9 e10 e11 e12 e13 e14 g0 g1 g2 g3 g4 g5 g6 g7 g8 g9 g10 g11 g12 g13 g14
      subst ha
      simp only [List.foldl_cons,List.foldl_nil,Act.put,List.setIfInBounds_toArray,List.set_cons_succ,List.set_cons_zero]
      have hxe:=Lib.hid (Ext.trans hxk.out hE)
      clear hE
      go_wp2
      go_ret
      exact ⟨by first | rfl | (rw [HW.out];rfl),hxe.out⟩
   have hv:T.text (.node k m z p ks)=[]:=by unfold T.text;rw [if_neg k2,if_neg k3,if_neg k4,if_neg k8,if_neg hno]
   rw [hv]
   have e2:(k == 2)=false:=by simp [k2]
   have e3:(k == 3)=false:=by simp [k3]
   have e4:(k == 4)=false:=by simp [k4]
   have e8:(k == 8)=false:=by simp [k8]
   have e5:(k == 5)=false:=by simp;exact fun e=>hno (.inl e)
   have e6:(k == 6)=false:=by simp;exact fun e=>hno (.inr (.inl e))
   have e7:(k == 7)=false:=by simp;exact fun e=>hno (.inr (.inr e))
   clear hv k2 k3 k4 k8 hno
   go_enter Tryd.func24,Tryd.ntmps24
   go_wp2
   go_ret
   exact ⟨by simp,hx0.out⟩
end Go.Proofs.YtigmdlchbjanoaaDoor
namespace Go.Proofs.YtigmdlchbjanoaaDoor
open Go Go.RowKit
attribute [local irreducible] wd
/-- What Text answers. -/
def textR (t:T):List UInt8:=if (t.right 1 0).1 then t.text else []
set_option maxHeartbeats 4000000 in
set_option maxRecDepth 20000 in
theorem rxText (t:T) (hsz:t.size≤1000000) (S:Nat→Prop) (w:World) (v:List Value) (h:NodeV S w t v) (hT:Tab w) :
  Calls Tryd.prog 11 #[.agg v.toArray] w fun e w'=>e=.returned (.string ⟨(textR t).toArray⟩)∧Ext w w':=by
 obtain ⟨k,m,z,p,B,n,c,rfl⟩:=nodeV_form h
 have hx0:=Lib.hid (Ext.new1 w (.cells (nodeC k m z p B n c).toArray 28))
 have HV:=Lib.hid (h.keep hx0.out)
 have HB:=Lib.hid (NodeB.new w k m z p B n c)
 have HT:=Lib.hid (hT.keep hx0.out)
 have HSZ:=Lib.hid hsz
 clear h hT hsz
 unfold nodeC at hx0 HV HT ⊢
 cases hr:(t.right 1 0).1
 ·have HR:=Lib.hid hr
  have HO:=Lib.hid (show textR t=[] from by unfold textR;rw [hr];rfl)
  clear hr
  go_enter Tryd.func11,Tryd.ntmps11
  go_wp2_with (go_at_call 23;refine (rxRight t HSZ.out S _ (nodeC k m z p B n c) HV.out).mono ?_;rintro e w1 ⟨rfl,hx1⟩;rw [HR.out])
  go_ret
  exact ⟨by rw [HO.out];rfl,Ext.trans hx0.out hx1⟩
 ·have HR:=Lib.hid hr
  have HF:=Lib.hid (right_fit t 1 0 hr)
  have HO:=Lib.hid (show textR t=t.text from by unfold textR;rw [hr];rfl)
  clear hr
  go_enter Tryd.func11,Tryd.ntmps11
  go_wp2_with (first
   | (have:=hx1;go_at_call 24;refine (rxTextW _ t (Nat.le_refl _) HSZ.out HF.out S _ (nodeC k m z p B n c) (HV.out.keep hx1) (HT.out.keep hx1)).mono ?_;rintro e w2 ⟨rfl,hx2⟩)
   | (go_at_call 23;refine (rxRight t HSZ.out S _ (nodeC k m z p B n c) HV.out).mono ?_;rintro e w1 ⟨rfl,hx1⟩;rw [HR.out];obtain ⟨q0,q1,q2,q3,q4,q5,q6,q7⟩:=(HB.out.keep hx1).cells))
  go_ret
  exact ⟨by rw [HO.out];rfl,Ext.trans hx0.out (Ext.trans hx1 hx2)⟩
theorem ex_textR:textR exT=exL:=by
 unfold textR
 rw [ex_right,if_pos rfl,ex_text]
theorem ex_size:exT.size=7:=by rfl
set_option maxHeartbeats 4000000 in
set_option maxRecDepth 20000 in
theorem alive23 (E:Nat→Addr) (w:World) (hE:Env E w) :
  Calls Tryd.prog 4 #[] w fun e w'=>e=.returned (.bool true)∧Ext w w':=by
 have HE:=Lib.hid hE
 clear hE
 go_enter Tryd.func4,Tryd.ntmps4
 go_wp2_with fail
 go_at_call 5
 refine (rxParse E exL w HE.out).mono ?_
 rintro e w1 hP
 rw [ex_parse] at hP
 obtain ⟨hx1,v,rfl,hv⟩:=hP
 have hv2:=hv
 unfold exT NodeV at hv2
 obtain ⟨A,c,cs,hve,h1,h2,h3,h4,h5⟩:=hv2
 obtain rfl:v=nodeC 3 0 false noP A 2 c:=hve
 obtain ⟨b,o,k',m',z',p',B,n',c',rfl,hv1,hk⟩:=kid_at h3 h5 (i:=1) (by decide)
 have hk5:=kind_form hv1
 obtain rfl:5=k':=hk5
 have hx2:=Lib.hid (Ext.trans hx1 (Ext.new1 w1 (.cells (nodeC 3 0 false noP (some ⟨b,o,none⟩) 2 c).toArray 28)))
 have HV:=Lib.hid (show NodeV _ _ exT (nodeC 3 0 false noP (some ⟨b,o,none⟩) 2 c) from hv.keep (Ext.new1 w1 (.cells (nodeC 3 0 false noP (some ⟨b,o,none⟩) 2 c).toArray 28)))
 have HB:=Lib.hid (NodeB.new w1 3 0 false noP (some ⟨b,o,none⟩) 2 c)
 have HT:=Lib.hid (HE.out.t.keep hx2.out)
 obtain ⟨c0,-⟩:=hk.out _ (Ext.new1 w1 (.cells (nodeC 3 0 false noP (some ⟨b,o,none⟩) 2 c).toArray 28))
 simp only [Nat.one_mul] at c0
 clear hv hv1 hk h1 h2 h3 h4 h5 hx1
 unfold nodeC at hx2 HV HT c0 ⊢
 go_upto_region 2 with fail
 generalize w1.alloc (.cells #[.int .i64 3,.int .i64 0,.bool false,.int .u64 (wd noP 0:Nat),.int .u64 (wd noP 1:Nat),.int .u64 (wd noP 2:Nat),.int .u64 (wd noP 3:Nat),.slice (some ⟨b,o,none⟩) 2 c] 28)=wq at *
 generalize w1.heap.size=gq at *
 obtain ⟨q0,q1,q2,q3,q4,q5,q6,q7⟩:=HB.out.cells
 go_wp2_with (first
  | (have:=hx3;go_at_call 11;refine (rxText exT (by rw [ex_size];omega) _ _ (nodeC 3 0 false noP (some ⟨b,o,none⟩) 2 c) (HV.out.keep hx3) (HT.out.keep hx3)).mono ?_;rintro e w4 ⟨rfl,hx4⟩;rw [ex_textR];unfold exL)
  | (go_at_call 10;refine (rxGroups 7 exT (by rw [ex_size];omega) (by rw [ex_size];omega) _ _ (nodeC 3 0 false noP (some ⟨b,o,none⟩) 2 c) HV.out).mono ?_;rintro e w3 ⟨rfl,hx3⟩;rw [ex_groups];obtain ⟨q0,q1,q2,q3,q4,q5,q6,q7⟩:=(HB.out.keep hx3).cells))
 go_ret
 exact ⟨by simp,Ext.trans hx2.out (Ext.trans hx3 hx4)⟩
end Go.Proofs.YtigmdlchbjanoaaDoor
