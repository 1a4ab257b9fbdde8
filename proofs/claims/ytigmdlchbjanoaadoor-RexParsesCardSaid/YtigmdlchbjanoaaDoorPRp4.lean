/- The document's parser: nodes that are built out of parts; what items make (alternative). -/
import Derived.Test.YtigmdlchbjanoaaDoorPRp3
import Derived.Test.YtigmdlchbjanoaaDoorPDagE
namespace Go.Proofs.YtigmdlchbjanoaaDoor
open Go Go.RowKit
theorem dn_ext {c:Array Value} {k m:Int} {z:Bool} {p:Nat→Bool} {A:Option Addr} {n cc:Nat} (h:∀ j,c[j]?=if j=0 then some (.int .i64 k) else if j=1 then some (.int .i64 m) else if j=2 then some (.bool z) else if j<259 then some (.bool (p (j-3))) else if j=259 then some (.slice A n cc) else none):c=(dnC k m z p A n cc).toArray:=by
 apply Array.ext_getElem?
 intro j
 rw [h,List.getElem?_toArray,dn_at]
theorem zn_at (j:Nat):(dnC 0 0 false (fun _=>false) none 0 0).toArray[j]?=if j=0 then some (.int .i64 0) else if j=1 then some (.int .i64 0) else if j=2 then some (.bool false) else if j<259 then some (.bool false) else if j=259 then some (.slice none 0 0) else none:=(List.getElem?_toArray).trans (dn_at 0 0 false (fun _=>false) none 0 0 j)
theorem one_at (v:Value) (h:v.cells=#[v]) (i:Nat):v.cells[i]?=if i=0 then some v else none:=by
 rw [h]
 cases i with
 | zero=>rfl
 | succ i=>simp
theorem set_at (p:Nat→Bool) (i:Nat):(bp p).cells[i]?=if i<256 then some (.bool (p i)) else none:=by
 show (bcs p)[i]?=_
 by_cases h:i<256
 ·rw [bcs_get p h,if_pos h]
 ·rw [bcs_out p h,if_neg h]
/-- Naught. -/
theorem built_z:Tryd.prog.built 37 []=some (dnC 0 0 false (fun _=>false) none 0 0).toArray:=by
 rw [built40,zero40]
 rfl
/-- A kind alone. -/
theorem built_k (k:Int):Tryd.prog.built 37 [(0,.int .i64 k)]=some (dnC k 0 false (fun _=>false) none 0 0).toArray:=by
 rw [built40,zero40]
 have hs:(dnC 0 0 false (fun _=>false) none 0 0).toArray.size=260:=by rw [List.size_toArray,dn_len]
 obtain ⟨c1,e1,s1,g1⟩:=fill_step (#[(0,1),(1,1),(2,1),(3,256),(259,1)][·]?) (dnC 0 0 false (fun _=>false) none 0 0).toArray 0 0 1 (.int .i64 k) [] rfl rfl (by omega)
 rw [e1]
 show some c1=_
 congr 1
 refine dn_ext fun j=>?_
 rw [g1,zn_at,one_at _ rfl]
 by_cases h0:j=0
 ·subst h0;rfl
 rw [if_neg (by omega),if_neg h0,if_neg h0]
/-- A kind and kids. -/
theorem built_kk (k:Int) (A:Option Addr) (n c:Nat):Tryd.prog.built 37 [(0,.int .i64 k),(4,.slice A n c)]=some (dnC k 0 false (fun _=>false) A n c).toArray:=by
 rw [built40,zero40]
 have hs:(dnC 0 0 false (fun _=>false) none 0 0).toArray.size=260:=by rw [List.size_toArray,dn_len]
 obtain ⟨c1,e1,s1,g1⟩:=fill_step (#[(0,1),(1,1),(2,1),(3,256),(259,1)][·]?) (dnC 0 0 false (fun _=>false) none 0 0).toArray 0 0 1 (.int .i64 k) [(4,.slice A n c)] rfl rfl (by omega)
 obtain ⟨c2,e2,s2,g2⟩:=fill_step (#[(0,1),(1,1),(2,1),(3,256),(259,1)][·]?) c1 4 259 1 (.slice A n c) [] rfl rfl (by omega)
 rw [e1,e2]
 show some c2=_
 congr 1
 refine dn_ext fun j=>?_
 rw [g2,g1,zn_at,one_at _ rfl,one_at _ rfl]
 by_cases h0:j=0
 ·subst h0;rfl
 by_cases h9:j=259
 ·subst h9;rfl
 rw [if_neg (by omega),if_neg (by omega),if_neg h0,if_neg h0]
 by_cases h1:j=1
 ·subst h1;rfl
 rw [if_neg h1,if_neg h1]
 by_cases h2:j=2
 ·subst h2;rfl
 rw [if_neg h2,if_neg h2]
 by_cases h3:j<259
 ·rw [if_pos h3,if_pos h3]
 rw [if_neg h3,if_neg h3,if_neg h9,if_neg h9]
/-- A kind, a number and kids. -/
theorem built_kmk (k m:Int) (A:Option Addr) (n c:Nat):Tryd.prog.built 37 [(0,.int .i64 k),(1,.int .i64 m),(4,.slice A n c)]=some (dnC k m false (fun _=>false) A n c).toArray:=by
 rw [built40,zero40]
 have hs:(dnC 0 0 false (fun _=>false) none 0 0).toArray.size=260:=by rw [List.size_toArray,dn_len]
 obtain ⟨c1,e1,s1,g1⟩:=fill_step (#[(0,1),(1,1),(2,1),(3,256),(259,1)][·]?) (dnC 0 0 false (fun _=>false) none 0 0).toArray 0 0 1 (.int .i64 k) [(1,.int .i64 m),(4,.slice A n c)] rfl rfl (by omega)
 obtain ⟨c2,e2,s2,g2⟩:=fill_step (#[(0,1),(1,1),(2,1),(3,256),(259,1)][·]?) c1 1 1 1 (.int .i64 m) [(4,.slice A n c)] rfl rfl (by omega)
 obtain ⟨c3,e3,s3,g3⟩:=fill_step (#[(0,1),(1,1),(2,1),(3,256),(259,1)][·]?) c2 4 259 1 (.slice A n c) [] rfl rfl (by omega)
 rw [e1,e2,e3]
 show some c3=_
 congr 1
 refine dn_ext fun j=>?_
 rw [g3,g2,g1,zn_at,one_at _ rfl,one_at _ rfl,one_at _ rfl]
 by_cases h0:j=0
 ·subst h0;rfl
 by_cases h9:j=259
 ·subst h9;rfl
 by_cases h1:j=1
 ·subst h1;rfl
 rw [if_neg (by omega),if_neg (by omega),if_neg (by omega),if_neg h0,if_neg h0,if_neg h1,if_neg h1]
 by_cases h2:j=2
 ·subst h2;rfl
 rw [if_neg h2,if_neg h2]
 by_cases h3:j<259
 ·rw [if_pos h3,if_pos h3]
 rw [if_neg h3,if_neg h3,if_neg h9,if_neg h9]
/-- A kind and a set. -/
theorem built_ks (k:Int) (p:Nat→Bool):Tryd.prog.built 37 [(0,.int .i64 k),(3,bp p)]=some (dnC k 0 false p none 0 0).toArray:=by
 rw [built40,zero40]
 have hs:(dnC 0 0 false (fun _=>false) none 0 0).toArray.size=260:=by rw [List.size_toArray,dn_len]
 obtain ⟨c1,e1,s1,g1⟩:=fill_step (#[(0,1),(1,1),(2,1),(3,256),(259,1)][·]?) (dnC 0 0 false (fun _=>false) none 0 0).toArray 0 0 1 (.int .i64 k) [(3,bp p)] rfl rfl (by omega)
 obtain ⟨c2,e2,s2,g2⟩:=fill_step (#[(0,1),(1,1),(2,1),(3,256),(259,1)][·]?) c1 3 3 256 (bp p) [] rfl (bcs_size p) (by omega)
 rw [e1,e2]
 show some c2=_
 congr 1
 refine dn_ext fun j=>?_
 rw [g2,g1,zn_at,set_at,one_at _ rfl]
 by_cases h0:j=0
 ·subst h0;rfl
 rw [if_neg (show ¬ (0≤j∧j<0+1) by omega),if_neg h0,if_neg h0]
 by_cases h1:j=1
 ·subst h1;rfl
 rw [if_neg h1,if_neg h1]
 by_cases h2:j=2
 ·subst h2;rfl
 rw [if_neg h2,if_neg h2]
 by_cases h3:j<259
 ·rw [if_pos ⟨by omega,by omega⟩,if_pos (by omega),if_pos h3]
 ·rw [if_neg (by omega),if_neg h3,if_neg h3]
section
variable {w:World} {ops:Array Oper} {rest:List Oper} {o:Oper} {a:Act} {Q:Exit→Act→World→Prop}
theorem build_z (hg:o.guard=none) (ho:o.op=.build 37 #[])
  (h:wpList Tryd.prog ops Q rest (a.put o.dst (.agg (dnC 0 0 false (fun _=>false) none 0 0).toArray)) w):wpList Tryd.prog ops Q (o :: rest) a w:=by
 refine wpList_build hg _ _ ho (by simp only [Array.map_empty,Array.toList_empty];rw [built_z];rfl) ?_
 simp only [List.map_toArray,List.map_nil]
 rw [built_z]
 exact h
theorem build_k {k:Int} (hg:o.guard=none) (ho:o.op=.build 37 #[(0,.const (.int .i64 k))])
  (h:wpList Tryd.prog ops Q rest (a.put o.dst (.agg (dnC k 0 false (fun _=>false) none 0 0).toArray)) w):wpList Tryd.prog ops Q (o :: rest) a w:=by
 have e:(Array.map (fun (y:Nat × Operand)=>(y.1,a.eval y.2)) #[(0,.const (.int .i64 k))]).toList=[(0,.int .i64 k)]:=by simp [Act.eval]
 refine wpList_build hg _ _ ho (by rw [e,built_k];rfl) ?_
 rw [e,built_k]
 exact h
theorem build_kk {k:Int} (hg:o.guard=none) (y:Operand) (ho:o.op=.build 37 #[(0,.const (.int .i64 k)),(4,y)]) {A:Option Addr} {n c:Nat} (hy:a.eval y=.slice A n c)
  (h:wpList Tryd.prog ops Q rest (a.put o.dst (.agg (dnC k 0 false (fun _=>false) A n c).toArray)) w):wpList Tryd.prog ops Q (o :: rest) a w:=by
 have e:(Array.map (fun (y:Nat × Operand)=>(y.1,a.eval y.2)) #[(0,.const (.int .i64 k)),(4,y)]).toList=[(0,.int .i64 k),(4,.slice A n c)]:=by simp [hy];simp [Act.eval]
 refine wpList_build hg _ _ ho (by rw [e,built_kk];rfl) ?_
 rw [e,built_kk]
 exact h
theorem build_kmk {k m:Int} (hg:o.guard=none) (x y:Operand) (ho:o.op=.build 37 #[(0,.const (.int .i64 k)),(1,x),(4,y)]) {A:Option Addr} {n c:Nat} (hx:a.eval x=.int .i64 m) (hy:a.eval y=.slice A n c)
  (h:wpList Tryd.prog ops Q rest (a.put o.dst (.agg (dnC k m false (fun _=>false) A n c).toArray)) w):wpList Tryd.prog ops Q (o :: rest) a w:=by
 have e:(Array.map (fun (y:Nat × Operand)=>(y.1,a.eval y.2)) #[(0,.const (.int .i64 k)),(1,x),(4,y)]).toList=[(0,.int .i64 k),(1,.int .i64 m),(4,.slice A n c)]:=by simp [hx,hy];simp [Act.eval]
 refine wpList_build hg _ _ ho (by rw [e,built_kmk];rfl) ?_
 rw [e,built_kmk]
 exact h
theorem build_ks {k:Int} (hg:o.guard=none) (y:Operand) (ho:o.op=.build 37 #[(0,.const (.int .i64 k)),(3,y)]) {p:Nat→Bool} (hy:a.eval y=bp p)
  (h:wpList Tryd.prog ops Q rest (a.put o.dst (.agg (dnC k 0 false p none 0 0).toArray)) w):wpList Tryd.prog ops Q (o :: rest) a w:=by
 have e:(Array.map (fun (y:Nat × Operand)=>(y.1,a.eval y.2)) #[(0,.const (.int .i64 k)),(3,y)]).toList=[(0,.int .i64 k),(3,bp p)]:=by simp [hy];simp [Act.eval]
 refine wpList_build hg _ _ ho (by rw [e,built_ks];rfl) ?_
 rw [e,built_ks]
 exact h
end
theorem dnode_one4 {S:Nat→Prop} {w:World} {A:Option Addr} {t:T} {cs:List Value} {c:Nat} (k m:Int) (z:Bool) (hR:Rd w 260 A 1 cs) (hc:1≤c) (hm:c≤maxLen) (hS:∀ b o x,A=some ⟨b,o,x⟩→S b) (hD:DNodeV S w t cs):DNodeV S w (.node k m z noP [t]) (dnC k m z noP A 1 c):=by
 unfold DNodeV
 exact ⟨A,c,cs,rfl,hc,hm,hR,fun b o x e _=>hS b o x e,dkidsV_one hD⟩
theorem dnode_leaf {S:Nat→Prop} {w:World} (k m:Int) (z:Bool) (p:Nat→Bool):DNodeV S w (.node k m z p []) (dnC k m z p none 0 0):=by
 unfold DNodeV
 exact ⟨none,0,[],rfl,by simp,by unfold maxLen;omega,⟨rfl,fun h=>(by simp at h)⟩,fun b o x e=>(by cases e),by unfold DKidsV;rfl⟩
/-- What items make, in cells. -/
def altC (n:Nat) (A:Option Addr) (c:Nat) (cs:List Value):List Value:=if n=0 then dnC 1 0 false noP none 0 0 else if n=1 then cs else dnC 3 0 false noP A n c
theorem altC_dn {S:Nat→Prop} {ks:List T} {A:Option Addr} {c:Nat} {cs:List Value} {w:World} (hc:ks.length≤c) (hm:c≤maxLen) (hR:Rd w 260 A ks.length cs) (hK:DKidsV S w ks cs) (hS:∀ b o x,A=some ⟨b,o,x⟩→0<ks.length→S b):DNodeV S w (mkCat ks) (altC ks.length A c cs):=by
 rcases ks with _ | ⟨t,_ | ⟨t2,ks⟩⟩
 ·exact dnode_leaf 1 0 false noP
 ·unfold DKidsV at hK
  obtain ⟨v,cs',rfl,h1,h2⟩:=hK
  unfold DKidsV at h2
  subst h2
  rw [List.append_nil]
  exact h1
 ·unfold altC
  rw [if_neg (by simp),if_neg (by simp)]
  show DNodeV S w (.node 3 0 false noP (t :: t2 :: ks)) _
  unfold DNodeV
  exact ⟨A,c,cs,rfl,hc,hm,hR,hS,hK⟩
set_option maxHeartbeats 2000000 in
set_option maxRecDepth 20000 in
/-- What items make. -/
theorem refAlternative (S:Nat→Prop) (ks:List T) (A:Option Addr) (c:Nat) (cs:List Value) (w:World) (hR:Rd w 260 A ks.length cs) (hK:DKidsV S w ks cs) :
  Calls Tryd.prog 14 #[.slice A ks.length c] w fun e w'=>e=.returned (.agg (altC ks.length A c cs).toArray)∧Ext w w':=by
 have hx0:=Ext.new1 w (.cells Tryd.zeroCells37 37)
 have HR:=Lib.hid hR
 have HK:=Lib.hid hK
 have HX0:=Lib.hid hx0
 clear hR hK hx0
 rcases ks with _ | ⟨t,_ | ⟨t2,ks⟩⟩
 ·have HE:=Lib.hid (show altC ([]:List T).length A c cs=dnC 1 0 false noP none 0 0 from rfl)
  rw [HE.out]
  have hL:([]:List T).length=0:=rfl
  rw [hL]
  clear hL HE
  go_enter Tryd.func14,Tryd.ntmps14
  go_wp2_with (first
   | (refine store_dn_new rfl (.tmp 2) (.tmp 6) rfl rfl rfl zsize40 ?_)
   | (refine build_k rfl rfl ?_))
  refine bodyPost_ret (results_dn rfl _ _ w.heap.size rfl (DB.new w _ _ _ _ _ _ _)) rfl ⟨rfl,Ext.new1 _ _⟩
 ·obtain ⟨b,o,k,m,z,p,B,n,c',rfl,hv,hrow⟩:=dkid_at HR.out HK.out (i:=0) (by simp)
  have hcs:cs=dnC k m z p B n c':=by
   obtain ⟨v,hv1,hv2⟩:=dkidsV_at HK.out (i:=0) (by simp)
   have hl:=dkidsV_len HK.out
   have hl1:=dnodeV_len hv
   apply List.ext_getElem?
   intro j
   by_cases hj:j<260
   ·have h9:=(hrow.out w (Ext.refl _)) j
    obtain ⟨x,hx⟩:∃ x,(dnC k m z p B n c')[j]?=some x:=⟨_,List.getElem?_eq_getElem (by omega)⟩
    obtain ⟨b',o',hbo,_,hcell⟩:=HR.out.2 (by rw [hl];simp)
    cases hbo
    obtain ⟨y,hy⟩:∃ y,cs[j]?=some y:=⟨_,List.getElem?_eq_getElem (by rw [hl];simpa using hj)⟩
    have h10:=hcell j y hy
    have h11:=h9 x hx
    rw [show o+0*260+j=o+j by omega,h10] at h11
    rw [hy,hx,h11]
   ·rw [List.getElem?_eq_none (by rw [hl];simp;omega),List.getElem?_eq_none (by omega)]
  have HE:=Lib.hid (show altC [t].length (some ⟨b,o,none⟩) c cs=dnC k m z p B n c' from hcs)
  rw [HE.out]
  have hel:=hrow.out _ HX0.out
  rw [show o+0*260=o by omega] at hel
  have HEL:=Lib.hid hel
  have hL:[t].length=1:=rfl
  rw [hL]
  clear hv hrow hel hcs hL HE HR HK
  go_enter Tryd.func14,Tryd.ntmps14
  go_wp2_with (first
   | (refine load_el rfl (.tmp 11) rfl rfl HEL.out ?_)
   | (refine store_dn_new rfl (.tmp 2) (.tmp 12) rfl rfl rfl zsize40 ?_))
  refine bodyPost_ret (results_dn rfl _ _ w.heap.size rfl (DB.new w _ _ _ _ _ _ _)) rfl ⟨rfl,Ext.new1 _ _⟩
 ·have hN:¬ (((t :: t2 :: ks).length:Int)=0):=by simp;omega
  have hN1:¬ (((t :: t2 :: ks).length:Int)=1):=by simp;omega
  have HE:=Lib.hid (show altC (t :: t2 :: ks).length A c cs=dnC 3 0 false noP A (t :: t2 :: ks).length c by unfold altC;rw [if_neg (by simp),if_neg (by simp)])
  rw [HE.out]
  clear HE HR HK
  generalize (t :: t2 :: ks).length=L at *
  go_enter Tryd.func14,Tryd.ntmps14
  go_wp2_with (first
   | (refine store_dn_new rfl (.tmp 2) (.tmp 14) rfl rfl rfl zsize40 ?_)
   | (refine build_kk rfl (.tmp 13) rfl rfl ?_))
  refine bodyPost_ret (results_dn rfl _ _ w.heap.size rfl (DB.new w _ _ _ _ _ _ _)) rfl ⟨rfl,Ext.new1 _ _⟩
/-! ### Rows of one's own, turned in place -/
theorem own_setCell {w:World} {base g i n c size:Nat} {e:TypeId} {xs:List Value} (h:w.ownsRow base e size (.slice (some ⟨g,0,none⟩) n c) n xs) (u:Value):(w.setCell ⟨g,i,none⟩ u).ownsRow base e size (.slice (some ⟨g,0,none⟩) n c) n (xs.set i u):=by
 refine ⟨by rw [List.length_set];exact h.1,?_⟩
 rcases h.2 with ⟨h1,_⟩ | ⟨g',cap,cur,he,hb,hg,h1,h2,h3,h4⟩
 ·cases h1
 ·cases he
  have hB:Blk w g e cur.toList:=hg
  have:=hB.set_ i u
  refine .inr ⟨g,c,(cur.toList.set i u).toArray,rfl,hb,this,h1,h2,by simpa using h3,?_⟩
  rw [← h4]
  exact (List.take_set ..).trans rfl
theorem cell_chg {w:World} {g i:Nat} (u:Value):Chg [g] w (w.setCell ⟨g,i,none⟩ u):=by
 refine ⟨rfl,rfl,rfl,by simp,fun k _ hk=>?_⟩
 simp at hk
 simp [World.setCell,Array.getElem?_modify,Ne.symm hk]
set_option maxRecDepth 20000 in
/-- A node is stored as the last of a row. -/
theorem store_last {w:World} {ops:Array Oper} {rest:List Oper} {o:Oper} {a:Act} {Q:Exit→Act→World→Prop} (hgd:o.guard=none) (x y:Operand) (ho:o.op=.store 37 x y)
  {B g n c:Nat} {cs l0 l:List Value} (hown:w.ownsRow B 37 260 (.slice (some ⟨g,0,none⟩) (n+1) c) (n+1) (cs ++ l0)) (hcs:cs.length=n*260) (hl:l.length=260) (h1:∀ u ∈ l,u.oneCell'=true)
  (hx:a.eval x=.pointer (some ⟨g,n*260,none⟩)) (hy:a.eval y=.agg l.toArray)
  (h:∀ w',w'.ownsRow B 37 260 (.slice (some ⟨g,0,none⟩) (n+1) c) (n+1) (cs ++ l)→Chg [g] w w' → wpList Tryd.prog ops Q rest (a.put o.dst undef) w'):wpList Tryd.prog ops Q (o :: rest) a w:=by
 have hlen:=hown.1
 rcases hown.2 with ⟨h2,_⟩ | ⟨g',cap,cur,he,hb,hg,h2,h3,h4,h5⟩
 ·cases h2
 ·cases he
  have hmul:(n+1)*260≤c*260:=Nat.mul_le_mul_right _ h2
  have hst:=run_storeCells_at Tryd.prog g (n*260) 37 l 0 cur w hg (by rw [h4,hl];omega) h1
  simp only [Nat.add_zero] at hst
  have hw:(Instr.storeAt 37 (.pointer (some ⟨g,n*260,none⟩)) (.agg l.toArray)).run Tryd.prog w=.ok () (w.setRow g (cur.toList.take (n*260) ++ l ++ cur.toList.drop (n*260+l.length)).toArray):=by
   cases hie:Tryd.prog.info? 37 with
   | none=>have:=dn_size;rw [hie] at this;cases this
   | some ie =>
    have hsz:=dn_size
    rw [hie] at hsz
    simp only [Option.map_some,Option.some.injEq] at hsz
    simp [Instr.storeAt,Instr.sureAddr,storeVar,sizeOf,typeInfo,hie,Value.cells,hsz,hl,hst]
  refine wpList_plain hgd fun _ hK=>?_
  unfold Oper.wp execOp
  simp only [ho,hx,hy,Sem.run_bind,hw,Result.andThen_ok,Sem.run_pure]
  refine hK _ _ (h _ ⟨by simp [hcs,hl];omega,.inr ⟨g,c,(cur.toList.take (n*260) ++ l ++ cur.toList.drop (n*260+l.length)).toArray,rfl,hb,setRow_heap w g cur _ _ _ hg,h2,h3,?_,?_⟩⟩ ⟨rfl,rfl,rfl,by simp,fun k _ hk=>setRow_other w g k _ (by simpa using hk)⟩)
  ·simp only [List.size_toArray,List.length_append,List.length_take,List.length_drop,Array.length_toList]
   omega
  ·have hpre:cur.toList.take (n*260)=cs:=by
    have:(cur.toList.take ((n+1)*260)).take (n*260)=cs:=by rw [h5,← hcs];exact List.take_left' rfl
    rw [List.take_take,Nat.min_eq_left (by omega)] at this
    exact this
   rw [hpre,List.append_assoc,List.take_append,List.take_of_length_le (by omega),hcs,show (n+1)*260-n*260=260 by omega,List.take_append,List.take_of_length_le (by omega),hl]
   simp
/-! ### append(append([]Node{}, row...), node) -/
/-- What stands while it goes on. z: the empty row; a1: the first append; mk: the row of one; a2: the second append. -/
structure TwoApp (e:TypeId) (W:World) (n:Nat) (cs l:List Value) (z a1 mk a2:Option Value) (w:World):Prop where
 ext:Ext W w
 hz:∀ v,z=some v→a1=none→∃ g,v=.slice (some ⟨g,0,none⟩) 0 0∧W.heap.size≤g∧Blk w g e []
 hm:∀ v,mk=some v→a2=none→∃ g,v=.slice (some ⟨g,0,none⟩) 1 1∧W.heap.size≤g∧Blk w g e l
 h1:∀ v,a1=some v→a2=none→w.ownsRow W.heap.size e 260 v n cs
 h2:∀ v,a2=some v→w.ownsRow W.heap.size e 260 v (n+1) (cs ++ l)
section
variable {e:TypeId} {W:World} {n:Nat} {cs l:List Value} {z a1 mk a2:Option Value} {w w':World}
theorem TwoApp.start (hx:Ext W w):TwoApp e W n cs l none none none none w:=⟨hx,fun v h=>(by cases h),fun v h=>(by cases h),fun v h=>(by cases h),fun v h=>(by cases h)⟩
theorem TwoApp.keep (h:TwoApp e W n cs l z a1 mk a2 w) (hx:Ext w w'):TwoApp e W n cs l z a1 mk a2 w':=
 ⟨h.ext.trans hx,fun v hv hn=>by obtain ⟨g,e1,e2,e3⟩:=h.hz v hv hn;exact ⟨g,e1,e2,e3.keep hx⟩,fun v hv hn=>by obtain ⟨g,e1,e2,e3⟩:=h.hm v hv hn;exact ⟨g,e1,e2,e3.keep hx⟩,
  fun v hv hn=>own_ext (h.h1 v hv hn) hx,fun v hv=>own_ext (h.h2 v hv) hx⟩
theorem TwoApp.doZ (h:TwoApp e W n cs l none a1 mk a2 w):TwoApp e W n cs l (some (.slice (some ⟨w.heap.size,0,none⟩) 0 0)) a1 mk a2 (w.alloc (.cells #[] e)):=by
 have hk:=h.keep (Ext.new1 w (.cells #[] e))
 exact ⟨hk.ext,fun v hv _=>⟨w.heap.size,(Option.some.inj hv).symm,h.ext.size,Blk.newL w e []⟩,hk.hm,hk.h1,hk.h2⟩
theorem TwoApp.doM (h:TwoApp e W n cs l z a1 none a2 w):TwoApp e W n cs l z a1 (some (.slice (some ⟨w.heap.size,0,none⟩) 1 1)) a2 (w.alloc (.cells l.toArray e)):=by
 have hk:=h.keep (Ext.new1 w (.cells l.toArray e))
 exact ⟨hk.ext,hk.hz,fun v hv _=>⟨w.heap.size,(Option.some.inj hv).symm,h.ext.size,Blk.newL w e l⟩,hk.h1,hk.h2⟩
theorem TwoApp.do1 {g:Nat} {v':Value} (h:TwoApp e W n cs l (some (.slice (some ⟨g,0,none⟩) 0 0)) none mk none w) (hl:l.length=260) (hown:w'.ownsRow W.heap.size e 260 v' n cs) (hg:Grew W.heap.size w w' (.slice (some ⟨g,0,none⟩) 0 0)) :
  TwoApp e W n cs l (some (.slice (some ⟨g,0,none⟩) 0 0)) (some v') mk none w':=by
 refine ⟨hg.below h.ext (Nat.le_refl _) h.ext.size,fun v _ hn=>(by cases hn),fun v hv hn=>?_,fun v hv _=>(by cases hv;exact hown),fun v hv=>(by cases hv)⟩
 obtain ⟨g1,e1,e2,e3⟩:=h.hm v hv hn
 obtain ⟨g0,f1,f2,f3⟩:=h.hz _ rfl rfl
 cases f1
 refine ⟨g1,e1,e2,e3.grew hg ?_⟩
 intro hh
 have:g1=g:=by simpa [Value.ownBlock] using hh
 subst this
 have h9:l.toArray=([]:List Value).toArray:=by
  have:=e3.symm.trans f3
  simpa using this
 have:=congrArg Array.size h9
 simp [hl] at this
theorem TwoApp.do2 {v1 v':Value} (h:TwoApp e W n cs l z (some v1) mk none w) (hown:w'.ownsRow W.heap.size e 260 v' (n+1) (cs ++ l)) (hg:Grew W.heap.size w w' v1) :
  TwoApp e W n cs l z (some v1) mk (some v') w':=
 ⟨hg.below h.ext (Nat.le_refl _) h.ext.size,fun v _ hn=>(by cases hn),fun v _ hn=>(by cases hn),fun v _ hn=>(by cases hn),fun v hv=>(by cases hv;exact hown)⟩
end
end Go.Proofs.YtigmdlchbjanoaaDoor
