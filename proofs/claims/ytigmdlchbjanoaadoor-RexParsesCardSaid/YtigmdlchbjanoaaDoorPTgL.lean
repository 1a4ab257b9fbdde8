/- Put together: Rx0, Rx0p, Rx1, Rx2, Rx3, Rx4, Rx4b. -/
import Derived.Test.YtigmdlchbjanoaaDoorPTgD
import Derived.Test.YtigmdlchbjanoaaDoorPTgA
import Derived.Test.YtigmdlchbjanoaaDoorPTgE
import Derived.Deep.DeepCutAuto
import Derived.Deep.LoopGhost
import Derived.Test.YtigmdlchbjanoaaDoorPTgC
import Derived.BigQuiet
import Derived.WalkSmall
namespace Go.Proofs.YtigmdlchbjanoaaDoor
open Go Go.RowKit
attribute [local irreducible] wd
/-- A tree: its kind, number, whether it is lazy, its bytes, its kids. -/
inductive T where
 | node (kind num:Int) (lazy:Bool) (set:Nat→Bool) (kids:List T)
def T.kind:T→Int
 | .node k _ _ _ _=>k
def T.num:T→Int
 | .node _ m _ _ _=>m
def T.lazy:T→Bool
 | .node _ _ z _ _=>z
def T.set:T→Nat→Bool
 | .node _ _ _ p _=>p
def T.kids:T→List T
 | .node _ _ _ _ ks=>ks
mutual
def T.size:T→Nat
 | .node _ _ _ _ ks=>1+sizeL ks
def sizeL:List T→Nat
 | []=>0
 | t :: ts=>t.size+sizeL ts
end
theorem sizeL_mem {ks:List T} {t:T} (h:t ∈ ks):t.size≤sizeL ks:=by
 induction ks with
 | nil=>cases h
 | cons x r ih =>
  unfold sizeL
  rcases List.mem_cons.1 h with rfl | h
  ·omega
  ·have:=ih h;omega
theorem sizeL_append (a b:List T):sizeL (a ++ b)=sizeL a+sizeL b:=by
 induction a with
 | nil=>simp [sizeL]
 | cons x r ih=>simp only [List.cons_append,sizeL,ih];omega
theorem size_pos (t:T):1≤t.size:=by cases t;unfold T.size;omega
theorem sizeL_len (ks:List T):ks.length≤sizeL ks:=by
 induction ks with
 | nil=>simp [sizeL]
 | cons x r ih=>have:=size_pos x;simp only [List.length_cons,sizeL];omega
theorem size_node (k m:Int) (z:Bool) (p:Nat→Bool) (ks:List T):(T.node k m z p ks).size=1+sizeL ks:=by rw [T.size]
/-- A node's cells. -/
def nodeC (k m:Int) (z:Bool) (p:Nat→Bool) (A:Option Addr) (n c:Nat):List Value:=
 [.int .i64 k,.int .i64 m,.bool z,.int .u64 (wd p 0:Nat),.int .u64 (wd p 1:Nat),.int .u64 (wd p 2:Nat),.int .u64 (wd p 3:Nat),.slice A n c]
mutual
/-- These cells say the tree; all its blocks are such ones. -/
def NodeV (S:Nat→Prop) (w:World):T→List Value→Prop
 | .node k m z p ks,v=>∃ A c cs,v=nodeC k m z p A ks.length c∧ks.length≤c∧c≤maxLen∧Rd w 8 A ks.length cs∧(∀ b o x,A=some ⟨b,o,x⟩→0<ks.length→S b)∧KidsV S w ks cs
def KidsV (S:Nat→Prop) (w:World):List T→List Value→Prop
 | [],cs=>cs=[]
 | t :: ts,cs=>∃ v cs',cs=v ++ cs' ∧ NodeV S w t v∧KidsV S w ts cs'
end
theorem nodeV_len {S:Nat→Prop} {w:World} {t:T} {v:List Value} (h:NodeV S w t v):v.length=8:=by
 cases t
 unfold NodeV at h
 obtain ⟨A,c,cs,rfl,_⟩:=h
 rfl
theorem kidsV_len {S:Nat→Prop} {w:World}:∀ {ks:List T} {cs:List Value},KidsV S w ks cs→cs.length=ks.length*8:=by
 intro ks
 induction ks with
 | nil=>intro cs h;unfold KidsV at h;subst h;rfl
 | cons t ts ih =>
  intro cs h
  unfold KidsV at h
  obtain ⟨v,cs',rfl,h1,h2⟩:=h
  rw [List.length_append,nodeV_len h1,ih h2,List.length_cons]
  omega
theorem kidsV_at {S:Nat→Prop} {w:World}:∀ {ks:List T} {cs:List Value},KidsV S w ks cs→∀ {i:Nat} (hi:i<ks.length),∃ v,NodeV S w (ks[i]'hi) v∧∀ j,j<8→cs[i*8+j]?=v[j]?:=by
 intro ks
 induction ks with
 | nil=>intro cs _ i hi;simp at hi
 | cons t ts ih =>
  intro cs h i hi
  unfold KidsV at h
  obtain ⟨v,cs',rfl,h1,h2⟩:=h
  have hv:=nodeV_len h1
  cases i with
  | zero=>exact ⟨v,h1,fun j hj=>by rw [List.getElem?_append_left (by omega)];simp⟩
  | succ i =>
   obtain ⟨u,hu,hc⟩:=ih h2 (i:=i) (by simpa using hi)
   refine ⟨u,by simpa using hu,fun j hj=>?_⟩
   rw [List.getElem?_append_right (by omega),show (i+1)*8+j-v.length=i*8+j by omega]
   exact hc j hj
theorem kidsV_append {S:Nat→Prop} {w:World}:∀ {ks ls:List T} {cs ds:List Value},KidsV S w ks cs→KidsV S w ls ds→KidsV S w (ks ++ ls) (cs ++ ds):=by
 intro ks
 induction ks with
 | nil=>intro ls cs ds h h2;unfold KidsV at h;subst h;exact h2
 | cons t ts ih =>
  intro ls cs ds h h2
  unfold KidsV at h
  obtain ⟨v,cs',rfl,h3,h4⟩:=h
  rw [List.cons_append]
  unfold KidsV
  exact ⟨v,cs' ++ ds,by rw [List.append_assoc],h3,ih h4 h2⟩
theorem kidsV_one {S:Nat→Prop} {w:World} {t:T} {v:List Value} (h:NodeV S w t v):KidsV S w [t] v:=by
 unfold KidsV
 exact ⟨v,[],by simp,h,by unfold KidsV;rfl⟩
/-- What keeps a tree: its blocks stand as they were. -/
theorem nodeV_stay {S S':Nat→Prop} {w w':World} (hs:w.heap.size≤w'.heap.size) (hk:∀ b,S b→b<w.heap.size→S' b∧w'.heap[b]?=w.heap[b]?):∀ (n:Nat) (t:T),t.size≤n→∀ v,NodeV S w t v→NodeV S' w' t v:=by
 intro n
 induction n with
 | zero=>intro t ht;have:=size_pos t;omega
 | succ n ih =>
  intro t ht v h
  cases t with
  | node k m z p ks =>
   unfold NodeV at h ⊢
   obtain ⟨A,c,cs,rfl,h1,h2,h3,h4,h5⟩:=h
   rw [size_node] at ht
   have hkids:∀ (ls:List T) (ds:List Value),(∀ x ∈ ls,x ∈ ks)→KidsV S w ls ds→KidsV S' w' ls ds:=by
    intro ls
    induction ls with
    | nil=>intro ds _ h;unfold KidsV at h ⊢;exact h
    | cons x r ih2 =>
     intro ds hm h
     unfold KidsV at h ⊢
     obtain ⟨u,ds',e,h6,h7⟩:=h
     have hx:=sizeL_mem (hm x List.mem_cons_self)
     exact ⟨u,ds',e,ih x (by omega) u h6,ih2 ds' (fun y hy=>hm y (List.mem_cons_of_mem _ hy)) h7⟩
   refine ⟨A,c,cs,rfl,h1,h2,⟨h3.1,fun hp=>?_⟩,fun b o x e hp=>?_,hkids ks cs (fun _ h=>h) h5⟩
   ·obtain ⟨b,o,e,hb,hc⟩:=h3.2 hp
    have hb2:=hk b (h4 b o none e (by have:=h3.1;omega)) hb
    exact ⟨b,o,e,by omega,fun j u hu=>(World.cell?_of_block hb2.2).trans (hc j u hu)⟩
   ·obtain ⟨b',o',e',hb,_⟩:=h3.2 (by rw [h3.1];omega)
    rw [e] at e'
    cases e'
    exact (hk _ (h4 _ _ _ e hp) hb).1
theorem NodeV.keep {S:Nat→Prop} {w w':World} {t:T} {v:List Value} (h:NodeV S w t v) (hx:Ext w w'):NodeV S w' t v:=
 nodeV_stay hx.size (fun b hb hlt=>⟨hb,hx.block b hlt⟩) t.size t (Nat.le_refl _) v h
theorem NodeV.mono {S S':Nat→Prop} {w:World} {t:T} {v:List Value} (h:NodeV S w t v) (hs:∀ b,b<w.heap.size→S b→S' b):NodeV S' w t v:=
 nodeV_stay (Nat.le_refl _) (fun b hb hlt=>⟨hs b hlt hb,rfl⟩) t.size t (Nat.le_refl _) v h
theorem NodeV.chg {S:Nat→Prop} {w w':World} {t:T} {v:List Value} {X:List Nat} (h:NodeV S w t v) (hx:Chg X w w') (hs:∀ x ∈ X,¬ S x):NodeV S w' t v:=
 nodeV_stay hx.size (fun b hb hlt=>⟨hb,hx.block b hlt (fun hm=>hs b hm hb)⟩) t.size t (Nat.le_refl _) v h
theorem NodeV.grew {S:Nat→Prop} {w w':World} {t:T} {v:List Value} {base:Nat} {u:Value} (h:NodeV S w t v) (hx:Grew base w w' u) (hs:∀ b,S b→some b ≠ u.ownBlock):NodeV S w' t v:=
 nodeV_stay hx.size (fun b hb hlt=>⟨hb,hx.by_.block b hlt (hs b hb)⟩) t.size t (Nat.le_refl _) v h
theorem kidsV_map {S S':Nat→Prop} {w w':World} (hf:∀ t v,NodeV S w t v→NodeV S' w' t v):∀ {ks:List T} {cs:List Value},KidsV S w ks cs→KidsV S' w' ks cs:=by
 intro ks
 induction ks with
 | nil=>intro cs h;unfold KidsV at h ⊢;exact h
 | cons t ts ih =>
  intro cs h
  unfold KidsV at h ⊢
  obtain ⟨v,cs',e,h1,h2⟩:=h
  exact ⟨v,cs',e,hf _ _ h1,ih h2⟩
/-- A kid: its cells, in this world and all that come of it. -/
theorem kid_at {S:Nat→Prop} {w:World} {A:Option Addr} {ks:List T} {cs:List Value} (hR:Rd w 8 A ks.length cs) (hK:KidsV S w ks cs) {i:Nat} (hi:i<ks.length) :
  ∃ b o k m z p B n c,A=some ⟨b,o,none⟩∧NodeV S w (ks[i]'hi) (nodeC k m z p B n c) ∧
   Hid (∀ w',Ext w w' → w'.cell? ⟨b,o+i*8,none⟩=some (.int .i64 k)∧w'.cell? ⟨b,o+i*8+1,none⟩=some (.int .i64 m)∧w'.cell? ⟨b,o+i*8+2,none⟩=some (.bool z) ∧
    w'.cell? ⟨b,o+i*8+3,none⟩=some (.int .u64 (wd p 0:Nat))∧w'.cell? ⟨b,o+i*8+4,none⟩=some (.int .u64 (wd p 1:Nat))∧w'.cell? ⟨b,o+i*8+5,none⟩=some (.int .u64 (wd p 2:Nat)) ∧
    w'.cell? ⟨b,o+i*8+6,none⟩=some (.int .u64 (wd p 3:Nat))∧w'.cell? ⟨b,o+i*8+7,none⟩=some (.slice B n c)):=by
 obtain ⟨v,hv,hc⟩:=kidsV_at hK hi
 have hl:=kidsV_len hK
 obtain ⟨b,o,rfl,hb,hcell⟩:=hR.2 (by omega)
 have hform:∃ k m z p B n c,v=nodeC k m z p B n c:=by
  generalize ks[i]'hi=t at hv
  cases t
  unfold NodeV at hv
  obtain ⟨B,c,_,e,_⟩:=hv
  exact ⟨_,_,_,_,_,_,_,e⟩
 obtain ⟨k,m,z,p,B,n,c,rfl⟩:=hform
 refine ⟨b,o,k,m,z,p,B,n,c,rfl,hv,Lib.hid fun w' hx=>?_⟩
 have key:∀ j x,(nodeC k m z p B n c)[j]?=some x→j<8→w'.cell? ⟨b,o+i*8+j,none⟩=some x:=fun j x hj h8=>by
  have:=hcell (i*8+j) x (by rw [hc j h8];exact hj)
  rw [show o+i*8+j=o+(i*8+j) by omega]
  exact (hx.cell (p:=⟨b,o+(i*8+j),none⟩) hb).trans this
 exact ⟨key 0 _ rfl (by omega),key 1 _ rfl (by omega),key 2 _ rfl (by omega),key 3 _ rfl (by omega),key 4 _ rfl (by omega),key 5 _ rfl (by omega),key 6 _ rfl (by omega),key 7 _ rfl (by omega)⟩
end Go.Proofs.YtigmdlchbjanoaaDoor
namespace Go.Proofs.YtigmdlchbjanoaaDoor
open Go Go.RowKit
mutual
def T.groups:T→Nat
 | .node k _ _ _ ks=>(if k=8 then 1 else 0)+groupsL ks
def groupsL:List T→Nat
 | []=>0
 | t :: ts=>t.groups+groupsL ts
end
mutual
def T.nullable:T→Bool
 | .node k _ _ _ ks=>if k=1∨k=5∨k=7 then true else if k=3 then allN ks else if k=4 then anyN ks else if k=6∨k=8 then headN ks else false
def allN:List T→Bool
 | []=>true
 | t :: ts=>t.nullable && allN ts
def anyN:List T→Bool
 | []=>false
 | t :: ts=>t.nullable || anyN ts
def headN:List T→Bool
 | []=>false
 | t :: _=>t.nullable
end
/-- As many kids as the kind has. -/
def kidsOk (k:Int) (n:Nat):Bool:=
 if k=1∨k=2 then decide (n=0) else if k=3∨k=4 then decide (2≤n) else if k=5∨k=6∨k=7∨k=8 then decide (n=1) else false
def noneB (p:Nat→Bool):Bool:=(List.range' 0 256).all fun i=>!p i
def bareB (k m:Int) (z:Bool) (p:Nat→Bool):Bool:=(decide (k=8) || decide (m=0)) && ((decide (k=5∨k=6∨k=7)) || !z) && (decide (k=2) || noneB p)
mutual
/-- Is it right, so deep, behind so many groups; and how many there are behind it. -/
def T.right:T→Nat→Nat→Bool × Nat
 | .node k m z p ks,d,g =>
  if 40<d∨kidsOk k ks.length=false∨bareB k m z p=false then (false,g)
  else if k=8∧m ≠ (g:Int)+1 then (false,g+1)
  else
   let r:=rightL ks (d+1) (if k=8 then g+1 else g)
   (r.1 && (!(decide (k=5∨k=6)) || !headN ks),r.2)
def rightL:List T→Nat→Nat→Bool × Nat
 | [],_,g=>(true,g)
 | t :: ts,d,g=>if (t.right d g).1 then rightL ts d (t.right d g).2 else (false,(t.right d g).2)
end
theorem groupsL_append (a b:List T):groupsL (a ++ b)=groupsL a+groupsL b:=by
 induction a with
 | nil=>simp [groupsL]
 | cons x r ih=>simp only [List.cons_append,groupsL,ih];omega
mutual
theorem groups_le:∀ t:T,t.groups≤t.size
 | .node k m z p ks=>by
  have:=groupsL_le ks
  unfold T.groups T.size
  split <;> omega
theorem groupsL_le:∀ ks:List T,groupsL ks≤sizeL ks
 | []=>by simp [groupsL,sizeL]
 | t :: ts=>by
  have:=groups_le t
  have:=groupsL_le ts
  unfold groupsL sizeL
  omega
end
end Go.Proofs.YtigmdlchbjanoaaDoor
namespace Go.Proofs.YtigmdlchbjanoaaDoor
open Go Go.RowKit
attribute [local irreducible] wd
theorem groupsL_take {ks:List T} {i:Nat} (hi:i<ks.length):groupsL (ks.take (i+1))=groupsL (ks.take i)+(ks[i]'hi).groups:=by
 rw [List.take_succ_eq_append_getElem hi,groupsL_append,groupsL,groupsL];omega
theorem groupsL_take_le (ks:List T) (i:Nat):groupsL (ks.take i)≤groupsL ks:=by
 have:=groupsL_append (ks.take i) (ks.drop i)
 rw [List.take_append_drop] at this
 omega
set_option maxHeartbeats 4000000 in
set_option maxRecDepth 20000 in
theorem rxGroups:∀ n,∀ t:T,t.size≤n→t.size≤1099511627776→∀ S w v,NodeV S w t v →
  Calls Tryd.prog 10 #[.agg v.toArray] w fun e w'=>e=.returned (.int .i64 (t.groups:Nat))∧Ext w w':=by
 intro n
 induction n with
 | zero=>intro t ht;have:=size_pos t;omega
 | succ n ih =>
  intro t ht hsz S w v h
  cases t with
  | node k m z p ks =>
   unfold NodeV at h
   obtain ⟨A,c,cs,rfl,h1,h2,h3,h4,h5⟩:=h
   rw [size_node] at ht hsz
   rw [T.groups]
   have HR:=Lib.hid h3
   have HK:=Lib.hid h5
   have hlk:=sizeL_len ks
   clear h3 h4 h5
   unfold nodeC
   by_cases hk8:k=8
   ·have hkb:(k == 8)=true:=by simp [hk8]
    rw [if_pos hk8]
    clear hk8
    go_enter Tryd.func10,Tryd.ntmps10
    go_wp2
    go_loopg [3,12] (ks.length) (fun g a b wr=>∃ i:Nat,i≤ks.length∧g=ks.length-i∧a=.int .i64 ((1+groupsL (ks.take i):Nat):Int)∧b=.int .i64 (i:Nat)∧Ext w wr)
    case atStart=>exact ⟨0,by omega,rfl,rfl,rfl,by (first | exact Ext.refl _ | (unfold Ext;repeat (first | exact Below.refl _ _ | assumption | refine Below.alloc ?_ (by first | (simp;done) | (simp;omega) | omega) _ | refine Below.setCell ?_ (by first | (simp;done) | (simp;omega) | omega) _ | refine Below.drew ?_)))⟩
    case round =>
     obtain ⟨i,hi,rfl,rfl,rfl,hx⟩:=hrel
     by_cases hlt:i<ks.length
     ·obtain ⟨b,o,k',m',z',p',B,n',c',rfl,hv,hk⟩:=kid_at HR.out HK.out hlt
      obtain ⟨c0,c1,c2,c3,c4,c5,c6,c7⟩:=hk.out wr hx
      have hmem:=sizeL_mem (List.getElem_mem hlt)
      have hstep:=groupsL_take hlt
      have hle:=groupsL_take_le ks (i+1)
      have hgl:=groupsL_le ks
      obtain ⟨q,hq⟩:∃ q,1+groupsL (ks.take i)=q:=⟨_,rfl⟩
      obtain ⟨r,hr⟩:∃ r,(ks[i]'hlt).groups=r:=⟨_,rfl⟩
      have hw1:IntKind.i64.wrap ((q:Int)+(r:Int))=(q:Int)+(r:Int):=wrap_id (by omega) (by omega)
      have hw2:IntKind.i64.wrap ((i:Int)+1)=(i:Int)+1:=wrap_id (by omega) (by omega)
      have hlt':(i:Int)<(ks.length:Int):=by omega
      have HV:=Lib.hid (hv.keep hx)
      have HS:=Lib.hid (show 1+groupsL (ks.take (i+1))=q+r by omega)
      have HT:=Lib.hid (show (ks[i]'hlt).size≤n∧(ks[i]'hlt).size≤1099511627776 by omega)
      have HRR:=Lib.hid hr
      rw [hq]
      clear hv hstep hle hmem hq hr hsz ht
      go_wp2_with (go_at_call 10;refine (ih _ HT.out.1 HT.out.2 S _ (nodeC k' m' z' p' B n' c') (HV.out.keep (by (first | exact Ext.refl _ | (unfold Ext;repeat (first | exact Below.refl _ _ | assumption | refine Below.alloc ?_ (by first | (simp;done) | (simp;omega) | omega) _ | refine Below.setCell ?_ (by first | (simp;done) | (simp;omega) | omega) _ | refine Below.drew ?_)))))).mono ?_;rintro e w1 ⟨rfl,hx1⟩;rw [HRR.out])
      go_roundg (ks.length-(i+1))
      case measure=>omega
      case rel=>exact ⟨i+1,by omega,rfl,by rw [HS.out];go_num,by go_num,Ext.trans hx (Ext.trans (Ext.new1 _ _) hx1)⟩
     ·obtain rfl:i=ks.length:=by omega
      have hlt':¬ (ks.length:Int)<(ks.length:Int):=by omega
      rw [List.take_length]
      go_wp2
      go_ret
      exact ⟨by simp,hx⟩
   ·have hkb:(k == 8)=false:=by simp [hk8]
    rw [if_neg hk8]
    clear hk8
    go_enter Tryd.func10,Tryd.ntmps10
    go_wp2
    go_loopg [3,12] (ks.length) (fun g a b wr=>∃ i:Nat,i≤ks.length∧g=ks.length-i∧a=.int .i64 ((0+groupsL (ks.take i):Nat):Int)∧b=.int .i64 (i:Nat)∧Ext w wr)
    case atStart=>exact ⟨0,by omega,rfl,rfl,rfl,by (first | exact Ext.refl _ | (unfold Ext;repeat (first | exact Below.refl _ _ | assumption | refine Below.alloc ?_ (by first | (simp;done) | (simp;omega) | omega) _ | refine Below.setCell ?_ (by first | (simp;done) | (simp;omega) | omega) _ | refine Below.drew ?_)))⟩
    case round =>
     obtain ⟨i,hi,rfl,rfl,rfl,hx⟩:=hrel
     by_cases hlt:i<ks.length
     ·obtain ⟨b,o,k',m',z',p',B,n',c',rfl,hv,hk⟩:=kid_at HR.out HK.out hlt
      obtain ⟨c0,c1,c2,c3,c4,c5,c6,c7⟩:=hk.out wr hx
      have hmem:=sizeL_mem (List.getElem_mem hlt)
      have hstep:=groupsL_take hlt
      have hle:=groupsL_take_le ks (i+1)
      have hgl:=groupsL_le ks
      obtain ⟨q,hq⟩:∃ q,0+groupsL (ks.take i)=q:=⟨_,rfl⟩
      obtain ⟨r,hr⟩:∃ r,(ks[i]'hlt).groups=r:=⟨_,rfl⟩
      have hw1:IntKind.i64.wrap ((q:Int)+(r:Int))=(q:Int)+(r:Int):=wrap_id (by omega) (by omega)
      have hw2:IntKind.i64.wrap ((i:Int)+1)=(i:Int)+1:=wrap_id (by omega) (by omega)
      have hlt':(i:Int)<(ks.length:Int):=by omega
      have HV:=Lib.hid (hv.keep hx)
      have HS:=Lib.hid (show 0+groupsL (ks.take (i+1))=q+r by omega)
      have HT:=Lib.hid (show (ks[i]'hlt).size≤n∧(ks[i]'hlt).size≤1099511627776 by omega)
      have HRR:=Lib.hid hr
      rw [hq]
      clear hv hstep hle hmem hq hr hsz ht
      go_wp2_with (go_at_call 10;refine (ih _ HT.out.1 HT.out.2 S _ (nodeC k' m' z' p' B n' c') (HV.out.keep (by (first | exact Ext.refl _ | (unfold Ext;repeat (first | exact Below.refl _ _ | assumption | refine Below.alloc ?_ (by first | (simp;done) | (simp;omega) | omega) _ | refine Below.setCell ?_ (by first | (simp;done) | (simp;omega) | omega) _ | refine Below.drew ?_)))))).mono ?_;rintro e w1 ⟨rfl,hx1⟩;rw [HRR.out])
      go_roundg (ks.length-(i+1))
      case measure=>omega
      case rel=>exact ⟨i+1,by omega,rfl,by rw [HS.out];go_num,by go_num,Ext.trans hx (Ext.trans (Ext.new1 _ _) hx1)⟩
     ·obtain rfl:i=ks.length:=by omega
      have hlt':¬ (ks.length:Int)<(ks.length:Int):=by omega
      rw [List.take_length]
      go_wp2
      go_ret
      exact ⟨by simp,hx⟩
end Go.Proofs.YtigmdlchbjanoaaDoor
namespace Go.Proofs.YtigmdlchbjanoaaDoor
open Go Go.RowKit
attribute [local irreducible] wd
/-- A function of nodes that tells something of each of these. -/
def FnTells (F:FuncId) (ks:List T) (P:T→Bool):Prop:=
 ∀ x ∈ ks,∀ S w v,NodeV S w x v→Calls Tryd.prog F #[.agg v.toArray] w fun e w'=>e=.returned (.bool (P x))∧Ext w w'
set_option maxHeartbeats 1000000 in
set_option maxRecDepth 20000 in
theorem rxNot1 {ks:List T} (h:FnTells 42 ks T.nullable):FnTells 51 ks (fun x=>!x.nullable):=by
 intro x hx S w v hv
 obtain ⟨k,m,z,p,B,n,c,rfl⟩:∃ k m z p B n c,v=nodeC k m z p B n c:=by
  cases x
  unfold NodeV at hv
  obtain ⟨B,c,_,e,_⟩:=hv
  exact ⟨_,_,_,_,_,_,_,e⟩
 have HV:=Lib.hid hv
 have HX:=Lib.hid hx
 clear hv hx
 unfold nodeC
 go_enter Tryd.func51,Tryd.ntmps51
 go_wp2_with (go_at_call 42;refine (h x HX.out S _ (nodeC k m z p B n c) (HV.out.keep (Ext.new1 _ _))).mono ?_;rintro e w1 ⟨rfl,hx1⟩)
 go_ret
 exact ⟨by simp,Ext.trans (Ext.new1 _ _) hx1⟩
set_option maxHeartbeats 2000000 in
set_option maxRecDepth 20000 in
theorem rxIndexA {S:Nat→Prop} {w:World} {A:Option Addr} {ks:List T} {cs:List Value} (c:Nat) (hf:FnTells 42 ks T.nullable) (hR:Rd w 8 A ks.length cs) (hK:KidsV S w ks cs) (hl:ks.length≤maxLen) :
  Calls Tryd.prog 65 #[.slice A ks.length c,.func (.func 42) #[] #[]] w fun e w'=>∃ r:Int,e=.returned (.int .i64 r)∧decide (0≤r)=ks.any T.nullable∧Ext w w':=by
 have HR:=Lib.hid hR
 have HK:=Lib.hid hK
 unfold maxLen at hl
 clear hR hK
 go_enter Tryd.func65,Tryd.ntmps65
 go_wp2
 go_loopg [8] (ks.length) (fun g a wr=>∃ i:Nat,i≤ks.length∧g=ks.length-i∧a=.int .i64 (i:Nat)∧(ks.take i).any T.nullable=false∧Ext w wr)
 case atStart=>exact ⟨0,by omega,rfl,rfl,by simp,Ext.refl _⟩
 case round =>
  obtain ⟨i,hi,rfl,rfl,hno,hx⟩:=hrel
  have HNO:=Lib.hid hno
  clear hno
  by_cases hlt:i<ks.length
  ·obtain ⟨b,o,k',m',z',p',B,n',c',rfl,hv,hk⟩:=kid_at HR.out HK.out hlt
   obtain ⟨c0,c1,c2,c3,c4,c5,c6,c7⟩:=hk.out wr hx
   have hlt':(i:Int)<(ks.length:Int):=by omega
   have hw2:IntKind.i64.wrap ((i:Int)+1)=(i:Int)+1:=wrap_id (by omega) (by omega)
   have HV:=Lib.hid (hv.keep hx)
   obtain ⟨x,hxe⟩:∃ x,ks[i]'hlt=x:=⟨_,rfl⟩
   have HM:=Lib.hid (show x ∈ ks from hxe ▸ List.getElem_mem hlt)
   have hV:NodeV S wr x (nodeC k' m' z' p' B n' c'):=hxe ▸ HV.out
   have HVX:=Lib.hid hV
   have HT:=Lib.hid (show ks.take (i+1)=ks.take i ++ [x] by rw [List.take_succ_eq_append_getElem hlt,hxe])
   clear hv HV hV hxe
   cases hP:T.nullable x
   ·have HP:=Lib.hid hP
    clear hP
    go_wp2_with (go_at_call 42;refine (hf x HM.out S _ (nodeC k' m' z' p' B n' c') HVX.out).mono ?_;rintro e w1 ⟨rfl,hx1⟩;rw [HP.out])
    go_roundg (ks.length-(i+1))
    case measure=>omega
    case rel=>exact ⟨i+1,by omega,rfl,by go_num,by rw [HT.out,List.any_append,HNO.out];simp [HP.out],Ext.trans hx hx1⟩
   ·have HP:=Lib.hid hP
    clear hP
    go_wp2_with (go_at_call 42;refine (hf x HM.out S _ (nodeC k' m' z' p' B n' c') HVX.out).mono ?_;rintro e w1 ⟨rfl,hx1⟩;rw [HP.out])
    go_ret
    exact ⟨i,rfl,by rw [List.any_eq_true.2 ⟨x,HM.out,HP.out⟩];simp,Ext.trans hx hx1⟩
  ·obtain rfl:i=ks.length:=by omega
   have hno:=HNO.out
   rw [List.take_length] at hno
   have HN:=Lib.hid hno
   clear hno
   go_wp2
   go_ret
   exact ⟨-1,rfl,by rw [HN.out];rfl,hx⟩
set_option maxHeartbeats 1000000 in
set_option maxRecDepth 20000 in
theorem rxContainsA {S:Nat→Prop} {w:World} {A:Option Addr} {ks:List T} {cs:List Value} (c:Nat) (hf:FnTells 42 ks T.nullable) (hR:Rd w 8 A ks.length cs) (hK:KidsV S w ks cs) (hl:ks.length≤maxLen) :
  Calls Tryd.prog 50 #[.slice A ks.length c,.func (.func 42) #[] #[]] w fun e w'=>e=.returned (.bool (ks.any T.nullable))∧Ext w w':=by
 go_enter Tryd.func50,Tryd.ntmps50
 go_wp2_with (go_at_call 65;refine (rxIndexA c hf hR hK hl).mono ?_;rintro e w1 ⟨r,rfl,hr,hx1⟩)
 go_ret
 exact ⟨by rw [← hr];rfl,hx1⟩
set_option maxHeartbeats 2000000 in
set_option maxRecDepth 20000 in
theorem rxIndexB {S:Nat→Prop} {w:World} {A:Option Addr} {ks:List T} {cs:List Value} (c:Nat) (hf:FnTells 51 ks (fun x=>!x.nullable)) (hR:Rd w 8 A ks.length cs) (hK:KidsV S w ks cs) (hl:ks.length≤maxLen) :
  Calls Tryd.prog 65 #[.slice A ks.length c,.func (.func 51) #[] #[]] w fun e w'=>∃ r:Int,e=.returned (.int .i64 r)∧decide (0≤r)=ks.any (fun x=>!x.nullable)∧Ext w w':=by
 have HR:=Lib.hid hR
 have HK:=Lib.hid hK
 unfold maxLen at hl
 clear hR hK
 go_enter Tryd.func65,Tryd.ntmps65
 go_wp2
 go_loopg [8] (ks.length) (fun g a wr=>∃ i:Nat,i≤ks.length∧g=ks.length-i∧a=.int .i64 (i:Nat)∧(ks.take i).any (fun x=>!x.nullable)=false∧Ext w wr)
 case atStart=>exact ⟨0,by omega,rfl,rfl,by simp,Ext.refl _⟩
 case round =>
  obtain ⟨i,hi,rfl,rfl,hno,hx⟩:=hrel
  have HNO:=Lib.hid hno
  clear hno
  by_cases hlt:i<ks.length
  ·obtain ⟨b,o,k',m',z',p',B,n',c',rfl,hv,hk⟩:=kid_at HR.out HK.out hlt
   obtain ⟨c0,c1,c2,c3,c4,c5,c6,c7⟩:=hk.out wr hx
   have hlt':(i:Int)<(ks.length:Int):=by omega
   have hw2:IntKind.i64.wrap ((i:Int)+1)=(i:Int)+1:=wrap_id (by omega) (by omega)
   have HV:=Lib.hid (hv.keep hx)
   obtain ⟨x,hxe⟩:∃ x,ks[i]'hlt=x:=⟨_,rfl⟩
   have HM:=Lib.hid (show x ∈ ks from hxe ▸ List.getElem_mem hlt)
   have hV:NodeV S wr x (nodeC k' m' z' p' B n' c'):=hxe ▸ HV.out
   have HVX:=Lib.hid hV
   have HT:=Lib.hid (show ks.take (i+1)=ks.take i ++ [x] by rw [List.take_succ_eq_append_getElem hlt,hxe])
   clear hv HV hV hxe
   cases hP:(fun x=>!x.nullable) x
   ·have HP:=Lib.hid hP
    clear hP
    go_wp2_with (go_at_call 51;refine (hf x HM.out S _ (nodeC k' m' z' p' B n' c') HVX.out).mono ?_;rintro e w1 ⟨rfl,hx1⟩;rw [HP.out])
    go_roundg (ks.length-(i+1))
    case measure=>omega
    case rel=>exact ⟨i+1,by omega,rfl,by go_num,by rw [HT.out,List.any_append,HNO.out];simp [HP.out],Ext.trans hx hx1⟩
   ·have HP:=Lib.hid hP
    clear hP
    go_wp2_with (go_at_call 51;refine (hf x HM.out S _ (nodeC k' m' z' p' B n' c') HVX.out).mono ?_;rintro e w1 ⟨rfl,hx1⟩;rw [HP.out])
    go_ret
    exact ⟨i,rfl,by rw [List.any_eq_true.2 ⟨x,HM.out,HP.out⟩];simp,Ext.trans hx hx1⟩
  ·obtain rfl:i=ks.length:=by omega
   have hno:=HNO.out
   rw [List.take_length] at hno
   have HN:=Lib.hid hno
   clear hno
   go_wp2
   go_ret
   exact ⟨-1,rfl,by rw [HN.out];rfl,hx⟩
set_option maxHeartbeats 1000000 in
set_option maxRecDepth 20000 in
theorem rxContainsB {S:Nat→Prop} {w:World} {A:Option Addr} {ks:List T} {cs:List Value} (c:Nat) (hf:FnTells 51 ks (fun x=>!x.nullable)) (hR:Rd w 8 A ks.length cs) (hK:KidsV S w ks cs) (hl:ks.length≤maxLen) :
  Calls Tryd.prog 50 #[.slice A ks.length c,.func (.func 51) #[] #[]] w fun e w'=>e=.returned (.bool (ks.any (fun x=>!x.nullable)))∧Ext w w':=by
 go_enter Tryd.func50,Tryd.ntmps50
 go_wp2_with (go_at_call 65;refine (rxIndexB c hf hR hK hl).mono ?_;rintro e w1 ⟨r,rfl,hr,hx1⟩)
 go_ret
 exact ⟨by rw [← hr];rfl,hx1⟩
theorem any_null (ks:List T):ks.any T.nullable=anyN ks:=by
 induction ks with
 | nil=>rfl
 | cons x r ih=>rw [List.any_cons,anyN,ih]
theorem any_not (ks:List T):(!(ks.any fun x=>!x.nullable))=allN ks:=by
 induction ks with
 | nil=>rfl
 | cons x r ih=>rw [List.any_cons,allN,← ih];cases x.nullable <;> simp
set_option maxHeartbeats 4000000 in
set_option maxRecDepth 20000 in
theorem rxNullableN:∀ n,∀ t:T,t.size≤n→∀ S w v,NodeV S w t v →
  Calls Tryd.prog 42 #[.agg v.toArray] w fun e w'=>e=.returned (.bool t.nullable)∧Ext w w':=by
 intro n
 induction n with
 | zero=>intro t ht;have:=size_pos t;omega
 | succ n ih =>
  intro t ht S w v h
  cases t with
  | node k m z p ks =>
   unfold NodeV at h
   obtain ⟨A,c,cs,rfl,h1,h2,h3,h4,h5⟩:=h
   rw [size_node] at ht
   have hlk:=sizeL_len ks
   have hf:FnTells 42 ks T.nullable:=fun x hx S w v hv=>by
    have:=sizeL_mem hx
    exact ih x (by omega) S w v hv
   have hl:ks.length≤maxLen:=Nat.le_trans h1 h2
   have HR:=Lib.hid (h3.keep (Ext.new1 w (.cells (nodeC k m z p A ks.length c).toArray 28)))
   have HR0:=Lib.hid h3
   have HK0:=Lib.hid h5
   have HK:=Lib.hid (kidsV_map (fun t v h=>NodeV.keep h (Ext.new1 w (.cells (nodeC k m z p A ks.length c).toArray 28))) h5)
   have hx0:=Ext.new1 w (.cells (nodeC k m z p A ks.length c).toArray 28)
   clear h3 h4 h5
   unfold nodeC at HR HK hx0 ⊢
   rw [T.nullable]
   by_cases k1:k=1
   ·subst k1
    simp only [true_or,if_true]
    go_enter Tryd.func42,Tryd.ntmps42
    go_wp2
    go_ret
    exact ⟨by simp,by (first | exact Ext.refl _ | (unfold Ext;repeat (first | exact Below.refl _ _ | assumption | refine Below.alloc ?_ (by first | (simp;done) | (simp;omega) | omega) _ | refine Below.setCell ?_ (by first | (simp;done) | (simp;omega) | omega) _ | refine Below.drew ?_)))⟩
   have d1:(k == 1)=false:=by simp [k1]
   by_cases k5:k=5
   ·subst k5
    rw [if_pos (by decide)]
    go_enter Tryd.func42,Tryd.ntmps42
    go_wp2
    go_ret
    exact ⟨by simp,by (first | exact Ext.refl _ | (unfold Ext;repeat (first | exact Below.refl _ _ | assumption | refine Below.alloc ?_ (by first | (simp;done) | (simp;omega) | omega) _ | refine Below.setCell ?_ (by first | (simp;done) | (simp;omega) | omega) _ | refine Below.drew ?_)))⟩
   have d5:(k == 5)=false:=by simp [k5]
   by_cases k7:k=7
   ·subst k7
    rw [if_pos (by decide)]
    go_enter Tryd.func42,Tryd.ntmps42
    go_wp2
    go_ret
    exact ⟨by simp,by (first | exact Ext.refl _ | (unfold Ext;repeat (first | exact Below.refl _ _ | assumption | refine Below.alloc ?_ (by first | (simp;done) | (simp;omega) | omega) _ | refine Below.setCell ?_ (by first | (simp;done) | (simp;omega) | omega) _ | refine Below.drew ?_)))⟩
   have d7:(k == 7)=false:=by simp [k7]
   rw [if_neg (by simp [k1,k5,k7])]
   by_cases k3:k=3
   ·subst k3
    rw [if_pos rfl,← any_not]
    go_enter Tryd.func42,Tryd.ntmps42
    go_wp2_with (go_at_call 50;refine (rxContainsB c (rxNot1 hf) HR.out HK.out hl).mono ?_;rintro e w1 ⟨rfl,hx1⟩)
    go_ret
    exact ⟨by simp,Ext.trans hx0 hx1⟩
   have d3:(k == 3)=false:=by simp [k3]
   rw [if_neg k3]
   by_cases k4:k=4
   ·subst k4
    rw [if_pos rfl,← any_null]
    go_enter Tryd.func42,Tryd.ntmps42
    go_wp2_with (go_at_call 50;refine (rxContainsA c hf HR.out HK.out hl).mono ?_;rintro e w1 ⟨rfl,hx1⟩)
    go_ret
    exact ⟨by simp,Ext.trans hx0 hx1⟩
   have d4:(k == 4)=false:=by simp [k4]
   rw [if_neg k4]
   by_cases k6:k=6
   ·subst k6
    rw [if_pos (by decide)]
    clear ih
    rcases ks with _ | ⟨x,r⟩
    ·rw [headN]
     go_enter Tryd.func42,Tryd.ntmps42
     go_wp2
     go_ret
     exact ⟨by simp,by (first | exact Ext.refl _ | (unfold Ext;repeat (first | exact Below.refl _ _ | assumption | refine Below.alloc ?_ (by first | (simp;done) | (simp;omega) | omega) _ | refine Below.setCell ?_ (by first | (simp;done) | (simp;omega) | omega) _ | refine Below.drew ?_)))⟩
    ·rw [headN]
     obtain ⟨b,o,k',m',z',p',B,n',c',rfl,hv,hk⟩:=kid_at HR.out HK.out (i:=0) (by simp)
     obtain ⟨c0,c1,c2,c3,c4,c5,c6,c7⟩:=hk.out _ (Ext.refl _)
     simp only [Nat.zero_mul,Nat.add_zero,List.length_cons] at c0 c1 c2 c3 c4 c5 c6 c7 hx0 ⊢
     have hv2:NodeV S _ x _:=hv
     simp only [List.length_cons] at hv2
     have HV:=Lib.hid hv2
     have hpos:(0:Int)<(r.length:Int)+1:=by omega
     clear hv hk hv2
     go_enter Tryd.func42,Tryd.ntmps42
     go_wp2_with (go_at_call 42;refine (hf x List.mem_cons_self S _ (nodeC k' m' z' p' B n' c') HV.out).mono ?_;rintro e w1 ⟨rfl,hx1⟩)
     go_ret
     exact ⟨by simp,Ext.trans hx0 hx1⟩
   have d6:(k == 6)=false:=by simp [k6]
   by_cases k8:k=8
   ·subst k8
    rw [if_pos (by decide)]
    clear ih
    rcases ks with _ | ⟨x,r⟩
    ·rw [headN]
     go_enter Tryd.func42,Tryd.ntmps42
     go_wp2
     go_ret
     exact ⟨by simp,by (first | exact Ext.refl _ | (unfold Ext;repeat (first | exact Below.refl _ _ | assumption | refine Below.alloc ?_ (by first | (simp;done) | (simp;omega) | omega) _ | refine Below.setCell ?_ (by first | (simp;done) | (simp;omega) | omega) _ | refine Below.drew ?_)))⟩
    ·rw [headN]
     obtain ⟨b,o,k',m',z',p',B,n',c',rfl,hv,hk⟩:=kid_at HR.out HK.out (i:=0) (by simp)
     obtain ⟨c0,c1,c2,c3,c4,c5,c6,c7⟩:=hk.out _ (Ext.refl _)
     simp only [Nat.zero_mul,Nat.add_zero,List.length_cons] at c0 c1 c2 c3 c4 c5 c6 c7 hx0 ⊢
     have hv2:NodeV S _ x _:=hv
     simp only [List.length_cons] at hv2
     have HV:=Lib.hid hv2
     have hpos:(0:Int)<(r.length:Int)+1:=by omega
     clear hv hk hv2
     go_enter Tryd.func42,Tryd.ntmps42
     go_wp2_with (go_at_call 42;refine (hf x List.mem_cons_self S _ (nodeC k' m' z' p' B n' c') HV.out).mono ?_;rintro e w1 ⟨rfl,hx1⟩)
     go_ret
     exact ⟨by simp,Ext.trans hx0 hx1⟩
   have d8:(k == 8)=false:=by simp [k8]
   rw [if_neg (by simp [k6,k8])]
   clear k1 k5 k7 k3 k4 k6 k8
   go_enter Tryd.func42,Tryd.ntmps42
   go_wp2
   go_ret
   exact ⟨by simp,by (first | exact Ext.refl _ | (unfold Ext;repeat (first | exact Below.refl _ _ | assumption | refine Below.alloc ?_ (by first | (simp;done) | (simp;omega) | omega) _ | refine Below.setCell ?_ (by first | (simp;done) | (simp;omega) | omega) _ | refine Below.drew ?_)))⟩
theorem rxNullable (n:Nat) (t:T) (ht:t.size≤n) (_:t.size≤1099511627776) (S:Nat→Prop) (w:World) (v:List Value) (h:NodeV S w t v) :
  Calls Tryd.prog 42 #[.agg v.toArray] w fun e w'=>e=.returned (.bool t.nullable)∧Ext w w':=rxNullableN n t ht S w v h
end Go.Proofs.YtigmdlchbjanoaaDoor
namespace Go.Proofs.YtigmdlchbjanoaaDoor
open Go Go.RowKit
attribute [local irreducible] wd
theorem noneB_eq (p:Nat→Bool):noneB p=sameP p (fun _=>false):=by
 unfold noneB sameP
 congr 1
 funext i
 cases p i <;> rfl
theorem eq_none (p:Nat→Bool) (w:World):(Op.equalIn 10000 25 (.agg #[.int .u64 (wd p 0:Nat),.int .u64 (wd p 1:Nat),.int .u64 (wd p 2:Nat),.int .u64 (wd p 3:Nat)]) (.agg #[.int .u64 0,.int .u64 0,.int .u64 0,.int .u64 0])).run Tryd.prog w=.ok (noneB p) w:=by
 have:=eq_sp p (fun _=>false) w
 rw [wd_none,wd_none,wd_none,wd_none] at this
 rw [noneB_eq]
 exact this
/-- A node in its box. -/
def NodeB (w:World) (g:Nat) (k m:Int) (z:Bool) (p:Nat→Bool) (A:Option Addr) (n c:Nat):Prop:=Blk w g 28 (nodeC k m z p A n c)
theorem NodeB.new (w:World) (k m:Int) (z:Bool) (p:Nat→Bool) (A:Option Addr) (n c:Nat):NodeB (w.alloc (.cells #[.int .i64 k,.int .i64 m,.bool z,.int .u64 (wd p 0:Nat),.int .u64 (wd p 1:Nat),.int .u64 (wd p 2:Nat),.int .u64 (wd p 3:Nat),.slice A n c] 28)) w.heap.size k m z p A n c:=
 Blk.newA rfl _ (nodeC k m z p A n c)
theorem NodeB.keep {w w':World} {g:Nat} {k m:Int} {z:Bool} {p:Nat→Bool} {A:Option Addr} {n c:Nat} (h:NodeB w g k m z p A n c) (hx:Ext w w'):NodeB w' g k m z p A n c:=Blk.keep h hx
theorem NodeB.chg {w w':World} {g:Nat} {k m:Int} {z:Bool} {p:Nat→Bool} {A:Option Addr} {n c:Nat} {X:List Nat} (h:NodeB w g k m z p A n c) (hx:Chg X w w') (hg:g ∉ X):NodeB w' g k m z p A n c:=Blk.chg h hx hg
theorem NodeB.cells {w:World} {g:Nat} {k m:Int} {z:Bool} {p:Nat→Bool} {A:Option Addr} {n c:Nat} (h:NodeB w g k m z p A n c) :
  w.cell? ⟨g,0,none⟩=some (.int .i64 k)∧w.cell? ⟨g,1,none⟩=some (.int .i64 m)∧w.cell? ⟨g,2,none⟩=some (.bool z)∧w.cell? ⟨g,3,none⟩=some (.int .u64 (wd p 0:Nat))∧w.cell? ⟨g,4,none⟩=some (.int .u64 (wd p 1:Nat)) ∧
   w.cell? ⟨g,5,none⟩=some (.int .u64 (wd p 2:Nat))∧w.cell? ⟨g,6,none⟩=some (.int .u64 (wd p 3:Nat))∧w.cell? ⟨g,7,none⟩=some (.slice A n c):=
 ⟨Blk.cell h 0,Blk.cell h 1,Blk.cell h 2,Blk.cell h 3,Blk.cell h 4,Blk.cell h 5,Blk.cell h 6,Blk.cell h 7⟩
theorem NodeB.lt {w:World} {g:Nat} {k m:Int} {z:Bool} {p:Nat→Bool} {A:Option Addr} {n c:Nat} (h:NodeB w g k m z p A n c):g<w.heap.size:=Blk.lt h
set_option maxHeartbeats 1000000 in
set_option maxRecDepth 20000 in
theorem rxKids (k m:Int) (z:Bool) (p:Nat→Bool) (A:Option Addr) (n c:Nat) (w:World) :
  Calls Tryd.prog 40 #[.agg (nodeC k m z p A n c).toArray] w fun e w'=>e=.returned (.bool (kidsOk k n))∧Ext w w':=by
 unfold nodeC
 by_cases k1:k=1
 ·subst k1
  go_enter Tryd.func40,Tryd.ntmps40
  go_wp2
  go_ret
  exact ⟨by rw [show kidsOk 1 n=decide (n=0) from rfl,show decide (n=0)=((n:Int) == 0) by rw [Bool.eq_iff_iff,decide_eq_true_eq,beq_iff_eq];omega];rfl,Ext.new1 _ _⟩
 have d1:(k == 1)=false:=by simp [k1]
 by_cases k2:k=2
 ·subst k2
  go_enter Tryd.func40,Tryd.ntmps40
  go_wp2
  go_ret
  exact ⟨by rw [show kidsOk 2 n=decide (n=0) from rfl,show decide (n=0)=((n:Int) == 0) by rw [Bool.eq_iff_iff,decide_eq_true_eq,beq_iff_eq];omega];rfl,Ext.new1 _ _⟩
 have d2:(k == 2)=false:=by simp [k2]
 by_cases k3:k=3
 ·subst k3
  go_enter Tryd.func40,Tryd.ntmps40
  go_wp2
  go_ret
  exact ⟨by rw [show kidsOk 3 n=decide (2≤n) from rfl,show decide (2≤n)=decide ((2:Int)≤(n:Int)) by rw [decide_eq_decide];omega];rfl,Ext.new1 _ _⟩
 have d3:(k == 3)=false:=by simp [k3]
 by_cases k4:k=4
 ·subst k4
  go_enter Tryd.func40,Tryd.ntmps40
  go_wp2
  go_ret
  exact ⟨by rw [show kidsOk 4 n=decide (2≤n) from rfl,show decide (2≤n)=decide ((2:Int)≤(n:Int)) by rw [decide_eq_decide];omega];rfl,Ext.new1 _ _⟩
 have d4:(k == 4)=false:=by simp [k4]
 by_cases k5:k=5
 ·subst k5
  go_enter Tryd.func40,Tryd.ntmps40
  go_wp2
  go_ret
  exact ⟨by rw [show kidsOk 5 n=decide (n=1) from rfl,show decide (n=1)=((n:Int) == 1) by rw [Bool.eq_iff_iff,decide_eq_true_eq,beq_iff_eq];omega];rfl,Ext.new1 _ _⟩
 have d5:(k == 5)=false:=by simp [k5]
 by_cases k6:k=6
 ·subst k6
  go_enter Tryd.func40,Tryd.ntmps40
  go_wp2
  go_ret
  exact ⟨by rw [show kidsOk 6 n=decide (n=1) from rfl,show decide (n=1)=((n:Int) == 1) by rw [Bool.eq_iff_iff,decide_eq_true_eq,beq_iff_eq];omega];rfl,Ext.new1 _ _⟩
 have d6:(k == 6)=false:=by simp [k6]
 by_cases k7:k=7
 ·subst k7
  go_enter Tryd.func40,Tryd.ntmps40
  go_wp2
  go_ret
  exact ⟨by rw [show kidsOk 7 n=decide (n=1) from rfl,show decide (n=1)=((n:Int) == 1) by rw [Bool.eq_iff_iff,decide_eq_true_eq,beq_iff_eq];omega];rfl,Ext.new1 _ _⟩
 have d7:(k == 7)=false:=by simp [k7]
 by_cases k8:k=8
 ·subst k8
  go_enter Tryd.func40,Tryd.ntmps40
  go_wp2
  go_ret
  exact ⟨by rw [show kidsOk 8 n=decide (n=1) from rfl,show decide (n=1)=((n:Int) == 1) by rw [Bool.eq_iff_iff,decide_eq_true_eq,beq_iff_eq];omega];rfl,Ext.new1 _ _⟩
 have d8:(k == 8)=false:=by simp [k8]
 have hno:kidsOk k n=false:=by unfold kidsOk;simp [k1,k2,k3,k4,k5,k6,k7,k8]
 have HN:=Lib.hid hno
 clear hno k1 k2 k3 k4 k5 k6 k7 k8
 go_enter Tryd.func40,Tryd.ntmps40
 go_wp2
 go_ret
 exact ⟨by rw [HN.out];rfl,Ext.new1 _ _⟩
set_option maxHeartbeats 1000000 in
theorem rxRepeats (k:Int) (w:World):Calls Tryd.prog 49 #[.int .i64 k] w fun e w'=>e=.returned (.bool (decide (k=5∨k=6∨k=7)))∧Ext w w':=by
 by_cases k5:k=5
 ·subst k5
  go_enter Tryd.func49,Tryd.ntmps49
  go_wp2
  go_ret
  exact ⟨rfl,Ext.refl _⟩
 have d5:(k == 5)=false:=by simp [k5]
 by_cases k6:k=6
 ·subst k6
  go_enter Tryd.func49,Tryd.ntmps49
  go_wp2
  go_ret
  exact ⟨rfl,Ext.refl _⟩
 have d6:(k == 6)=false:=by simp [k6]
 by_cases k7:k=7
 ·subst k7
  go_enter Tryd.func49,Tryd.ntmps49
  go_wp2
  go_ret
  exact ⟨rfl,Ext.refl _⟩
 have d7:(k == 7)=false:=by simp [k7]
 have hno:decide (k=5∨k=6∨k=7)=false:=by simp [k5,k6,k7]
 rw [hno]
 clear hno k5 k6 k7
 go_enter Tryd.func49,Tryd.ntmps49
 go_wp2
 go_ret
 exact ⟨rfl,Ext.refl _⟩
theorem rxRepeatsS (k:Int) (b:Bool) (h:decide (k=5∨k=6∨k=7)=b) (w:World):Calls Tryd.prog 49 #[.int .i64 k] w fun e w'=>e=.returned (.bool b)∧Ext w w':=by
 subst h
 exact rxRepeats k w
set_option maxHeartbeats 2000000 in
set_option maxRecDepth 20000 in
theorem rxBare (k m:Int) (z:Bool) (p:Nat→Bool) (A:Option Addr) (n c:Nat) (w:World) :
  Calls Tryd.prog 41 #[.agg (nodeC k m z p A n c).toArray] w fun e w'=>e=.returned (.bool (bareB k m z p))∧Ext w w':=by
 have hq:=eq_none p
 unfold nodeC
 by_cases k8:k=8
 ·subst k8
  cases z
  ·skip
   have hv:bareB 8 m false p=noneB p:=by unfold bareB;simp []
   have HV:=Lib.hid hv
   clear hv
   go_enter Tryd.func41,Tryd.ntmps41
   go_wp2_with (go_at_call 49;refine (rxRepeatsS 8 false (by decide) _).mono ?_;rintro e w1 ⟨rfl,hx1⟩;obtain ⟨q0,q1,q2,q3,q4,q5,q6,q7⟩:=(NodeB.keep (NodeB.new w _ _ _ _ _ _ _) hx1).cells)
   go_ret
   exact ⟨by rw [HV.out];rfl,Ext.trans (Ext.new1 _ _) hx1⟩
  ·skip
   have hv:bareB 8 m true p=false:=by unfold bareB;simp []
   have HV:=Lib.hid hv
   clear hv
   go_enter Tryd.func41,Tryd.ntmps41
   go_wp2_with (go_at_call 49;refine (rxRepeatsS 8 false (by decide) _).mono ?_;rintro e w1 ⟨rfl,hx1⟩;obtain ⟨q0,q1,q2,q3,q4,q5,q6,q7⟩:=(NodeB.keep (NodeB.new w _ _ _ _ _ _ _) hx1).cells)
   go_ret
   exact ⟨by rw [HV.out];rfl,Ext.trans (Ext.new1 _ _) hx1⟩
 have d8:(k == 8)=false:=by simp [k8]
 by_cases k5:k=5
 ·subst k5
  by_cases m0:m=0
  ·have mb:(m == 0)=true:=by simp [m0]
   have hv:bareB 5 m z p=noneB p:=by unfold bareB;simp [m0]
   have HV:=Lib.hid hv
   clear hv
   go_enter Tryd.func41,Tryd.ntmps41
   go_wp2_with (go_at_call 49;refine (rxRepeatsS 5 true (by decide) _).mono ?_;rintro e w1 ⟨rfl,hx1⟩;obtain ⟨q0,q1,q2,q3,q4,q5,q6,q7⟩:=(NodeB.keep (NodeB.new w _ _ _ _ _ _ _) hx1).cells)
   go_ret
   exact ⟨by rw [HV.out];rfl,Ext.trans (Ext.new1 _ _) hx1⟩
  ·have mb:(m == 0)=false:=by simp [m0]
   have hv:bareB 5 m z p=false:=by unfold bareB;simp [m0]
   have HV:=Lib.hid hv
   clear hv
   go_enter Tryd.func41,Tryd.ntmps41
   go_wp2
   go_ret
   exact ⟨by rw [HV.out];rfl,Ext.new1 _ _⟩
 have d5:(k == 5)=false:=by simp [k5]
 by_cases k6:k=6
 ·subst k6
  by_cases m0:m=0
  ·have mb:(m == 0)=true:=by simp [m0]
   have hv:bareB 6 m z p=noneB p:=by unfold bareB;simp [m0]
   have HV:=Lib.hid hv
   clear hv
   go_enter Tryd.func41,Tryd.ntmps41
   go_wp2_with (go_at_call 49;refine (rxRepeatsS 6 true (by decide) _).mono ?_;rintro e w1 ⟨rfl,hx1⟩;obtain ⟨q0,q1,q2,q3,q4,q5,q6,q7⟩:=(NodeB.keep (NodeB.new w _ _ _ _ _ _ _) hx1).cells)
   go_ret
   exact ⟨by rw [HV.out];rfl,Ext.trans (Ext.new1 _ _) hx1⟩
  ·have mb:(m == 0)=false:=by simp [m0]
   have hv:bareB 6 m z p=false:=by unfold bareB;simp [m0]
   have HV:=Lib.hid hv
   clear hv
   go_enter Tryd.func41,Tryd.ntmps41
   go_wp2
   go_ret
   exact ⟨by rw [HV.out];rfl,Ext.new1 _ _⟩
 have d6:(k == 6)=false:=by simp [k6]
 by_cases k7:k=7
 ·subst k7
  by_cases m0:m=0
  ·have mb:(m == 0)=true:=by simp [m0]
   have hv:bareB 7 m z p=noneB p:=by unfold bareB;simp [m0]
   have HV:=Lib.hid hv
   clear hv
   go_enter Tryd.func41,Tryd.ntmps41
   go_wp2_with (go_at_call 49;refine (rxRepeatsS 7 true (by decide) _).mono ?_;rintro e w1 ⟨rfl,hx1⟩;obtain ⟨q0,q1,q2,q3,q4,q5,q6,q7⟩:=(NodeB.keep (NodeB.new w _ _ _ _ _ _ _) hx1).cells)
   go_ret
   exact ⟨by rw [HV.out];rfl,Ext.trans (Ext.new1 _ _) hx1⟩
  ·have mb:(m == 0)=false:=by simp [m0]
   have hv:bareB 7 m z p=false:=by unfold bareB;simp [m0]
   have HV:=Lib.hid hv
   clear hv
   go_enter Tryd.func41,Tryd.ntmps41
   go_wp2
   go_ret
   exact ⟨by rw [HV.out];rfl,Ext.new1 _ _⟩
 have d7:(k == 7)=false:=by simp [k7]
 by_cases k2:k=2
 ·subst k2
  by_cases m0:m=0
  ·have mb:(m == 0)=true:=by simp [m0]
   cases z
   ·skip
    have hv:bareB 2 m false p=true:=by unfold bareB;simp [m0]
    have HV:=Lib.hid hv
    clear hv
    go_enter Tryd.func41,Tryd.ntmps41
    go_wp2_with (go_at_call 49;refine (rxRepeatsS 2 false (by decide) _).mono ?_;rintro e w1 ⟨rfl,hx1⟩;obtain ⟨q0,q1,q2,q3,q4,q5,q6,q7⟩:=(NodeB.keep (NodeB.new w _ _ _ _ _ _ _) hx1).cells)
    go_ret
    exact ⟨by rw [HV.out];rfl,Ext.trans (Ext.new1 _ _) hx1⟩
   ·skip
    have hv:bareB 2 m true p=false:=by unfold bareB;simp [m0]
    have HV:=Lib.hid hv
    clear hv
    go_enter Tryd.func41,Tryd.ntmps41
    go_wp2_with (go_at_call 49;refine (rxRepeatsS 2 false (by decide) _).mono ?_;rintro e w1 ⟨rfl,hx1⟩;obtain ⟨q0,q1,q2,q3,q4,q5,q6,q7⟩:=(NodeB.keep (NodeB.new w _ _ _ _ _ _ _) hx1).cells)
    go_ret
    exact ⟨by rw [HV.out];rfl,Ext.trans (Ext.new1 _ _) hx1⟩
  ·have mb:(m == 0)=false:=by simp [m0]
   have hv:bareB 2 m z p=false:=by unfold bareB;simp [m0]
   have HV:=Lib.hid hv
   clear hv
   go_enter Tryd.func41,Tryd.ntmps41
   go_wp2
   go_ret
   exact ⟨by rw [HV.out];rfl,Ext.new1 _ _⟩
 have d2:(k == 2)=false:=by simp [k2]
 have HR:=Lib.hid (show decide (k=5∨k=6∨k=7)=false by simp [k5,k6,k7])
 have H8:=Lib.hid (show decide (k=8)=false by simp [k8])
 have H2:=Lib.hid (show decide (k=2)=false by simp [k2])
 clear k8 k5 k6 k7 k2
 by_cases m0:m=0
 ·have mb:(m == 0)=true:=by simp [m0]
  cases z
  ·skip
   have hv:bareB k m false p=noneB p:=by unfold bareB;rw [HR.out,H8.out,H2.out];simp [m0]
   have HV:=Lib.hid hv
   clear hv m0
   go_enter Tryd.func41,Tryd.ntmps41
   go_wp2_with (go_at_call 49;refine (rxRepeatsS k false HR.out _).mono ?_;rintro e w1 ⟨rfl,hx1⟩;obtain ⟨q0,q1,q2,q3,q4,q5,q6,q7⟩:=(NodeB.keep (NodeB.new w _ _ _ _ _ _ _) hx1).cells)
   go_ret
   exact ⟨by rw [HV.out];rfl,Ext.trans (Ext.new1 _ _) hx1⟩
  ·skip
   have hv:bareB k m true p=false:=by unfold bareB;rw [HR.out,H8.out,H2.out];simp [m0]
   have HV:=Lib.hid hv
   clear hv m0
   go_enter Tryd.func41,Tryd.ntmps41
   go_wp2_with (go_at_call 49;refine (rxRepeatsS k false HR.out _).mono ?_;rintro e w1 ⟨rfl,hx1⟩;obtain ⟨q0,q1,q2,q3,q4,q5,q6,q7⟩:=(NodeB.keep (NodeB.new w _ _ _ _ _ _ _) hx1).cells)
   go_ret
   exact ⟨by rw [HV.out];rfl,Ext.trans (Ext.new1 _ _) hx1⟩
 ·have mb:(m == 0)=false:=by simp [m0]
  have hv:bareB k m z p=false:=by unfold bareB;rw [HR.out,H8.out,H2.out];simp [m0]
  have HV:=Lib.hid hv
  clear hv m0
  go_enter Tryd.func41,Tryd.ntmps41
  go_wp2
  go_ret
  exact ⟨by rw [HV.out];rfl,Ext.new1 _ _⟩
end Go.Proofs.YtigmdlchbjanoaaDoor
namespace Go.Proofs.YtigmdlchbjanoaaDoor
open Go Go.RowKit
attribute [local irreducible] wd
/-- A kid: its cells, in all worlds in which its block stands as it did. -/
theorem kid_at2 {S:Nat→Prop} {w:World} {A:Option Addr} {ks:List T} {cs:List Value} (hR:Rd w 8 A ks.length cs) (hS:∀ b o x,A=some ⟨b,o,x⟩→0<ks.length→S b) (hK:KidsV S w ks cs) {i:Nat} (hi:i<ks.length) :
  ∃ b o k m z p B n c,A=some ⟨b,o,none⟩∧S b∧b<w.heap.size∧NodeV S w (ks[i]'hi) (nodeC k m z p B n c) ∧
   Hid (∀ w':World,w'.heap[b]?=w.heap[b]? → w'.cell? ⟨b,o+i*8,none⟩=some (.int .i64 k)∧w'.cell? ⟨b,o+i*8+1,none⟩=some (.int .i64 m)∧w'.cell? ⟨b,o+i*8+2,none⟩=some (.bool z) ∧
    w'.cell? ⟨b,o+i*8+3,none⟩=some (.int .u64 (wd p 0:Nat))∧w'.cell? ⟨b,o+i*8+4,none⟩=some (.int .u64 (wd p 1:Nat))∧w'.cell? ⟨b,o+i*8+5,none⟩=some (.int .u64 (wd p 2:Nat)) ∧
    w'.cell? ⟨b,o+i*8+6,none⟩=some (.int .u64 (wd p 3:Nat))∧w'.cell? ⟨b,o+i*8+7,none⟩=some (.slice B n c)):=by
 obtain ⟨b,o,k,m,z,p,B,n,c,hA,hv,hc⟩:=kid_at hR hK hi
 have hl:=kidsV_len hK
 obtain ⟨b',o',e',hb,_⟩:=hR.2 (by omega)
 rw [hA] at e'
 cases e'
 refine ⟨b,o,k,m,z,p,B,n,c,hA,hS b o none hA (by omega),hb,hv,Lib.hid fun w' hw=>?_⟩
 have h0:=hc.out w (Ext.refl _)
 have e:∀ j,w'.cell? ⟨b,j,none⟩=w.cell? ⟨b,j,none⟩:=fun j=>World.cell?_of_block hw
 simp only [e]
 exact h0
mutual
theorem right_le:∀ (t:T) (d g:Nat),g≤(t.right d g).2∧(t.right d g).2≤g+t.size
 | .node k m z p ks,d,g=>by
  have h0:=rightL_le ks (d+1) (if k=8 then g+1 else g)
  unfold T.right
  rw [size_node]
  split
  ·exact ⟨Nat.le_refl _,by show g≤_;omega⟩
  ·split
   ·exact ⟨by show g≤g+1;omega,by show g+1≤_;omega⟩
   ·dsimp only
    obtain ⟨g1,hg1,h1,h2⟩:∃ g1,(if k=8 then g+1 else g)=g1∧g≤g1∧g1≤g+1:=⟨_,rfl,by split <;> omega,by split <;> omega⟩
    rw [hg1] at h0 ⊢
    omega
theorem rightL_le:∀ (ks:List T) (d g:Nat),g≤(rightL ks d g).2∧(rightL ks d g).2≤g+sizeL ks
 | [],d,g=>by simp [rightL,sizeL]
 | t :: ts,d,g=>by
  have h1:=right_le t d g
  have h2:=rightL_le ts d (t.right d g).2
  unfold rightL sizeL
  split
  ·omega
  ·dsimp only;omega
end
theorem rightL_drop {ks:List T} {i:Nat} (hi:i<ks.length) (d g:Nat):rightL (ks.drop i) d g=if ((ks[i]'hi).right d g).1 then rightL (ks.drop (i+1)) d ((ks[i]'hi).right d g).2 else (false,((ks[i]'hi).right d g).2):=by
 rw [List.drop_eq_getElem_cons hi,rightL]
/-- The walker's block. -/
def WK (w:World) (q:Nat) (g:Nat):Prop:=Blk w q 79 [.int .i64 (g:Nat)]
theorem WK.chg {w w':World} {q g:Nat} {X:List Nat} (h:WK w q g) (hx:Chg X w w') (hq:q ∉ X):WK w' q g:=Blk.chg h hx hq
theorem WK.keep {w w':World} {q g:Nat} (h:WK w q g) (hx:Ext w w'):WK w' q g:=Blk.keep h hx
theorem WK.set_ {w:World} {q g:Nat} (h:WK w q g) (g':Nat):WK (w.setCell ⟨q,0,none⟩ (.int .i64 (g':Nat))) q g':=Blk.set_ h 0 _
set_option maxHeartbeats 8000000 in
set_option maxRecDepth 20000 in
theorem rxRightW:∀ n,∀ t:T,t.size≤n→t.size≤1000000→∀ S w v q d g,NodeV S w t v→¬ S q→WK w q g→d≤41→g≤1000000000 →
  g+t.size≤1000000000→Calls Tryd.prog 34 #[.pointer (some ⟨q,0,none⟩),.agg v.toArray,.int .i64 (d:Nat)] w fun e w'=>e=.returned (.bool (t.right d g).1)∧WK w' q (t.right d g).2∧Chg [q] w w':=by
 intro n
 induction n with
 | zero=>intro t ht;have:=size_pos t;omega
 | succ n ih =>
  intro t ht hsz S w v q d g h hSq hW hd hg hgs
  cases t with
  | node k m z p ks =>
   unfold NodeV at h
   obtain ⟨A,c,cs,rfl,h1,h2,h3,h4,h5⟩:=h
   rw [size_node] at ht hsz hgs
   have hlk:=sizeL_len ks
   have hql:=Blk.lt hW
   have HR:=Lib.hid h3
   have HSb:=Lib.hid h4
   have HK:=Lib.hid h5
   have HW:=Lib.hid hW
   have HQ:=Lib.hid hSq
   have HB0:=Lib.hid (NodeB.new w k m z p A ks.length c)
   have hx0:=Lib.hid (Ext.new1 w (.cells (nodeC k m z p A ks.length c).toArray 28))
   clear h3 h4 h5 hW hSq
   unfold nodeC at hx0 ⊢
   by_cases hd40:40<d
   ·have hv:T.right (.node k m z p ks) d g=(false,g):=by unfold T.right;rw [if_pos (.inl hd40)]
    rw [hv]
    have hd':(40:Int)<(d:Int):=by omega
    go_enter Tryd.func34,Tryd.ntmps34
    go_wp2
    go_ret
    exact ⟨by simp,HW.out.keep hx0.out,.of_ext hx0.out⟩
   have hd':¬ (40:Int)<(d:Int):=by omega
   cases hko:kidsOk k ks.length
   ·have hv:T.right (.node k m z p ks) d g=(false,g):=by unfold T.right;rw [if_pos (.inr (.inl hko))]
    rw [hv]
    have HKO:=Lib.hid hko
    clear hko hv
    go_enter Tryd.func34,Tryd.ntmps34
    go_wp2_with (go_at_call 40;refine (rxKids k m z p A ks.length c _).mono ?_;rintro e w1 ⟨rfl,hx1⟩;rw [HKO.out])
    go_ret
    exact ⟨by simp,HW.out.keep (Ext.trans hx0.out hx1),.of_ext (Ext.trans hx0.out hx1)⟩
   cases hbo:bareB k m z p
   ·have hv:T.right (.node k m z p ks) d g=(false,g):=by unfold T.right;rw [if_pos (.inr (.inr hbo))]
    rw [hv]
    have HKO:=Lib.hid hko
    have HBO:=Lib.hid hbo
    clear hko hbo hv
    go_enter Tryd.func34,Tryd.ntmps34
    go_wp2_with (first
     | (have:=hx1;go_at_call 41;refine (rxBare k m z p A ks.length c _).mono ?_;rintro e w2 ⟨rfl,hx2⟩;rw [HBO.out])
     | (go_at_call 40;refine (rxKids k m z p A ks.length c _).mono ?_;rintro e w1 ⟨rfl,hx1⟩;rw [HKO.out];obtain ⟨q0,q1,q2,q3,q4,q5,q6,q7⟩:=NodeB.cells (NodeB.keep HB0.out hx1)))
    go_ret
    exact ⟨by simp,HW.out.keep (Ext.trans hx0.out (Ext.trans hx1 hx2)),.of_ext (Ext.trans hx0.out (Ext.trans hx1 hx2))⟩
   have hfirst:¬ (40<d∨kidsOk k ks.length=false∨bareB k m z p=false):=by rw [hko,hbo];simp;omega
   have HKO:=Lib.hid hko
   have HBO:=Lib.hid hbo
   have HF:=Lib.hid hfirst
   clear hko hbo hfirst
   go_enter Tryd.func34,Tryd.ntmps34
   go_upto_if 23 with (first
     | (have:=hx1;go_at_call 41;refine (rxBare k m z p A ks.length c _).mono ?_;rintro e w2 ⟨rfl,hx2⟩;rw [HBO.out];obtain ⟨q0,q1,q2,q3,q4,q5,q6,q7⟩:=NodeB.cells (NodeB.keep HB0.out (Ext.trans hx1 hx2)))
     | (go_at_call 40;refine (rxKids k m z p A ks.length c _).mono ?_;rintro e w1 ⟨rfl,hx1⟩;rw [HKO.out];obtain ⟨q0,q1,q2,q3,q4,q5,q6,q7⟩:=NodeB.cells (NodeB.keep HB0.out hx1)))
   have hx2':=Lib.hid (Ext.trans hx0.out (Ext.trans hx1 hx2))
   have HB2:=Lib.hid (NodeB.keep HB0.out (Ext.trans hx1 hx2))
   have HW2:=Lib.hid (HW.out.keep hx2'.out)
   clear hx0 HB0 hx1 hx2 HW q0 q1 q2 q3 q4 q5 q6 q7
   generalize hgb:w.heap.size=gb at *
   have hne:¬ q=gb:=by omega
   have hne':¬ gb=q:=by omega
   have HGB:=Lib.hid hgb
   generalize w2=wa at *
   have hw1:IntKind.i64.wrap ((g:Int)+1)=(g:Int)+1:=wrap_id (by omega) (by omega)
   have HWS:=Lib.hid (show WK (wa.setCell ⟨q,0,none⟩ (.int .i64 ((g:Int)+1))) q (g+1) from by have:=HW2.out.set_ (g+1);rwa [show ((g+1:Nat):Int)=(g:Int)+1 by omega] at this)
   have HBS:=Lib.hid (show NodeB (wa.setCell ⟨q,0,none⟩ (.int .i64 ((g:Int)+1))) gb k m z p A ks.length c from Blk.far HB2.out hne' _)
   have HCS:=Lib.hid (show Chg [q] wa (wa.setCell ⟨q,0,none⟩ (.int .i64 ((g:Int)+1))) from (Chg.refl _ _).setCell (by simp) _)
   by_cases hmis:k=8∧m ≠ (g:Int)+1
   ·obtain ⟨rfl,hmm⟩:=hmis
    have hv:T.right (.node 8 m z p ks) d g=(false,g+1):=by unfold T.right;rw [if_neg HF.out,if_pos ⟨rfl,hmm⟩]
    have HV:=Lib.hid hv
    have hmb:(m == (g:Int)+1)=false:=by simp [hmm]
    obtain ⟨q0,q1,q2,q3,q4,q5,q6,q7⟩:=NodeB.cells HB2.out
    have z0:wa.cell? ⟨q,0,none⟩=some (.int .i64 (g:Nat)):=Blk.cell HW2.out 0
    have z1:=Blk.frozen HW2.out 0
    clear hv hmm
    go_upto_region 5 with fail
    have HC:=Lib.hid (Chg.trans (.of_ext hx2'.out) HCS.out)
    obtain ⟨q0,q1,q2,q3,q4,q5,q6,q7⟩:=NodeB.cells HBS.out
    have z0:(wa.setCell ⟨q,0,none⟩ (.int .i64 ((g:Int)+1))).cell? ⟨q,0,none⟩=some (.int .i64 ((g:Int)+1)):=by have:=Blk.cell HWS.out 0;simpa using this
    generalize wa.setCell ⟨q,0,none⟩ (.int .i64 ((g:Int)+1))=wb at *
    go_quiet (fail)
    go_wp2
    go_ret
    exact ⟨by rw [HV.out];rfl,by rw [HV.out];exact HWS.out,by exact HC.out.trans ⟨rfl,rfl,rfl,Nat.le_refl _,fun _ _ _=>rfl⟩⟩
   obtain ⟨g1,hg1,hgle1,hgle2⟩:∃ g1,(if k=8 then g+1 else g)=g1∧g≤g1∧g1≤g+1:=⟨_,rfl,by split <;> omega,by split <;> omega⟩
   have hv:T.right (.node k m z p ks) d g=((rightL ks (d+1) g1).1 && (!(decide (k=5∨k=6)) || !headN ks),(rightL ks (d+1) g1).2):=by
    unfold T.right
    rw [if_neg HF.out,if_neg hmis,hg1]
   have HV:=Lib.hid hv
   have HMIS:=Lib.hid hmis
   have HG1:=Lib.hid hg1
   clear hv hmis hg1
   go_cut [6] (fun v wx=>v=.bool false∧WK wx q g1∧NodeB wx gb k m z p A ks.length c∧Chg [q] wa wx)
   case first =>
    by_cases k8:k=8
    ·subst k8
     have hm:m=(g:Int)+1:=by
      have:=HMIS.out
      by_cases e:m=(g:Int)+1
      ·exact e
      ·exact absurd ⟨rfl,e⟩ this
     have hmb:(m == (g:Int)+1)=true:=by simp [hm]
     have hge:g1=g+1:=by have:=HG1.out;simp at this;omega
     obtain ⟨q0,q1,q2,q3,q4,q5,q6,q7⟩:=NodeB.cells HB2.out
     have z0:wa.cell? ⟨q,0,none⟩=some (.int .i64 (g:Nat)):=Blk.cell HW2.out 0
     have z1:=Blk.frozen HW2.out 0
     have HM:=Lib.hid hm
     have HGE:=Lib.hid hge
     clear hm hge
     go_upto_region 5 with fail
     obtain ⟨q0,q1,q2,q3,q4,q5,q6,q7⟩:=NodeB.cells HBS.out
     have z0:(wa.setCell ⟨q,0,none⟩ (.int .i64 ((g:Int)+1))).cell? ⟨q,0,none⟩=some (.int .i64 ((g:Int)+1)):=by have:=Blk.cell HWS.out 0;simpa using this
     generalize wa.setCell ⟨q,0,none⟩ (.int .i64 ((g:Int)+1))=wb at *
     go_quiet (fail)
     go_wp2
     go_meet
     exact ⟨rfl,by rw [HGE.out];exact HWS.out,HBS.out,HCS.out.trans ⟨rfl,rfl,rfl,Nat.le_refl _,fun _ _ _=>rfl⟩⟩
    ·have k8b:(k == 8)=false:=by simp [k8]
     have hge:g1=g:=by have:=HG1.out;simp [k8] at this;omega
     have HGE:=Lib.hid hge
     clear k8 hge
     go_wp2
     go_meet
     exact ⟨rfl,by rw [HGE.out];exact HW2.out,HB2.out,Chg.refl _ _⟩
   case rest =>
    obtain ⟨rfl,hWc,hBc,hCc⟩:=hcut
    have HCw:=Lib.hid (Chg.trans (.of_ext hx2'.out) hCc)
    have HWc:=Lib.hid hWc
    have HBc:=Lib.hid hBc
    obtain ⟨R,hR⟩:∃ R,rightL ks (d+1) g1=R:=⟨_,rfl⟩
    have HRR:=Lib.hid hR
    have hgb2:=hgb
    clear hx2' HW2 HB2 HWS HBS HCS HMIS HG1 q0 q1 q2 q3 q4 q5 q6 q7 hWc hCc hR hgb
    obtain ⟨q0,q1,q2,q3,q4,q5,q6,q7⟩:=NodeB.cells HBc.out
    go_wp2_with fail
    clear q0 q1 q2 q3 q4 q5 q6 q7 hBc
    go_loopg [41] (ks.length) (fun gg iv wr=>∃ i gi:Nat,i≤ks.length∧gg=ks.length-i∧iv=.int .i64 (i:Nat)∧rightL (ks.drop i) (d+1) gi=R∧gi+sizeL (ks.drop i)≤1000000000∧WK wr q gi∧NodeB wr gb k m z p A ks.length c∧Chg [q] w wr)
    case atStart=>exact ⟨0,g1,by omega,rfl,rfl,HRR.out,by rw [List.drop_zero];omega,HWc.out,HBc.out,HCw.out⟩
    case round =>
     obtain ⟨i,gi,hi,rfl,rfl,hRi,hgi,hWr,hBr,hCr⟩:=hrel
     have HWr:=Lib.hid hWr
     have HBr:=Lib.hid hBr
     have HCr:=Lib.hid hCr
     have HRi:=Lib.hid hRi
     clear hWr hBr hCr hRi
     by_cases hlt:i<ks.length
     ·obtain ⟨b,o,k',m',z',p',B,n',c',rfl,hSb,hb,hv,hk⟩:=kid_at2 HR.out HSb.out HK.out hlt
      obtain ⟨c0,c1,c2,c3,c4,c5,c6,c7⟩:=hk.out wr (HCr.out.block b hb (by simp;exact fun e=>HQ.out (e ▸ hSb)))
      have hmem:=sizeL_mem (List.getElem_mem hlt)
      have hdrop:sizeL (ks.drop i)=(ks[i]'hlt).size+sizeL (ks.drop (i+1)):=by rw [List.drop_eq_getElem_cons hlt,sizeL]
      have hlt':(i:Int)<(ks.length:Int):=by omega
      have hw2:IntKind.i64.wrap ((i:Int)+1)=(i:Int)+1:=wrap_id (by omega) (by omega)
      have hw3:IntKind.i64.wrap ((d:Int)+1)=(d:Int)+1:=wrap_id (by omega) (by omega)
      have HD1:=Lib.hid (show (d:Int)+1=((d+1:Nat):Int) by omega)
      have hvx:NodeV S wr (ks[i]'hlt) (nodeC k' m' z' p' B n' c'):=NodeV.chg hv HCr.out (by intro y hy;simp at hy;subst hy;exact HQ.out)
      have hstep:=rightL_drop hlt (d+1) gi
      rw [HRi.out] at hstep
      obtain ⟨x,hxe⟩:∃ x,ks[i]'hlt=x:=⟨_,rfl⟩
      rw [hxe] at hmem hdrop hvx hstep
      have hrl:=right_le x (d+1) gi
      have HVX:=Lib.hid hvx
      have HSZ:=Lib.hid (show x.size≤n∧x.size≤1000000∧d+1≤41∧gi≤1000000000∧gi+x.size≤1000000000 by omega)
      have HG2:=Lib.hid (show (x.right (d+1) gi).2+sizeL (ks.drop (i+1))≤1000000000 by omega)
      clear hv hk hvx hxe hmem hdrop hrl hSb
      cases hx1:(x.right (d+1) gi).1
      ·rw [hx1] at hstep
       have HX1:=Lib.hid hx1
       have HFV:=Lib.hid (show T.right (.node k m z p ks) d g=(false,(x.right (d+1) gi).2) by rw [HV.out,HRR.out,hstep];simp)
       clear hx1 hstep
       go_wp2_with (go_at_call 34;rw [HD1.out];refine (ih x HSZ.out.1 HSZ.out.2.1 S _ (nodeC k' m' z' p' B n' c') q (d+1) gi (HVX.out.keep (Ext.new1 _ _)) HQ.out (HWr.out.keep (Ext.new1 _ _)) HSZ.out.2.2.1 HSZ.out.2.2.2.1 HSZ.out.2.2.2.2).mono ?_;rintro e w5 ⟨rfl,hW5,hC5⟩;rw [HX1.out])
       go_ret
       exact ⟨by rw [HFV.out];rfl,by rw [HFV.out];exact hW5,(HCr.out.trans (.of_ext (Ext.new1 _ _))).trans hC5⟩
      ·rw [hx1] at hstep
       have HX1:=Lib.hid hx1
       have HST:=Lib.hid (show rightL (ks.drop (i+1)) (d+1) (x.right (d+1) gi).2=R by rw [hstep];simp)
       clear hx1 hstep
       go_wp2_with (go_at_call 34;rw [HD1.out];refine (ih x HSZ.out.1 HSZ.out.2.1 S _ (nodeC k' m' z' p' B n' c') q (d+1) gi (HVX.out.keep (Ext.new1 _ _)) HQ.out (HWr.out.keep (Ext.new1 _ _)) HSZ.out.2.2.1 HSZ.out.2.2.2.1 HSZ.out.2.2.2.2).mono ?_;rintro e w5 ⟨rfl,hW5,hC5⟩;rw [HX1.out])
       go_roundg (ks.length-(i+1))
       case measure=>omega
       case rel=>exact ⟨i+1,(x.right (d+1) gi).2,by omega,rfl,by go_num,HST.out,HG2.out,hW5,NodeB.chg (NodeB.keep HBr.out (Ext.new1 _ _)) hC5 (by simp;omega),(HCr.out.trans (.of_ext (Ext.new1 _ _))).trans hC5⟩
     obtain rfl:i=ks.length:=by omega
     have hlt':¬ (ks.length:Int)<(ks.length:Int):=by omega
     have hRi2:rightL ks (d+1) g1=(true,gi):=by rw [HRR.out,← HRi.out,List.drop_length,rightL]
     have HRi:=Lib.hid hRi2
     clear hRi2
     obtain ⟨q0,q1,q2,q3,q4,q5,q6,q7⟩:=NodeB.cells HBr.out
     by_cases k5:k=5
     ·subst k5
      have hlen1:ks.length=1:=by
       have:=HKO.out
       unfold kidsOk at this
       simpa using this
      obtain ⟨x,rfl⟩:∃ x,ks=[x]:=by
       match ks,hlen1 with
       | [x],_=>exact ⟨x,rfl⟩
      obtain ⟨b,o,k',m',z',p',B,n',c',rfl,hSb,hb,hv,hk⟩:=kid_at2 HR.out HSb.out HK.out (i:=0) (by simp)
      obtain ⟨c0,c1,c2,c3,c4,c5,c6,c7⟩:=hk.out wr (HCr.out.block b hb (by simp;exact fun e=>HQ.out (e ▸ hSb)))
      simp only [Nat.zero_mul,Nat.add_zero] at c0 c1 c2 c3 c4 c5 c6 c7
      simp only [List.length_cons,List.length_nil,Nat.zero_add] at q7
      have hvx:NodeV S wr x (nodeC k' m' z' p' B n' c'):=NodeV.chg hv HCr.out (by intro y hy;simp at hy;subst hy;exact HQ.out)
      have HVX:=Lib.hid hvx
      have HSZ:=Lib.hid (show x.size≤n∧x.size≤1099511627776 by have e:=sizeL_mem (List.mem_singleton.2 rfl:x ∈ [x]);omega)
      have HFV:=Lib.hid (show T.right (.node 5 m z p [x]) d g=(!x.nullable,gi) by rw [HV.out,HRi.out];simp [headN])
      clear hv hk hvx hSb
      go_wp2_with (go_at_call 42;refine (rxNullable _ x HSZ.out.1 HSZ.out.2 S _ (nodeC k' m' z' p' B n' c') HVX.out).mono ?_;rintro e w5 ⟨rfl,hx5⟩)
      go_ret
      exact ⟨by rw [HFV.out];simp,by rw [HFV.out];exact HWr.out.keep hx5,HCr.out.trans (.of_ext hx5)⟩
     have d5:(k == 5)=false:=by simp [k5]
     have d5':(k != 5)=true:=by simp [k5]
     by_cases k6:k=6
     ·subst k6
      have hlen1:ks.length=1:=by
       have:=HKO.out
       unfold kidsOk at this
       simpa using this
      obtain ⟨x,rfl⟩:∃ x,ks=[x]:=by
       match ks,hlen1 with
       | [x],_=>exact ⟨x,rfl⟩
      obtain ⟨b,o,k',m',z',p',B,n',c',rfl,hSb,hb,hv,hk⟩:=kid_at2 HR.out HSb.out HK.out (i:=0) (by simp)
      obtain ⟨c0,c1,c2,c3,c4,c5,c6,c7⟩:=hk.out wr (HCr.out.block b hb (by simp;exact fun e=>HQ.out (e ▸ hSb)))
      simp only [Nat.zero_mul,Nat.add_zero] at c0 c1 c2 c3 c4 c5 c6 c7
      simp only [List.length_cons,List.length_nil,Nat.zero_add] at q7
      have hvx:NodeV S wr x (nodeC k' m' z' p' B n' c'):=NodeV.chg hv HCr.out (by intro y hy;simp at hy;subst hy;exact HQ.out)
      have HVX:=Lib.hid hvx
      have HSZ:=Lib.hid (show x.size≤n∧x.size≤1099511627776 by have e:=sizeL_mem (List.mem_singleton.2 rfl:x ∈ [x]);omega)
      have HFV:=Lib.hid (show T.right (.node 6 m z p [x]) d g=(!x.nullable,gi) by rw [HV.out,HRi.out];simp [headN])
      clear hv hk hvx hSb
      go_wp2_with (go_at_call 42;refine (rxNullable _ x HSZ.out.1 HSZ.out.2 S _ (nodeC k' m' z' p' B n' c') HVX.out).mono ?_;rintro e w5 ⟨rfl,hx5⟩)
      go_ret
      exact ⟨by rw [HFV.out];simp,by rw [HFV.out];exact HWr.out.keep hx5,HCr.out.trans (.of_ext hx5)⟩
     have d6:(k == 6)=false:=by simp [k6]
     have d6':(k != 6)=true:=by simp [k6]
     have HFV:=Lib.hid (show T.right (.node k m z p ks) d g=(true,gi) by rw [HV.out,HRi.out];simp [k5,k6])
     clear k5 k6
     go_wp2
     go_ret
     exact ⟨by rw [HFV.out];rfl,by rw [HFV.out];exact HWr.out,HCr.out⟩
end Go.Proofs.YtigmdlchbjanoaaDoor
namespace Go.Proofs.YtigmdlchbjanoaaDoor
open Go Go.RowKit
attribute [local irreducible] wd
theorem nodeV_form {S:Nat→Prop} {w:World} {t:T} {v:List Value} (h:NodeV S w t v):∃ k m z p B n c,v=nodeC k m z p B n c:=by
 cases t
 unfold NodeV at h
 obtain ⟨B,c,_,e,_⟩:=h
 exact ⟨_,_,_,_,_,_,_,e⟩
set_option maxHeartbeats 2000000 in
set_option maxRecDepth 20000 in
theorem rxRight (t:T) (hsz:t.size≤1000000) (S:Nat→Prop) (w:World) (v:List Value) (h:NodeV S w t v) :
  Calls Tryd.prog 23 #[.agg v.toArray] w fun e w'=>e=.returned (.bool (t.right 1 0).1)∧Ext w w':=by
 obtain ⟨k,m,z,p,B,n,c,rfl⟩:=nodeV_form h
 have hv:NodeV (fun b=>b<w.heap.size) w t (nodeC k m z p B n c):=h.mono (fun b hb _=>hb)
 have hV2:=Lib.hid ((hv.keep (Ext.new1 w (.cells (nodeC k m z p B n c).toArray 28))).keep (Ext.new1 _ (.cells #[.int .i64 0] 79)))
 have hx2:=Lib.hid (Ext.trans (Ext.new1 w (.cells (nodeC k m z p B n c).toArray 28)) (Ext.new1 _ (.cells #[.int .i64 0] 79)))
 have hW2:=Lib.hid (show WK ((w.alloc (.cells (nodeC k m z p B n c).toArray 28)).alloc (.cells #[.int .i64 0] 79)) (w.heap.size+1) 0 from Blk.newA (by simp) _ [.int .i64 0])
 have HSZ:=Lib.hid hsz
 clear h hv hsz
 unfold nodeC at hV2 hx2 hW2 ⊢
 go_enter Tryd.func23,Tryd.ntmps23
 go_wp2_with (go_at_call 34;refine (rxRightW _ t (Nat.le_refl _) HSZ.out _ _ (nodeC k m z p B n c) (w.heap.size+1) 1 0 hV2.out (by omega) hW2.out (by omega) (by omega) (by have:=HSZ.out;omega)).mono ?_;rintro e w1 ⟨rfl,hW1,hC1⟩)
 go_ret
 exact ⟨by simp,hC1.below hx2.out hx2.out.size (by intro y hy;simp at hy;omega)⟩
end Go.Proofs.YtigmdlchbjanoaaDoor
