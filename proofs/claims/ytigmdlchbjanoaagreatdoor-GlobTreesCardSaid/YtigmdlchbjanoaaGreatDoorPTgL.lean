/- Put together: Rx0, Rx0p, Rx1, Rx2, Rx3, Rx4, Rx4b. -/
import Derived.Test.YtigmdlchbjanoaaGreatDoorPTgD
import Derived.Test.YtigmdlchbjanoaaGreatDoorPTgA
import Derived.Test.YtigmdlchbjanoaaGreatDoorPTgE
import Derived.Deep.DeepCutAuto
import Derived.Deep.LoopGhost
import Derived.Test.YtigmdlchbjanoaaGreatDoorPTgC
import Derived.BigQuiet
import Derived.WalkSmall
namespace Go.Proofs.YtigmdlchbjanoaaGreatDoor
open Go Go.RowKit
attribute [local irreducible] wd
inductive T where
 | node (kind num:Int) (lazy:Bool) (set:Nat→Bool) (kids:List T)
def T.kind:T→Int
 | .node k _ _ _ _=>k
def T.num:T→Int
 | .node _ m _ _ _=>m
def T.lazy:T→Bool
 | .node _ _ z _ _=>z
def T.set:T→Nat→Bool
 | .node _ _ _ p _=>p
def T.kids:T→List T
 | .node _ _ _ _ ks=>ks
mutual
def T.size:T→Nat
 | .node _ _ _ _ ks=>1+sizeL ks
def sizeL:List T→Nat
 | []=>0
 | t :: ts=>t.size+sizeL ts
end
theorem sizeL_mem {ks:List T} {t:T} (h:t ∈ ks):t.size≤sizeL ks:=by
 induction ks with
 | nil=>cases h
 | cons x r ih =>
  unfold sizeL
  rcases List.mem_cons.1 h with rfl | h
  ·omega
  ·have:=ih h;omega
theorem sizeL_append (a b:List T):sizeL (a ++ b)=sizeL a+sizeL b:=by
 induction a with
 | nil=>simp [sizeL]
 | cons x r ih=>simp only [List.cons_append,sizeL,ih];omega
theorem size_pos (t:T):1≤t.size:=by cases t;unfold T.size;omega
theorem sizeL_len (ks:List T):ks.length≤sizeL ks:=by
 induction ks with
 | nil=>simp [sizeL]
 | cons x r ih=>have:=size_pos x;simp only [List.length_cons,sizeL];omega
theorem size_node (k m:Int) (z:Bool) (p:Nat→Bool) (ks:List T):(T.node k m z p ks).size=1+sizeL ks:=by rw [T.size]
def nodeC (k m:Int) (z:Bool) (p:Nat→Bool) (A:Option Addr) (n c:Nat):List Value:=
 [.int .i64 k,.int .i64 m,.bool z,.int .u64 (wd p 0:Nat),.int .u64 (wd p 1:Nat),.int .u64 (wd p 2:Nat),.int .u64 (wd p 3:Nat),.slice A n c]
mutual
def NodeV (S:Nat→Prop) (w:World):T→List Value→Prop
 | .node k m z p ks,v=>∃ A c cs,v=nodeC k m z p A ks.length c∧ks.length≤c∧c≤maxLen∧Rd w 8 A ks.length cs∧(∀ b o x,A=some ⟨b,o,x⟩→0<ks.length→S b)∧KidsV S w ks cs
def KidsV (S:Nat→Prop) (w:World):List T→List Value→Prop
 | [],cs=>cs=[]
 | t :: ts,cs=>∃ v cs',cs=v ++ cs' ∧ NodeV S w t v∧KidsV S w ts cs'
end
theorem nodeV_len {S:Nat→Prop} {w:World} {t:T} {v:List Value} (h:NodeV S w t v):v.length=8:=by
 cases t
 unfold NodeV at h
 obtain ⟨A,c,cs,rfl,_⟩:=h
 rfl
theorem kidsV_len {S:Nat→Prop} {w:World}:∀ {ks:List T} {cs:List Value},KidsV S w ks cs→cs.length=ks.length*8:=by
 intro ks
 induction ks with
 | nil=>intro cs h;unfold KidsV at h;subst h;rfl
 | cons t ts ih =>
  intro cs h
  unfold KidsV at h
  obtain ⟨v,cs',rfl,h1,h2⟩:=h
  rw [List.length_append,nodeV_len h1,ih h2,List.length_cons]
  omega
theorem kidsV_at {S:Nat→Prop} {w:World}:∀ {ks:List T} {cs:List Value},KidsV S w ks cs→∀ {i:Nat} (hi:i<ks.length),∃ v,NodeV S w (ks[i]'hi) v∧∀ j,j<8→cs[i*8+j]?=v[j]?:=by
 intro ks
 induction ks with
 | nil=>intro cs _ i hi;simp at hi
 | cons t ts ih =>
  intro cs h i hi
  unfold KidsV at h
  obtain ⟨v,cs',rfl,h1,h2⟩:=h
  have hv:=nodeV_len h1
  cases i with
  | zero=>exact ⟨v,h1,fun j hj=>by rw [List.getElem?_append_left (by omega)];simp⟩
  | succ i =>
   obtain ⟨u,hu,hc⟩:=ih h2 (i:=i) (by simpa using hi)
   refine ⟨u,by simpa using hu,fun j hj=>?_⟩
   rw [List.getElem?_append_right (by omega),show (i+1)*8+j-v.length=i*8+j by omega]
   exact hc j hj
theorem kidsV_append {S:Nat→Prop} {w:World}:∀ {ks ls:List T} {cs ds:List Value},KidsV S w ks cs→KidsV S w ls ds→KidsV S w (ks ++ ls) (cs ++ ds):=by
 intro ks
 induction ks with
 | nil=>intro ls cs ds h h2;unfold KidsV at h;subst h;exact h2
 | cons t ts ih =>
  intro ls cs ds h h2
  unfold KidsV at h
  obtain ⟨v,cs',rfl,h3,h4⟩:=h
  rw [List.cons_append]
  unfold KidsV
  exact ⟨v,cs' ++ ds,by rw [List.append_assoc],h3,ih h4 h2⟩
theorem kidsV_one {S:Nat→Prop} {w:World} {t:T} {v:List Value} (h:NodeV S w t v):KidsV S w [t] v:=by
 unfold KidsV
 exact ⟨v,[],by simp,h,by unfold KidsV;rfl⟩
theorem nodeV_stay {S S':Nat→Prop} {w w':World} (hs:w.heap.size≤w'.heap.size) (hk:∀ b,S b→b<w.heap.size→S' b∧w'.heap[b]?=w.heap[b]?):∀ (n:Nat) (t:T),t.size≤n→∀ v,NodeV S w t v→NodeV S' w' t v:=by
 intro n
 induction n with
 | zero=>intro t ht;have:=size_pos t;omega
 | succ n ih =>
  intro t ht v h
  cases t with
  | node k m z p ks =>
   unfold NodeV at h ⊢
   obtain ⟨A,c,cs,rfl,h1,h2,h3,h4,h5⟩:=h
   rw [size_node] at ht
   have hkids:∀ (ls:List T) (ds:List Value),(∀ x ∈ ls,x ∈ ks)→KidsV S w ls ds→KidsV S' w' ls ds:=by
    intro ls
    induction ls with
    | nil=>intro ds _ h;unfold KidsV at h ⊢;exact h
    | cons x r ih2 =>
     intro ds hm h
     unfold KidsV at h ⊢
     obtain ⟨u,ds',e,h6,h7⟩:=h
     have hx:=sizeL_mem (hm x List.mem_cons_self)
     exact ⟨u,ds',e,ih x (by omega) u h6,ih2 ds' (fun y hy=>hm y (List.mem_cons_of_mem _ hy)) h7⟩
   refine ⟨A,c,cs,rfl,h1,h2,⟨h3.1,fun hp=>?_⟩,fun b o x e hp=>?_,hkids ks cs (fun _ h=>h) h5⟩
   ·obtain ⟨b,o,e,hb,hc⟩:=h3.2 hp
    have hb2:=hk b (h4 b o none e (by have:=h3.1;omega)) hb
    exact ⟨b,o,e,by omega,fun j u hu=>(World.cell?_of_block hb2.2).trans (hc j u hu)⟩
   ·obtain ⟨b',o',e',hb,_⟩:=h3.2 (by rw [h3.1];omega)
    rw [e] at e'
    cases e'
    exact (hk _ (h4 _ _ _ e hp) hb).1
theorem NodeV.keep {S:Nat→Prop} {w w':World} {t:T} {v:List Value} (h:NodeV S w t v) (hx:Ext w w'):NodeV S w' t v:=
 nodeV_stay hx.size (fun b hb hlt=>⟨hb,hx.block b hlt⟩) t.size t (Nat.le_refl _) v h
theorem NodeV.mono {S S':Nat→Prop} {w:World} {t:T} {v:List Value} (h:NodeV S w t v) (hs:∀ b,b<w.heap.size→S b→S' b):NodeV S' w t v:=
 nodeV_stay (Nat.le_refl _) (fun b hb hlt=>⟨hs b hlt hb,rfl⟩) t.size t (Nat.le_refl _) v h
theorem NodeV.chg {S:Nat→Prop} {w w':World} {t:T} {v:List Value} {X:List Nat} (h:NodeV S w t v) (hx:Chg X w w') (hs:∀ x ∈ X,¬ S x):NodeV S w' t v:=
 nodeV_stay hx.size (fun b hb hlt=>⟨hb,hx.block b hlt (fun hm=>hs b hm hb)⟩) t.size t (Nat.le_refl _) v h
theorem NodeV.grew {S:Nat→Prop} {w w':World} {t:T} {v:List Value} {base:Nat} {u:Value} (h:NodeV S w t v) (hx:Grew base w w' u) (hs:∀ b,S b→some b ≠ u.ownBlock):NodeV S w' t v:=
 nodeV_stay hx.size (fun b hb hlt=>⟨hb,hx.by_.block b hlt (hs b hb)⟩) t.size t (Nat.le_refl _) v h
theorem kidsV_map {S S':Nat→Prop} {w w':World} (hf:∀ t v,NodeV S w t v→NodeV S' w' t v):∀ {ks:List T} {cs:List Value},KidsV S w ks cs→KidsV S' w' ks cs:=by
 intro ks
 induction ks with
 | nil=>intro cs h;unfold KidsV at h ⊢;exact h
 | cons t ts ih =>
  intro cs h
  unfold KidsV at h ⊢
  obtain ⟨v,cs',e,h1,h2⟩:=h
  exact ⟨v,cs',e,hf _ _ h1,ih h2⟩
theorem kid_at {S:Nat→Prop} {w:World} {A:Option Addr} {ks:List T} {cs:List Value} (hR:Rd w 8 A ks.length cs) (hK:KidsV S w ks cs) {i:Nat} (hi:i<ks.length) :
  ∃ b o k m z p B n c,A=some ⟨b,o,none⟩∧NodeV S w (ks[i]'hi) (nodeC k m z p B n c) ∧
   Hid (∀ w',Ext w w' → w'.cell? ⟨b,o+i*8,none⟩=some (.int .i64 k)∧w'.cell? ⟨b,o+i*8+1,none⟩=some (.int .i64 m)∧w'.cell? ⟨b,o+i*8+2,none⟩=some (.bool z) ∧
    w'.cell? ⟨b,o+i*8+3,none⟩=some (.int .u64 (wd p 0:Nat))∧w'.cell? ⟨b,o+i*8+4,none⟩=some (.int .u64 (wd p 1:Nat))∧w'.cell? ⟨b,o+i*8+5,none⟩=some (.int .u64 (wd p 2:Nat)) ∧
    w'.cell? ⟨b,o+i*8+6,none⟩=some (.int .u64 (wd p 3:Nat))∧w'.cell? ⟨b,o+i*8+7,none⟩=some (.slice B n c)):=by
 obtain ⟨v,hv,hc⟩:=kidsV_at hK hi
 have hl:=kidsV_len hK
 obtain ⟨b,o,rfl,hb,hcell⟩:=hR.2 (by omega)
 have hform:∃ k m z p B n c,v=nodeC k m z p B n c:=by
  generalize ks[i]'hi=t at hv
  cases t
  unfold NodeV at hv
  obtain ⟨B,c,_,e,_⟩:=hv
  exact ⟨_,_,_,_,_,_,_,e⟩
 obtain ⟨k,m,z,p,B,n,c,rfl⟩:=hform
 refine ⟨b,o,k,m,z,p,B,n,c,rfl,hv,Lib.hid fun w' hx=>?_⟩
 have key:∀ j x,(nodeC k m z p B n c)[j]?=some x→j<8→w'.cell? ⟨b,o+i*8+j,none⟩=some x:=fun j x hj h8=>by
  have:=hcell (i*8+j) x (by rw [hc j h8];exact hj)
  rw [show o+i*8+j=o+(i*8+j) by omega]
  exact (hx.cell (p:=⟨b,o+(i*8+j),none⟩) hb).trans this
 exact ⟨key 0 _ rfl (by omega),key 1 _ rfl (by omega),key 2 _ rfl (by omega),key 3 _ rfl (by omega),key 4 _ rfl (by omega),key 5 _ rfl (by omega),key 6 _ rfl (by omega),key 7 _ rfl (by omega)⟩
end Go.Proofs.YtigmdlchbjanoaaGreatDoor
namespace Go.Proofs.YtigmdlchbjanoaaGreatDoor
open Go Go.RowKit
mutual
def T.groups:T→Nat
 | .node k _ _ _ ks=>(if k=8 then 1 else 0)+groupsL ks
def groupsL:List T→Nat
 | []=>0
 | t :: ts=>t.groups+groupsL ts
end
mutual
def T.nullable:T→Bool
 | .node k _ _ _ ks=>if k=1∨k=5∨k=7 then true else if k=3 then allN ks else if k=4 then anyN ks else if k=6∨k=8 then headN ks else false
def allN:List T→Bool
 | []=>true
 | t :: ts=>t.nullable && allN ts
def anyN:List T→Bool
 | []=>false
 | t :: ts=>t.nullable || anyN ts
def headN:List T→Bool
 | []=>false
 | t :: _=>t.nullable
end
def kidsOk (k:Int) (n:Nat):Bool:=
 if k=1∨k=2 then decide (n=0) else if k=3∨k=4 then decide (2≤n) else if k=5∨k=6∨k=7∨k=8 then decide (n=1) else false
def noneB (p:Nat→Bool):Bool:=(List.range' 0 256).all fun i=>!p i
def bareB (k m:Int) (z:Bool) (p:Nat→Bool):Bool:=(decide (k=8) || decide (m=0)) && ((decide (k=5∨k=6∨k=7)) || !z) && (decide (k=2) || noneB p)
mutual
def T.right:T→Nat→Nat→Bool × Nat
 | .node k m z p ks,d,g =>
  if 40<d∨kidsOk k ks.length=false∨bareB k m z p=false then (false,g)
  else if k=8∧m ≠ (g:Int)+1 then (false,g+1)
  else
   let r:=rightL ks (d+1) (if k=8 then g+1 else g)
   (r.1 && (!(decide (k=5∨k=6)) || !headN ks),r.2)
def rightL:List T→Nat→Nat→Bool × Nat
 | [],_,g=>(true,g)
 | t :: ts,d,g=>if (t.right d g).1 then rightL ts d (t.right d g).2 else (false,(t.right d g).2)
end
end Go.Proofs.YtigmdlchbjanoaaGreatDoor
namespace Go.Proofs.YtigmdlchbjanoaaGreatDoor
open Go Go.RowKit
attribute [local irreducible] wd
end Go.Proofs.YtigmdlchbjanoaaGreatDoor
namespace Go.Proofs.YtigmdlchbjanoaaGreatDoor
open Go Go.RowKit
attribute [local irreducible] wd
def FnTells (F:FuncId) (ks:List T) (P:T→Bool):Prop:=
 ∀ x ∈ ks,∀ S w v,NodeV S w x v→Calls Tryz.prog F #[.agg v.toArray] w fun e w'=>e=.returned (.bool (P x))∧Ext w w'
set_option maxHeartbeats 1000000 in
set_option maxRecDepth 20000 in
theorem rxNot1 {ks:List T} (h:FnTells 24 ks T.nullable):FnTells 47 ks (fun x=>!x.nullable):=by
 intro x hx S w v hv
 obtain ⟨k,m,z,p,B,n,c,rfl⟩:∃ k m z p B n c,v=nodeC k m z p B n c:=by
  cases x
  unfold NodeV at hv
  obtain ⟨B,c,_,e,_⟩:=hv
  exact ⟨_,_,_,_,_,_,_,e⟩
 have HV:=Lib.hid hv
 have HX:=Lib.hid hx
 clear hv hx
 unfold nodeC
 go_enter Tryz.func47,Tryz.ntmps47
 go_wp2_with (go_at_call 24;refine (h x HX.out S _ (nodeC k m z p B n c) (HV.out.keep (Ext.new1 _ _))).mono ?_;rintro e w1 ⟨rfl,hx1⟩)
 go_ret
 exact ⟨by simp,Ext.trans (Ext.new1 _ _) hx1⟩
set_option maxHeartbeats 2000000 in
set_option maxRecDepth 20000 in
theorem rxIndexA {S:Nat→Prop} {w:World} {A:Option Addr} {ks:List T} {cs:List Value} (c:Nat) (hf:FnTells 24 ks T.nullable) (hR:Rd w 8 A ks.length cs) (hK:KidsV S w ks cs) (hl:ks.length≤maxLen) :
  Calls Tryz.prog 72 #[.slice A ks.length c,.func (.func 24) #[] #[]] w fun e w'=>∃ r:Int,e=.returned (.int .i64 r)∧decide (0≤r)=ks.any T.nullable∧Ext w w':=by
 have HR:=Lib.hid hR
 have HK:=Lib.hid hK
 unfold maxLen at hl
 clear hR hK
 go_enter Tryz.func72,Tryz.ntmps72
 go_wp2
 go_loopg [8] (ks.length) (fun g a wr=>∃ i:Nat,i≤ks.length∧g=ks.length-i∧a=.int .i64 (i:Nat)∧(ks.take i).any T.nullable=false∧Ext w wr)
 case atStart=>exact ⟨0,by omega,rfl,rfl,by simp,Ext.refl _⟩
 case round =>
  obtain ⟨i,hi,rfl,rfl,hno,hx⟩:=hrel
  have HNO:=Lib.hid hno
  clear hno
  by_cases hlt:i<ks.length
  ·obtain ⟨b,o,k',m',z',p',B,n',c',rfl,hv,hk⟩:=kid_at HR.out HK.out hlt
   obtain ⟨c0,c1,c2,c3,c4,c5,c6,c7⟩:=hk.out wr hx
   have hlt':(i:Int)<(ks.length:Int):=by omega
   have hw2:IntKind.i64.wrap ((i:Int)+1)=(i:Int)+1:=wrap_id (by omega) (by omega)
   have HV:=Lib.hid (hv.keep hx)
   obtain ⟨x,hxe⟩:∃ x,ks[i]'hlt=x:=⟨_,rfl⟩
   have HM:=Lib.hid (show x ∈ ks from hxe ▸ List.getElem_mem hlt)
   have hV:NodeV S wr x (nodeC k' m' z' p' B n' c'):=hxe ▸ HV.out
   have HVX:=Lib.hid hV
   have HT:=Lib.hid (show ks.take (i+1)=ks.take i ++ [x] by rw [List.take_succ_eq_append_getElem hlt,hxe])
   clear hv HV hV hxe
   cases hP:T.nullable x
   ·have HP:=Lib.hid hP
    clear hP
    go_wp2_with (go_at_call 24;refine (hf x HM.out S _ (nodeC k' m' z' p' B n' c') HVX.out).mono ?_;rintro e w1 ⟨rfl,hx1⟩;rw [HP.out])
    go_roundg (ks.length-(i+1))
    case measure=>omega
    case rel=>exact ⟨i+1,by omega,rfl,by go_num,by rw [HT.out,List.any_append,HNO.out];simp [HP.out],Ext.trans hx hx1⟩
   ·have HP:=Lib.hid hP
    clear hP
    go_wp2_with (go_at_call 24;refine (hf x HM.out S _ (nodeC k' m' z' p' B n' c') HVX.out).mono ?_;rintro e w1 ⟨rfl,hx1⟩;rw [HP.out])
    go_ret
    exact ⟨i,rfl,by rw [List.any_eq_true.2 ⟨x,HM.out,HP.out⟩];simp,Ext.trans hx hx1⟩
  ·obtain rfl:i=ks.length:=by omega
   have hno:=HNO.out
   rw [List.take_length] at hno
   have HN:=Lib.hid hno
   clear hno
   go_wp2
   go_ret
   exact ⟨-1,rfl,by rw [HN.out];rfl,hx⟩
set_option maxHeartbeats 1000000 in
set_option maxRecDepth 20000 in
theorem rxContainsA {S:Nat→Prop} {w:World} {A:Option Addr} {ks:List T} {cs:List Value} (c:Nat) (hf:FnTells 24 ks T.nullable) (hR:Rd w 8 A ks.length cs) (hK:KidsV S w ks cs) (hl:ks.length≤maxLen) :
  Calls Tryz.prog 46 #[.slice A ks.length c,.func (.func 24) #[] #[]] w fun e w'=>e=.returned (.bool (ks.any T.nullable))∧Ext w w':=by
 go_enter Tryz.func46,Tryz.ntmps46
 go_wp2_with (go_at_call 72;refine (rxIndexA c hf hR hK hl).mono ?_;rintro e w1 ⟨r,rfl,hr,hx1⟩)
 go_ret
 exact ⟨by rw [← hr];rfl,hx1⟩
set_option maxHeartbeats 2000000 in
set_option maxRecDepth 20000 in
theorem rxIndexB {S:Nat→Prop} {w:World} {A:Option Addr} {ks:List T} {cs:List Value} (c:Nat) (hf:FnTells 47 ks (fun x=>!x.nullable)) (hR:Rd w 8 A ks.length cs) (hK:KidsV S w ks cs) (hl:ks.length≤maxLen) :
  Calls Tryz.prog 72 #[.slice A ks.length c,.func (.func 47) #[] #[]] w fun e w'=>∃ r:Int,e=.returned (.int .i64 r)∧decide (0≤r)=ks.any (fun x=>!x.nullable)∧Ext w w':=by
 have HR:=Lib.hid hR
 have HK:=Lib.hid hK
 unfold maxLen at hl
 clear hR hK
 go_enter Tryz.func72,Tryz.ntmps72
 go_wp2
 go_loopg [8] (ks.length) (fun g a wr=>∃ i:Nat,i≤ks.length∧g=ks.length-i∧a=.int .i64 (i:Nat)∧(ks.take i).any (fun x=>!x.nullable)=false∧Ext w wr)
 case atStart=>exact ⟨0,by omega,rfl,rfl,by simp,Ext.refl _⟩
 case round =>
  obtain ⟨i,hi,rfl,rfl,hno,hx⟩:=hrel
  have HNO:=Lib.hid hno
  clear hno
  by_cases hlt:i<ks.length
  ·obtain ⟨b,o,k',m',z',p',B,n',c',rfl,hv,hk⟩:=kid_at HR.out HK.out hlt
   obtain ⟨c0,c1,c2,c3,c4,c5,c6,c7⟩:=hk.out wr hx
   have hlt':(i:Int)<(ks.length:Int):=by omega
   have hw2:IntKind.i64.wrap ((i:Int)+1)=(i:Int)+1:=wrap_id (by omega) (by omega)
   have HV:=Lib.hid (hv.keep hx)
   obtain ⟨x,hxe⟩:∃ x,ks[i]'hlt=x:=⟨_,rfl⟩
   have HM:=Lib.hid (show x ∈ ks from hxe ▸ List.getElem_mem hlt)
   have hV:NodeV S wr x (nodeC k' m' z' p' B n' c'):=hxe ▸ HV.out
   have HVX:=Lib.hid hV
   have HT:=Lib.hid (show ks.take (i+1)=ks.take i ++ [x] by rw [List.take_succ_eq_append_getElem hlt,hxe])
   clear hv HV hV hxe
   cases hP:(fun x=>!x.nullable) x
   ·have HP:=Lib.hid hP
    clear hP
    go_wp2_with (go_at_call 47;refine (hf x HM.out S _ (nodeC k' m' z' p' B n' c') HVX.out).mono ?_;rintro e w1 ⟨rfl,hx1⟩;rw [HP.out])
    go_roundg (ks.length-(i+1))
    case measure=>omega
    case rel=>exact ⟨i+1,by omega,rfl,by go_num,by rw [HT.out,List.any_append,HNO.out];simp [HP.out],Ext.trans hx hx1⟩
   ·have HP:=Lib.hid hP
    clear hP
    go_wp2_with (go_at_call 47;refine (hf x HM.out S _ (nodeC k' m' z' p' B n' c') HVX.out).mono ?_;rintro e w1 ⟨rfl,hx1⟩;rw [HP.out])
    go_ret
    exact ⟨i,rfl,by rw [List.any_eq_true.2 ⟨x,HM.out,HP.out⟩];simp,Ext.trans hx hx1⟩
  ·obtain rfl:i=ks.length:=by omega
   have hno:=HNO.out
   rw [List.take_length] at hno
   have HN:=Lib.hid hno
   clear hno
   go_wp2
   go_ret
   exact ⟨-1,rfl,by rw [HN.out];rfl,hx⟩
set_option maxHeartbeats 1000000 in
set_option maxRecDepth 20000 in
theorem rxContainsB {S:Nat→Prop} {w:World} {A:Option Addr} {ks:List T} {cs:List Value} (c:Nat) (hf:FnTells 47 ks (fun x=>!x.nullable)) (hR:Rd w 8 A ks.length cs) (hK:KidsV S w ks cs) (hl:ks.length≤maxLen) :
  Calls Tryz.prog 46 #[.slice A ks.length c,.func (.func 47) #[] #[]] w fun e w'=>e=.returned (.bool (ks.any (fun x=>!x.nullable)))∧Ext w w':=by
 go_enter Tryz.func46,Tryz.ntmps46
 go_wp2_with (go_at_call 72;refine (rxIndexB c hf hR hK hl).mono ?_;rintro e w1 ⟨r,rfl,hr,hx1⟩)
 go_ret
 exact ⟨by rw [← hr];rfl,hx1⟩
theorem any_null (ks:List T):ks.any T.nullable=anyN ks:=by
 induction ks with
 | nil=>rfl
 | cons x r ih=>rw [List.any_cons,anyN,ih]
theorem any_not (ks:List T):(!(ks.any fun x=>!x.nullable))=allN ks:=by
 induction ks with
 | nil=>rfl
 | cons x r ih=>rw [List.any_cons,allN,← ih];cases x.nullable <;> simp
set_option maxHeartbeats 4000000 in
set_option maxRecDepth 20000 in
theorem rxNullableN:∀ n,∀ t:T,t.size≤n→∀ S w v,NodeV S w t v →
  Calls Tryz.prog 24 #[.agg v.toArray] w fun e w'=>e=.returned (.bool t.nullable)∧Ext w w':=by
 intro n
 induction n with
 | zero=>intro t ht;have:=size_pos t;omega
 | succ n ih =>
  intro t ht S w v h
  cases t with
  | node k m z p ks =>
   unfold NodeV at h
   obtain ⟨A,c,cs,rfl,h1,h2,h3,h4,h5⟩:=h
   rw [size_node] at ht
   have hlk:=sizeL_len ks
   have hf:FnTells 24 ks T.nullable:=fun x hx S w v hv=>by
    have:=sizeL_mem hx
    exact ih x (by omega) S w v hv
   have hl:ks.length≤maxLen:=Nat.le_trans h1 h2
   have HR:=Lib.hid (h3.keep (Ext.new1 w (.cells (nodeC k m z p A ks.length c).toArray 28)))
   have HR0:=Lib.hid h3
   have HK0:=Lib.hid h5
   have HK:=Lib.hid (kidsV_map (fun t v h=>NodeV.keep h (Ext.new1 w (.cells (nodeC k m z p A ks.length c).toArray 28))) h5)
   have hx0:=Ext.new1 w (.cells (nodeC k m z p A ks.length c).toArray 28)
   clear h3 h4 h5
   unfold nodeC at HR HK hx0 ⊢
   rw [T.nullable]
   by_cases k1:k=1
   ·subst k1
    simp only [true_or,if_true]
    go_enter Tryz.func24,Tryz.ntmps24
    go_wp2
    go_ret
    exact ⟨by simp,by (first | exact Ext.refl _ | (unfold Ext;repeat (first | exact Below.refl _ _ | assumption | refine BeA ?_ | refine BeC ?_ | refine Below.drew ?_)))⟩
   have d1:(k == 1)=false:=by simp [k1]
   by_cases k5:k=5
   ·subst k5
    rw [if_pos (by decide)]
    go_enter Tryz.func24,Tryz.ntmps24
    go_wp2
    go_ret
    exact ⟨by simp,by (first | exact Ext.refl _ | (unfold Ext;repeat (first | exact Below.refl _ _ | assumption | refine BeA ?_ | refine BeC ?_ | refine Below.drew ?_)))⟩
   have d5:(k == 5)=false:=by simp [k5]
   by_cases k7:k=7
   ·subst k7
    rw [if_pos (by decide)]
    go_enter Tryz.func24,Tryz.ntmps24
    go_wp2
    go_ret
    exact ⟨by simp,by (first | exact Ext.refl _ | (unfold Ext;repeat (first | exact Below.refl _ _ | assumption | refine BeA ?_ | refine BeC ?_ | refine Below.drew ?_)))⟩
   have d7:(k == 7)=false:=by simp [k7]
   rw [if_neg (by simp [k1,k5,k7])]
   by_cases k3:k=3
   ·subst k3
    rw [if_pos rfl,← any_not]
    go_enter Tryz.func24,Tryz.ntmps24
    go_wp2_with (go_at_call 46;refine (rxContainsB c (rxNot1 hf) HR.out HK.out hl).mono ?_;rintro e w1 ⟨rfl,hx1⟩)
    go_ret
    exact ⟨by simp,Ext.trans hx0 hx1⟩
   have d3:(k == 3)=false:=by simp [k3]
   rw [if_neg k3]
   by_cases k4:k=4
   ·subst k4
    rw [if_pos rfl,← any_null]
    go_enter Tryz.func24,Tryz.ntmps24
    go_wp2_with (go_at_call 46;refine (rxContainsA c hf HR.out HK.out hl).mono ?_;rintro e w1 ⟨rfl,hx1⟩)
    go_ret
    exact ⟨by simp,Ext.trans hx0 hx1⟩
   have d4:(k == 4)=false:=by simp [k4]
   rw [if_neg k4]
   by_cases k6:k=6
   ·subst k6
    rw [if_pos (by decide)]
    clear ih
    rcases ks with _ | ⟨x,r⟩
    ·rw [headN]
     go_enter Tryz.func24,Tryz.ntmps24
     go_wp2
     go_ret
     exact ⟨by simp,by (first | exact Ext.refl _ | (unfold Ext;repeat (first | exact Below.refl _ _ | assumption | refine BeA ?_ | refine BeC ?_ | refine Below.drew ?_)))⟩
    ·rw [headN]
     obtain ⟨b,o,k',m',z',p',B,n',c',rfl,hv,hk⟩:=kid_at HR.out HK.out (i:=0) (by simp)
     obtain ⟨c0,c1,c2,c3,c4,c5,c6,c7⟩:=hk.out _ (Ext.refl _)
     simp only [Nat.zero_mul,Nat.add_zero,List.length_cons] at c0 c1 c2 c3 c4 c5 c6 c7 hx0 ⊢
     have hv2:NodeV S _ x _:=hv
     simp only [List.length_cons] at hv2
     have HV:=Lib.hid hv2
     have hpos:(0:Int)<(r.length:Int)+1:=by omega
     clear hv hk hv2
     go_enter Tryz.func24,Tryz.ntmps24
     go_wp2_with (go_at_call 24;refine (hf x List.mem_cons_self S _ (nodeC k' m' z' p' B n' c') HV.out).mono ?_;rintro e w1 ⟨rfl,hx1⟩)
     go_ret
     exact ⟨by simp,Ext.trans hx0 hx1⟩
   have d6:(k == 6)=false:=by simp [k6]
   by_cases k8:k=8
   ·subst k8
    rw [if_pos (by decide)]
    clear ih
    rcases ks with _ | ⟨x,r⟩
    ·rw [headN]
     go_enter Tryz.func24,Tryz.ntmps24
     go_wp2
     go_ret
     exact ⟨by simp,by (first | exact Ext.refl _ | (unfold Ext;repeat (first | exact Below.refl _ _ | assumption | refine BeA ?_ | refine BeC ?_ | refine Below.drew ?_)))⟩
    ·rw [headN]
     obtain ⟨b,o,k',m',z',p',B,n',c',rfl,hv,hk⟩:=kid_at HR.out HK.out (i:=0) (by simp)
     obtain ⟨c0,c1,c2,c3,c4,c5,c6,c7⟩:=hk.out _ (Ext.refl _)
     simp only [Nat.zero_mul,Nat.add_zero,List.length_cons] at c0 c1 c2 c3 c4 c5 c6 c7 hx0 ⊢
     have hv2:NodeV S _ x _:=hv
     simp only [List.length_cons] at hv2
     have HV:=Lib.hid hv2
     have hpos:(0:Int)<(r.length:Int)+1:=by omega
     clear hv hk hv2
     go_enter Tryz.func24,Tryz.ntmps24
     go_wp2_with (go_at_call 24;refine (hf x List.mem_cons_self S _ (nodeC k' m' z' p' B n' c') HV.out).mono ?_;rintro e w1 ⟨rfl,hx1⟩)
     go_ret
     exact ⟨by simp,Ext.trans hx0 hx1⟩
   have d8:(k == 8)=false:=by simp [k8]
   rw [if_neg (by simp [k6,k8])]
   clear k1 k5 k7 k3 k4 k6 k8
   go_enter Tryz.func24,Tryz.ntmps24
   go_wp2
   go_ret
   exact ⟨by simp,by (first | exact Ext.refl _ | (unfold Ext;repeat (first | exact Below.refl _ _ | assumption | refine BeA ?_ | refine BeC ?_ | refine Below.drew ?_)))⟩
end Go.Proofs.YtigmdlchbjanoaaGreatDoor
namespace Go.Proofs.YtigmdlchbjanoaaGreatDoor
open Go Go.RowKit
attribute [local irreducible] wd
def NodeB (w:World) (g:Nat) (k m:Int) (z:Bool) (p:Nat→Bool) (A:Option Addr) (n c:Nat):Prop:=Blk w g 28 (nodeC k m z p A n c)
theorem NodeB.new (w:World) (k m:Int) (z:Bool) (p:Nat→Bool) (A:Option Addr) (n c:Nat):NodeB (w.alloc (.cells #[.int .i64 k,.int .i64 m,.bool z,.int .u64 (wd p 0:Nat),.int .u64 (wd p 1:Nat),.int .u64 (wd p 2:Nat),.int .u64 (wd p 3:Nat),.slice A n c] 28)) w.heap.size k m z p A n c:=
 Blk.newA rfl _ (nodeC k m z p A n c)
theorem NodeB.keep {w w':World} {g:Nat} {k m:Int} {z:Bool} {p:Nat→Bool} {A:Option Addr} {n c:Nat} (h:NodeB w g k m z p A n c) (hx:Ext w w'):NodeB w' g k m z p A n c:=Blk.keep h hx
theorem NodeB.chg {w w':World} {g:Nat} {k m:Int} {z:Bool} {p:Nat→Bool} {A:Option Addr} {n c:Nat} {X:List Nat} (h:NodeB w g k m z p A n c) (hx:Chg X w w') (hg:g ∉ X):NodeB w' g k m z p A n c:=Blk.chg h hx hg
theorem NodeB.cells {w:World} {g:Nat} {k m:Int} {z:Bool} {p:Nat→Bool} {A:Option Addr} {n c:Nat} (h:NodeB w g k m z p A n c) :
  w.cell? ⟨g,0,none⟩=some (.int .i64 k)∧w.cell? ⟨g,1,none⟩=some (.int .i64 m)∧w.cell? ⟨g,2,none⟩=some (.bool z)∧w.cell? ⟨g,3,none⟩=some (.int .u64 (wd p 0:Nat))∧w.cell? ⟨g,4,none⟩=some (.int .u64 (wd p 1:Nat)) ∧
   w.cell? ⟨g,5,none⟩=some (.int .u64 (wd p 2:Nat))∧w.cell? ⟨g,6,none⟩=some (.int .u64 (wd p 3:Nat))∧w.cell? ⟨g,7,none⟩=some (.slice A n c):=
 ⟨Blk.cell h 0,Blk.cell h 1,Blk.cell h 2,Blk.cell h 3,Blk.cell h 4,Blk.cell h 5,Blk.cell h 6,Blk.cell h 7⟩
theorem NodeB.lt {w:World} {g:Nat} {k m:Int} {z:Bool} {p:Nat→Bool} {A:Option Addr} {n c:Nat} (h:NodeB w g k m z p A n c):g<w.heap.size:=Blk.lt h
end Go.Proofs.YtigmdlchbjanoaaGreatDoor
namespace Go.Proofs.YtigmdlchbjanoaaGreatDoor
open Go Go.RowKit
attribute [local irreducible] wd
end Go.Proofs.YtigmdlchbjanoaaGreatDoor
namespace Go.Proofs.YtigmdlchbjanoaaGreatDoor
open Go Go.RowKit
attribute [local irreducible] wd
theorem nodeV_form {S:Nat→Prop} {w:World} {t:T} {v:List Value} (h:NodeV S w t v):∃ k m z p B n c,v=nodeC k m z p B n c:=by
 cases t
 unfold NodeV at h
 obtain ⟨B,c,_,e,_⟩:=h
 exact ⟨_,_,_,_,_,_,_,e⟩
end Go.Proofs.YtigmdlchbjanoaaGreatDoor
