/- Put together: Cl25p, Cl26p, Rx30, Rx31. -/
import Derived.Test.YtigmdlchbjanoaaGreatDoorPTgJ
import Derived.Test.YtigmdlchbjanoaaGreatDoorPTgM
namespace Go.Proofs.YtigmdlchbjanoaaGreatDoor
open Go Go.RowKit
end Go.Proofs.YtigmdlchbjanoaaGreatDoor
namespace Go.Proofs.YtigmdlchbjanoaaGreatDoor
open Go Go.RowKit
end Go.Proofs.YtigmdlchbjanoaaGreatDoor
namespace Go.Proofs.YtigmdlchbjanoaaGreatDoor
open Go Go.RowKit
mutual
def T.same:T→T→Bool
 | .node k m z p ks,.node k' m' z' p' ks'=>(decide (k=k') && decide (m=m') && (z == z') && sameP p p') && sameL ks ks'
def sameL:List T→List T→Bool
 | [],[]=>true
 | t :: ts,u :: us=>t.same u && sameL ts us
 | [],_ :: _=>false
 | _ :: _,[]=>false
end
theorem same_node {k k' m m':Int} {z z':Bool} {p p':Nat→Bool} {ks ks':List T}:(T.node k m z p ks).same (.node k' m' z' p' ks')=true↔k=k' ∧ m=m' ∧ z=z' ∧ sameP p p'=true∧sameL ks ks'=true:=by
 rw [T.same]
 simp only [Bool.and_eq_true,decide_eq_true_eq,beq_iff_eq,and_assoc]
theorem same_len:∀ {a b:List T},sameL a b=true→a.length=b.length
 | [],[],_=>rfl
 | t :: ts,u :: us,h=>by
  rw [sameL,Bool.and_eq_true] at h
  rw [List.length_cons,List.length_cons,same_len h.2]
 | [],_ :: _,h=>by rw [sameL] at h;cases h
 | _ :: _,[],h=>by rw [sameL] at h;cases h
theorem sameP_refl (p:Nat→Bool):sameP p p=true:=(sameP_iff p p).2 fun _ _=>rfl
theorem drop_add {l x Q:List UInt8} {i:Nat} (h:l.drop i=x ++ Q):l.drop (i+x.length)=Q:=by
 rw [← List.drop_drop,h,List.drop_left]
theorem get_drop {l:List UInt8} {i:Nat}:l[i]?=(l.drop i).head?:=by rw [List.head?_drop]
theorem get_first {l r:List UInt8} {i:Nat} {c:UInt8} (h:l.drop i=c :: r):l[i]?=some c:=by rw [get_drop,h];rfl
theorem get_behind {l x Q:List UInt8} {i:Nat} (h:l.drop i=x ++ Q):l[i+x.length]?=Q.head?:=by rw [get_drop,drop_add h]
theorem drop_tail {l r:List UInt8} {i:Nat} {c:UInt8} (h:l.drop i=c :: r):l.drop (i+1)=r:=by
 rw [← List.drop_drop,h];rfl
def Opn (Q:List UInt8):Prop:=∀ c,Q.head?=some c→c ≠ 42∧c ≠ 43∧c ≠ 63
def HeadF (x:List UInt8):Prop:=∃ c r,x=c :: r∧c ≠ 124∧c ≠ 41∧c ≠ 42∧c ≠ 43∧c ≠ 63
theorem HeadF.app {x:List UInt8} (h:HeadF x) (y:List UInt8):HeadF (x ++ y):=by
 obtain ⟨c,r,rfl,h⟩:=h
 exact ⟨c,r ++ y,rfl,h⟩
theorem HeadF.opn {x:List UInt8} (h:HeadF x):Opn x:=by
 obtain ⟨c,r,rfl,h⟩:=h
 intro c' hc
 simp at hc
 subst hc
 exact h.2.2
theorem Ends.opn {Q:List UInt8} (h:Ends Q):Opn Q:=by
 intro c hc
 rcases h with rfl | h | h
 ·simp at hc
 ·rw [h] at hc;injection hc with hc;subst hc;decide
 ·rw [h] at hc;injection hc with hc;subst hc;decide
def RB (g:Nat) (t:T) (j:Nat) (r:PR):Prop:=(∃ t',r=.ok t' j (g+t.groups)∧t'.same t=true)∨(r=.err 2∧9<g+t.groups)∨r=.err 11
def TAtom (g:Nat) (t:T) (x:List UInt8):Prop:=∀ l i ne Q,l.drop i=x ++ Q→∃ f0 r,RB g t (i+x.length) r∧∀ f,f0≤f→atomP l f ne i g=r
def TItem (g:Nat) (t:T) (x:List UInt8):Prop:=∀ l i ne Q,l.drop i=x ++ Q→Opn Q→∃ f0 r,RB g t (i+x.length) r∧∀ f,f0≤f→itemP l f ne i g=r
def TSeq (g:Nat) (t:T) (x:List UInt8):Prop:=∀ l i ne Q,l.drop i=x ++ Q→Ends Q→∃ f0 r,RB g t (i+x.length) r∧∀ f,f0≤f→itemsP l f ne i g []=r
def TAlts (g:Nat) (t:T) (x:List UInt8):Prop:=∀ l i ne Q,l.drop i=x ++ Q→(Q=[]∨Q.head?=some 41)→∃ f0 r,RB g t (i+x.length) r∧∀ f,f0≤f→altsP l f ne i g []=r
theorem fuel1 {P:Nat→PR} {f0:Nat} {r:PR} (h:∀ f,f0≤f→P (f+1)=r):∀ f,f0+1≤f→P f=r:=by
 intro f hf
 obtain ⟨f,rfl⟩:∃ f',f=f' + 1:=⟨f-1,by omega⟩
 exact h f (by omega)
theorem fuel2 {P:Nat→PR} {f0:Nat} {r:PR} (h:∀ f,f0≤f→P (f+2)=r):∀ f,f0+2≤f→P f=r:=by
 intro f hf
 obtain ⟨f,rfl⟩:∃ f',f=f' + 2:=⟨f-2,by omega⟩
 exact h f (by omega)
theorem rep_none {l Q:List UInt8} {t:T} {j g:Nat} (h:l[j]?=Q.head?) (hQ:Opn Q):repP l t j g=.ok t j g:=by
 unfold repP
 rw [h]
 cases hc:Q.head? with
 | none=>rfl
 | some c =>
  have h:=hQ c hc
  dsimp only
  rw [if_neg (by simp only [not_or];exact h)]
theorem atom_item {g:Nat} {t:T} {x:List UInt8} (h:TAtom g t x):TItem g t x:=by
 intro l i ne Q hd hQ
 obtain ⟨f0,r,hr,hf⟩:=h l i ne Q hd
 rcases hr with ⟨t',rfl,hs⟩ | ⟨rfl,h9⟩ | rfl
 ·refine ⟨f0+1,_,.inl ⟨t',rfl,hs⟩,fuel1 fun f hf1=>?_⟩
  rw [itemP,hf f hf1]
  dsimp only
  rw [rep_none (get_behind hd) hQ]
 ·exact ⟨f0+1,_,.inr (.inl ⟨rfl,h9⟩),fuel1 fun f hf1=>by rw [itemP,hf f hf1]⟩
 ·exact ⟨f0+1,_,.inr (.inr rfl),fuel1 fun f hf1=>by rw [itemP,hf f hf1]⟩
theorem wrap_atom {g:Nat} {t:T} {x:List UInt8} (h:TAlts g t x):TAtom g t ([40,63,58] ++ x ++ [41]):=by
 intro l i ne Q hd
 have hd0:l.drop i=40 :: 63 :: 58 :: (x ++ 41 :: Q):=by rw [hd];simp
 have g0:=get_first hd0
 have hd1:=drop_tail hd0
 have g1:=get_first hd1
 have hd2:=drop_tail hd1
 have g2:=get_first hd2
 have hd3:=drop_tail hd2
 have gE:l[i+1+1+1+x.length]?=some 41:=get_behind hd3
 by_cases hne:ne=8
 ·refine ⟨2,_,.inr (.inr rfl),fuel2 (f0:=0) fun f hf1=>?_⟩
  rw [atomP,g0]
  dsimp only
  rw [if_pos rfl,bracketP,if_pos hne]
 obtain ⟨f0,r,hr,hf⟩:=h l (i+1+1+1) (ne+1) _ hd3 (.inr rfl)
 have key:∀ f,atomP l (f+2) ne i g=closeP l (altsP l f (ne+1) (i+1+1+1) g []) 0:=by
  intro f
  rw [atomP,g0]
  dsimp only
  rw [if_pos rfl,bracketP,if_neg hne,if_pos g1,show i+2=i+1+1 by omega,g2]
  dsimp only
  rw [if_pos rfl,show i+3=i+1+1+1 by omega]
 rcases hr with ⟨t',rfl,hs⟩ | ⟨rfl,h9⟩ | rfl
 ·refine ⟨f0+2,_,.inl ⟨t',rfl,hs⟩,fuel2 fun f hf1=>?_⟩
  rw [key,hf f hf1]
  unfold closeP
  dsimp only
  rw [gE]
  dsimp only
  rw [if_pos rfl]
  congr 1
  simp only [List.length_append,List.length_cons,List.length_nil];omega
 ·exact ⟨f0+2,_,.inr (.inl ⟨rfl,h9⟩),fuel2 fun f hf1=>by rw [key,hf f hf1];rfl⟩
 ·exact ⟨f0+2,_,.inr (.inr rfl),fuel2 fun f hf1=>by rw [key,hf f hf1];rfl⟩
theorem ends_stop {l Q:List UInt8} {j f ne g:Nat} {acc:List T} (h:l[j]?=Q.head?) (hQ:Ends Q):itemsP l (f+1) ne j g acc=.ok (mkCat acc) j g:=by
 rw [itemsP,h]
 rcases hQ with rfl | e | e
 ·rfl
 ·rw [e];rfl
 ·rw [e];rfl
theorem item_step {l:List UInt8} {i f ne g:Nat} {acc:List T} {c:UInt8} (g0:l[i]?=some c) (h1:c ≠ 124) (h2:c ≠ 41):itemsP l (f+1) ne i g acc=(match itemP l f ne i g with
   | .out=>.out
   | .err k=>.err k
   | .ok t i gr=>itemsP l f ne i gr (acc ++ [t])):=by
 rw [itemsP,g0]
 dsimp only
 rw [if_neg (by simp [h1,h2])]
 cases itemP l f ne i g <;> rfl
theorem item_seq {g:Nat} {t:T} {x:List UInt8} (h:TItem g t x) (hx:HeadF x):TSeq g t x:=by
 intro l i ne Q hd hQ
 obtain ⟨f0,r,hr,hf⟩:=h l i ne Q hd hQ.opn
 obtain ⟨c,r',rfl,h1,h2,_⟩:=hx
 have g0:=get_first hd
 rcases hr with ⟨t',rfl,hs⟩ | ⟨rfl,h9⟩ | rfl
 ·refine ⟨f0+2,_,.inl ⟨t',rfl,hs⟩,fuel2 fun f hf1=>?_⟩
  rw [item_step g0 h1 h2,hf (f+1) (by omega)]
  dsimp only
  rw [ends_stop (get_behind hd) hQ]
  rfl
 ·exact ⟨f0+2,_,.inr (.inl ⟨rfl,h9⟩),fuel2 fun f hf1=>by rw [item_step g0 h1 h2,hf (f+1) (by omega)]⟩
 ·exact ⟨f0+2,_,.inr (.inr rfl),fuel2 fun f hf1=>by rw [item_step g0 h1 h2,hf (f+1) (by omega)]⟩
def wC (t:T):List UInt8:=withinT (decide (t.kind=3∨t.kind=4∨t.kind=1)) t.text
def wA (t:T):List UInt8:=withinT (decide (t.kind=4)) t.text
end Go.Proofs.YtigmdlchbjanoaaGreatDoor
namespace Go.Proofs.YtigmdlchbjanoaaGreatDoor
open Go Go.RowKit
structure TGood (g:Nat) (t:T):Prop where
 kind:1≤t.kind∧t.kind≤8
 atom:t.kind=2∨t.kind=8→TAtom g t t.text
 item:t.kind=2∨t.kind=5∨t.kind=6∨t.kind=7∨t.kind=8→TItem g t t.text∧HeadF t.text
 seq:t.kind ≠ 4→TSeq g t t.text
 alts:TAlts g t t.text
 noQ:t.text.head? ≠ some 63
theorem head_wrap (x:List UInt8):HeadF ([40,63,58] ++ x ++ [41]):=⟨40,[63,58] ++ x ++ [41],by simp,by decide,by decide,by decide,by decide,by decide⟩
theorem within_true (x:List UInt8):withinT true x=[40,63,58] ++ x ++ [41]:=rfl
theorem within_false (x:List UInt8):withinT false x=x:=rfl
theorem TGood.c {g:Nat} {t:T} (h:TGood g t):TItem g t (wC t)∧HeadF (wC t):=by
 have hk:=h.kind
 unfold wC
 by_cases hw:t.kind=3∨t.kind=4∨t.kind=1
 ·rw [decide_eq_true hw,within_true]
  exact ⟨atom_item (wrap_atom h.alts),head_wrap _⟩
 ·rw [decide_eq_false hw,within_false]
  exact h.item (by omega)
theorem HeadF.noQ {x:List UInt8} (h:HeadF x):x.head? ≠ some 63:=by
 obtain ⟨c,r,rfl,h⟩:=h
 intro e
 simp at e
 exact h.2.2.2.2 e
theorem TGood.a {g:Nat} {t:T} (h:TGood g t):TSeq g t (wA t)∧(wA t).head? ≠ some 63:=by
 unfold wA
 by_cases hw:t.kind=4
 ·rw [decide_eq_true hw,within_true]
  exact ⟨item_seq (atom_item (wrap_atom h.alts)) (head_wrap _),(head_wrap _).noQ⟩
 ·rw [decide_eq_false hw,within_false]
  exact ⟨h.seq hw,h.noQ⟩
theorem TGood.r {g:Nat} {t:T} (h:TGood g t):TAtom g t (withinT (decide (t.kind ≠ 2∧t.kind ≠ 8)) t.text)∧HeadF (withinT (decide (t.kind ≠ 2∧t.kind ≠ 8)) t.text):=by
 by_cases hw:t.kind ≠ 2∧t.kind ≠ 8
 ·rw [decide_eq_true hw,within_true]
  exact ⟨wrap_atom h.alts,head_wrap _⟩
 ·rw [decide_eq_false hw,within_false]
  have h2:t.kind=2∨t.kind=8:=by omega
  exact ⟨h.atom h2,(h.item (by omega)).2⟩
end Go.Proofs.YtigmdlchbjanoaaGreatDoor
