/- Put together: Rx5, Rx6, Rx7, Rx8, Rx9, Rx10, Rx20p, Rx20q, Rx20r, Rx22p. -/
import Derived.Test.YtigmdlchbjanoaaGreatDoorPTgL
import Derived.Test.YtigmdlchbjanoaaGreatDoorPTgG
import Derived.Test.YtigmdlchbjanoaaGreatDoorPTgJ
import Derived.Test.YtigmdlchbjanoaaGreatDoorPTgE
namespace Go.Proofs.YtigmdlchbjanoaaGreatDoor
open Go Go.RowKit
inductive PR where
 | out
 | err (k:Nat)
 | ok (t:T) (i gr:Nat)
def noP (_:Nat):Bool:=false
def allP (_:Nat):Bool:=true
def mkAlt:List T→T
 | [t]=>t
 | ts=>.node 4 0 false noP ts
def mkCat:List T→T
 | []=>.node 1 0 false noP []
 | [t]=>t
 | ts=>.node 3 0 false noP ts
def setP (p:Nat→Bool) (n k i gr:Nat):PR:=if k=0 then .ok (.node 2 0 false p []) (i+n) gr else .err k
def repP (l:List UInt8) (t:T) (i gr:Nat):PR:=
 match l[i]? with
 | none=>.ok t i gr
 | some c =>
  if c=42∨c=43∨c=63 then
   if c ≠ 63∧t.nullable=true then .err 15
   else
    let z:=decide (l[i+1]?=some 63)
    .ok (.node (if c=42 then 5 else if c=43 then 6 else 7) 0 z noP [t]) (if z then i+2 else i+1) gr
  else .ok t i gr
def closeP (l:List UInt8) (r:PR) (num:Nat):PR:=
 match r with
 | .out=>.out
 | .err k=>.err k
 | .ok t i gr=>match l[i]? with
  | none=>.err 3
  | some _=>.ok (if num=0 then t else .node 8 (num:Int) false noP [t]) (i+1) gr
mutual
def altsP (l:List UInt8):Nat→Nat→Nat→Nat→List T→PR
 | 0,_,_,_,_=>.out
 | f+1,ne,i,gr,acc=>match itemsP l f ne i gr [] with
  | .out=>.out
  | .err k=>.err k
  | .ok t i gr=>if l[i]?=some 124 then altsP l f ne (i+1) gr (acc ++ [t]) else .ok (mkAlt (acc ++ [t])) i gr
def itemsP (l:List UInt8):Nat→Nat→Nat→Nat→List T→PR
 | 0,_,_,_,_=>.out
 | f+1,ne,i,gr,acc=>match l[i]? with
  | none=>.ok (mkCat acc) i gr
  | some c=>if c=124∨c=41 then .ok (mkCat acc) i gr else match itemP l f ne i gr with
   | .out=>.out
   | .err k=>.err k
   | .ok t i gr=>itemsP l f ne i gr (acc ++ [t])
def itemP (l:List UInt8):Nat→Nat→Nat→Nat→PR
 | 0,_,_,_=>.out
 | f+1,ne,i,gr=>match atomP l f ne i gr with
  | .out=>.out
  | .err k=>.err k
  | .ok t i gr=>repP l t i gr
def atomP (l:List UInt8):Nat→Nat→Nat→Nat→PR
 | 0,_,_,_=>.out
 | f+1,ne,i,gr=>match l[i]? with
  | none=>.out
  | some c =>
   if c=40 then bracketP l f ne i gr
   else if c=91 then setP (parseS (l.drop i)).1 (parseS (l.drop i)).2.1 (parseS (l.drop i)).2.2 i gr
   else if c=92 then setP (escS (l.drop i)).set (escS (l.drop i)).size (escS (l.drop i)).err i gr
   else if c=46 then setP allP 1 0 i gr
   else if c=42∨c=43∨c=63 then .err 5
   else setP (fun j=>j == c.toNat) 1 0 i gr
def bracketP (l:List UInt8):Nat→Nat→Nat→Nat→PR
 | 0,_,_,_=>.out
 | f+1,ne,i,gr =>
  if ne=8 then .err 11
  else if l[i+1]?=some 63 then
   match l[i+2]? with
   | none=>.err 3
   | some c=>if c=58 then closeP l (altsP l f (ne+1) (i+3) gr []) 0 else .err 5
  else if gr=9 then .err 2
  else closeP l (altsP l f (ne+1) (i+1) (gr+1) []) (gr+1)
end
end Go.Proofs.YtigmdlchbjanoaaGreatDoor
namespace Go.Proofs.YtigmdlchbjanoaaGreatDoor
open Go Go.RowKit
theorem get_ext {l m:List UInt8} {i:Nat} {a:UInt8} (h:l[i]?=some a):(l ++ m)[i]?=some a:=by
 rw [List.getElem?_append_left (List.getElem?_eq_some_iff.1 h).1]
 exact h
theorem get_in {l m:List UInt8} {i:Nat} (h:i<l.length):(l ++ m)[i]?=l[i]?:=List.getElem?_append_left h
theorem coded_ext {l m:List UInt8} (h:(codedS l).err ≠ 3):codedS (l ++ m)=codedS l:=by
 unfold codedS at h ⊢
 cases ha:l[2]? with
 | none=>rw [ha] at h;exact absurd rfl h
 | some a =>
  rw [get_ext ha]
  rw [ha] at h
  dsimp only at h ⊢
  cases hd:digO a.toNat with
  | none=>rfl
  | some d =>
   rw [hd] at h
   dsimp only at h ⊢
   cases hb:l[3]? with
   | none=>rw [hb] at h;exact absurd rfl h
   | some b=>rw [get_ext hb]
theorem escC_ext {k:Nat} {l m:List UInt8} (h:(escC k l).err ≠ 3):escC k (l ++ m)=escC k l:=by
 unfold escC at h ⊢
 by_cases hk:k=120
 ·subst hk
  simp at h ⊢
  exact coded_ext h
 ·simp only [hk,if_false]
theorem esc_ext {l m:List UInt8} (h:(escS l).err ≠ 3):escS (l ++ m)=escS l:=by
 rcases l with _ | ⟨a,t⟩
 ·exact absurd rfl h
 ·unfold escS at h ⊢
  simp only [List.cons_append]
  by_cases ha:a.toNat=92
  ·simp only [ha,if_true] at h ⊢
   rcases t with _ | ⟨c,r⟩
   ·exact absurd rfl h
   ·simp only [List.cons_append] at h ⊢
    exact escC_ext (l:=a :: c :: r) h
  ·simp only [ha,if_false]
theorem sign_ext {l m:List UInt8} (h:(signS l).err ≠ 3):signS (l ++ m)=signS l:=by
 rcases l with _ | ⟨c,t⟩
 ·exact absurd rfl h
 ·unfold signS at h ⊢
  simp only [List.cons_append]
  by_cases h1:c.toNat=93∨c.toNat=45
  ·simp only [h1,if_true]
  ·simp only [h1,if_false] at h ⊢
   by_cases h2:c.toNat=92
   ·simp only [h2,if_true] at h ⊢
    exact esc_ext (l:=c :: t) h
   ·simp only [h2,if_false]
theorem item_ext {l m:List UInt8} (h:(itemS l).2.2=0) (hn:(itemS l).2.1<l.length):itemS (l ++ m)=itemS l:=by
 have hf:=sign_fits l
 unfold itemS at h hn ⊢
 cases hs:signS l with
 | bad k =>
  rw [hs] at h hf
  have hf:k=3∨k=5:=hf
  simp at h
  omega
 | cls p n=>rw [sign_ext (by rw [hs];exact (by decide:(0:Nat) ≠ 3)),hs]
 | byte a n =>
  rw [sign_ext (by rw [hs];exact (by decide:(0:Nat) ≠ 3)),hs]
  rw [hs] at h hn hf
  have hf:a<256∧1≤n∧n≤l.length:=hf
  dsimp only at h hn ⊢
  by_cases h45:l[n]?=some 45
  ·rw [if_pos h45] at h hn
   rw [if_pos h45,if_pos (get_ext h45)]
   have hlt:=(List.getElem?_eq_some_iff.1 h45).1
   rw [List.drop_append_of_le_length (by omega)]
   cases hs2:signS (l.drop (n+1)) with
   | bad k =>
    have hf2:=sign_fits (l.drop (n+1))
    rw [hs2] at h hf2
    have hf2:k=3∨k=5:=hf2
    simp at h
    omega
   | cls p k=>rw [hs2] at h;simp at h
   | byte b k=>rw [sign_ext (by rw [hs2];exact (by decide:(0:Nat) ≠ 3)),hs2]
  ·rw [if_neg h45] at h hn
   rw [if_neg h45,get_in hn,if_neg h45]
theorem goS_step (l:List UInt8) (b f k:Nat) (x:Nat→Bool):goS l b (f+1) k x =
  if k ≠ b∧l[k]?=some 93 then (x,k+1,0)
  else if (itemS (l.drop k)).2.2 ≠ 0 then (fun _=>false,0,(itemS (l.drop k)).2.2)
  else goS l b f (k+(itemS (l.drop k)).2.1) (fun j=>x j || (itemS (l.drop k)).1 j):=rfl
theorem goS_in {l:List UInt8} {b:Nat}:∀ {f k:Nat} {x:Nat→Bool},(goS l b f k x).2.2=0→k<l.length:=by
 intro f k x h
 cases f with
 | zero=>simp [goS] at h
 | succ f =>
  rw [goS_step] at h
  by_cases hk:k<l.length
  ·exact hk
  ·exfalso
   have h1:l[k]?=none:=List.getElem?_eq_none (by omega)
   have h2:l.drop k=[]:=List.drop_eq_nil_of_le (by omega)
   have h3:itemS ([]:List UInt8)=(fun _=>false,0,3):=rfl
   rw [if_neg (by rw [h1];simp),h2,h3] at h
   simp at h
theorem goS_ext {l m:List UInt8} {b:Nat} (d:Nat):∀ {f k:Nat} {x:Nat→Bool},(goS l b f k x).2.2=0→goS (l ++ m) b (f+d) k x=goS l b f k x:=by
 intro f
 induction f with
 | zero=>intro k x h;simp [goS] at h
 | succ f ih =>
  intro k x h
  have hk:=goS_in h
  rw [show f+1+d=(f+d)+1 by omega,goS_step,goS_step,get_in hk]
  rw [goS_step] at h
  by_cases he:k ≠ b∧l[k]?=some 93
  ·rw [if_pos he,if_pos he]
  ·rw [if_neg he] at h
   rw [if_neg he,if_neg he]
   by_cases h0:(itemS (l.drop k)).2.2 ≠ 0
   ·rw [if_pos h0] at h
    exact absurd h h0
   ·rw [if_neg h0] at h
    have h0':(itemS (l.drop k)).2.2=0:=by omega
    have hn:=goS_in h
    have hi:itemS ((l ++ m).drop k)=itemS (l.drop k):=by
     rw [List.drop_append_of_le_length (by omega)]
     exact item_ext h0' (by rw [List.length_drop];omega)
    rw [hi,if_neg h0,if_neg h0]
    exact ih h
theorem goS_end {l:List UInt8} {b:Nat}:∀ {f k:Nat} {x:Nat→Bool},(goS l b f k x).2.2=0→k<(goS l b f k x).2.1∧(goS l b f k x).2.1≤l.length:=by
 intro f
 induction f with
 | zero=>intro k x h;simp [goS] at h
 | succ f ih =>
  intro k x h
  have hk:=goS_in h
  rw [goS_step] at h ⊢
  by_cases he:k ≠ b∧l[k]?=some 93
  ·rw [if_pos he]
   exact ⟨by show k<k+1;omega,by show k+1≤l.length;omega⟩
  ·rw [if_neg he] at h ⊢
   by_cases h0:(itemS (l.drop k)).2.2 ≠ 0
   ·rw [if_pos h0] at h
    exact absurd h h0
   ·rw [if_neg h0] at h ⊢
    have:=ih h
    omega
theorem parse_form (t:List UInt8) (b:Bool) (hb:decide ((91 :: t:List UInt8)[1]?=some 94)=b) (r:(Nat→Bool) × Nat × Nat) (hr:goS (91 :: t) (if b then 2 else 1) ((91 :: t:List UInt8).length+1) (if b then 2 else 1) (fun _=>false)=r) :
  parseS (91 :: t)=if r.2.2=0 then (notP b r.1,r.2) else r:=by
 subst hb
 subst hr
 rfl
theorem parse_right {l:List UInt8} (h:(parseS l).2.2=0):∃ t b R,l=91 :: t∧decide ((91 :: t:List UInt8)[1]?=some 94)=b∧goS (91 :: t) (if b then 2 else 1) ((91 :: t:List UInt8).length+1) (if b then 2 else 1) (fun _=>false)=R∧R.2.2=0∧parseS l=(notP b R.1,R.2):=by
 rcases l with _ | ⟨a,t⟩
 ·simp [parseS] at h
 ·by_cases ha:a.toNat=91
  ·obtain rfl:a=91:=UInt8.toNat_inj.1 ha
   obtain ⟨b,hb⟩:∃ b,decide ((91 :: t:List UInt8)[1]?=some 94)=b:=⟨_,rfl⟩
   obtain ⟨R,hR⟩:∃ R,goS (91 :: t) (if b then 2 else 1) ((91 :: t:List UInt8).length+1) (if b then 2 else 1) (fun _=>false)=R:=⟨_,rfl⟩
   have hf:=parse_form t b hb R hR
   by_cases h2:R.2.2=0
   ·rw [if_pos h2] at hf
    exact ⟨t,b,R,rfl,hb,hR,h2,hf⟩
   ·rw [if_neg h2] at hf
    rw [hf] at h
    exact absurd h h2
  ·have:parseS (a :: t)=(fun _=>false,0,5):=by unfold parseS;simp [ha]
   rw [this] at h
   cases h
theorem parse_ext {l m:List UInt8} (h:(parseS l).2.2=0):parseS (l ++ m)=parseS l:=by
 obtain ⟨t,b,R,rfl,hb,hR,h0,hf⟩:=parse_right h
 have hR0:(goS (91 :: t) (if b then 2 else 1) ((91 :: t:List UInt8).length+1) (if b then 2 else 1) (fun _=>false)).2.2=0:=by rw [hR];exact h0
 have hin:=goS_in hR0
 have hb2:decide ((91 :: (t ++ m):List UInt8)[1]?=some 94)=b:=by
  rw [← hb]
  have h1:1<(91 :: t:List UInt8).length:=by
   cases b
   ·exact hin
   ·exact (List.getElem?_eq_some_iff.1 (of_decide_eq_true hb)).1
  have e:(91 :: (t ++ m):List UInt8)[1]?=(91 :: t:List UInt8)[1]?:=get_in (l:=91 :: t) (m:=m) h1
  simp only [e]
 have h2:=goS_ext (l:=91 :: t) (m:=m) m.length hR0
 have hR2:goS (91 :: (t ++ m)) (if b then 2 else 1) ((91 :: (t ++ m):List UInt8).length+1) (if b then 2 else 1) (fun _=>false)=R:=by
  rw [← hR,← h2]
  congr 1
  simp
  omega
 rw [hf]
 have:=parse_form (t ++ m) b hb2 R hR2
 rw [if_pos h0] at this
 exact this
theorem parse_bound {l:List UInt8} (h:(parseS l).2.2=0):1≤(parseS l).2.1∧(parseS l).2.1≤l.length:=by
 obtain ⟨t,b,R,rfl,hb,hR,h0,hf⟩:=parse_right h
 rw [hf]
 have:=goS_end (show (goS (91 :: t) (if b then 2 else 1) ((91 :: t:List UInt8).length+1) (if b then 2 else 1) (fun _=>false)).2.2=0 by rw [hR];exact h0)
 rw [hR] at this
 exact ⟨by show 1≤R.2.1;omega,this.2⟩
end Go.Proofs.YtigmdlchbjanoaaGreatDoor
namespace Go.Proofs.YtigmdlchbjanoaaGreatDoor
open Go Go.RowKit
mutual
def T.shift (d:Nat):T→T
 | .node k m z p ks=>.node k (if k=8 then m+(d:Int) else m) z p (shiftL d ks)
def shiftL (d:Nat):List T→List T
 | []=>[]
 | t :: ts=>t.shift d :: shiftL d ts
end
theorem shiftL_append (d:Nat) (a b:List T):shiftL d (a ++ b)=shiftL d a ++ shiftL d b:=by
 induction a with
 | nil=>simp [shiftL]
 | cons x r ih=>simp only [List.cons_append,shiftL,ih]
mutual
theorem shift_nullable (d:Nat):∀ t:T,(t.shift d).nullable=t.nullable
 | .node k m z p ks=>by rw [T.shift,T.nullable,T.nullable,shiftL_all d ks,shiftL_any d ks,shiftL_head d ks]
theorem shiftL_all (d:Nat):∀ ks:List T,allN (shiftL d ks)=allN ks
 | []=>by rw [shiftL]
 | t :: ts=>by rw [shiftL,allN,allN,shift_nullable d t,shiftL_all d ts]
theorem shiftL_any (d:Nat):∀ ks:List T,anyN (shiftL d ks)=anyN ks
 | []=>by rw [shiftL]
 | t :: ts=>by rw [shiftL,anyN,anyN,shift_nullable d t,shiftL_any d ts]
theorem shiftL_head (d:Nat):∀ ks:List T,headN (shiftL d ks)=headN ks
 | []=>by rw [shiftL]
 | t :: ts=>by rw [shiftL,headN,headN,shift_nullable d t]
end
theorem shift_alt (d:Nat) (l:List T):mkAlt (shiftL d l)=(mkAlt l).shift d:=by
 rcases l with _ | ⟨a,_ | ⟨b,r⟩⟩ <;> simp [shiftL,mkAlt,T.shift]
theorem shift_cat (d:Nat) (l:List T):mkCat (shiftL d l)=(mkCat l).shift d:=by
 rcases l with _ | ⟨a,_ | ⟨b,r⟩⟩ <;> simp [shiftL,mkCat,T.shift]
def Sim (p d:Nat) (t:T) (i gr:Nat) (r:PR):Prop:=r=.ok (t.shift d) (i+p) (gr+d)∨r=.err 2∨r=.err 11
section
variable {P s Q:List UInt8} {d dn:Nat}
def Ends (Q:List UInt8):Prop:=Q=[]∨Q.head?=some 124∨Q.head?=some 41
theorem mid_get {i:Nat} (h:i<s.length):(P ++ s ++ Q)[i+P.length]?=s[i]?:=by
 rw [List.append_assoc,List.getElem?_append_right (by omega),show i+P.length-P.length=i by omega,get_in h]
theorem mid_drop {i:Nat} (h:i≤s.length):(P ++ s ++ Q).drop (i+P.length)=s.drop i ++ Q:=by
 rw [List.append_assoc,List.drop_append,List.drop_eq_nil_of_le (by omega),List.nil_append,show i+P.length-P.length=i by omega,List.drop_append_of_le_length h]
theorem mid_end (hQ:Ends Q):(P ++ s ++ Q)[s.length+P.length]?=none∨(P ++ s ++ Q)[s.length+P.length]?=some 124∨(P ++ s ++ Q)[s.length+P.length]?=some 41:=by
 have e:(P ++ s ++ Q)[s.length+P.length]?=Q.head?:=by
  rw [List.getElem?_append_right (by rw [List.length_append];omega),List.length_append,show s.length+P.length-(P.length+s.length)=0 by omega]
  exact List.head?_eq_getElem?.symm
 rw [e]
 rcases hQ with rfl | h | h
 ·exact .inl rfl
 ·exact .inr (.inl h)
 ·exact .inr (.inr h)
theorem sim_set {p:Nat→Bool} {n k i gr:Nat} {t:T} {i' gr':Nat} (h:setP p n k i gr=.ok t i' gr'):setP p n k (i+P.length) (gr+d)=.ok (t.shift d) (i' + P.length) (gr' + d)∧i'=i+n∧k=0:=by
 unfold setP at h ⊢
 by_cases hk:k=0
 ·rw [if_pos hk] at h ⊢
  simp only [PR.ok.injEq] at h
  obtain ⟨rfl,rfl,rfl⟩:=h
  refine ⟨?_,rfl,hk⟩
  rw [show i+P.length+n=i+n+P.length by omega,T.shift]
  rfl
 ·rw [if_neg hk] at h
  cases h
theorem sim_rep (hQ:Ends Q) {t0 t:T} {i gr i' gr':Nat} (hi:i≤s.length) (h:repP s t0 i gr=.ok t i' gr'):repP (P ++ s ++ Q) (t0.shift d) (i+P.length) (gr+d)=.ok (t.shift d) (i' + P.length) (gr' + d)∧i≤i' ∧ i' ≤ s.length:=by
 unfold repP at h ⊢
 by_cases hlt:i<s.length
 ·rw [mid_get hlt]
  rw [List.getElem?_eq_getElem hlt] at h ⊢
  dsimp only at h ⊢
  by_cases hc:s[i]=42∨s[i]=43∨s[i]=63
  ·rw [if_pos hc] at h ⊢
   rw [shift_nullable]
   by_cases hn:s[i] ≠ 63∧t0.nullable=true
   ·rw [if_pos hn] at h
    cases h
   ·rw [if_neg hn] at h ⊢
    have hz:decide ((P ++ s ++ Q)[i+P.length+1]?=some 63)=decide (s[i+1]?=some 63):=by
     rw [show i+P.length+1=(i+1)+P.length by omega]
     by_cases h1:i+1<s.length
     ·rw [mid_get h1]
     ·have h2:i+1=s.length:=by omega
      rw [h2]
      rw [List.getElem?_eq_none (l:=s) (by omega)]
      rcases mid_end (P:=P) (s:=s) hQ with e | e | e <;> rw [e] <;> rfl
    rw [hz]
    cases hb:decide (s[i+1]?=some 63)
    ·rw [hb] at h
     simp only [Bool.false_eq_true,if_false,PR.ok.injEq] at h ⊢
     obtain ⟨rfl,rfl,rfl⟩:=h
     refine ⟨⟨?_,by omega,rfl⟩,by omega,by omega⟩
     rw [T.shift]
     have:¬ ((if s[i]=42 then 5 else if s[i]=43 then 6 else 7:Int)=8):=by split <;> (try split) <;> omega
     rw [if_neg this]
     rfl
    ·rw [hb] at h
     have h1:=(List.getElem?_eq_some_iff.1 (of_decide_eq_true hb)).1
     simp only [if_true,PR.ok.injEq] at h ⊢
     obtain ⟨rfl,rfl,rfl⟩:=h
     refine ⟨⟨?_,by omega,rfl⟩,by omega,by omega⟩
     rw [T.shift]
     have:¬ ((if s[i]=42 then 5 else if s[i]=43 then 6 else 7:Int)=8):=by split <;> (try split) <;> omega
     rw [if_neg this]
     rfl
  ·rw [if_neg hc] at h ⊢
   simp only [PR.ok.injEq] at h ⊢
   obtain ⟨rfl,rfl,rfl⟩:=h
   exact ⟨⟨rfl,rfl,rfl⟩,Nat.le_refl _,hi⟩
 ·obtain rfl:i=s.length:=by omega
  rw [List.getElem?_eq_none (Nat.le_refl _)] at h
  simp only [PR.ok.injEq] at h
  obtain ⟨rfl,rfl,rfl⟩:=h
  refine ⟨?_,Nat.le_refl _,Nat.le_refl _⟩
  rcases mid_end (P:=P) (s:=s) hQ with e | e | e <;> rw [e] <;> rfl
theorem sim_close {t:T} {r r':PR} {num num' i' gr':Nat} (hn:num'=if num=0 then 0 else num+d)
  (hr:∀ t1 i1 gr1,r=.ok t1 i1 gr1→i1<s.length→Sim P.length d t1 i1 gr1 r') (h:closeP s r num=.ok t i' gr') :
  Sim P.length d t i' gr' (closeP (P ++ s ++ Q) r' num')∧(∃ t1 i1,r=.ok t1 i1 gr' ∧ i1<s.length∧i'=i1+1):=by
 unfold closeP at h
 cases r with
 | out=>cases h
 | err k=>cases h
 | ok t1 i1 gr1 =>
  dsimp only at h
  by_cases hlt:i1<s.length
  ·rw [List.getElem?_eq_getElem hlt] at h
   simp only [PR.ok.injEq] at h
   obtain ⟨rfl,rfl,rfl⟩:=h
   refine ⟨?_,t1,i1,rfl,hlt,rfl⟩
   rcases hr t1 i1 gr1 rfl hlt with e | e | e
   ·left
    rw [e]
    unfold closeP
    dsimp only
    rw [mid_get hlt,List.getElem?_eq_getElem hlt]
    dsimp only
    subst hn
    by_cases h0:num=0
    ·simp only [h0,if_true]
     rw [show i1+P.length+1=i1+1+P.length by omega]
    ·have h1:¬ num+d=0:=by omega
     simp only [h0,h1,if_false]
     rw [show i1+P.length+1=i1+1+P.length by omega,T.shift]
     simp only [shiftL,if_true]
     rw [show ((num+d:Nat):Int)=(num:Int)+(d:Int) by omega]
   ·right;left;rw [e];rfl
   ·right;right;rw [e];rfl
  ·rw [List.getElem?_eq_none (by omega)] at h
   cases h
structure SimAt (P s Q:List UInt8) (d dn f:Nat):Prop where
 alts:∀ ne i gr acc t i' gr',altsP s f ne i gr acc=.ok t i' gr' → i≤s.length→i≤i' ∧ i' ≤ s.length∧((i' < s.length∨Q.head? ≠ some 124)→Sim P.length d t i' gr' (altsP (P ++ s ++ Q) f (ne+dn) (i+P.length) (gr+d) (shiftL d acc)))
 items:∀ ne i gr acc t i' gr',itemsP s f ne i gr acc=.ok t i' gr' → i≤s.length→i≤i' ∧ i' ≤ s.length∧Sim P.length d t i' gr' (itemsP (P ++ s ++ Q) f (ne+dn) (i+P.length) (gr+d) (shiftL d acc))
 item:∀ ne i gr t i' gr',itemP s f ne i gr=.ok t i' gr' → i<i' ∧ i' ≤ s.length∧Sim P.length d t i' gr' (itemP (P ++ s ++ Q) f (ne+dn) (i+P.length) (gr+d))
 atom:∀ ne i gr t i' gr',atomP s f ne i gr=.ok t i' gr' → i<i' ∧ i' ≤ s.length∧Sim P.length d t i' gr' (atomP (P ++ s ++ Q) f (ne+dn) (i+P.length) (gr+d))
 bracket:∀ ne i gr t i' gr',i<s.length→bracketP s f ne i gr=.ok t i' gr' → i<i' ∧ i' ≤ s.length∧Sim P.length d t i' gr' (bracketP (P ++ s ++ Q) f (ne+dn) (i+P.length) (gr+d))
theorem sim_items (hQ:Ends Q) {f:Nat} (ih:SimAt P s Q d dn f):∀ ne i gr acc t i' gr',itemsP s (f+1) ne i gr acc=.ok t i' gr' → i≤s.length→i≤i' ∧ i' ≤ s.length∧Sim P.length d t i' gr' (itemsP (P ++ s ++ Q) (f+1) (ne+dn) (i+P.length) (gr+d) (shiftL d acc)):=by
 intro ne i gr acc t i' gr' h hi
 unfold itemsP at h ⊢
 by_cases hlt:i<s.length
 ·rw [mid_get hlt]
  rw [List.getElem?_eq_getElem hlt] at h ⊢
  dsimp only at h ⊢
  by_cases hc:s[i]=124∨s[i]=41
  ·rw [if_pos hc] at h ⊢
   simp only [PR.ok.injEq] at h
   obtain ⟨rfl,rfl,rfl⟩:=h
   exact ⟨Nat.le_refl _,hi,.inl (by rw [shift_cat])⟩
  ·rw [if_neg hc] at h ⊢
   cases hr:itemP s f ne i gr with
   | out=>rw [hr] at h;cases h
   | err k=>rw [hr] at h;cases h
   | ok t1 i1 gr1 =>
    rw [hr] at h
    dsimp only at h
    obtain ⟨h1,h2,h3⟩:=ih.item ne i gr t1 i1 gr1 hr
    obtain ⟨h4,h5,h6⟩:=ih.items ne i1 gr1 (acc ++ [t1]) t i' gr' h h2
    refine ⟨by omega,h5,?_⟩
    rcases h3 with e | e | e
    ·rw [e]
     dsimp only
     rw [shiftL_append] at h6
     exact h6
    ·rw [e];exact .inr (.inl rfl)
    ·rw [e];exact .inr (.inr rfl)
 ·obtain rfl:i=s.length:=by omega
  rw [List.getElem?_eq_none (Nat.le_refl _)] at h
  simp only [PR.ok.injEq] at h
  obtain ⟨rfl,rfl,rfl⟩:=h
  refine ⟨Nat.le_refl _,Nat.le_refl _,.inl ?_⟩
  rcases mid_end (P:=P) (s:=s) hQ with e | e | e <;> rw [e] <;> simp [shift_cat]
theorem sim_alts {f:Nat} (ih:SimAt P s Q d dn f):∀ ne i gr acc t i' gr',altsP s (f+1) ne i gr acc=.ok t i' gr' → i≤s.length→i≤i' ∧ i' ≤ s.length∧((i' < s.length∨Q.head? ≠ some 124)→Sim P.length d t i' gr' (altsP (P ++ s ++ Q) (f+1) (ne+dn) (i+P.length) (gr+d) (shiftL d acc))):=by
 intro ne i gr acc t i' gr' h hi
 unfold altsP at h ⊢
 cases hr:itemsP s f ne i gr [] with
 | out=>rw [hr] at h;cases h
 | err k=>rw [hr] at h;cases h
 | ok t1 i1 gr1 =>
  rw [hr] at h
  dsimp only at h
  obtain ⟨h1,h2,h3⟩:=ih.items ne i gr [] t1 i1 gr1 hr hi
  by_cases hb:s[i1]?=some 124
  ·rw [if_pos hb] at h
   have hlt:=(List.getElem?_eq_some_iff.1 hb).1
   obtain ⟨h4,h5,h6⟩:=ih.alts ne (i1+1) gr1 (acc ++ [t1]) t i' gr' h (by omega)
   refine ⟨by omega,h5,fun hx=>?_⟩
   rw [show shiftL d ([]:List T)=[] from rfl] at h3
   rcases h3 with e | e | e
   ·rw [e]
    dsimp only
    rw [mid_get hlt,if_pos hb,show i1+P.length+1=i1+1+P.length by omega]
    have:=h6 hx
    rw [shiftL_append] at this
    exact this
   ·rw [e];exact .inr (.inl rfl)
   ·rw [e];exact .inr (.inr rfl)
  ·rw [if_neg hb] at h
   simp only [PR.ok.injEq] at h
   obtain ⟨rfl,rfl,rfl⟩:=h
   refine ⟨h1,h2,fun hx=>?_⟩
   rw [show shiftL d ([]:List T)=[] from rfl] at h3
   rcases h3 with e | e | e
   ·rw [e]
    dsimp only
    have hb2:¬ (P ++ s ++ Q)[i1+P.length]?=some 124:=by
     by_cases hlt:i1<s.length
     ·rw [mid_get hlt];exact hb
     ·obtain rfl:i1=s.length:=by omega
      rcases hx with hx | hx
      ·omega
      ·intro e2
       apply hx
       rw [← e2,List.getElem?_append_right (by rw [List.length_append];omega),List.length_append,show s.length+P.length-(P.length+s.length)=0 by omega]
       exact List.head?_eq_getElem?
    rw [if_neg hb2]
    left
    rw [← shift_alt,shiftL_append]
    rfl
   ·rw [e];exact .inr (.inl rfl)
   ·rw [e];exact .inr (.inr rfl)
theorem sim_item (hQ:Ends Q) {f:Nat} (ih:SimAt P s Q d dn f):∀ ne i gr t i' gr',itemP s (f+1) ne i gr=.ok t i' gr' → i<i' ∧ i' ≤ s.length∧Sim P.length d t i' gr' (itemP (P ++ s ++ Q) (f+1) (ne+dn) (i+P.length) (gr+d)):=by
 intro ne i gr t i' gr' h
 unfold itemP at h ⊢
 cases hr:atomP s f ne i gr with
 | out=>rw [hr] at h;cases h
 | err k=>rw [hr] at h;cases h
 | ok t1 i1 gr1 =>
  rw [hr] at h
  dsimp only at h
  obtain ⟨h1,h2,h3⟩:=ih.atom ne i gr t1 i1 gr1 hr
  obtain ⟨h4,h5,h6⟩:=sim_rep (P:=P) (d:=d) hQ h2 h
  refine ⟨by omega,h6,?_⟩
  rcases h3 with e | e | e
  ·rw [e];exact .inl h4
  ·rw [e];exact .inr (.inl rfl)
  ·rw [e];exact .inr (.inr rfl)
theorem sim_atom {f:Nat} (ih:SimAt P s Q d dn f):∀ ne i gr t i' gr',atomP s (f+1) ne i gr=.ok t i' gr' → i<i' ∧ i' ≤ s.length∧Sim P.length d t i' gr' (atomP (P ++ s ++ Q) (f+1) (ne+dn) (i+P.length) (gr+d)):=by
 intro ne i gr t i' gr' h
 unfold atomP at h ⊢
 by_cases hlt:i<s.length
 ·rw [mid_get hlt,mid_drop (Nat.le_of_lt hlt)]
  rw [List.getElem?_eq_getElem hlt] at h ⊢
  dsimp only at h ⊢
  by_cases c1:s[i]=40
  ·rw [if_pos c1] at h ⊢
   exact ih.bracket ne i gr t i' gr' hlt h
  rw [if_neg c1] at h ⊢
  by_cases c2:s[i]=91
  ·rw [if_pos c2] at h ⊢
   obtain ⟨h1,h2,h3⟩:=sim_set (P:=P) (d:=d) h
   rw [parse_ext h3]
   have hb:=parse_bound (l:=s.drop i) h3
   rw [List.length_drop] at hb
   exact ⟨by omega,by omega,.inl h1⟩
  rw [if_neg c2] at h ⊢
  by_cases c3:s[i]=92
  ·rw [if_pos c3] at h ⊢
   obtain ⟨h1,h2,h3⟩:=sim_set (P:=P) (d:=d) h
   rw [esc_ext (by rw [h3];decide)]
   have hb:=esc_fits (s.drop i)
   have hb2:1≤(escS (s.drop i)).size∧(escS (s.drop i)).size≤(s.drop i).length:=by
    cases he:escS (s.drop i) with
    | bad k=>rw [he] at hb h3;have hb:k=3∨k=5:=hb;have h3:k=0:=h3;omega
    | byte m n=>rw [he] at hb;exact hb.2
    | cls p n=>rw [he] at hb;exact hb
   rw [List.length_drop] at hb2
   exact ⟨by omega,by omega,.inl h1⟩
  rw [if_neg c3] at h ⊢
  by_cases c4:s[i]=46
  ·rw [if_pos c4] at h ⊢
   obtain ⟨h1,h2,h3⟩:=sim_set (P:=P) (d:=d) h
   exact ⟨by omega,by omega,.inl h1⟩
  rw [if_neg c4] at h ⊢
  by_cases c5:s[i]=42∨s[i]=43∨s[i]=63
  ·rw [if_pos c5] at h
   cases h
  ·rw [if_neg c5] at h ⊢
   obtain ⟨h1,h2,h3⟩:=sim_set (P:=P) (d:=d) h
   exact ⟨by omega,by omega,.inl h1⟩
 ·rw [List.getElem?_eq_none (by omega)] at h
  cases h
theorem sim_bracket {f:Nat} (ih:SimAt P s Q d dn f):∀ ne i gr t i' gr',i<s.length→bracketP s (f+1) ne i gr=.ok t i' gr' → i<i' ∧ i' ≤ s.length∧Sim P.length d t i' gr' (bracketP (P ++ s ++ Q) (f+1) (ne+dn) (i+P.length) (gr+d)):=by
 intro ne i gr t i' gr' hlt h
 unfold bracketP at h ⊢
 by_cases hne:ne=8
 ·rw [if_pos hne] at h;cases h
 rw [if_neg hne] at h
 by_cases hne2:ne+dn=8
 ·rw [if_pos hne2]
  refine ⟨?_,?_,.inr (.inr rfl)⟩
  all_goals
   by_cases hq:s[i+1]?=some 63
   ·rw [if_pos hq] at h
    cases h2:s[i+2]? with
    | none=>rw [h2] at h;cases h
    | some c =>
     rw [h2] at h
     dsimp only at h
     by_cases hc:c=58
     ·rw [if_pos hc] at h
      have hl2:=(List.getElem?_eq_some_iff.1 h2).1
      obtain ⟨_,t1,i1,e1,e2,e3⟩:=sim_close (P:=P) (Q:=Q) (d:=d) (r':=.err 2) (num':=0) (by simp) (fun _ _ _ _ _=>.inr (.inl rfl)) h
      have:=(ih.alts _ _ _ _ _ _ _ e1 (by omega)).1
      omega
     ·rw [if_neg hc] at h;cases h
   ·rw [if_neg hq] at h
    by_cases hg:gr=9
    ·rw [if_pos hg] at h;cases h
    ·rw [if_neg hg] at h
     obtain ⟨_,t1,i1,e1,e2,e3⟩:=sim_close (P:=P) (Q:=Q) (d:=d) (r':=.err 2) (num':=gr+1+d) (by simp) (fun _ _ _ _ _=>.inr (.inl rfl)) h
     have:=(ih.alts _ _ _ _ _ _ _ e1 (by omega)).1
     omega
 rw [if_neg hne2]
 by_cases hq:s[i+1]?=some 63
 ·rw [if_pos hq] at h
  have hl1:=(List.getElem?_eq_some_iff.1 hq).1
  rw [show i+P.length+1=i+1+P.length by omega,show i+P.length+2=i+2+P.length by omega,mid_get hl1,if_pos hq]
  cases h2:s[i+2]? with
  | none=>rw [h2] at h;cases h
  | some c =>
   have hl2:=(List.getElem?_eq_some_iff.1 h2).1
   rw [mid_get hl2,h2]
   rw [h2] at h
   dsimp only at h ⊢
   by_cases hc:c=58
   ·rw [if_pos hc] at h ⊢
    obtain ⟨e0,t1,i1,e1,e2,e3⟩:=sim_close (P:=P) (Q:=Q) (d:=d) (r':=altsP (P ++ s ++ Q) f (ne+1+dn) (i+3+P.length) (gr+d) (shiftL d [])) (num':=0) (by simp)
     (fun t1 i1 gr1 e hl=>(ih.alts _ _ _ _ _ _ _ e (by omega)).2.2 (.inl hl)) h
    have:=(ih.alts _ _ _ _ _ _ _ e1 (by omega)).1
    refine ⟨by omega,by omega,?_⟩
    rw [show ne+dn+1=ne+1+dn by omega,show i+P.length+3=i+3+P.length by omega]
    exact e0
   ·rw [if_neg hc] at h;cases h
 ·rw [if_neg hq] at h
  by_cases hg:gr=9
  ·rw [if_pos hg] at h;cases h
  rw [if_neg hg] at h
  obtain ⟨e0,t1,i1,e1,e2,e3⟩:=sim_close (P:=P) (Q:=Q) (d:=d) (r':=altsP (P ++ s ++ Q) f (ne+1+dn) (i+1+P.length) (gr+1+d) (shiftL d [])) (num':=gr+1+d) (by simp)
   (fun t1 i1 gr1 e hl=>(ih.alts _ _ _ _ _ _ _ e (by omega)).2.2 (.inl hl)) h
  have hle:=(ih.alts _ _ _ _ _ _ _ e1 (by omega)).1
  refine ⟨by omega,by omega,?_⟩
  have hq2:¬ (P ++ s ++ Q)[i+P.length+1]?=some 63:=by
   rw [show i+P.length+1=i+1+P.length by omega,mid_get (by omega)]
   exact hq
  rw [if_neg hq2]
  by_cases hg2:gr+d=9
  ·rw [if_pos hg2];exact .inr (.inl rfl)
  ·rw [if_neg hg2,show ne+dn+1=ne+1+dn by omega,show i+P.length+1=i+1+P.length by omega,show gr+d+1=gr+1+d by omega]
   exact e0
theorem sim_all (hQ:Ends Q):∀ f,SimAt P s Q d dn f:=by
 intro f
 induction f with
 | zero=>exact ⟨fun _ _ _ _ _ _ _ h=>by simp [altsP] at h,fun _ _ _ _ _ _ _ h=>by simp [itemsP] at h,fun _ _ _ _ _ _ h=>by simp [itemP] at h,fun _ _ _ _ _ _ h=>by simp [atomP] at h,fun _ _ _ _ _ _ _ h=>by simp [bracketP] at h⟩
 | succ f ih=>exact ⟨sim_alts ih,sim_items hQ ih,sim_item hQ ih,sim_atom ih,sim_bracket ih⟩
end
end Go.Proofs.YtigmdlchbjanoaaGreatDoor
namespace Go.Proofs.YtigmdlchbjanoaaGreatDoor
open Go Go.RowKit
theorem ends_nil:Ends []:=.inl rfl
theorem bounds_all (s:List UInt8) (f:Nat):SimAt [] s [] 0 0 f:=sim_all ends_nil f
theorem no_out (s:List UInt8):∀ n,∀ i,i≤s.length→s.length-i≤n →
  (∀ f ne gr,i<s.length→5*n+1≤f→bracketP s f ne i gr ≠ .out)∧(∀ f ne gr,i<s.length→5*n+2≤f→atomP s f ne i gr ≠ .out) ∧
  (∀ f ne gr,i<s.length→5*n+3≤f→itemP s f ne i gr ≠ .out)∧(∀ f ne gr acc,5*n+4≤f→itemsP s f ne i gr acc ≠ .out)∧(∀ f ne gr acc,5*n+5≤f→altsP s f ne i gr acc ≠ .out):=by
 intro n
 induction n with
 | zero =>
  intro i hi hn
  obtain rfl:i=s.length:=by omega
  have hnone:s[s.length]?=none:=List.getElem?_eq_none (Nat.le_refl _)
  have hitems:∀ f ne gr acc,4≤f→itemsP s f ne s.length gr acc=.ok (mkCat acc) s.length gr:=by
   intro f ne gr acc hf
   obtain ⟨f,rfl⟩:∃ g,f=g+1:=⟨f-1,by omega⟩
   unfold itemsP
   rw [hnone]
  refine ⟨fun _ _ _ h=>by omega,fun _ _ _ h=>by omega,fun _ _ _ h=>by omega,fun f ne gr acc hf=>?_,fun f ne gr acc hf=>?_⟩
  ·rw [hitems f ne gr acc (by omega)]
   intro h;cases h
  ·obtain ⟨f,rfl⟩:∃ g,f=g+1:=⟨f-1,by omega⟩
   unfold altsP
   rw [hitems f ne gr [] (by omega)]
   dsimp only
   rw [hnone,if_neg (by simp)]
   intro h;cases h
 | succ n ih =>
  intro i hi hn
  have hbr:∀ f ne gr,i<s.length→5*(n+1)+1≤f→bracketP s f ne i gr ≠ .out:=by
   intro f ne gr hlt hf
   obtain ⟨f,rfl⟩:∃ g,f=g+1:=⟨f-1,by omega⟩
   have hcl:∀ r num,r ≠ PR.out→closeP s r num ≠ .out:=by
    intro r num hr
    unfold closeP
    cases r with
    | out=>exact absurd rfl hr
    | err k=>intro h;cases h
    | ok t i gr=>dsimp only;cases s[i]? <;> (intro h;cases h)
   unfold bracketP
   by_cases h1:ne=8
   ·rw [if_pos h1];intro h;cases h
   rw [if_neg h1]
   by_cases h2:s[i+1]?=some 63
   ·rw [if_pos h2]
    cases h3:s[i+2]? with
    | none=>intro h;cases h
    | some c =>
     have hl:=(List.getElem?_eq_some_iff.1 h3).1
     dsimp only
     by_cases h4:c=58
     ·rw [if_pos h4]
      exact hcl _ _ ((ih (i+3) (by omega) (by omega)).2.2.2.2 _ _ _ _ (by omega))
     ·rw [if_neg h4];intro h;cases h
   ·rw [if_neg h2]
    by_cases h4:gr=9
    ·rw [if_pos h4];intro h;cases h
    ·rw [if_neg h4]
     exact hcl _ _ ((ih (i+1) (by omega) (by omega)).2.2.2.2 _ _ _ _ (by omega))
  have hset:∀ p n k i gr,setP p n k i gr ≠ .out:=by
   intro p n k i gr
   unfold setP
   split <;> (intro h;cases h)
  have hat:∀ f ne gr,i<s.length→5*(n+1)+2≤f→atomP s f ne i gr ≠ .out:=by
   intro f ne gr hlt hf
   obtain ⟨f,rfl⟩:∃ g,f=g+1:=⟨f-1,by omega⟩
   unfold atomP
   rw [List.getElem?_eq_getElem hlt]
   dsimp only
   (repeat' split) <;> first
    | exact hbr f ne gr hlt (by omega)
    | exact hset _ _ _ _ _
    | (intro h;cases h)
  have hrep:∀ t i gr,repP s t i gr ≠ .out:=by
   intro t i gr
   unfold repP
   (repeat' split) <;> (intro h;cases h)
  have hit:∀ f ne gr,i<s.length→5*(n+1)+3≤f→itemP s f ne i gr ≠ .out:=by
   intro f ne gr hlt hf
   obtain ⟨f,rfl⟩:∃ g,f=g+1:=⟨f-1,by omega⟩
   unfold itemP
   cases h1:atomP s f ne i gr with
   | out=>exact absurd h1 (hat f ne gr hlt (by omega))
   | err k=>intro h;cases h
   | ok t i gr=>exact hrep _ _ _
  have hits:∀ f ne gr acc,5*(n+1)+4≤f→itemsP s f ne i gr acc ≠ .out:=by
   intro f ne gr acc hf
   obtain ⟨f,rfl⟩:∃ g,f=g+1:=⟨f-1,by omega⟩
   unfold itemsP
   cases h0:s[i]? with
   | none=>intro h;cases h
   | some c =>
    have hlt:=(List.getElem?_eq_some_iff.1 h0).1
    dsimp only
    by_cases hc:c=124∨c=41
    ·rw [if_pos hc];intro h;cases h
    ·rw [if_neg hc]
     cases h1:itemP s f ne i gr with
     | out=>exact absurd h1 (hit f ne gr hlt (by omega))
     | err k=>intro h;cases h
     | ok t i1 gr1 =>
      have hb:=(bounds_all s f).item ne i gr t i1 gr1 h1
      exact (ih i1 hb.2.1 (by omega)).2.2.2.1 _ _ _ _ (by omega)
  refine ⟨hbr,hat,hit,hits,fun f ne gr acc hf=>?_⟩
  obtain ⟨f,rfl⟩:∃ g,f=g+1:=⟨f-1,by omega⟩
  unfold altsP
  cases h1:itemsP s f ne i gr [] with
  | out=>exact absurd h1 (hits f ne gr [] (by omega))
  | err k=>intro h;cases h
  | ok t i1 gr1 =>
   dsimp only
   by_cases hb:s[i1]?=some 124
   ·rw [if_pos hb]
    have hlt:=(List.getElem?_eq_some_iff.1 hb).1
    have h2:=(bounds_all s f).items ne i gr [] t i1 gr1 h1 hi
    exact (ih (i1+1) (by omega) (by omega)).2.2.2.2 _ _ _ _ (by omega)
   ·rw [if_neg hb];intro h;cases h
end Go.Proofs.YtigmdlchbjanoaaGreatDoor
namespace Go.Proofs.YtigmdlchbjanoaaGreatDoor
open Go Go.RowKit
def parseR (s:List UInt8):PR:=
 if 120<s.length then .err 4 else
 match altsP s (5*s.length+5) 0 0 0 [] with
 | .out=>.out
 | .err k=>.err k
 | .ok t i gr=>if i<s.length then .err 5 else .ok t i gr
theorem parseR_ok {s:List UInt8} {t:T} {i gr:Nat} (h:parseR s=.ok t i gr):s.length≤120∧i=s.length∧altsP s (5*s.length+5) 0 0 0 []=.ok t s.length gr:=by
 unfold parseR at h
 by_cases h1:120<s.length
 ·rw [if_pos h1] at h;cases h
 ·rw [if_neg h1] at h
  cases h2:altsP s (5*s.length+5) 0 0 0 [] with
  | out=>rw [h2] at h;cases h
  | err k=>rw [h2] at h;cases h
  | ok t' i' gr' =>
   rw [h2] at h
   dsimp only at h
   have hb:=((bounds_all s _).alts _ _ _ _ _ _ _ h2 (by omega)).2.1
   by_cases h3:i' < s.length
   ·rw [if_pos h3] at h;cases h
   ·rw [if_neg h3] at h
    simp only [PR.ok.injEq] at h
    obtain ⟨rfl,rfl,rfl⟩:=h
    have:i'=s.length:=by omega
    subst this
    exact ⟨by omega,rfl,rfl⟩
theorem any_append (a b:List T):anyN (a ++ b)=(anyN a || anyN b):=by
 induction a with
 | nil=>simp [anyN]
 | cons x r ih=>simp only [List.cons_append,anyN,ih,Bool.or_assoc]
end Go.Proofs.YtigmdlchbjanoaaGreatDoor
namespace Go.Proofs.YtigmdlchbjanoaaGreatDoor
open Go Go.RowKit
def withinT (b:Bool) (s:List UInt8):List UInt8:=if b then [40,63,58] ++ s ++ [41] else s
def signR (k:Int) (z:Bool):List UInt8:=(if k=5 then [42] else if k=6 then [43] else [63]) ++ (if z then [63] else [])
mutual
def T.text:T→List UInt8
 | .node k _ z p ks =>
  if k=2 then textT p else if k=3 then catT ks else if k=4 then altT ks else if k=8 then 40 :: (headT ks ++ [41])
  else if k=5∨k=6∨k=7 then headW ks ++ signR k z else []
def catT:List T→List UInt8
 | []=>[]
 | t :: ts=>withinT (decide (t.kind=3∨t.kind=4∨t.kind=1)) t.text ++ catT ts
def altT:List T→List UInt8
 | []=>[]
 | t :: ts=>withinT (decide (t.kind=4)) t.text ++ altR ts
def altR:List T→List UInt8
 | []=>[]
 | t :: ts=>124 :: (withinT (decide (t.kind=4)) t.text ++ altR ts)
def headT:List T→List UInt8
 | []=>[]
 | t :: _=>t.text
def headW:List T→List UInt8
 | []=>[]
 | t :: _=>withinT (decide (t.kind ≠ 2∧t.kind ≠ 8)) t.text
end
end Go.Proofs.YtigmdlchbjanoaaGreatDoor
namespace Go.Proofs.YtigmdlchbjanoaaGreatDoor
open Go Go.RowKit
end Go.Proofs.YtigmdlchbjanoaaGreatDoor
namespace Go.Proofs.YtigmdlchbjanoaaGreatDoor
open Go Go.RowKit
end Go.Proofs.YtigmdlchbjanoaaGreatDoor
namespace Go.Proofs.YtigmdlchbjanoaaGreatDoor
open Go Go.RowKit
end Go.Proofs.YtigmdlchbjanoaaGreatDoor
namespace Go.Proofs.YtigmdlchbjanoaaGreatDoor
open Go Go.RowKit
structure SzAt (s:List UInt8) (f:Nat):Prop where
 alts:∀ ne i gr acc t i' gr',altsP s f ne i gr acc=.ok t i' gr' → i≤s.length→t.size+2*i≤sizeL acc+2*i' + 2
 items:∀ ne i gr acc t i' gr',itemsP s f ne i gr acc=.ok t i' gr' → i≤s.length→t.size+2*i≤sizeL acc+2*i' + 1
 item:∀ ne i gr t i' gr',itemP s f ne i gr=.ok t i' gr' → t.size+2*i≤2*i'
 atom:∀ ne i gr t i' gr',atomP s f ne i gr=.ok t i' gr' → t.size+2*i≤2*i'
 bracket:∀ ne i gr t i' gr',i<s.length→bracketP s f ne i gr=.ok t i' gr' → t.size+2*i≤2*i'
theorem mkAlt_size (l:List T):(mkAlt l).size≤sizeL l+1:=by
 rcases l with _ | ⟨a,_ | ⟨b,r⟩⟩
 ·simp [mkAlt,size_node,sizeL]
 ·simp [mkAlt,sizeL]
 ·simp only [mkAlt,size_node];omega
theorem mkCat_size (l:List T):(mkCat l).size≤sizeL l+1:=by
 rcases l with _ | ⟨a,_ | ⟨b,r⟩⟩
 ·simp [mkCat,size_node,sizeL]
 ·simp [mkCat,sizeL]
 ·simp only [mkCat,size_node];omega
theorem sizeL_snoc (l:List T) (t:T):sizeL (l ++ [t])=sizeL l+t.size:=by rw [sizeL_append,sizeL,sizeL];omega
theorem setP_size {p:Nat→Bool} {n k i gr:Nat} {t:T} {i' gr':Nat} (h:setP p n k i gr=.ok t i' gr'):t.size=1:=by
 unfold setP at h
 split at h
 ·simp only [PR.ok.injEq] at h
  obtain ⟨rfl,_,_⟩:=h
  simp [size_node,sizeL]
 ·cases h
theorem rep_size {s:List UInt8} {t u:T} {i gr i' gr':Nat} (h:repP s t i gr=.ok u i' gr'):u.size+2*i≤t.size+2*i':=by
 unfold repP at h
 split at h
 ·simp only [PR.ok.injEq] at h
  obtain ⟨rfl,rfl,_⟩:=h
  omega
 ·split at h
  ·split at h
   ·cases h
   ·simp only [PR.ok.injEq] at h
    obtain ⟨rfl,h2,_⟩:=h
    rw [size_node,sizeL,sizeL]
    split at h2 <;> omega
  ·simp only [PR.ok.injEq] at h
   obtain ⟨rfl,rfl,_⟩:=h
   omega
theorem close_ok {l:List UInt8} {r:PR} {num:Nat} {t:T} {i' gr':Nat} (h:closeP l r num=.ok t i' gr'):∃ u j,r=.ok u j gr' ∧ i'=j+1∧t=(if num=0 then u else .node 8 (num:Int) false noP [u])∧j<l.length:=by
 unfold closeP at h
 cases r with
 | out=>cases h
 | err k=>cases h
 | ok u j g =>
  dsimp only at h
  cases hj:l[j]? with
  | none=>rw [hj] at h;cases h
  | some c =>
   rw [hj] at h
   simp only [PR.ok.injEq] at h
   obtain ⟨h1,h2,rfl⟩:=h
   exact ⟨u,j,rfl,h2.symm,h1.symm,(List.getElem?_eq_some_iff.1 hj).1⟩
theorem close_size {l:List UInt8} {r:PR} {num:Nat} {t:T} {i' gr':Nat} (h:closeP l r num=.ok t i' gr'):∃ u j,r=.ok u j gr' ∧ i'=j+1∧t.size≤u.size+1:=by
 obtain ⟨u,j,h1,h2,h3,_⟩:=close_ok h
 refine ⟨u,j,h1,h2,?_⟩
 rw [h3]
 split
 ·omega
 ·rw [size_node,sizeL,sizeL];omega
theorem sz_all (s:List UInt8):∀ f,SzAt s f:=by
 intro f
 induction f with
 | zero=>exact ⟨fun _ _ _ _ _ _ _ h=>by simp [altsP] at h,fun _ _ _ _ _ _ _ h=>by simp [itemsP] at h,fun _ _ _ _ _ _ h=>by simp [itemP] at h,fun _ _ _ _ _ _ h=>by simp [atomP] at h,fun _ _ _ _ _ _ _ h=>by simp [bracketP] at h⟩
 | succ f ih =>
  refine ⟨?_,?_,?_,?_,?_⟩
  ·intro ne i gr acc t i' gr' h hi
   rw [altsP] at h
   cases h1:itemsP s f ne i gr [] with
   | out=>rw [h1] at h;cases h
   | err k=>rw [h1] at h;cases h
   | ok t1 i1 gr1 =>
    rw [h1] at h
    dsimp only at h
    have h2:=ih.items _ _ _ _ _ _ _ h1 hi
    rw [sizeL] at h2
    split at h
    ·rename_i hb
     have hlt:=(List.getElem?_eq_some_iff.1 hb).1
     have h3:=ih.alts _ _ _ _ _ _ _ h (by omega)
     rw [sizeL_snoc] at h3
     omega
    ·simp only [PR.ok.injEq] at h
     obtain ⟨rfl,rfl,_⟩:=h
     have h3:=mkAlt_size (acc ++ [t1])
     rw [sizeL_snoc] at h3
     omega
  ·intro ne i gr acc t i' gr' h hi
   rw [itemsP] at h
   have hc:∀ {t:T} {i' gr':Nat},PR.ok (mkCat acc) i gr=.ok t i' gr' → t.size+2*i≤sizeL acc+2*i' + 1:=by
    intro t i' gr' h
    simp only [PR.ok.injEq] at h
    obtain ⟨rfl,rfl,_⟩:=h
    have:=mkCat_size acc
    omega
   split at h
   ·exact hc h
   ·split at h
    ·exact hc h
    ·cases h1:itemP s f ne i gr with
     | out=>rw [h1] at h;cases h
     | err k=>rw [h1] at h;cases h
     | ok t1 i1 gr1 =>
      rw [h1] at h
      dsimp only at h
      have h2:=ih.item _ _ _ _ _ _ h1
      have hb:=(bounds_all s f).item _ _ _ _ _ _ h1
      have h3:=ih.items _ _ _ _ _ _ _ h hb.2.1
      rw [sizeL_snoc] at h3
      omega
  ·intro ne i gr t i' gr' h
   rw [itemP] at h
   cases h1:atomP s f ne i gr with
   | out=>rw [h1] at h;cases h
   | err k=>rw [h1] at h;cases h
   | ok t1 i1 gr1 =>
    rw [h1] at h
    dsimp only at h
    have h2:=ih.atom _ _ _ _ _ _ h1
    have h3:=rep_size h
    omega
  ·intro ne i gr t i' gr' h
   have hb:=(bounds_all s (f+1)).atom _ _ _ _ _ _ h
   rw [atomP] at h
   cases hc:s[i]? with
   | none=>rw [hc] at h;cases h
   | some c =>
    rw [hc] at h
    dsimp only at h
    have hlt:=(List.getElem?_eq_some_iff.1 hc).1
    split at h
    ·exact ih.bracket _ _ _ _ _ _ hlt h
    ·have key:t.size=1:=by
      split at h
      ·exact setP_size h
      ·split at h
       ·exact setP_size h
       ·split at h
        ·exact setP_size h
        ·split at h
         ·cases h
         ·exact setP_size h
     omega
  ·intro ne i gr t i' gr' hi h
   rw [bracketP] at h
   split at h
   ·cases h
   ·split at h
    ·split at h
     ·cases h
     ·rename_i c hc
      have hlt:=(List.getElem?_eq_some_iff.1 hc).1
      split at h
      ·obtain ⟨u,j,h1,rfl,h3⟩:=close_size h
       have h2:=ih.alts _ _ _ _ _ _ _ h1 (by omega)
       rw [sizeL] at h2
       omega
      ·cases h
    ·split at h
     ·cases h
     ·obtain ⟨u,j,h1,rfl,h3⟩:=close_size h
      have h2:=ih.alts _ _ _ _ _ _ _ h1 (by omega)
      rw [sizeL] at h2
      omega
theorem parseR_size {s:List UInt8} {t:T} {i gr:Nat} (h:parseR s=.ok t i gr):t.size≤242:=by
 obtain ⟨h1,_,h2⟩:=parseR_ok h
 have h3:=(sz_all s _).alts _ _ _ _ _ _ _ h2 (by omega)
 rw [sizeL] at h3
 omega
end Go.Proofs.YtigmdlchbjanoaaGreatDoor
