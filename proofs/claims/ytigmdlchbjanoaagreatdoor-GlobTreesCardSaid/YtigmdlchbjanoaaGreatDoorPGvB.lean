/- Put together: Rp1, RpLp. -/
import Derived.Test.YtigmdlchbjanoaaGreatDoorPTgM
namespace Go.Proofs.YtigmdlchbjanoaaGreatDoor
open Go Go.RowKit
structure Op where
 num:Nat
 alts:List T
 items:List T
def closeT (o:Op):T:=
 let n:=if o.alts=[] then mkCat o.items else .node 4 0 false noP (o.alts ++ [mkCat o.items])
 if o.num=0 then n else .node 8 (o.num:Int) false noP [n]
structure Cfg where
 top:Op
 rest:List Op
 gr:Nat
 again:Bool
 i:Nat
def isRep (c:UInt8):Prop:=c=42∨c=43∨c=63
instance (c:UInt8):Decidable (isRep c):=by unfold isRep;infer_instance
def oneS (l:List UInt8) (i:Nat) (c:UInt8):(Nat→Bool) × Nat × Nat:=
 if c=92 then ((escS (l.drop i)).set,(escS (l.drop i)).size,(escS (l.drop i)).err)
 else if c=91 then parseS (l.drop i)
 else if c=46 then (allP,1,0)
 else ((fun j=>j == c.toNat),1,0)
inductive Nx where
 | go (c:Cfg)
 | fin (r:PR)
def repT (c:UInt8) (z:Bool) (t:T):T:=.node (if c=42 then 5 else if c=43 then 6 else 7) 0 z noP [t]
def stepM (l:List UInt8) (s:Cfg):Nx:=
 match l[s.i]? with
 | none=>if s.rest=[] then .fin (.ok (closeT s.top) s.i s.gr) else .fin (.err 3)
 | some c =>
  if isRep c then
   if s.again=false then .fin (.err 5)
   else match s.top.items.getLast? with
    | none=>.fin .out
    | some t =>
     if c ≠ 63∧t.nullable=true then .fin (.err 15)
     else
      let z:=decide (l[s.i+1]?=some 63)
      .go ⟨⟨s.top.num,s.top.alts,s.top.items.dropLast ++ [repT c z t]⟩,s.rest,s.gr,false,if z then s.i+2 else s.i+1⟩
  else if c=124 then .go ⟨⟨s.top.num,s.top.alts ++ [mkCat s.top.items],[]⟩,s.rest,s.gr,false,s.i+1⟩
  else if c=40 then
   if 8≤s.rest.length then .fin (.err 11)
   else if l[s.i+1]?=some 63 then
    match l[s.i+2]? with
    | none=>.fin (.err 3)
    | some d=>if d=58 then .go ⟨⟨0,[],[]⟩,s.top :: s.rest,s.gr,false,s.i+3⟩ else .fin (.err 5)
   else if s.gr=9 then .fin (.err 2)
   else .go ⟨⟨s.gr+1,[],[]⟩,s.top :: s.rest,s.gr+1,false,s.i+1⟩
  else if c=41 then
   match s.rest with
   | []=>.fin (.err 5)
   | p :: r=>.go ⟨⟨p.num,p.alts,p.items ++ [closeT s.top]⟩,r,s.gr,true,s.i+1⟩
  else
   if (oneS l s.i c).2.2=0 then .go ⟨⟨s.top.num,s.top.alts,s.top.items ++ [.node 2 0 false (oneS l s.i c).1 []]⟩,s.rest,s.gr,true,s.i+(oneS l s.i c).2.1⟩
   else .fin (.err (oneS l s.i c).2.2)
inductive Runs (l:List UInt8):Cfg→PR→Prop where
 | fin {c:Cfg} {r:PR}:stepM l c=.fin r→Runs l c r
 | go {c c':Cfg} {r:PR}:stepM l c=.go c' → Runs l c' r→Runs l c r
theorem runs_go {l:List UInt8} {c c':Cfg} {r:PR} (h:Runs l c r) (hs:stepM l c=.go c'):Runs l c' r:=by
 cases h with
 | fin h=>rw [hs] at h;cases h
 | go h h'=>rw [hs] at h;cases h;exact h'
theorem runs_fin {l:List UInt8} {c:Cfg} {r r':PR} (h:Runs l c r) (hs:stepM l c=.fin r'):r=r':=by
 cases h with
 | fin h=>rw [hs] at h;cases h;rfl
 | go h h'=>rw [hs] at h;cases h
def Calm (l:List UInt8) (b:Bool) (i:Nat):Prop:=b=true→∀ c,l[i]?=some c→¬ isRep c
theorem calm_false (l:List UInt8) (i:Nat):Calm l false i:=fun h=>by cases h
structure Sml (l:List UInt8) (f:Nat):Prop where
 alts:∀ num rest i gr acc,i≤l.length→rest.length≤8→(∀ k,altsP l f rest.length i gr acc=.err k→Runs l ⟨⟨num,acc,[]⟩,rest,gr,false,i⟩ (.err k)) ∧
  (∀ t i' gr',altsP l f rest.length i gr acc=.ok t i' gr' → ∃ alts' items' b',i' ≤ l.length∧(l[i']?=none∨l[i']?=some 41)∧(closeT ⟨num,alts',items'⟩=if num=0 then t else .node 8 (num:Int) false noP [t]) ∧
   ∀ r,Runs l ⟨⟨num,alts',items'⟩,rest,gr',b',i'⟩ r→Runs l ⟨⟨num,acc,[]⟩,rest,gr,false,i⟩ r)
 items:∀ num alts rest i gr b acc,i≤l.length→Calm l b i→rest.length≤8→(∀ k,itemsP l f rest.length i gr acc=.err k→Runs l ⟨⟨num,alts,acc⟩,rest,gr,b,i⟩ (.err k)) ∧
  (∀ t i' gr',itemsP l f rest.length i gr acc=.ok t i' gr' → ∃ items' b',i' ≤ l.length∧(l[i']?=none∨l[i']?=some 124∨l[i']?=some 41)∧t=mkCat items' ∧
   ∀ r,Runs l ⟨⟨num,alts,items'⟩,rest,gr',b',i'⟩ r→Runs l ⟨⟨num,alts,acc⟩,rest,gr,b,i⟩ r)
 item:∀ num alts rest i gr b acc c,l[i]?=some c→¬ (c=124∨c=41)→Calm l b i→rest.length≤8→(∀ k,itemP l f rest.length i gr=.err k→Runs l ⟨⟨num,alts,acc⟩,rest,gr,b,i⟩ (.err k)) ∧
  (∀ t i' gr',itemP l f rest.length i gr=.ok t i' gr' → ∃ b',i' ≤ l.length∧Calm l b' i' ∧
   ∀ r,Runs l ⟨⟨num,alts,acc ++ [t]⟩,rest,gr',b',i'⟩ r→Runs l ⟨⟨num,alts,acc⟩,rest,gr,b,i⟩ r)
 atom:∀ num alts rest i gr b acc c,l[i]?=some c→¬ (c=124∨c=41)→Calm l b i→rest.length≤8→(∀ k,atomP l f rest.length i gr=.err k→Runs l ⟨⟨num,alts,acc⟩,rest,gr,b,i⟩ (.err k)) ∧
  (∀ t i' gr',atomP l f rest.length i gr=.ok t i' gr' → i' ≤ l.length ∧
   ∀ r,Runs l ⟨⟨num,alts,acc ++ [t]⟩,rest,gr',true,i'⟩ r→Runs l ⟨⟨num,alts,acc⟩,rest,gr,b,i⟩ r)
 bracket:∀ num alts rest i gr b acc,l[i]?=some 40→rest.length≤8→(∀ k,bracketP l f rest.length i gr=.err k→Runs l ⟨⟨num,alts,acc⟩,rest,gr,b,i⟩ (.err k)) ∧
  (∀ t i' gr',bracketP l f rest.length i gr=.ok t i' gr' → i' ≤ l.length ∧
   ∀ r,Runs l ⟨⟨num,alts,acc ++ [t]⟩,rest,gr',true,i'⟩ r→Runs l ⟨⟨num,alts,acc⟩,rest,gr,b,i⟩ r)
theorem not_rep40:¬ isRep 40:=by decide
theorem not_rep41:¬ isRep 41:=by decide
theorem not_rep124:¬ isRep 124:=by decide
theorem step_bar {l:List UInt8} {s:Cfg} (h:l[s.i]?=some 124):stepM l s=.go ⟨⟨s.top.num,s.top.alts ++ [mkCat s.top.items],[]⟩,s.rest,s.gr,false,s.i+1⟩:=by
 unfold stepM
 rw [h]
 dsimp only
 rw [if_neg not_rep124,if_pos rfl]
theorem step_close {l:List UInt8} {s:Cfg} {p:Op} {r:List Op} (h:l[s.i]?=some 41) (hr:s.rest=p :: r):stepM l s=.go ⟨⟨p.num,p.alts,p.items ++ [closeT s.top]⟩,r,s.gr,true,s.i+1⟩:=by
 unfold stepM
 rw [h]
 dsimp only
 rw [if_neg not_rep41,if_neg (by decide),if_neg (by decide),if_pos rfl,hr]
theorem sml_alts {l:List UInt8} {f:Nat} (ih:Sml l f):∀ num rest i gr acc,i≤l.length→rest.length≤8→(∀ k,altsP l (f+1) rest.length i gr acc=.err k→Runs l ⟨⟨num,acc,[]⟩,rest,gr,false,i⟩ (.err k)) ∧
  (∀ t i' gr',altsP l (f+1) rest.length i gr acc=.ok t i' gr' → ∃ alts' items' b',i' ≤ l.length∧(l[i']?=none∨l[i']?=some 41)∧(closeT ⟨num,alts',items'⟩=if num=0 then t else .node 8 (num:Int) false noP [t]) ∧
   ∀ r,Runs l ⟨⟨num,alts',items'⟩,rest,gr',b',i'⟩ r→Runs l ⟨⟨num,acc,[]⟩,rest,gr,false,i⟩ r):=by
 intro num rest i gr acc hi h8
 obtain ⟨h1,h2⟩:=ih.items num acc rest i gr false [] hi (calm_false l i) h8
 rw [altsP]
 cases hr:itemsP l f rest.length i gr [] with
 | out=>exact ⟨fun k h=>(by cases h),fun t i' gr' h=>by cases h⟩
 | err k=>exact ⟨fun k' h=>(by cases h;exact h1 _ hr),fun t i' gr' h=>by cases h⟩
 | ok t i1 gr1 =>
  obtain ⟨items',b',hi1,hend,ht,hruns⟩:=h2 t i1 gr1 hr
  dsimp only
  by_cases hb:l[i1]?=some 124
  ·rw [if_pos hb]
   have hlt:=(List.getElem?_eq_some_iff.1 hb).1
   obtain ⟨h3,h4⟩:=ih.alts num rest (i1+1) gr1 (acc ++ [t]) (by omega) h8
   have hgo:∀ r,Runs l ⟨⟨num,acc ++ [t],[]⟩,rest,gr1,false,i1+1⟩ r→Runs l ⟨⟨num,acc,[]⟩,rest,gr,false,i⟩ r:=fun r hh=>by
    refine hruns r (.go (step_bar hb) ?_)
    dsimp only
    rw [← ht];exact hh
   refine ⟨fun k h=>hgo _ (h3 k h),fun t' i' gr' h=>?_⟩
   obtain ⟨a1,a2,a3,a4,a5,a6,a7⟩:=h4 t' i' gr' h
   exact ⟨a1,a2,a3,a4,a5,a6,fun r hh=>hgo r (a7 r hh)⟩
  ·rw [if_neg hb]
   refine ⟨fun k h=>(by cases h),fun t' i' gr' h=>?_⟩
   cases h
   refine ⟨acc,items',b',hi1,?_,?_,hruns⟩
   ·rcases hend with h | h | h
    ·exact .inl h
    ·exact absurd h hb
    ·exact .inr h
   ·unfold closeT
    dsimp only
    have hm:(if acc=[] then mkCat items' else .node 4 0 false noP (acc ++ [mkCat items']))=mkAlt (acc ++ [t]):=by
     rw [← ht]
     by_cases ha:acc=[]
     ·subst ha;rfl
     ·rw [if_neg ha]
      cases acc with
      | nil=>exact absurd rfl ha
      | cons x y=>cases y <;> rfl
    rw [hm]
theorem sml_items {l:List UInt8} {f:Nat} (ih:Sml l f):∀ num alts rest i gr b acc,i≤l.length→Calm l b i→rest.length≤8→(∀ k,itemsP l (f+1) rest.length i gr acc=.err k→Runs l ⟨⟨num,alts,acc⟩,rest,gr,b,i⟩ (.err k)) ∧
  (∀ t i' gr',itemsP l (f+1) rest.length i gr acc=.ok t i' gr' → ∃ items' b',i' ≤ l.length∧(l[i']?=none∨l[i']?=some 124∨l[i']?=some 41)∧t=mkCat items' ∧
   ∀ r,Runs l ⟨⟨num,alts,items'⟩,rest,gr',b',i'⟩ r→Runs l ⟨⟨num,alts,acc⟩,rest,gr,b,i⟩ r):=by
 intro num alts rest i gr b acc hi hc h8
 rw [itemsP]
 cases h0:l[i]? with
 | none=>exact ⟨fun k h=>(by cases h),fun t i' gr' h=>by cases h;exact ⟨acc,b,hi,.inl h0,rfl,fun r h=>h⟩⟩
 | some c =>
  dsimp only
  by_cases hcc:c=124∨c=41
  ·rw [if_pos hcc]
   exact ⟨fun k h=>(by cases h),fun t i' gr' h=>by cases h;exact ⟨acc,b,hi,.inr (by rcases hcc with rfl | rfl;exact .inl h0;exact .inr h0),rfl,fun r h=>h⟩⟩
  ·rw [if_neg hcc]
   obtain ⟨h1,h2⟩:=ih.item num alts rest i gr b acc c h0 hcc hc h8
   cases hr:itemP l f rest.length i gr with
   | out=>exact ⟨fun k h=>(by cases h),fun t i' gr' h=>by cases h⟩
   | err k=>exact ⟨fun k' h=>(by cases h;exact h1 _ hr),fun t i' gr' h=>by cases h⟩
   | ok t i1 gr1 =>
    obtain ⟨b1,hi1,hc1,hruns⟩:=h2 t i1 gr1 hr
    obtain ⟨h3,h4⟩:=ih.items num alts rest i1 gr1 b1 (acc ++ [t]) hi1 hc1 h8
    dsimp only
    refine ⟨fun k h=>hruns _ (h3 k h),fun t' i' gr' h=>?_⟩
    obtain ⟨a1,a2,a3,a4,a5,a6⟩:=h4 t' i' gr' h
    exact ⟨a1,a2,a3,a4,a5,fun r hh=>hruns r (a6 r hh)⟩
theorem sml_item {l:List UInt8} {f:Nat} (ih:Sml l f):∀ num alts rest i gr b acc c,l[i]?=some c→¬ (c=124∨c=41)→Calm l b i→rest.length≤8→(∀ k,itemP l (f+1) rest.length i gr=.err k→Runs l ⟨⟨num,alts,acc⟩,rest,gr,b,i⟩ (.err k)) ∧
  (∀ t i' gr',itemP l (f+1) rest.length i gr=.ok t i' gr' → ∃ b',i' ≤ l.length∧Calm l b' i' ∧
   ∀ r,Runs l ⟨⟨num,alts,acc ++ [t]⟩,rest,gr',b',i'⟩ r→Runs l ⟨⟨num,alts,acc⟩,rest,gr,b,i⟩ r):=by
 intro num alts rest i gr b acc c h0 hcc hc h8
 obtain ⟨h1,h2⟩:=ih.atom num alts rest i gr b acc c h0 hcc hc h8
 rw [itemP]
 cases hr:atomP l f rest.length i gr with
 | out=>exact ⟨fun k h=>(by cases h),fun t i' gr' h=>by cases h⟩
 | err k=>exact ⟨fun k' h=>(by cases h;exact h1 _ hr),fun t i' gr' h=>by cases h⟩
 | ok t i1 gr1 =>
  obtain ⟨hi1,hruns⟩:=h2 t i1 gr1 hr
  dsimp only
  unfold repP
  cases h3:l[i1]? with
  | none=>exact ⟨fun k h=>(by cases h),fun t' i' gr' h=>by cases h;exact ⟨true,hi1,(fun _ c hc=>by rw [h3] at hc;cases hc),hruns⟩⟩
  | some d =>
   have hlt:=(List.getElem?_eq_some_iff.1 h3).1
   dsimp only
   by_cases hd:d=42∨d=43∨d=63
   ·rw [if_pos hd]
    have hstep:stepM l ⟨⟨num,alts,acc ++ [t]⟩,rest,gr1,true,i1⟩=if d ≠ 63∧t.nullable=true then .fin (.err 15) else
      .go ⟨⟨num,alts,acc ++ [repT d (decide (l[i1+1]?=some 63)) t]⟩,rest,gr1,false,if decide (l[i1+1]?=some 63) then i1+2 else i1+1⟩:=by
     unfold stepM
     dsimp only
     rw [h3]
     dsimp only
     rw [if_pos (show isRep d from hd),if_neg (by simp),List.getLast?_append]
     simp
    by_cases hn:d ≠ 63∧t.nullable=true
    ·rw [if_pos hn] at hstep ⊢
     exact ⟨fun k h=>(by cases h;exact hruns _ (.fin hstep)),fun t' i' gr' h=>by cases h⟩
    ·rw [if_neg hn] at hstep ⊢
     refine ⟨fun k h=>(by cases h),fun t' i' gr' h=>?_⟩
     simp only [PR.ok.injEq] at h
     obtain ⟨rfl,rfl,rfl⟩:=h
     refine ⟨false,?_,calm_false l _,fun r hh=>hruns r (.go hstep hh)⟩
     split
     ·rename_i hz
      have:=(List.getElem?_eq_some_iff.1 (of_decide_eq_true hz)).1
      omega
     ·omega
   ·rw [if_neg hd]
    exact ⟨fun k h=>(by cases h),fun t' i' gr' h=>by cases h;exact ⟨true,hi1,(fun _ c' hc'=>by rw [h3] at hc';cases hc';exact hd),hruns⟩⟩
theorem sml_set {l:List UInt8} {i:Nat} {c:UInt8} (h0:l[i]?=some c) (hcc:¬ (c=124∨c=41)) (h40:c ≠ 40) (hr:¬ isRep c) (num:Nat) (alts acc:List T) (rest:List Op) (gr:Nat) (b:Bool) :
  stepM l ⟨⟨num,alts,acc⟩,rest,gr,b,i⟩=if (oneS l i c).2.2=0 then .go ⟨⟨num,alts,acc ++ [.node 2 0 false (oneS l i c).1 []]⟩,rest,gr,true,i+(oneS l i c).2.1⟩ else .fin (.err (oneS l i c).2.2):=by
 unfold stepM
 dsimp only
 rw [h0]
 dsimp only
 rw [if_neg hr,if_neg (fun e=>hcc (.inl e)),if_neg h40,if_neg (fun e=>hcc (.inr e))]
theorem one_bound {l:List UInt8} {i:Nat} {c:UInt8} (h0:l[i]?=some c) (h:(oneS l i c).2.2=0):1≤(oneS l i c).2.1∧i+(oneS l i c).2.1≤l.length:=by
 have hlt:=(List.getElem?_eq_some_iff.1 h0).1
 unfold oneS at h ⊢
 by_cases h1:c=92
 ·rw [if_pos h1] at h ⊢
  dsimp only at h ⊢
  have hb:=esc_fits (l.drop i)
  have hb2:1≤(escS (l.drop i)).size∧(escS (l.drop i)).size≤(l.drop i).length:=by
   cases he:escS (l.drop i) with
   | bad k=>rw [he] at hb h;have hb:k=3∨k=5:=hb;have h:k=0:=h;omega
   | byte m n=>rw [he] at hb;exact hb.2
   | cls p n=>rw [he] at hb;exact hb
  rw [List.length_drop] at hb2
  omega
 rw [if_neg h1] at h ⊢
 by_cases h2:c=91
 ·rw [if_pos h2] at h ⊢
  have h3:=parse_bound h
  rw [List.length_drop] at h3
  omega
 rw [if_neg h2] at h ⊢
 split <;> (dsimp only;omega)
theorem sml_atom {l:List UInt8} {f:Nat} (ih:Sml l f):∀ num alts rest i gr b acc c,l[i]?=some c→¬ (c=124∨c=41)→Calm l b i→rest.length≤8→(∀ k,atomP l (f+1) rest.length i gr=.err k→Runs l ⟨⟨num,alts,acc⟩,rest,gr,b,i⟩ (.err k)) ∧
  (∀ t i' gr',atomP l (f+1) rest.length i gr=.ok t i' gr' → i' ≤ l.length ∧
   ∀ r,Runs l ⟨⟨num,alts,acc ++ [t]⟩,rest,gr',true,i'⟩ r→Runs l ⟨⟨num,alts,acc⟩,rest,gr,b,i⟩ r):=by
 intro num alts rest i gr b acc c h0 hcc hc h8
 rw [atomP,h0]
 dsimp only
 by_cases h40:c=40
 ·rw [if_pos h40]
  subst h40
  exact ih.bracket num alts rest i gr b acc h0 h8
 rw [if_neg h40]
 by_cases hrep:c=42∨c=43∨c=63
 ·have e1:c ≠ 91:=by rcases hrep with rfl | rfl | rfl <;> decide
  have e2:c ≠ 92:=by rcases hrep with rfl | rfl | rfl <;> decide
  have e3:c ≠ 46:=by rcases hrep with rfl | rfl | rfl <;> decide
  rw [if_neg e1,if_neg e2,if_neg e3,if_pos hrep]
  have hb:b=false:=by
   cases b with
   | false=>rfl
   | true=>exact absurd hrep (hc rfl c h0)
  subst hb
  refine ⟨fun k h=>?_,fun t i' gr' h=>by cases h⟩
  cases h
  refine .fin ?_
  unfold stepM
  dsimp only
  rw [h0]
  dsimp only
  rw [if_pos (show isRep c from hrep),if_pos rfl]
 ·have hset:∀ R:PR,R=setP (oneS l i c).1 (oneS l i c).2.1 (oneS l i c).2.2 i gr→(∀ k,R=.err k→Runs l ⟨⟨num,alts,acc⟩,rest,gr,b,i⟩ (.err k)) ∧
    (∀ t i' gr',R=.ok t i' gr' → i' ≤ l.length∧∀ r,Runs l ⟨⟨num,alts,acc ++ [t]⟩,rest,gr',true,i'⟩ r→Runs l ⟨⟨num,alts,acc⟩,rest,gr,b,i⟩ r):=by
   intro R hR
   have hst:=sml_set h0 hcc h40 (show ¬ isRep c from hrep) num alts acc rest gr b
   unfold setP at hR
   by_cases hz:(oneS l i c).2.2=0
   ·rw [if_pos hz] at hR hst
    refine ⟨fun k h=>(by rw [hR] at h;cases h),fun t i' gr' h=>?_⟩
    rw [hR] at h
    cases h
    exact ⟨(one_bound h0 hz).2,fun r hh=>.go hst hh⟩
   ·rw [if_neg hz] at hR hst
    refine ⟨fun k h=>?_,fun t i' gr' h=>by rw [hR] at h;cases h⟩
    rw [hR] at h
    cases h
    exact .fin hst
  refine hset _ ?_
  unfold oneS
  by_cases h1:c=91
  ·subst h1;rfl
  by_cases h2:c=92
  ·subst h2;rfl
  by_cases h3:c=46
  ·subst h3;rfl
  ·rw [if_neg h1,if_neg h2,if_neg h3,if_neg hrep,if_neg h2,if_neg h1,if_neg h3]
theorem sml_bracket {l:List UInt8} {f:Nat} (ih:Sml l f):∀ num alts rest i gr b acc,l[i]?=some 40→rest.length≤8→(∀ k,bracketP l (f+1) rest.length i gr=.err k→Runs l ⟨⟨num,alts,acc⟩,rest,gr,b,i⟩ (.err k)) ∧
  (∀ t i' gr',bracketP l (f+1) rest.length i gr=.ok t i' gr' → i' ≤ l.length ∧
   ∀ r,Runs l ⟨⟨num,alts,acc ++ [t]⟩,rest,gr',true,i'⟩ r→Runs l ⟨⟨num,alts,acc⟩,rest,gr,b,i⟩ r):=by
 intro num alts rest i gr b acc h0 hd8
 have hlt:=(List.getElem?_eq_some_iff.1 h0).1
 have hstep:stepM l ⟨⟨num,alts,acc⟩,rest,gr,b,i⟩=if 8≤rest.length then .fin (.err 11)
   else if l[i+1]?=some 63 then match l[i+2]? with
    | none=>.fin (.err 3)
    | some d=>if d=58 then .go ⟨⟨0,[],[]⟩,⟨num,alts,acc⟩ :: rest,gr,false,i+3⟩ else .fin (.err 5)
   else if gr=9 then .fin (.err 2) else .go ⟨⟨gr+1,[],[]⟩,⟨num,alts,acc⟩ :: rest,gr+1,false,i+1⟩:=by
  unfold stepM
  dsimp only
  rw [h0]
  dsimp only
  rw [if_neg not_rep40,if_neg (by decide),if_pos rfl]
 have hclose:∀ n j g,j≤l.length→rest.length<8→stepM l ⟨⟨num,alts,acc⟩,rest,gr,b,i⟩=.go ⟨⟨n,[],[]⟩,⟨num,alts,acc⟩ :: rest,g,false,j⟩ →
   (∀ k,closeP l (altsP l f (rest.length+1) j g []) n=.err k→Runs l ⟨⟨num,alts,acc⟩,rest,gr,b,i⟩ (.err k)) ∧
   (∀ t i' gr',closeP l (altsP l f (rest.length+1) j g []) n=.ok t i' gr' → i' ≤ l.length ∧
    ∀ r,Runs l ⟨⟨num,alts,acc ++ [t]⟩,rest,gr',true,i'⟩ r→Runs l ⟨⟨num,alts,acc⟩,rest,gr,b,i⟩ r):=by
  intro n j g hj hlt8 hgo
  obtain ⟨h1,h2⟩:=ih.alts n (⟨num,alts,acc⟩ :: rest) j g [] hj (by rw [List.length_cons];omega)
  rw [List.length_cons] at h1 h2
  unfold closeP
  cases hr:altsP l f (rest.length+1) j g [] with
  | out=>exact ⟨fun k h=>(by cases h),fun t i' gr' h=>by cases h⟩
  | err k=>exact ⟨fun k' h=>(by cases h;exact .go hgo (h1 _ hr)),fun t i' gr' h=>by cases h⟩
  | ok t i1 gr1 =>
   obtain ⟨alts',items',b',hi1,hend,hcl,hruns⟩:=h2 t i1 gr1 hr
   dsimp only
   cases h3:l[i1]? with
   | none =>
    refine ⟨fun k h=>?_,fun t i' gr' h=>by cases h⟩
    cases h
    refine .go hgo (hruns _ (.fin ?_))
    unfold stepM
    dsimp only
    rw [h3]
    dsimp only
    rw [if_neg (by simp)]
   | some d =>
    have hlt1:=(List.getElem?_eq_some_iff.1 h3).1
    have h41:l[i1]?=some 41:=by
     rcases hend with h | h
     ·rw [h3] at h;cases h
     ·exact h
    refine ⟨fun k h=>(by cases h),fun t' i' gr' h=>?_⟩
    cases h
    refine ⟨by omega,fun r hh=>.go hgo (hruns r (.go (step_close h41 rfl) ?_))⟩
    dsimp only
    rw [hcl];exact hh
 rw [bracketP]
 by_cases h8:rest.length=8
 ·rw [if_pos h8]
  rw [if_pos (by omega)] at hstep
  exact ⟨fun k h=>(by cases h;exact .fin hstep),fun t i' gr' h=>by cases h⟩
 ·rw [if_neg h8]
  have hlt8:rest.length<8:=by omega
  rw [if_neg (by omega)] at hstep
  by_cases h63:l[i+1]?=some 63
  ·rw [if_pos h63] at hstep ⊢
   cases h2:l[i+2]? with
   | none =>
    rw [h2] at hstep
    exact ⟨fun k h=>(by cases h;exact .fin hstep),fun t i' gr' h=>by cases h⟩
   | some d =>
    have hlt2:=(List.getElem?_eq_some_iff.1 h2).1
    rw [h2] at hstep
    dsimp only at hstep ⊢
    by_cases hd:d=58
    ·rw [if_pos hd] at hstep ⊢
     exact hclose 0 (i+3) gr (by omega) hlt8 hstep
    ·rw [if_neg hd] at hstep ⊢
     exact ⟨fun k h=>(by cases h;exact .fin hstep),fun t i' gr' h=>by cases h⟩
  ·rw [if_neg h63] at hstep ⊢
   by_cases h9:gr=9
   ·rw [if_pos h9] at hstep ⊢
    exact ⟨fun k h=>(by cases h;exact .fin hstep),fun t i' gr' h=>by cases h⟩
   ·rw [if_neg h9] at hstep ⊢
    exact hclose (gr+1) (i+1) (gr+1) (by omega) hlt8 hstep
theorem sml_all (l:List UInt8):∀ f,Sml l f:=by
 intro f
 induction f with
 | zero =>
  exact ⟨fun _ _ _ _ _ _ _=>⟨fun _ h=>(by rw [altsP] at h;cases h),fun _ _ _ h=>by rw [altsP] at h;cases h⟩,fun _ _ _ _ _ _ _ _ _ _=>⟨fun _ h=>(by rw [itemsP] at h;cases h),fun _ _ _ h=>by rw [itemsP] at h;cases h⟩,
   fun _ _ _ _ _ _ _ _ _ _ _ _=>⟨fun _ h=>(by rw [itemP] at h;cases h),fun _ _ _ h=>by rw [itemP] at h;cases h⟩,fun _ _ _ _ _ _ _ _ _ _ _ _=>⟨fun _ h=>(by rw [atomP] at h;cases h),fun _ _ _ h=>by rw [atomP] at h;cases h⟩,
   fun _ _ _ _ _ _ _ _ _=>⟨fun _ h=>(by rw [bracketP] at h;cases h),fun _ _ _ h=>by rw [bracketP] at h;cases h⟩⟩
 | succ f ih=>exact ⟨sml_alts ih,sml_items ih,sml_item ih,sml_atom ih,sml_bracket ih⟩
theorem runs_parse {l:List UInt8} (h:¬ 120<l.length):Runs l ⟨⟨0,[],[]⟩,[],0,false,0⟩ (parseR l):=by
 have hno:altsP l (5*l.length+5) 0 0 0 [] ≠ .out:=(no_out l l.length 0 (Nat.zero_le _) (by omega)).2.2.2.2 _ _ _ _ (Nat.le_refl _)
 unfold parseR
 rw [if_neg h]
 obtain ⟨h1,h2⟩:=(sml_all l (5*l.length+5)).alts 0 [] 0 0 [] (Nat.zero_le _) (by simp)
 rw [List.length_nil] at h1 h2
 cases hr:altsP l (5*l.length+5) 0 0 0 [] with
 | out=>exact absurd hr hno
 | err k=>exact h1 k hr
 | ok t i gr =>
  obtain ⟨alts',items',b',hi,hend,hcl,hruns⟩:=h2 t i gr hr
  rw [if_pos rfl] at hcl
  dsimp only
  by_cases hlt:i<l.length
  ·rw [if_pos hlt]
   have h41:l[i]?=some 41:=by
    rcases hend with e | e
    ·have:=List.getElem?_eq_none_iff.1 e;omega
    ·exact e
   refine hruns _ (.fin ?_)
   unfold stepM
   dsimp only
   rw [h41]
   dsimp only
   rw [if_neg not_rep41,if_neg (by decide),if_neg (by decide),if_pos rfl]
  ·rw [if_neg hlt]
   have hn:l[i]?=none:=List.getElem?_eq_none (by omega)
   refine hruns _ (.fin ?_)
   unfold stepM
   dsimp only
   rw [hn]
   dsimp only
   rw [if_pos rfl,hcl]
end Go.Proofs.YtigmdlchbjanoaaGreatDoor
namespace Go.Proofs.YtigmdlchbjanoaaGreatDoor
open Go Go.RowKit
def ErrK (k:Nat):Prop:=k=2∨k=3∨k=4∨k=5∨k=11∨k=15
theorem goS_err (l:List UInt8) (b:Nat):∀ (f i:Nat) (x:Nat→Bool),(goS l b f i x).2.2=0∨ErrK (goS l b f i x).2.2:=by
 intro f
 induction f with
 | zero=>intro i x;exact .inr (.inr (.inl rfl))
 | succ f ih =>
  intro i x
  unfold goS
  split
  ·exact .inl rfl
  ·split
   ·have:=(item_fits (l.drop i)).2
    dsimp only
    unfold ErrK
    omega
   ·exact ih _ _
theorem parseS_err (l:List UInt8):(parseS l).2.2=0∨ErrK (parseS l).2.2:=by
 have key:∀ (b:Bool) (r:(Nat→Bool) × Nat × Nat),(r.2.2=0∨ErrK r.2.2)→(if r.2.2=0 then (notP b r.1,r.2) else r).2.2=0∨ErrK (if r.2.2=0 then (notP b r.1,r.2) else r).2.2:=by
  intro b r h
  by_cases h0:r.2.2=0
  ·rw [if_pos h0];exact .inl h0
  ·rw [if_neg h0];exact h
 unfold parseS
 split
 ·exact .inr (.inr (.inl rfl))
 ·split
  ·exact key _ _ (goS_err _ _ _ _ _)
  ·exact .inr (.inr (.inr (.inr (.inl rfl))))
theorem oneS_err (l:List UInt8) (i:Nat) (c:UInt8) (h:(oneS l i c).2.2 ≠ 0):ErrK (oneS l i c).2.2:=by
 unfold oneS at h ⊢
 split at h
 ·rename_i hc
  rw [if_pos hc]
  have hf:=esc_fits (l.drop i)
  dsimp only at h ⊢
  cases he:escS (l.drop i) with
  | bad k=>rw [he] at hf h;unfold Sg.fits at hf;dsimp only at hf;show ErrK k;unfold ErrK;omega
  | byte m n=>rw [he] at h;exact absurd rfl h
  | cls p n=>rw [he] at h;exact absurd rfl h
 ·rename_i hc
  rw [if_neg hc]
  split at h
  ·rename_i h2
   rw [if_pos h2]
   exact (parseS_err _).resolve_left h
  ·rename_i h2
   split at h <;> exact absurd rfl h
theorem step_err {l:List UInt8} {s:Cfg} {k:Nat} (h:stepM l s=.fin (.err k)):ErrK k:=by
 have e3:ErrK 3:=.inr (.inl rfl)
 have e5:ErrK 5:=.inr (.inr (.inr (.inl rfl)))
 have e2:ErrK 2:=.inl rfl
 have e11:ErrK 11:=.inr (.inr (.inr (.inr (.inl rfl))))
 have e15:ErrK 15:=.inr (.inr (.inr (.inr (.inr rfl))))
 unfold stepM at h
 split at h
 ·split at h
  ·cases h
  ·cases h;exact e3
 ·split at h
  ·split at h
   ·cases h;exact e5
   ·split at h
    ·cases h
    ·split at h
     ·cases h;exact e15
     ·cases h
  ·split at h
   ·cases h
   ·split at h
    ·split at h
     ·cases h;exact e11
     ·split at h
      ·split at h
       ·cases h;exact e3
       ·split at h
        ·cases h
        ·cases h;exact e5
      ·split at h
       ·cases h;exact e2
       ·cases h
    ·split at h
     ·split at h
      ·cases h;exact e5
      ·cases h
     ·split at h
      ·cases h
      ·rename_i hn
       cases h
       exact oneS_err _ _ _ hn
theorem runs_err {l:List UInt8} {c:Cfg} {r:PR} (h:Runs l c r):∀ k,r=.err k→ErrK k:=by
 induction h with
 | fin hs=>intro k hk;rw [hk] at hs;exact step_err hs
 | go _ _ ih=>exact ih
theorem parseR_err {l:List UInt8} {k:Nat} (h:parseR l=.err k):ErrK k:=by
 by_cases hl:120<l.length
 ·unfold parseR at h
  rw [if_pos hl] at h
  cases h
  exact .inr (.inr (.inl rfl))
 ·exact runs_err (runs_parse hl) k h
end Go.Proofs.YtigmdlchbjanoaaGreatDoor
