/- Put together: DagE, Fr. -/
import Derived.Test.YtigmdlchbjanoaaGreatDoorPTgA
import Derived.Deep.LoopGhost
namespace Go.Proofs.YtigmdlchbjanoaaGreatDoor
open Go.RowKit
def give (f:Nat→Option Value) (i:Nat) (v:Value):Nat→Option Value:=fun j=>if j=i then some v else f j
theorem give_own (f:Nat→Option Value) (i:Nat) (v:Value):give f i v i=some v:=by simp [give]
theorem give_other {f:Nat→Option Value} {i j:Nat} {v:Value} (h:j ≠ i):give f i v j=f j:=by simp [give,h]
def FromOf (ops:List Oper) (f:Nat→Option Value) (φ:Nat→Value→Prop) (a0:Act) (i:Nat) (t:Tmp) (v:Value):Prop:=
 match writerOf ops t with
 | none=>a0.tmps[t]?=some v
 | some j=>if j<i then f j=some v∧φ j v else a0.tmps[t]?=some v
def OneOpE (P:Program) (ops:List Oper) (Q:Exit→Act→World→Prop) (S:(Nat→Option Value)→World→Prop) (φ:Nat→Value→Prop) (a0:Act) (i:Nat) (o:Oper):Prop:=
 ∀ (f:Nat→Option Value) (a:Act) (w:World),S f w→f i=none→(∀ j,hangsOn o j=true→∃ v,f j=some v)→(∀ j x,ops[j]?=some x→hangsOn x i=true→f j=none) →
  a.tmps.size=a0.tmps.size→a.defers=a0.defers →
  (∀ t ∈ looksOf ops o,∃ v,a.tmps[t]?=some v∧FromOf ops f φ a0 i t v) →
  wpList P ops.toArray (Exit.then (fun a' w'=>∃ v,a'=a.put o.dst v∧φ i v∧S (give f i v) w') Q) [o] a w
def allOpsE (P:Program) (ops:List Oper) (Q:Exit→Act→World→Prop) (S:(Nat→Option Value)→World→Prop) (φ:Nat→Value→Prop) (a0:Act):Nat→List Oper→Prop
 | _,[]=>True
 | i,o :: r=>OneOpE P ops Q S φ a0 i o∧allOpsE P ops Q S φ a0 (i+1) r
structure JE (ops:List Oper) (S:(Nat→Option Value)→World→Prop) (φ:Nat→Value→Prop) (f:Nat→Option Value) (L:Array Bool) (a:Act) (w:World):Prop where
 flag:∀ j:Nat,j<ops.length→(L[j]?=some true↔∃ v,f j=some v)
 val:∀ (j:Nat) (o:Oper),ops[j]?=some o→∀ v,f j=some v→φ j v∧∀ d,o.dst=some d→d<a.tmps.size→a.tmps[d]?=some v
 shut:∀ (i:Nat) (o:Oper),ops[i]?=some o→L[i]?=some true→∀ j:Nat,hangsOn o j=true→L[j]?=some true
 fact:S f w
theorem wpList_one_mono {P:Program} {ops:Array Oper} {o:Oper} {a:Act} {w:World} {Q:Exit→Act→World→Prop} {K K':Act→World→Prop} (hK:∀ a' w',K a' w' → K' a' w') (h:wpList P ops (Exit.then K Q) [o] a w):wpList P ops (Exit.then K' Q) [o] a w:=by
 simp only [wpList] at h ⊢
 have key:Oper.wp P o a w K (Exit.then K Q)→Oper.wp P o a w K' (Exit.then K' Q):=by
  intro h
  unfold Oper.wp at *
  generalize (execOp a.eval o).run P w=r at *
  cases r with
  | ok x w' =>
   cases x <;> simp only [Oper.upon] at h ⊢ <;>
    first
     | exact hK _ _ h
     | exact Calls.mono h (fun e w'' he=>by
       cases e with
       | returned v=>exact hK _ _ he
       | panicked ch=>exact he
       | outgrown=>obtain ⟨x,y,hq⟩:=he;exact ⟨x,y,hq⟩)
     | exact Rows.mono h (fun _ _ he=>hK _ _ he)
  | halt x w'=>cases x <;> simp only [Oper.upon] at h ⊢ <;> exact h
 split
 ·rename_i hw
  rw [if_pos hw] at h
  rcases h with h | ⟨h,x,y,hq⟩
  ·exact .inl (key h)
  ·exact .inr ⟨h,x,y,hq⟩
 ·rename_i hw
  rw [if_neg hw] at h
  exact hK _ _ h
theorem allOpsE_get {P:Program} {ops:List Oper} {Q:Exit→Act→World→Prop} {S:(Nat→Option Value)→World→Prop} {φ:Nat→Value→Prop} {a0:Act} :
  ∀ (l:List Oper) (k:Nat),allOpsE P ops Q S φ a0 k l→∀ j o,l[j]?=some o→OneOpE P ops Q S φ a0 (k+j) o:=by
 intro l
 induction l with
 | nil=>intro k _ j o h;simp at h
 | cons x l ih =>
  intro k h j o hj
  cases j with
  | zero=>simp at hj;subst hj;exact h.1
  | succ j=>have:=ih (k+1) h.2 j o (by simpa using hj);rwa [show k+1+j=k+(j+1) by omega] at this
theorem allOpsJ_of {P:Program} {ops:List Oper} {Q:Exit→Act→World→Prop} {E:World→World→Prop} {J:Array Bool→Act→World→Prop} {w0:World} {Φ:Nat→Value→World→Prop} {a0:Act} :
  ∀ (l:List Oper) (k:Nat),(∀ j o,l[j]?=some o→OneOpJ P ops Q E J w0 Φ a0 (k+j) o)→allOpsJ P ops Q E J w0 Φ a0 k l:=by
 intro l
 induction l with
 | nil=>intro k _;exact trivial
 | cons x l ih =>
  intro k h
  refine ⟨by have:=h 0 x rfl;simpa using this,ih (k+1) fun j o hj=>?_⟩
  have:=h (j+1) o (by simpa using hj)
  rwa [show k+(j+1)=k+1+j by omega] at this
section
variable {P:Program} {ops:List Oper} {Q:Exit→Act→World→Prop} {S:(Nat→Option Value)→World→Prop} {φ:Nat→Value→Prop} {a0:Act} {N:Nat}
theorem oneJ_of (hok:dagOk N ops=true) (hN:a0.tmps.size=N) {w0:World} {i:Nat} {o:Oper} (ho:ops[i]?=some o) (h:OneOpE P ops Q S φ a0 i o) :
  OneOpJ P ops Q (fun _ _=>True) (fun L a w=>∃ f,JE ops S φ f L a w) w0 (fun _ _ _=>True) a0 i o:=by
 intro L a w _ hJ hLs hLi hsh hsz hdf hlk
 obtain ⟨f,hJ⟩:=hJ
 have hi:i<ops.length:=(List.getElem?_eq_some_iff.1 ho).1
 have hfi:f i=none:=by
  cases hf:f i with
  | none=>rfl
  | some v=>have:=(hJ.flag i hi).2 ⟨v,hf⟩;rw [hLi] at this;cases this
 obtain ⟨k1,k2,k3⟩:=dagOk_at hok ho
 refine wpList_one_mono ?_ (h f a w hJ.fact hfi (fun j hj=>(hJ.flag j (by have:=k1 j hj;omega)).1 (hsh j hj)) (fun j x hx hxi=>?_) hsz hdf (fun t ht=>?_))
 ·rintro a' w' ⟨v,rfl,hv,hS⟩
  refine ⟨v,rfl,trivial,trivial,give f i v,?_,?_,?_,hS⟩
  ·intro j hj
   by_cases hji:j=i
   ·subst hji
    rw [give_own,Array.getElem?_setIfInBounds]
    simp [hLs,hj]
   ·rw [give_other hji,Array.getElem?_setIfInBounds,if_neg (Ne.symm hji)]
    exact hJ.flag j hj
  ·intro j x hx u hu
   by_cases hji:j=i
   ·subst hji
    rw [give_own] at hu
    obtain rfl:=Option.some.inj hu
    obtain rfl:o=x:=by rw [ho] at hx;exact Option.some.inj hx
    refine ⟨hv,fun d hd hlt=>?_⟩
    rw [hd] at hlt ⊢
    simp only [Act.put,Array.size_setIfInBounds] at hlt
    simp only [Act.put,Array.getElem?_setIfInBounds]
    simp [hlt]
   ·rw [give_other hji] at hu
    obtain ⟨h1,h2⟩:=hJ.val j x hx u hu
    refine ⟨h1,fun d hd hlt=>?_⟩
    have hw:=(dagOk_at hok hx).2.1 d hd
    cases hod:o.dst with
    | none=>rw [hod] at hlt;exact h2 d hd hlt
    | some e =>
     have hwe:=k2 e hod
     have hne:e ≠ d:=fun e1=>by
      subst e1
      have:=hw.1.symm.trans hwe.1
      exact hji (Option.some.inj this)
     rw [hod] at hlt
     simp only [Act.put,Array.size_setIfInBounds] at hlt
     simp only [Act.put,Array.getElem?_setIfInBounds]
     rw [if_neg hne]
     exact h2 d hd hlt
  ·intro j x hx hj q hq
   rw [Array.getElem?_setIfInBounds] at hj ⊢
   have hqj:=(dagOk_at hok hx).1 q hq
   have hjl:=(List.getElem?_eq_some_iff.1 hx).1
   by_cases hqi:i=q
   ·rw [if_pos hqi];simp [hLs];omega
   ·rw [if_neg hqi]
    by_cases hji:i=j
    ·subst hji
     obtain rfl:o=x:=by rw [ho] at hx;exact Option.some.inj hx
     exact hsh q hq
    ·rw [if_neg hji] at hj
     exact hJ.shut j x hx hj q hq
 ·cases hf:f j with
  | none=>rfl
  | some v =>
   have hjl:=(List.getElem?_eq_some_iff.1 hx).1
   have h1:=(hJ.flag j hjl).2 ⟨v,hf⟩
   have h2:=hJ.shut j x hx h1 i hxi
   rw [hLi] at h2
   cases h2
 ·obtain ⟨v,hv,hs⟩:=hlk t ht
  refine ⟨v,hv,?_⟩
  unfold SrcOf at hs
  unfold FromOf
  cases hw:writerOf ops t with
  | none=>rw [hw] at hs;exact hs
  | some j =>
   rw [hw] at hs
   dsimp only at hs ⊢
   by_cases hji:j<i
   ·rw [if_pos hji]
    obtain ⟨x,hx,hxd⟩:=writerOf_some hw
    have hh:hangsOn o j=true:=by
     rcases (k3 t ht).2 j hw with h1 | h1
     ·exact h1.2
     ·omega
    obtain ⟨u,hu⟩:=(hJ.flag j (by omega)).1 (hsh j hh)
    obtain ⟨h1,h2⟩:=hJ.val j x hx u hu
    have h3:=h2 t hxd (by rw [hsz,hN];exact (k3 t ht).1)
    rw [hv] at h3
    obtain rfl:=Option.some.inj h3
    exact ⟨hu,h1⟩
   ·rw [if_neg hji] at hs ⊢
    exact hs
theorem wp_region_dagE {id:Nat} (S:(Nat→Option Value)→World→Prop) (φ:Nat→Value→Prop) (hm:P.follows .mixedOrders=true) (N:Nat) (hN:a0.tmps.size=N) (hok:dagOk N ops=true) {w:World}
  (h0:S (fun _=>none) { w with drawn:=w.drawn+1 })
  (hone:allOpsE P ops Q S φ a0 0 ops)
  (hend:∀ f a w,S f w→(∀ i o,ops[i]?=some o→∃ v,f i=some v∧φ i v∧∀ d,o.dst=some d→a.tmps[d]?=some v)→a.tmps.size=a0.tmps.size→a.defers=a0.defers →
   (∀ t,writerOf ops t=none→a.tmps[t]?=a0.tmps[t]?)→Q .normal a w) :
  (Code.region id ops.toArray true).wp P Q a0 w:=by
 refine wp_region_dagJ (E:=fun _ _=>True) (w0:=w) (Φ:=fun _ _ _=>True) (J:=fun L a w=>∃ f,JE ops S φ f L a w) hm N hN hok (fun _ _ _ _ _ _=>trivial) ⟨fun _=>none,?_,?_,?_,h0⟩ trivial (fun _ _ _ _=>trivial) ?_ ?_
 ·intro j hj
  simp [hj]
 ·intro j o _ v hv
  cases hv
 ·intro i o _ h
  simp [Array.getElem?_replicate] at h
 ·refine allOpsJ_of ops 0 fun j o ho=>?_
  have:=allOpsE_get ops 0 hone j o ho
  rw [Nat.zero_add] at this ⊢
  exact oneJ_of hok hN ho this
 ·rintro L a w' ⟨f,hJ⟩ hall _ hsz hdf _ hrest
  refine hend f a w' hJ.fact (fun i o ho=>?_) hsz hdf hrest
  have hi:=(List.getElem?_eq_some_iff.1 ho).1
  obtain ⟨v,hv⟩:=(hJ.flag i hi).1 (hall i hi)
  obtain ⟨h1,h2⟩:=hJ.val i o ho v hv
  exact ⟨v,hv,h1,fun d hd=>h2 d hd (by rw [hsz,hN];exact ((dagOk_at hok ho).2.1 d hd).2)⟩
end
end Go.Proofs.YtigmdlchbjanoaaGreatDoor
namespace Go.Proofs.YtigmdlchbjanoaaGreatDoor
open Go.RowKit
def lk:List (Nat × Value)→Nat→Option Value
 | [],_=>none
 | p :: r,t=>if p.1=t then some p.2 else lk r t
structure Fr (n:Nat) (L:List (Nat × Value)) (a:Act):Prop where
 size:a.tmps.size=n
 defers:a.defers=[]
 kn:∀ t v,lk L t=some v→a.tmps[t]?=some v
theorem Fr.nil {n:Nat} {L:List (Nat × Value)} {a:Act} (h:Fr n L a):Fr n [] a:=⟨h.size,h.defers,fun t v hl=>by cases hl⟩
theorem Fr.start {n:Nat} {a:Act} (h:a.tmps.size=n) (hd:a.defers=[]):Fr n [] a:=⟨h,hd,fun t v hl=>by cases hl⟩
theorem Fr.cons {n:Nat} {L:List (Nat × Value)} {a:Act} (h:Fr n L a) {t:Nat} {v:Value} (ht:a.tmps[t]?=some v):Fr n ((t,v) :: L) a:=
 ⟨h.size,h.defers,fun t' v' hl=>by
  unfold lk at hl
  dsimp only at hl
  by_cases e:t=t'
  ·subst e
   rw [if_pos rfl] at hl
   cases hl
   exact ht
  ·rw [if_neg e] at hl
   exact h.kn t' v' hl⟩
theorem Fr.put {n:Nat} {L:List (Nat × Value)} {a:Act} (h:Fr n L a) {d:Nat} (hd:d<n) (v:Value):Fr n ((d,v) :: L) (a.put (some d) v):=by
 refine ⟨by simp [Act.put,h.size],h.defers,fun t' v' hl=>?_⟩
 unfold lk at hl
 dsimp only at hl
 simp only [Act.put,Array.getElem?_setIfInBounds]
 by_cases e:d=t'
 ·subst e
  rw [if_pos rfl] at hl
  cases hl
  simp [h.size,hd]
 ·rw [if_neg e] at hl
  rw [if_neg e]
  exact h.kn t' v' hl
theorem Fr.ev {n:Nat} {L:List (Nat × Value)} {a:Act} (h:Fr n L a) {t:Nat} {v:Value} (hl:lk L t=some v):a.eval (.tmp t)=v:=by
 simp [Act.eval,h.kn t v hl]
theorem Fr.gd {n:Nat} {L:List (Nat × Value)} {a:Act} (h:Fr n L a) {t:Nat} {v:Value} (hl:lk L t=some v):a.tmps.getD t undef=v:=by
 have:=h.kn t v hl
 simp [this]
def At2 (V:Value) (W:World) (v:Value) (w:World):Prop:=V=v∧W=w
def AtX (V:Value) (W:World) (v:Value) (w:World):Prop:=V=v∧Ext W w
def At1 (W w:World):Prop:=W=w
section
variable {P:Program} {Q:Exit→Act→World→Prop}
theorem fr_region {id:Nat} {ops:List Oper} {a:Act} {w:World} (h:wpList P ops.toArray Q ops a w):(Code.region id ops.toArray false).wp P Q a w:=by
 refine wp_region ?_
 rw [show ops.toArray.size=ops.length by simp,List.range_eq_range',wpOps_eq_wpList ops 0 (by simp)]
 exact h
theorem fr_end {ops:Array Oper} {a:Act} {w:World} (h:Q .normal a w):wpList P ops Q [] a w:=h
theorem oper_monoF {K K':Act→World→Prop} {o:Oper} {a:Act} {w:World} (hK:∀ a' w',K a' w' → K' a' w') (h:Oper.wp P o a w K (Exit.then K Q)):Oper.wp P o a w K' Q:=by
 unfold Oper.wp at *
 generalize (execOp a.eval o).run P w=r at *
 cases r with
 | ok x w' =>
  cases x <;> simp only [Oper.upon] at h ⊢ <;>
   first
    | exact hK _ _ h
    | exact Calls.mono h (fun e w'' he=>by
      cases e with
      | returned v=>exact hK _ _ he
      | panicked ch=>exact he
      | outgrown=>obtain ⟨x,y,hq⟩:=he;exact ⟨x,y,hq⟩)
    | exact Rows.mono h (fun _ _ he=>hK _ _ he)
 | halt x w'=>cases x <;> simp only [Oper.upon] at h ⊢ <;> exact h
theorem wpList_next {ops:Array Oper} {o:Oper} {rest:List Oper} {a:Act} {w:World} {K:Act→World→Prop} (hK:∀ a' w',K a' w' → wpList P ops Q rest a' w') (h:wpList P ops (Exit.then K Q) [o] a w):wpList P ops Q (o :: rest) a w:=by
 simp only [wpList] at h ⊢
 split
 ·rename_i hw
  rw [if_pos hw] at h
  rcases h with h | ⟨h,x,y,hq⟩
  ·exact .inl (oper_monoF hK h)
  ·exact .inr ⟨h,x,y,hq⟩
 ·rename_i hw
  rw [if_neg hw] at h
  exact hK _ _ h
theorem fr_op {n:Nat} {L:List (Nat × Value)} {ops:Array Oper} {o:Oper} {rest:List Oper} {a:Act} {w:World} (F:Fr n L a) (d:Nat) (hd:o.dst=some d) (hdn:d<n) (R:Value→World→Prop)
  (h1:wpList P ops (Exit.then (fun a' w'=>∃ v,a'=a.put o.dst v∧R v w') Q) [o] a w) (h2:∀ a' v w',R v w' → Fr n ((d,v) :: L) a' → wpList P ops Q rest a' w'):wpList P ops Q (o :: rest) a w:=
 wpList_next (fun a' w' h=>by
  obtain ⟨v,rfl,hr⟩:=h
  rw [hd]
  exact h2 _ v w' hr (F.put hdn v)) h1
theorem fr2 {n:Nat} {L:List (Nat × Value)} {ops:Array Oper} {o:Oper} {rest:List Oper} {a:Act} {w:World} (F:Fr n L a) (d:Nat) (V:Value) (W:World) (hd:o.dst=some d) (hdn:d<n)
  (h1:wpList P ops (Exit.then (fun a' w'=>∃ v,a'=a.put o.dst v∧At2 V W v w') Q) [o] a w) (h2:∀ a',Fr n ((d,V) :: L) a' → wpList P ops Q rest a' W):wpList P ops Q (o :: rest) a w:=
 fr_op F d hd hdn (At2 V W) h1 (fun a' _ _ ⟨hv,hw⟩ F'=>by subst hv;subst hw;exact h2 a' F')
theorem fr_op0 {n:Nat} {L:List (Nat × Value)} {ops:Array Oper} {o:Oper} {rest:List Oper} {a:Act} {w:World} (F:Fr n L a) (hd:o.dst=none) (R:World→Prop)
  (h1:wpList P ops (Exit.then (fun a' w'=>∃ v,a'=a.put o.dst v∧R w') Q) [o] a w) (h2:∀ a' w',R w' → Fr n L a' → wpList P ops Q rest a' w'):wpList P ops Q (o :: rest) a w:=
 wpList_next (fun a' w' h=>by
  obtain ⟨v,rfl,hr⟩:=h
  rw [hd]
  exact h2 _ w' hr F) h1
theorem fr_mv {n:Nat} {L:List (Nat × Value)} {ops:Array Oper} {o:Oper} {rest:List Oper} {a:Act} {w:World} {v:Value} (F:Fr n L a) (s d:Nat) (ho:o.op=.move (.tmp s)∨o.op=.assign (.tmp s)) (hg:o.guard=none) (hd:o.dst=some d) (hdn:d<n) (hl:lk L s=some v)
  (h:∀ a',Fr n ((d,v) :: L) a' → wpList P ops Q rest a' w):wpList P ops Q (o :: rest) a w:=by
 refine wpList_plain hg fun K hK=>?_
 have e:a.eval (.tmp s)=v:=F.ev hl
 have hh:K (a.put o.dst v) w:=hK _ _ (by rw [hd];exact h _ (F.put hdn v))
 unfold Oper.wp execOp
 rcases ho with ho | ho <;> (simp only [ho,e];exact hh)
theorem fr_as {n:Nat} {L:List (Nat × Value)} {ops:Array Oper} {o:Oper} {rest:List Oper} {a:Act} {w:World} {v:Value} (F:Fr n L a) (d:Nat) (ho:o.op=.move (.const v)∨o.op=.assign (.const v)) (hg:o.guard=none) (hd:o.dst=some d) (hdn:d<n)
  (h:∀ a',Fr n ((d,v) :: L) a' → wpList P ops Q rest a' w):wpList P ops Q (o :: rest) a w:=by
 refine wpList_plain hg fun K hK=>?_
 have hh:K (a.put o.dst v) w:=hK _ _ (by rw [hd];exact h _ (F.put hdn v))
 unfold Oper.wp execOp
 rcases ho with ho | ho <;> (simp only [ho];exact hh)
end
end Go.Proofs.YtigmdlchbjanoaaGreatDoor
