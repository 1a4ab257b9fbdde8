/-
 A frame told by what is known of its slots: for functions of very many slots. Each operation by itself; what it gives is put ahead of what is known. Own text.
-/
import Derived.Test.YtigmdlchbjanoaaDoorPDagE
import Derived.Deep.LoopGhost
namespace Go.Proofs.YtigmdlchbjanoaaDoor
open Go.RowKit
/-- What is known of a slot: the first that is told. -/
def lk:List (Nat × Value)→Nat→Option Value
 | [],_=>none
 | p :: r,t=>if p.1=t then some p.2 else lk r t
structure Fr (n:Nat) (L:List (Nat × Value)) (a:Act):Prop where
 size:a.tmps.size=n
 defers:a.defers=[]
 kn:∀ t v,lk L t=some v→a.tmps[t]?=some v
theorem Fr.nil {n:Nat} {L:List (Nat × Value)} {a:Act} (h:Fr n L a):Fr n [] a:=⟨h.size,h.defers,fun t v hl=>by cases hl⟩
theorem Fr.start {n:Nat} {a:Act} (h:a.tmps.size=n) (hd:a.defers=[]):Fr n [] a:=⟨h,hd,fun t v hl=>by cases hl⟩
theorem Fr.cons {n:Nat} {L:List (Nat × Value)} {a:Act} (h:Fr n L a) {t:Nat} {v:Value} (ht:a.tmps[t]?=some v):Fr n ((t,v) :: L) a:=
 ⟨h.size,h.defers,fun t' v' hl=>by
  unfold lk at hl
  dsimp only at hl
  by_cases e:t=t'
  ·subst e
   rw [if_pos rfl] at hl
   cases hl
   exact ht
  ·rw [if_neg e] at hl
   exact h.kn t' v' hl⟩
theorem Fr.put {n:Nat} {L:List (Nat × Value)} {a:Act} (h:Fr n L a) {d:Nat} (hd:d<n) (v:Value):Fr n ((d,v) :: L) (a.put (some d) v):=by
 refine ⟨by simp [Act.put,h.size],h.defers,fun t' v' hl=>?_⟩
 unfold lk at hl
 dsimp only at hl
 simp only [Act.put,Array.getElem?_setIfInBounds]
 by_cases e:d=t'
 ·subst e
  rw [if_pos rfl] at hl
  cases hl
  simp [h.size,hd]
 ·rw [if_neg e] at hl
  rw [if_neg e]
  exact h.kn t' v' hl
theorem Fr.ev {n:Nat} {L:List (Nat × Value)} {a:Act} (h:Fr n L a) {t:Nat} {v:Value} (hl:lk L t=some v):a.eval (.tmp t)=v:=by
 simp [Act.eval,h.kn t v hl]
theorem Fr.gd {n:Nat} {L:List (Nat × Value)} {a:Act} (h:Fr n L a) {t:Nat} {v:Value} (hl:lk L t=some v):a.tmps.getD t undef=v:=by
 have:=h.kn t v hl
 simp [this]
/-- What an operation gives and leaves, where both are known. -/
def At2 (V:Value) (W:World) (v:Value) (w:World):Prop:=V=v∧W=w
def AtX (V:Value) (W:World) (v:Value) (w:World):Prop:=V=v∧Ext W w
def At1 (W w:World):Prop:=W=w
section
variable {P:Program} {Q:Exit→Act→World→Prop}
theorem fr_region {id:Nat} {ops:List Oper} {a:Act} {w:World} (h:wpList P ops.toArray Q ops a w):(Code.region id ops.toArray false).wp P Q a w:=by
 refine wp_region ?_
 rw [show ops.toArray.size=ops.length by simp,List.range_eq_range',wpOps_eq_wpList ops 0 (by simp)]
 exact h
theorem fr_end {ops:Array Oper} {a:Act} {w:World} (h:Q .normal a w):wpList P ops Q [] a w:=h
theorem oper_monoF {K K':Act→World→Prop} {o:Oper} {a:Act} {w:World} (hK:∀ a' w',K a' w' → K' a' w') (h:Oper.wp P o a w K (Exit.then K Q)):Oper.wp P o a w K' Q:=by
 unfold Oper.wp at *
 generalize (execOp a.eval o).run P w=r at *
 cases r with
 | ok x w' =>
  cases x <;> simp only [Oper.upon] at h ⊢ <;>
   first
    | exact hK _ _ h
    | exact Calls.mono h (fun e w'' he=>by
      cases e with
      | returned v=>exact hK _ _ he
      | panicked ch=>exact he
      | outgrown=>obtain ⟨x,y,hq⟩:=he;exact ⟨x,y,hq⟩)
    | exact Rows.mono h (fun _ _ he=>hK _ _ he)
 | halt x w'=>cases x <;> simp only [Oper.upon] at h ⊢ <;> exact h
theorem wpList_next {ops:Array Oper} {o:Oper} {rest:List Oper} {a:Act} {w:World} {K:Act→World→Prop} (hK:∀ a' w',K a' w' → wpList P ops Q rest a' w') (h:wpList P ops (Exit.then K Q) [o] a w):wpList P ops Q (o :: rest) a w:=by
 simp only [wpList] at h ⊢
 split
 ·rename_i hw
  rw [if_pos hw] at h
  rcases h with h | ⟨h,x,y,hq⟩
  ·exact .inl (oper_monoF hK h)
  ·exact .inr ⟨h,x,y,hq⟩
 ·rename_i hw
  rw [if_neg hw] at h
  exact hK _ _ h
/-- One operation that fills a slot. -/
theorem fr_op {n:Nat} {L:List (Nat × Value)} {ops:Array Oper} {o:Oper} {rest:List Oper} {a:Act} {w:World} (F:Fr n L a) (d:Nat) (hd:o.dst=some d) (hdn:d<n) (R:Value→World→Prop)
  (h1:wpList P ops (Exit.then (fun a' w'=>∃ v,a'=a.put o.dst v∧R v w') Q) [o] a w) (h2:∀ a' v w',R v w' → Fr n ((d,v) :: L) a' → wpList P ops Q rest a' w'):wpList P ops Q (o :: rest) a w:=
 wpList_next (fun a' w' h=>by
  obtain ⟨v,rfl,hr⟩:=h
  rw [hd]
  exact h2 _ v w' hr (F.put hdn v)) h1
/-- One operation that fills a slot, where what it gives and leaves is known. -/
theorem fr2 {n:Nat} {L:List (Nat × Value)} {ops:Array Oper} {o:Oper} {rest:List Oper} {a:Act} {w:World} (F:Fr n L a) (d:Nat) (V:Value) (W:World) (hd:o.dst=some d) (hdn:d<n)
  (h1:wpList P ops (Exit.then (fun a' w'=>∃ v,a'=a.put o.dst v∧At2 V W v w') Q) [o] a w) (h2:∀ a',Fr n ((d,V) :: L) a' → wpList P ops Q rest a' W):wpList P ops Q (o :: rest) a w:=
 fr_op F d hd hdn (At2 V W) h1 (fun a' _ _ ⟨hv,hw⟩ F'=>by subst hv;subst hw;exact h2 a' F')
/-- One operation that fills none. -/
theorem fr_op0 {n:Nat} {L:List (Nat × Value)} {ops:Array Oper} {o:Oper} {rest:List Oper} {a:Act} {w:World} (F:Fr n L a) (hd:o.dst=none) (R:World→Prop)
  (h1:wpList P ops (Exit.then (fun a' w'=>∃ v,a'=a.put o.dst v∧R w') Q) [o] a w) (h2:∀ a' w',R w' → Fr n L a' → wpList P ops Q rest a' w'):wpList P ops Q (o :: rest) a w:=
 wpList_next (fun a' w' h=>by
  obtain ⟨v,rfl,hr⟩:=h
  rw [hd]
  exact h2 _ w' hr F) h1
end
end Go.Proofs.YtigmdlchbjanoaaDoor
