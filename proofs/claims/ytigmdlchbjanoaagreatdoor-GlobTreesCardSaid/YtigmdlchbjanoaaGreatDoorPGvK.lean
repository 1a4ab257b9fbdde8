/- Put together: RxW, Gl0, GtP. -/
import Derived.Test.YtigmdlchbjanoaaGreatDoorPTgQ
import Derived.Test.YtigmdlchbjanoaaGreatDoorPGvB
namespace Go.Proofs.YtigmdlchbjanoaaGreatDoor
open Go Go.RowKit
end Go.Proofs.YtigmdlchbjanoaaGreatDoor
namespace Go.Proofs.YtigmdlchbjanoaaGreatDoor
open Go Go.RowKit
def rowT:List T→T
 | [t]=>t
 | ts=>.node 3 0 false noP ts
def byteT (c:UInt8):T:=.node 2 0 false (fun j=>j == c.toNat) []
def allT:T:=.node 2 0 false (fun _=>true) []
def sizeErr (l:List UInt8):Nat:=if 120<l.length then 4 else if l=[] then 15 else 0
def plainG (l:List UInt8):PR:=if sizeErr l=0 then .ok (rowT (l.map byteT)) 0 0 else .err (sizeErr l)
def stars:List UInt8→Nat
 | []=>0
 | c :: r=>if c=42 then stars r+1 else 0
def itemG:List UInt8→T × Nat × Nat
 | []=>(allT,0,0)
 | c :: r =>
  if c=42 then (.node 5 0 false noP [allT],stars (c :: r),0)
  else if c=63 then (allT,1,0)
  else if c=91 then (.node 2 0 false (parseS (c :: r)).1 [],(parseS (c :: r)).2.1,(parseS (c :: r)).2.2)
  else if c=92 then (.node 2 0 false (escS (c :: r)).set [],(escS (c :: r)).size,(escS (c :: r)).err)
  else (byteT c,1,0)
def itemsG:Nat→List UInt8→List T→PR
 | 0,_,_=>.out
 | f+1,l,acc =>
  if l=[] then .ok (rowT acc) 0 0
  else if (itemG l).2.2=0 then itemsG f (l.drop (itemG l).2.1) (acc ++ [(itemG l).1]) else .err (itemG l).2.2
def parseG (l:List UInt8):PR:=if sizeErr l=0 then itemsG (l.length+1) l [] else .err (sizeErr l)
def ofG (kind:Int) (l:List UInt8):PR:=
 match (if kind=1 then plainG l else if kind=2 then parseG l else if kind=3 then parseR l else .err 9) with
 | .out=>.out
 | .err k=>.err k
 | .ok t i gr=>if t.nullable then .err 15 else .ok t i gr
def plainB (c:UInt8):Bool:=(decide (97≤c.toNat) && decide (c.toNat≤122)) || (decide (65≤c.toNat) && decide (c.toNat≤90)) || (decide (48≤c.toNat) && decide (c.toNat≤57)) || c.toNat == 32 || c.toNat == 95
def quoteC (c:UInt8):List UInt8:=if plainB c then [c] else [92,120,hexC (c.toNat / 16),hexC (c.toNat % 16)]
def quoteG (l:List UInt8):List UInt8:=l.flatMap quoteC
theorem stars_cons (c:UInt8) (r:List UInt8):stars (c :: r)=if c=42 then stars r+1 else 0:=rfl
theorem itemG_cons (c:UInt8) (r:List UInt8):itemG (c :: r)=if c=42 then (.node 5 0 false noP [allT],stars (c :: r),0)
  else if c=63 then (allT,1,0)
  else if c=91 then (.node 2 0 false (parseS (c :: r)).1 [],(parseS (c :: r)).2.1,(parseS (c :: r)).2.2)
  else if c=92 then (.node 2 0 false (escS (c :: r)).set [],(escS (c :: r)).size,(escS (c :: r)).err)
  else (byteT c,1,0):=rfl
theorem stars_le (l:List UInt8):stars l≤l.length:=by
 induction l with
 | nil=>simp [stars]
 | cons c r ih=>rw [stars_cons,List.length_cons];split <;> omega
theorem item_pos {l:List UInt8} (h:l ≠ []) (he:(itemG l).2.2=0):1≤(itemG l).2.1∧(itemG l).2.1≤l.length:=by
 cases l with
 | nil=>exact absurd rfl h
 | cons c r =>
  rw [itemG_cons] at he ⊢
  by_cases h1:c=42
  ·rw [if_pos h1]
   have:=stars_le (c :: r)
   refine ⟨?_,this⟩
   dsimp only
   rw [stars_cons,if_pos h1];omega
  rw [if_neg h1] at he ⊢
  by_cases h2:c=63
  ·rw [if_pos h2];exact ⟨Nat.le_refl _,by simp⟩
  rw [if_neg h2] at he ⊢
  by_cases h3:c=91
  ·rw [if_pos h3] at he ⊢;exact parse_bound he
  rw [if_neg h3] at he ⊢
  by_cases h4:c=92
  ·rw [if_pos h4] at he ⊢
   dsimp only at he ⊢
   have hb:=esc_fits (c :: r)
   cases hs:escS (c :: r) with
   | bad k=>rw [hs] at hb he;have hb:k=3∨k=5:=hb;have he:k=0:=he;omega
   | byte m n=>rw [hs] at hb;exact hb.2
   | cls p n=>rw [hs] at hb;exact hb
  ·rw [if_neg h4];exact ⟨Nat.le_refl _,by simp⟩
theorem quote_sign {c:UInt8} (h:plainB c=false):quoteC c=signT c.toNat∧(isLet c.toNat || isFig c.toNat)=false:=by
 have hs:(isLet c.toNat || isFig c.toNat)=false:=by
  unfold plainB at h
  unfold isLet isFig
  simp only [Bool.or_eq_false_iff] at h ⊢
  exact ⟨⟨h.1.1.1.1,h.1.1.1.2⟩,h.1.1.2⟩
 unfold quoteC signT
 rw [if_neg (by rw [h];simp),if_neg (by rw [hs];simp)]
 exact ⟨rfl,hs⟩
end Go.Proofs.YtigmdlchbjanoaaGreatDoor
namespace Go.Proofs.YtigmdlchbjanoaaGreatDoor
open Go Go.RowKit
def overB (l:List UInt8) (i:Nat) (acc:List T):Prop:=0<i∧l[i-1]?=some 42∧∃ t,acc.getLast?=some t∧t.kind=5
open Classical in
def DG (l:List UInt8) (i:Nat) (acc:List T) (R:PR):Prop:=
 ∃ f,l.length-i<f∧itemsG f (if overB l i acc then (l.drop i).drop (stars (l.drop i)) else l.drop i) acc=R
theorem dg_start {l:List UInt8} (h:sizeErr l=0):DG l 0 [] (parseG l):=by
 refine ⟨l.length+1,by omega,?_⟩
 rw [if_neg (fun h=>by have:=h.1;omega),List.drop_zero]
 unfold parseG
 rw [if_pos h]
theorem stars_nil:stars []=0:=rfl
theorem dg_end {l:List UInt8} {acc:List T} {R:PR} {i:Nat} (h:DG l i acc R) (hi:l.length≤i):R=.ok (rowT acc) 0 0:=by
 obtain ⟨f,hf,h⟩:=h
 rw [List.drop_of_length_le hi,stars_nil,List.drop_zero,ite_self] at h
 cases f with
 | zero=>omega
 | succ f=>rw [itemsG,if_pos rfl] at h;exact h.symm
theorem dg_over {l:List UInt8} {acc:List T} {R:PR} {i:Nat} (h:DG l i acc R) (hc:l[i]?=some 42) (ho:overB l i acc):DG l (i+1) acc R:=by
 obtain ⟨f,hf,h⟩:=h
 rw [if_pos ho] at h
 have hlt:i<l.length:=(List.getElem?_eq_some_iff.1 hc).1
 have hd:l.drop i=42 :: l.drop (i+1):=by rw [List.drop_eq_getElem_cons hlt,(List.getElem?_eq_some_iff.1 hc).2]
 refine ⟨f,by omega,?_⟩
 rw [if_pos ⟨by omega,by rw [Nat.add_sub_cancel];exact hc,ho.2.2⟩,← h,hd,stars_cons,if_pos rfl,List.drop_succ_cons]
theorem dg_star {l:List UInt8} {acc:List T} {R:PR} {i:Nat} (h:DG l i acc R) (hc:l[i]?=some 42) (ho:¬ overB l i acc):DG l (i+1) (acc ++ [.node 5 0 false noP [allT]]) R:=by
 obtain ⟨f,hf,h⟩:=h
 rw [if_neg ho] at h
 have hlt:i<l.length:=(List.getElem?_eq_some_iff.1 hc).1
 have hd:l.drop i=42 :: l.drop (i+1):=by rw [List.drop_eq_getElem_cons hlt,(List.getElem?_eq_some_iff.1 hc).2]
 cases f with
 | zero=>omega
 | succ f =>
  rw [hd,itemsG,if_neg (by simp),itemG_cons,if_pos rfl,if_pos rfl] at h
  refine ⟨f,by omega,?_⟩
  rw [if_pos ⟨by omega,by rw [Nat.add_sub_cancel];exact hc,⟨_,List.getLast?_concat,rfl⟩⟩,← h,stars_cons,if_pos rfl,List.drop_succ_cons]
def oneG (l:List UInt8) (c:UInt8):(Nat→Bool) × Nat × Nat:=
 if c=63 then (fun _=>true,1,0) else if c=91 then parseS l else if c=92 then ((escS l).set,(escS l).size,(escS l).err) else (fun j=>j == c.toNat,1,0)
theorem item_one {c:UInt8} {r:List UInt8} (h:c ≠ 42):itemG (c :: r)=(.node 2 0 false (oneG (c :: r) c).1 [],(oneG (c :: r) c).2):=by
 rw [itemG_cons,if_neg h]
 unfold oneG
 by_cases h1:c=63
 ·rw [if_pos h1,if_pos h1];rfl
 ·rw [if_neg h1,if_neg h1]
  by_cases h2:c=91
  ·rw [if_pos h2,if_pos h2]
  ·rw [if_neg h2,if_neg h2]
   by_cases h3:c=92
   ·rw [if_pos h3,if_pos h3]
   ·rw [if_neg h3,if_neg h3];rfl
theorem dg_rest {l:List UInt8} {acc:List T} {R:PR} {i:Nat} {c:UInt8} (h:DG l i acc R) (hc:l[i]?=some c) (h42:c ≠ 42):∃ f,l.length-i<f∧itemsG f (l.drop i) acc=R∧l.drop i=c :: l.drop (i+1):=by
 obtain ⟨f,hf,h⟩:=h
 have hlt:i<l.length:=(List.getElem?_eq_some_iff.1 hc).1
 have hd:l.drop i=c :: l.drop (i+1):=by rw [List.drop_eq_getElem_cons hlt,(List.getElem?_eq_some_iff.1 hc).2]
 refine ⟨f,hf,?_,hd⟩
 rw [show (l.drop i).drop (stars (l.drop i))=l.drop i by rw [hd,stars_cons,if_neg h42,List.drop_zero],ite_self] at h
 exact h
theorem dg_err {l:List UInt8} {acc:List T} {R:PR} {i:Nat} {c:UInt8} (h:DG l i acc R) (hc:l[i]?=some c) (h42:c ≠ 42) (he:(oneG (l.drop i) c).2.2 ≠ 0):R=.err (oneG (l.drop i) c).2.2:=by
 obtain ⟨f,hf,h,hd⟩:=dg_rest h hc h42
 cases f with
 | zero=>omega
 | succ f =>
  rw [hd] at h he ⊢
  rw [itemsG,if_neg (by simp),item_one h42,if_neg he] at h
  exact h.symm
theorem dg_one {l:List UInt8} {acc:List T} {R:PR} {i:Nat} {c:UInt8} (h:DG l i acc R) (hc:l[i]?=some c) (h42:c ≠ 42) (he:(oneG (l.drop i) c).2.2=0) :
  DG l (i+(oneG (l.drop i) c).2.1) (acc ++ [.node 2 0 false (oneG (l.drop i) c).1 []]) R∧1≤(oneG (l.drop i) c).2.1∧i+(oneG (l.drop i) c).2.1≤l.length:=by
 obtain ⟨f,hf,h,hd⟩:=dg_rest h hc h42
 have hlt:i<l.length:=(List.getElem?_eq_some_iff.1 hc).1
 have hl:(l.drop i).length=l.length-i:=List.length_drop
 cases f with
 | zero=>omega
 | succ f =>
  have hp:=item_pos (l:=l.drop i) (by rw [hd];simp) (by rw [hd,item_one h42];rw [hd] at he;exact he)
  have hi:itemG (l.drop i)=(.node 2 0 false (oneG (l.drop i) c).1 [],(oneG (l.drop i) c).2):=by rw [hd];exact item_one h42
  rw [hi] at hp
  dsimp only at hp
  refine ⟨⟨f,by omega,?_⟩,hp.1,by omega⟩
  rw [if_neg (fun ho=>by
   obtain ⟨_,_,t,ht,hk⟩:=ho
   rw [List.getLast?_concat] at ht
   cases ht
   exact absurd hk (by show ¬ (2:Int)=5;decide)),← h,itemsG,if_neg (by rw [hd];simp),hi,if_pos he,List.drop_drop]
theorem oneG_err {l:List UInt8} {c:UInt8} (h:(oneG l c).2.2 ≠ 0):(oneG l c).2.2≤15:=by
 unfold oneG at h ⊢
 split at h
 ·exact absurd rfl h
 ·rename_i h1
  rw [if_neg h1]
  split at h
  ·rename_i h2
   rw [if_pos h2]
   have:=(parseS_err l).resolve_left h
   unfold ErrK at this
   omega
  ·rename_i h2
   rw [if_neg h2]
   split at h
   ·rename_i h3
    rw [if_pos h3]
    have hf:=esc_fits l
    dsimp only at h ⊢
    cases he:escS l with
    | bad k=>rw [he] at hf h;unfold Sg.fits at hf;dsimp only at hf;show k≤15;omega
    | byte m n=>rw [he] at h;exact absurd rfl h
    | cls p n=>rw [he] at h;exact absurd rfl h
   ·exact absurd rfl h
end Go.Proofs.YtigmdlchbjanoaaGreatDoor
