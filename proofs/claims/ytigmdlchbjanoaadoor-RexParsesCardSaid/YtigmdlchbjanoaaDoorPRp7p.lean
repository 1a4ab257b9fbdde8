/- The document's parser, one step in each of its ways. Plain. -/
import Derived.Test.YtigmdlchbjanoaaDoorPRp1
namespace Go.Proofs.YtigmdlchbjanoaaDoor
open Go Go.RowKit
theorem u8_ne {c k:UInt8} (h:c ≠ k):((c.toNat:Int) == (k.toNat:Int))=false:=by
 rw [beq_eq_false_iff_ne]
 intro e
 exact h (UInt8.toNat_inj.1 (by omega))
section
variable {l:List UInt8} {num:Nat} {alts items:List T} {rest:List Op} {gr i:Nat} {ag:Bool} {c:UInt8}
theorem stp_end (h:l[i]?=none):stepM l ⟨⟨num,alts,items⟩,rest,gr,ag,i⟩=if rest=[] then .fin (.ok (closeT ⟨num,alts,items⟩) i gr) else .fin (.err 3):=by
 unfold stepM
 dsimp only
 rw [h]
theorem stp_rep0 (h:l[i]?=some c) (hc:isRep c):stepM l ⟨⟨num,alts,items⟩,rest,gr,false,i⟩=.fin (.err 5):=by
 unfold stepM
 dsimp only
 rw [h]
 dsimp only
 rw [if_pos hc,if_pos rfl]
theorem stp_repN (h:l[i]?=some c) (hc:isRep c):stepM l ⟨⟨num,alts,[]⟩,rest,gr,true,i⟩=.fin .out:=by
 unfold stepM
 dsimp only
 rw [h]
 dsimp only
 rw [if_pos hc,if_neg (by decide)]
 rfl
theorem stp_rep (h:l[i]?=some c) (hc:isRep c) {t:T} (ht:items.getLast?=some t):stepM l ⟨⟨num,alts,items⟩,rest,gr,true,i⟩ =
  if c ≠ 63∧t.nullable=true then .fin (.err 15) else .go ⟨⟨num,alts,items.dropLast ++ [repT c (decide (l[i+1]?=some 63)) t]⟩,rest,gr,false,if decide (l[i+1]?=some 63)=true then i+2 else i+1⟩:=by
 unfold stepM
 dsimp only
 rw [h]
 dsimp only
 rw [if_pos hc,if_neg (by decide),ht]
theorem stp_bar (h:l[i]?=some 124):stepM l ⟨⟨num,alts,items⟩,rest,gr,ag,i⟩=.go ⟨⟨num,alts ++ [mkCat items],[]⟩,rest,gr,false,i+1⟩:=step_bar h
theorem stp_open (h:l[i]?=some 40):stepM l ⟨⟨num,alts,items⟩,rest,gr,ag,i⟩=if 8≤rest.length then .fin (.err 11)
   else if l[i+1]?=some 63 then match l[i+2]? with
    | none=>.fin (.err 3)
    | some d=>if d=58 then .go ⟨⟨0,[],[]⟩,⟨num,alts,items⟩ :: rest,gr,false,i+3⟩ else .fin (.err 5)
   else if gr=9 then .fin (.err 2) else .go ⟨⟨gr+1,[],[]⟩,⟨num,alts,items⟩ :: rest,gr+1,false,i+1⟩:=by
 unfold stepM
 dsimp only
 rw [h]
 dsimp only
 rw [if_neg not_rep40,if_neg (by decide),if_pos rfl]
 rfl
theorem stp_shut0 (h:l[i]?=some 41):stepM l ⟨⟨num,alts,items⟩,[],gr,ag,i⟩=.fin (.err 5):=by
 unfold stepM
 dsimp only
 rw [h]
 dsimp only
 rw [if_neg not_rep41,if_neg (by decide),if_neg (by decide),if_pos rfl]
theorem stp_shut {p:Op} (h:l[i]?=some 41):stepM l ⟨⟨num,alts,items⟩,p :: rest,gr,ag,i⟩=.go ⟨⟨p.num,p.alts,p.items ++ [closeT ⟨num,alts,items⟩]⟩,rest,gr,true,i+1⟩:=step_close h rfl
theorem stp_set (h:l[i]?=some c) (h1:¬ isRep c) (h2:c ≠ 124) (h3:c ≠ 40) (h4:c ≠ 41):stepM l ⟨⟨num,alts,items⟩,rest,gr,ag,i⟩ =
  if (oneS l i c).2.2=0 then .go ⟨⟨num,alts,items ++ [.node 2 0 false (oneS l i c).1 []]⟩,rest,gr,true,i+(oneS l i c).2.1⟩ else .fin (.err (oneS l i c).2.2):=by
 unfold stepM
 dsimp only
 rw [h]
 dsimp only
 rw [if_neg h1,if_neg h2,if_neg h3,if_neg h4]
end
end Go.Proofs.YtigmdlchbjanoaaDoor
