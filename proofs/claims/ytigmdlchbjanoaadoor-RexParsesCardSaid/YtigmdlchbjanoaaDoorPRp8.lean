/- The document's parser: the loop's body by name, its invariant. -/
import Derived.Test.YtigmdlchbjanoaaDoorPRp5
import Derived.Test.YtigmdlchbjanoaaDoorPRp6
import Derived.Test.YtigmdlchbjanoaaDoorPRp7p
import Derived.Test.YtigmdlchbjanoaaDoorPRpB
import Derived.Test.YtigmdlchbjanoaaDoorPFr
namespace Go.Proofs.YtigmdlchbjanoaaDoor
open Go Go.RowKit
/-- What the document's parser answers. -/
def RefRes (w:World) (r:PR) (e:Ending) (w':World):Prop:=
 Ext w w' ∧ match r with
  | .ok t _ _=>∃ l:List Value,e=.returned (.tuple #[.agg l.toArray,.int .i64 0])∧DNodeV (fun _=>True) w' t l
  | .err k=>e=.returned (.tuple #[.agg (dnC 0 0 false (fun _=>false) none 0 0).toArray,.int .i64 (k:Nat)])
  | .out=>False
/-- Where the loop stands. -/
def PInv (l:List UInt8) (R:PR) (w:World) (g:Nat) (sv gv av iv:Value) (wr:World):Prop:=
 ∃ (num:Nat) (alts items:List T) (rest:List Op) (gr i:Nat) (ag:Bool) (st:List OpS) (va vi:Value) (gs cap N:Nat),
  g=l.length-i∧st.length=N∧sv=.slice (some ⟨gs,0,none⟩) (N+1) cap∧gv=.int .i64 (gr:Nat)∧av=.bool ag∧iv=.int .i64 (i:Nat) ∧
  PStk (w.heap.size+1) 37 51 wr sv (st ++ [⟨⟨num,alts,items⟩,va,vi⟩])∧st.map OpS.o=rest.reverse∧Runs l ⟨⟨num,alts,items⟩,rest,gr,ag,i⟩ R ∧
  i≤l.length∧gr≤9∧N≤8∧(∀ y ∈ st ++ [⟨⟨num,alts,items⟩,va,vi⟩],y.o.alts.length≤i∧y.o.items.length≤i)∧Ext w wr∧Blk wr w.heap.size 37 Tryd.zeroCells37.toList
/-- The first loop's body. -/
def loopIn:Code→Option Code
 | .loop c=>some c
 | .seq a b=>match loopIn a with | some c=>some c | none=>loopIn b
 | .block _ c=>loopIn c
 | .cond _ a b=>match loopIn a with | some c=>some c | none=>loopIn b
 | _=>none
noncomputable def bodyP:Code:=(Tryd.f6.body.bind loopIn).getD .skip
/-- The loop's invariant, with the frame. -/
def LInv (l:List UInt8) (R:PR) (w:World) (g:Nat) (a:Act) (wr:World):Prop:=
 ∃ sv gv av iv,Fr 280 [(0,.string ⟨l.toArray⟩),(2,.pointer (some ⟨w.heap.size,0,none⟩)),(4,sv),(5,gv),(6,av),(7,iv)] a∧PInv l R w g sv gv av iv wr
end Go.Proofs.YtigmdlchbjanoaaDoor
