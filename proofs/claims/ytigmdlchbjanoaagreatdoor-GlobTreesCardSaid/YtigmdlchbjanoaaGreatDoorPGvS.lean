/- Put together: ThD, GlL, GtL. -/
import Derived.Test.YtigmdlchbjanoaaGreatDoorRows
import Derived.Test.YtigmdlchbjanoaaGreatDoorPTgD
import Derived.Test.YtigmdlchbjanoaaGreatDoorPTgA
import Derived.Lib.LaidTab
import Derived.Stop.LaidErr
import Derived.Lib.LaidU8
import Derived.LaidSub
import Derived.Test.YtigmdlchbjanoaaGreatDoorPGvQ
namespace Go.Proofs.YtigmdlchbjanoaaGreatDoor
open Go Go.RowKit Go.ChangeShapes
theorem tab_data {H:Type}:(Rows.laid_math_bits_deBruijn64tab:DataW H)=Lib.tabData .u8 (Lib.deBruijn64tab.map fun n:Nat=>(n:Int)):=rfl
theorem tab_laid {W:World} {rest:List (String × DataW Unit)} (h:laidMet Tryz.prog (("math/bits.deBruijn64tab", Rows.laid_math_bits_deBruijn64tab) :: rest) W):Tab W:=by
 rw [tab_data] at h
 have h1:=Lib.tabIs_of_head (g:=19) (t:=148) (n:=64) (by kernel_rfl) (by kernel_rfl) Tryz.underlying148 Tryz.underlying5 (by kernel_rfl) (by kernel_rfl) h
 intro j hj
 have h2:=h1.cell (g:=19) (by kernel_rfl) j (by rw [List.length_map];exact hj)
 rw [h2]
 congr 2
 simp [List.getD_eq_getElem?_getD]
 rw [List.getElem?_eq_getElem hj]
 rfl
end Go.Proofs.YtigmdlchbjanoaaGreatDoor
namespace Go.Proofs.YtigmdlchbjanoaaGreatDoor
open Go Go.RowKit Go.ChangeShapes
def keepI:String × DataW Unit→Bool
 | (_,.iface _ _)=>true
 | _=>false
theorem str_elem {P:Program} {W:World} {base:Nat} {sp:Nat→Bool} {held:Bool} {fuel:Nat} {t e:TypeId} {n:Nat} {cs:List Value} {ds:List (DataW Unit)} {p:List MemPlace} (ht:P.underlying t=some (.array n e)) (he:P.underlying e=some .string) (hc:P.cellsOf e=1)
  (h:DataW.trod (fun _=>()) P W base sp held fuel t cs=some (.agg ds,p)) (i:Nat) (hi:i<n):∃ s:ByteArray,ds[i]?=some (.lit (.string s.data.toList))∧cs[i]?=some (.string s):=by
 obtain ⟨fuel',d,q,hdi,hx⟩:=Lib.array_elem ht h i hi
 rw [hc] at hx
 obtain ⟨s,hcs,hd,_⟩:=DataW.trod_string he hx
 refine ⟨s,?_,?_⟩
 ·rw [hdi,show d=_ from congrArg Prod.fst hd]
 ·have e:=congrArg (·[0]?) hcs
  simpa [List.getElem?_take,List.getElem?_drop] using e
theorem words_laid {W:World} {l:List (String × DataW Unit)} (h:laidMet Tryz.prog l W) (hm:("truchman/glob.words", Rows.laid_truchman_glob_words) ∈ l):W.cell? ⟨2,2,none⟩=some (.string ⟨#[103,108,111,98]⟩):=by
 obtain ⟨g,t,cs,fuel,p,hg,hty,hvar,hd⟩:=Lib.laidMet.reads h hm
 obtain rfl:=Option.some.inj ((show Tryz.prog.globalNamed "truchman/glob.words" = some 2 by kernel_rfl).symm.trans hg)
 obtain rfl:=Option.some.inj ((show (Tryz.prog.globals[2]?).map (·.type)=some 72 by kernel_rfl).symm.trans hty)
 unfold Rows.laid_truchman_glob_words at hd
 obtain ⟨s,h1,h2⟩:=str_elem Tryz.underlying72 Tryz.underlying9 (by kernel_rfl) hd 2 (by decide)
 have hs:s.data.toList=[103,108,111,98]:=by
  simp at h1
  exact h1.symm
 have hs2:s=⟨#[103,108,111,98]⟩:=ByteArray.ext (Array.toList_inj.1 hs)
 subst hs2
 rw [World.var?_cell hg hvar 2,← Array.getElem?_toList]
 exact h2
end Go.Proofs.YtigmdlchbjanoaaGreatDoor
namespace Go.Proofs.YtigmdlchbjanoaaGreatDoor
open Go Go.RowKit Go.ChangeShapes
theorem words_laid0 {W:World} {l:List (String × DataW Unit)} (h:laidMet Tryz.prog l W) (hm:("truchman/glob.words", Rows.laid_truchman_glob_words) ∈ l):W.cell? ⟨2,0,none⟩=some (.string ⟨#[]⟩):=by
 obtain ⟨g,t,cs,fuel,p,hg,hty,hvar,hd⟩:=Lib.laidMet.reads h hm
 obtain rfl:=Option.some.inj ((show Tryz.prog.globalNamed "truchman/glob.words" = some 2 by kernel_rfl).symm.trans hg)
 obtain rfl:=Option.some.inj ((show (Tryz.prog.globals[2]?).map (·.type)=some 72 by kernel_rfl).symm.trans hty)
 unfold Rows.laid_truchman_glob_words at hd
 obtain ⟨s,h1,h2⟩:=str_elem Tryz.underlying72 Tryz.underlying9 (by kernel_rfl) hd 0 (by decide)
 have hs:s.data.toList=[]:=by
  simp at h1
  first | exact h1.symm | exact h1 | simpa using h1
 have hs2:s=⟨#[]⟩:=ByteArray.ext (Array.toList_inj.1 hs)
 subst hs2
 rw [World.var?_cell hg hvar 0,← Array.getElem?_toList]
 exact h2
theorem words_laid1 {W:World} {l:List (String × DataW Unit)} (h:laidMet Tryz.prog l W) (hm:("truchman/glob.words", Rows.laid_truchman_glob_words) ∈ l):W.cell? ⟨2,1,none⟩=some (.string ⟨#[101,120,97,99,116]⟩):=by
 obtain ⟨g,t,cs,fuel,p,hg,hty,hvar,hd⟩:=Lib.laidMet.reads h hm
 obtain rfl:=Option.some.inj ((show Tryz.prog.globalNamed "truchman/glob.words" = some 2 by kernel_rfl).symm.trans hg)
 obtain rfl:=Option.some.inj ((show (Tryz.prog.globals[2]?).map (·.type)=some 72 by kernel_rfl).symm.trans hty)
 unfold Rows.laid_truchman_glob_words at hd
 obtain ⟨s,h1,h2⟩:=str_elem Tryz.underlying72 Tryz.underlying9 (by kernel_rfl) hd 1 (by decide)
 have hs:s.data.toList=[101,120,97,99,116]:=by
  simp at h1
  first | exact h1.symm | exact h1 | simpa using h1
 have hs2:s=⟨#[101,120,97,99,116]⟩:=ByteArray.ext (Array.toList_inj.1 hs)
 subst hs2
 rw [World.var?_cell hg hvar 1,← Array.getElem?_toList]
 exact h2
theorem words_laid3 {W:World} {l:List (String × DataW Unit)} (h:laidMet Tryz.prog l W) (hm:("truchman/glob.words", Rows.laid_truchman_glob_words) ∈ l):W.cell? ⟨2,3,none⟩=some (.string ⟨#[114,101,103,101,120]⟩):=by
 obtain ⟨g,t,cs,fuel,p,hg,hty,hvar,hd⟩:=Lib.laidMet.reads h hm
 obtain rfl:=Option.some.inj ((show Tryz.prog.globalNamed "truchman/glob.words" = some 2 by kernel_rfl).symm.trans hg)
 obtain rfl:=Option.some.inj ((show (Tryz.prog.globals[2]?).map (·.type)=some 72 by kernel_rfl).symm.trans hty)
 unfold Rows.laid_truchman_glob_words at hd
 obtain ⟨s,h1,h2⟩:=str_elem Tryz.underlying72 Tryz.underlying9 (by kernel_rfl) hd 3 (by decide)
 have hs:s.data.toList=[114,101,103,101,120]:=by
  simp at h1
  first | exact h1.symm | exact h1 | simpa using h1
 have hs2:s=⟨#[114,101,103,101,120]⟩:=ByteArray.ext (Array.toList_inj.1 hs)
 subst hs2
 rw [World.var?_cell hg hvar 3,← Array.getElem?_toList]
 exact h2
theorem words_all {W:World} {l:List (String × DataW Unit)} (h:laidMet Tryz.prog l W) (hm:("truchman/glob.words", Rows.laid_truchman_glob_words) ∈ l):Words W:=
 ⟨words_laid0 h hm,words_laid1 h hm,words_laid h hm,words_laid3 h hm⟩
end Go.Proofs.YtigmdlchbjanoaaGreatDoor
