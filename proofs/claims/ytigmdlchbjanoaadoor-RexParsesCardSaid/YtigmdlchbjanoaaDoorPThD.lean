/- Put together: ClL. -/
import Derived.Test.YtigmdlchbjanoaaDoorRows
import Derived.Test.YtigmdlchbjanoaaDoorPTgD
import Derived.Test.YtigmdlchbjanoaaDoorPTgA
import Derived.Lib.LaidTab
import Derived.Stop.LaidErr
namespace Go.Proofs.YtigmdlchbjanoaaDoor
open Go Go.RowKit Go.ChangeShapes
theorem tab_data {H:Type}:(Rows.laid_math_bits_deBruijn64tab:DataW H)=Lib.tabData .u8 (Lib.deBruijn64tab.map fun n:Nat=>(n:Int)):=rfl
theorem tab_laid {W:World} {rest:List (String × DataW Unit)} (h:laidMet Tryd.prog (("math/bits.deBruijn64tab", Rows.laid_math_bits_deBruijn64tab) :: rest) W):Tab W:=by
 rw [tab_data] at h
 have h1:=Lib.tabIs_of_head (g:=16) (t:=115) (n:=64) (by kernel_rfl) (by kernel_rfl) Tryd.underlying115 Tryd.underlying5 (by kernel_rfl) (by kernel_rfl) h
 intro j hj
 have h2:=h1.cell (g:=16) (by kernel_rfl) j (by rw [List.length_map];exact hj)
 rw [h2]
 congr 2
 simp [List.getD_eq_getElem?_getD]
 rw [List.getElem?_eq_getElem hj]
 rfl
end Go.Proofs.YtigmdlchbjanoaaDoor
