/- A class, as the code reads it: all ways. -/
import Derived.Test.YtkknhocehladdaaDoorCl23a
import Derived.Test.YtkknhocehladdaaDoorCl23b
import Derived.Test.YtkknhocehladdaaDoorCl23c
namespace Go.Proofs.YtkknhocehladdaaDoor
open Go Go.RowKit

theorem clParse (E : Nat → Addr) (l : List UInt8) (hlen : l.length ≤ 10000) (w : World) (hE : ErrC [2, 4] w E) (hT : Tab w) :
    Calls Tryd.prog 23 #[.string ⟨l.toArray⟩] w fun e w' => e = .returned (parseV E (parseS l)) ∧ Ext w w' := by
  by_cases h : ∃ t, l = 91 :: t
  · obtain ⟨t, rfl⟩ := h
    by_cases h1 : 1 < (91 :: t : List UInt8).length
    · cases hb : decide ((91 :: t : List UInt8)[1]? = some 94)
      · exact clParse1a E t false rfl hb h1 hlen w hE hT
      · exact clParse1c E t true rfl hb h1 hlen w hE hT
    · refine clParse1b E t false rfl ?_ h1 hlen w hE hT
      rw [List.getElem?_eq_none (by omega)]
      rfl
  · exact clParse0 E l (fun t e => h ⟨t, e⟩) w hE
end Go.Proofs.YtkknhocehladdaaDoor
