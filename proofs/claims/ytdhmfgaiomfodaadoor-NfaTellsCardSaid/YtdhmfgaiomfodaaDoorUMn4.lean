/- One place; what is in one of both; the list of what is in. -/
import Derived.Test.YtdhmfgaiomfodaaDoorUMn1
import Derived.Test.YtdhmfgaiomfodaaDoorUMn3
namespace Go.Proofs.YtdhmfgaiomfodaaDoor
open Go Go.RowKit

/-- A slice that holds these numbers. -/
def IlV (w : World) (v : Value) (l : List Int) : Prop := ∃ A c, v = .slice A l.length c ∧ l.length ≤ c ∧ c ≤ maxLen ∧ Rd w 1 A l.length (intsV l)
theorem IlV.keep {w w' : World} {v : Value} {l : List Int} (h : IlV w v l) (hx : Ext w w') : IlV w' v l := by
  obtain ⟨A, c, h1, h2, h3, h4⟩ := h
  exact ⟨A, c, h1, h2, h3, h4.keep hx⟩
theorem IlV.nil (w : World) : IlV w (.slice none 0 0) [] := ⟨none, 0, rfl, Nat.le_refl _, by unfold maxLen; omega, Rd.nil⟩
end Go.Proofs.YtdhmfgaiomfodaaDoor
