/- Places in memory: slices of bool. Clone, Equal of them; Contains, SameInts of ints. -/
import Derived.Test.YtdhmfgaiomfodaaDoorUTgA
import Derived.BigQuiet
import Derived.BigRegion
namespace Go.Proofs.YtdhmfgaiomfodaaDoor
open Go Go.RowKit

/-- A slice that holds these. -/
def PlV (w : World) (v : Value) (p : List Bool) : Prop := ∃ A c, v = .slice A p.length c ∧ p.length ≤ c ∧ c ≤ maxLen ∧ Rd w 1 A p.length (boolsV p)
theorem PlV.keep {w w' : World} {v : Value} {p : List Bool} (h : PlV w v p) (hx : Ext w w') : PlV w' v p := by
  obtain ⟨A, c, h1, h2, h3, h4⟩ := h
  exact ⟨A, c, h1, h2, h3, h4.keep hx⟩
end Go.Proofs.YtdhmfgaiomfodaaDoor
