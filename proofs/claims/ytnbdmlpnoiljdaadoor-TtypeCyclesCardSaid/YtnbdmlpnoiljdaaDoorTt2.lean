/- layer 13: bodies, and what they say. -/
import Derived.Test.YtnbdmlpnoiljdaaDoorTt1
import Derived.Lib.AppendStr
import Derived.Handy
namespace Go.Proofs.YtnbdmlpnoiljdaaDoor
open Go Go.RowKit

/-- What a body says. -/
def parseP : List UInt8 → List UInt8 × Bool × Nat
  | [] => ([], false, 3)
  | c :: r => if c.toNat = 1 then (if r.length = 0 then ([], true, 0) else ([], false, 4)) else if c.toNat = 0 then (if rightB r then (r, false, 0) else ([], false, 6)) else ([], false, 5)

/-- An error by its number. -/
def errN (E : Nat → Addr) (n : Nat) : Value := if n = 0 then .nilIface else errV E (n - 1)

/-- The five errors of this layer, in their variables. -/
structure Five (w : World) (E : Nat → Addr) : Prop where
  cell : ∀ {i g : Nat}, i ∈ [0, 2, 3, 4, 5] → errGs[i]? = some g → w.cell? ⟨g, 0, none⟩ = some (errV E i)
theorem Five.keep {w w' : World} {E : Nat → Addr} (h : Five w E) (hb : Ext w w') : Five w' E :=
  ⟨fun {i g} hi hg => by
    have hc := h.cell hi hg
    have hl : g < w.heap.size := by
      rcases Nat.lt_or_ge g w.heap.size with h' | h'
      · exact h'
      · simp [World.cell?, Array.getElem?_eq_none h'] at hc
    exact (hb.cell (p := ⟨g, 0, none⟩) hl).trans hc⟩
theorem Errs.five {w : World} {E : Nat → Addr} (h : Errs w E) : Five w E := ⟨fun _ hg => h.cell hg⟩

theorem strCells_bytes (l : List UInt8) : Lib.strCells ⟨l.toArray⟩ = bytesV l := by simp [Lib.strCells, bytesV, U8]

end Go.Proofs.YtnbdmlpnoiljdaaDoor
