/-
  DERIVED. GIVEN WITH THE SEED: THE CARDS: each row of YtigmdlchbjanoaaDoorRows.lean that lists a variable, with what it lists TIED to the program's text (the seventh form; the later family's looks); each row that meets fmt, with fmt's text TOLD by the authors' own Lean function (tested against real Go, not proved from fmt's source: count such statements apart). THE CARD IS WHAT COUNTS. Prove the row's statement (the work); the ties are given (YtigmdlchbjanoaaDoorTie.lean); close each card by the builder's one call (the guide's Derived/Test/ToyasCard.lean, 'card_holds'). Laid BY PROGRAM, IN A SANDBOX (cutbox-door.mjs). By AI agents, Wed Nov 11 2026. No macro, syntax, notation, axiom, sorry.
-/
import Derived.Test.YtigmdlchbjanoaaDoorRows
import GoSem.ClaimSeven
namespace Go.Proofs.YtigmdlchbjanoaaDoor
namespace Rows

/-- THE TIED CARD OF 'truchmanlaw23.RexParses'. -/
def rexParsesCard : Claim7 := { stood := { row := rexParsesRow, standIns := [], harness := (true, "333dde82a6cd186446179c7619176c05ba3aebbe3550a37bb7628fc78447b9ad"), looks := true }, kinds := [], alts := [], laidByText := true, laidKinds := [.data, .sentinel, .sentinel, .sentinel, .sentinel, .sentinel, .sentinel, .sentinel, .sentinel, .sentinel, .sentinel, .sentinel, .sentinel, .sentinel, .sentinel, .sentinel, .sentinel], laidTests := true, laidLooks := .later }
def RexParsesCardSaid : Prop := Claim7.holds Tryd.pinned (.plain (OpenSpec.ofChange rexParsesSpec)) rexParsesCard

/-- THE SECOND FORM's CARD OF 'truchmanlaw23.RexParses'. -/
def rexParsesUptoCard : Claim7 := { stood := { row := rexParsesUptoRow, standIns := [], harness := (true, "333dde82a6cd186446179c7619176c05ba3aebbe3550a37bb7628fc78447b9ad"), looks := true }, kinds := [], alts := [], laidByText := true, laidKinds := [.data, .sentinel, .sentinel, .sentinel, .sentinel, .sentinel, .sentinel, .sentinel, .sentinel, .sentinel, .sentinel, .sentinel, .sentinel, .sentinel, .sentinel, .sentinel, .sentinel], laidTests := true, laidLooks := .later }
def RexParsesUptoCardSaid : Prop := Claim7.holds Tryd.pinned (.plain (OpenSpec.upto rexParsesSpec)) rexParsesUptoCard
end Rows
end Go.Proofs.YtigmdlchbjanoaaDoor
