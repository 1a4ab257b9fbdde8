/-
  DERIVED. GIVEN WITH THE SEED: THE CARDS: each row of YtigmdlchbjanoaaGreatDoorRows.lean that lists a variable, with what it lists TIED to the program's text (the seventh form; the later family's looks); each row that meets fmt, with fmt's text TOLD by the authors' own Lean function (tested against real Go, not proved from fmt's source: count such statements apart). THE CARD IS WHAT COUNTS. Prove the row's statement (the work); the ties are given (YtigmdlchbjanoaaGreatDoorTie.lean); close each card by the builder's one call (the guide's Derived/Test/ToyasCard.lean, 'card_holds'). Laid BY PROGRAM, IN A SANDBOX (cutbox-door.mjs). By AI agents, Wed Nov 11 2026. No macro, syntax, notation, axiom, sorry.
-/
import Derived.Test.YtigmdlchbjanoaaGreatDoorRows
import GoSem.ClaimSeven
namespace Go.Proofs.YtigmdlchbjanoaaGreatDoor
namespace Rows

/-- THE TIED CARD OF 'truchmanlaw24.GlobTrees'. -/
def globTreesCard : Claim7 := { stood := { row := globTreesRow, standIns := [], harness := (true, "0b7ccb4fe0da37d566112460f585a5d78daf2e0058de1c9f796c8957b1c506b1"), looks := true }, kinds := [], alts := [], laidByText := true, laidKinds := [.data, .data, .sentinel, .sentinel, .sentinel, .sentinel, .sentinel, .sentinel, .sentinel, .sentinel, .sentinel, .sentinel, .sentinel, .sentinel, .sentinel, .sentinel, .sentinel, .sentinel, .widerDeep, .pinned], laidTests := true, laidLooks := .later }
def GlobTreesCardSaid : Prop := Claim7.holds Tryz.pinned (.plain (OpenSpec.ofChange globTreesSpec)) globTreesCard

/-- THE SECOND FORM's CARD OF 'truchmanlaw24.GlobTrees'. -/
def globTreesUptoCard : Claim7 := { stood := { row := globTreesUptoRow, standIns := [], harness := (true, "0b7ccb4fe0da37d566112460f585a5d78daf2e0058de1c9f796c8957b1c506b1"), looks := true }, kinds := [], alts := [], laidByText := true, laidKinds := [.data, .data, .sentinel, .sentinel, .sentinel, .sentinel, .sentinel, .sentinel, .sentinel, .sentinel, .sentinel, .sentinel, .sentinel, .sentinel, .sentinel, .sentinel, .sentinel, .sentinel, .widerDeep, .pinned], laidTests := true, laidLooks := .later }
def GlobTreesUptoCardSaid : Prop := Claim7.holds Tryz.pinned (.plain (OpenSpec.upto globTreesSpec)) globTreesUptoCard
end Rows
end Go.Proofs.YtigmdlchbjanoaaGreatDoor
