/-
  DERIVED. GIVEN WITH THE SEED: THE CARDS: each row of YtkknhocehladdaaDoorRows.lean that lists a variable, with what it lists TIED to the program's text (the seventh form; the later family's looks); each row that meets fmt, with fmt's text TOLD by the authors' own Lean function (tested against real Go, not proved from fmt's source: count such statements apart). THE CARD IS WHAT COUNTS. Prove the row's statement (the work); the ties are given (YtkknhocehladdaaDoorTie.lean); close each card by the builder's one call (the guide's Derived/Test/ToyasCard.lean, 'card_holds'). Laid BY PROGRAM, IN A SANDBOX (cutbox-door.mjs). By AI agents, Wed Nov 11 2026. No macro, syntax, notation, axiom, sorry.
-/
import Derived.Test.YtkknhocehladdaaDoorRows
import GoSem.ClaimSeven
namespace Go.Proofs.YtkknhocehladdaaDoor
namespace Rows

/-- THE TIED CARD OF 'truchmanlaw22.ClassSets'. -/
def classSetsCard : Claim7 := { stood := { row := classSetsRow, standIns := [], harness := (true, "b3b14f0e22a2bfc4ae9c3fa48018ef766363da68fad76d47e5f485372fdf312b"), looks := true }, kinds := [], alts := [], laidByText := true, laidKinds := [.data, .sentinel, .sentinel], laidTests := true, laidLooks := .later }
def ClassSetsCardSaid : Prop := Claim7.holds Tryd.pinned (.plain (OpenSpec.ofChange classSetsSpec)) classSetsCard

/-- THE TIED CARD OF 'truchmanlaw22.ClassBack'. -/
def classBackCard : Claim7 := { stood := { row := classBackRow, standIns := [], harness := (true, "b3b14f0e22a2bfc4ae9c3fa48018ef766363da68fad76d47e5f485372fdf312b"), looks := true }, kinds := [], alts := [], laidByText := true, laidKinds := [.data, .sentinel, .sentinel], laidTests := true, laidLooks := .later }
def ClassBackCardSaid : Prop := Claim7.holds Tryd.pinned (.plain (OpenSpec.ofChange classBackSpec)) classBackCard

/-- THE TIED CARD OF 'truchmanlaw22.ClassParses'. -/
def classParsesCard : Claim7 := { stood := { row := classParsesRow, standIns := [], harness := (true, "b3b14f0e22a2bfc4ae9c3fa48018ef766363da68fad76d47e5f485372fdf312b"), looks := true }, kinds := [], alts := [], laidByText := true, laidKinds := [.data, .sentinel, .sentinel, .sentinel, .sentinel, .sentinel, .sentinel, .sentinel, .sentinel, .sentinel, .sentinel, .sentinel, .sentinel, .sentinel, .sentinel, .sentinel, .sentinel], laidTests := true, laidLooks := .later }
def ClassParsesCardSaid : Prop := Claim7.holds Tryd.pinned (.plain (OpenSpec.ofChange classParsesSpec)) classParsesCard

/-- THE SECOND FORM's CARD OF 'truchmanlaw22.ClassSets'. -/
def classSetsUptoCard : Claim7 := { stood := { row := classSetsUptoRow, standIns := [], harness := (true, "b3b14f0e22a2bfc4ae9c3fa48018ef766363da68fad76d47e5f485372fdf312b"), looks := true }, kinds := [], alts := [], laidByText := true, laidKinds := [.data, .sentinel, .sentinel], laidTests := true, laidLooks := .later }
def ClassSetsUptoCardSaid : Prop := Claim7.holds Tryd.pinned (.plain (OpenSpec.upto classSetsSpec)) classSetsUptoCard

/-- THE SECOND FORM's CARD OF 'truchmanlaw22.ClassBack'. -/
def classBackUptoCard : Claim7 := { stood := { row := classBackUptoRow, standIns := [], harness := (true, "b3b14f0e22a2bfc4ae9c3fa48018ef766363da68fad76d47e5f485372fdf312b"), looks := true }, kinds := [], alts := [], laidByText := true, laidKinds := [.data, .sentinel, .sentinel], laidTests := true, laidLooks := .later }
def ClassBackUptoCardSaid : Prop := Claim7.holds Tryd.pinned (.plain (OpenSpec.upto classBackSpec)) classBackUptoCard

/-- THE SECOND FORM's CARD OF 'truchmanlaw22.ClassParses'. -/
def classParsesUptoCard : Claim7 := { stood := { row := classParsesUptoRow, standIns := [], harness := (true, "b3b14f0e22a2bfc4ae9c3fa48018ef766363da68fad76d47e5f485372fdf312b"), looks := true }, kinds := [], alts := [], laidByText := true, laidKinds := [.data, .sentinel, .sentinel, .sentinel, .sentinel, .sentinel, .sentinel, .sentinel, .sentinel, .sentinel, .sentinel, .sentinel, .sentinel, .sentinel, .sentinel, .sentinel, .sentinel], laidTests := true, laidLooks := .later }
def ClassParsesUptoCardSaid : Prop := Claim7.holds Tryd.pinned (.plain (OpenSpec.upto classParsesSpec)) classParsesUptoCard
end Rows
end Go.Proofs.YtkknhocehladdaaDoor
