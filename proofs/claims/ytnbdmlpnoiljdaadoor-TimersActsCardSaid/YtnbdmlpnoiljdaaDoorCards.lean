/-
  DERIVED. GIVEN WITH THE SEED: THE CARDS: each row of YtnbdmlpnoiljdaaDoorRows.lean that lists a variable, with what it lists TIED to the program's text (the seventh form; the later family's looks); each row that meets fmt, with fmt's text TOLD by the authors' own Lean function (tested against real Go, not proved from fmt's source: count such statements apart). THE CARD IS WHAT COUNTS. Prove the row's statement (the work); the ties are given (YtnbdmlpnoiljdaaDoorTie.lean); close each card by the builder's one call (the guide's Derived/Test/ToyasCard.lean, 'card_holds'). Laid BY PROGRAM, IN A SANDBOX (cutbox-door.mjs). By AI agents, Wed Nov 11 2026. No macro, syntax, notation, axiom, sorry.
-/
import Derived.Test.YtnbdmlpnoiljdaaDoorRows
import GoSem.ClaimSeven
namespace Go.Proofs.YtnbdmlpnoiljdaaDoor
namespace Rows

/-- THE TIED CARD OF 'truchmanlaw13.TtypeCycles'. -/
def ttypeCyclesCard : Claim7 := { stood := { row := ttypeCyclesRow, standIns := [], harness := (true, "3c592e20e5d95eac83f9191f464eab9651b5fed7f0f9a4b9bfd966ab78d4f1fa"), looks := true }, kinds := [], alts := [], laidByText := true, laidKinds := [.sentinel, .sentinel, .sentinel, .sentinel, .sentinel, .sentinel, .sentinel, .sentinel, .sentinel, .sentinel, .sentinel, .sentinel, .sentinel, .sentinel, .sentinel, .sentinel], laidTests := true, laidLooks := .later }
def TtypeCyclesCardSaid : Prop := Claim7.holds Tryd.pinned (.plain (OpenSpec.ofChange ttypeCyclesSpec)) ttypeCyclesCard

/-- THE TIED CARD OF 'truchmanlaw03.StreamParts'. -/
def streamPartsCard : Claim7 := { stood := { row := streamPartsRow, standIns := [], harness := (true, "3c592e20e5d95eac83f9191f464eab9651b5fed7f0f9a4b9bfd966ab78d4f1fa"), looks := true }, kinds := [], alts := [], laidByText := true, laidKinds := [.sentinel, .sentinel, .sentinel], laidTests := true, laidLooks := .later }
def StreamPartsCardSaid : Prop := Claim7.holds Tryd.pinned (.plain (OpenSpec.ofChange streamPartsSpec)) streamPartsCard

/-- THE TIED CARD OF 'truchmanlaw03.StreamGrants'. -/
def streamGrantsCard : Claim7 := { stood := { row := streamGrantsRow, standIns := [], harness := (true, "3c592e20e5d95eac83f9191f464eab9651b5fed7f0f9a4b9bfd966ab78d4f1fa"), looks := true }, kinds := [], alts := [], laidByText := true, laidKinds := [.sentinel, .sentinel, .sentinel], laidTests := true, laidLooks := .later }
def StreamGrantsCardSaid : Prop := Claim7.holds Tryd.pinned (.plain (OpenSpec.ofChange streamGrantsSpec)) streamGrantsCard

/-- THE TIED CARD OF 'truchmanlaw03.StreamActs'. -/
def streamActsCard : Claim7 := { stood := { row := streamActsRow, standIns := [], harness := (true, "3c592e20e5d95eac83f9191f464eab9651b5fed7f0f9a4b9bfd966ab78d4f1fa"), looks := true }, kinds := [], alts := [], laidByText := true, laidKinds := [.sentinel, .sentinel, .sentinel, .sentinel, .sentinel, .sentinel, .sentinel, .sentinel, .sentinel, .sentinel, .sentinel, .sentinel, .sentinel, .sentinel, .sentinel, .sentinel], laidTests := true, laidLooks := .later }
def StreamActsCardSaid : Prop := Claim7.holds Tryd.pinned (.plain (OpenSpec.ofChange streamActsSpec)) streamActsCard

/-- THE TIED CARD OF 'truchmanlaw02.TimersNext'. -/
def timersNextCard : Claim7 := { stood := { row := timersNextRow, standIns := [], harness := (true, "3c592e20e5d95eac83f9191f464eab9651b5fed7f0f9a4b9bfd966ab78d4f1fa"), looks := true }, kinds := [], alts := [], laidByText := true, laidKinds := [.sentinel, .sentinel], laidTests := true, laidLooks := .later }
def TimersNextCardSaid : Prop := Claim7.holds Tryd.pinned (.plain (OpenSpec.ofChange timersNextSpec)) timersNextCard

/-- THE TIED CARD OF 'truchmanlaw02.TimersActs'. -/
def timersActsCard : Claim7 := { stood := { row := timersActsRow, standIns := [], harness := (true, "3c592e20e5d95eac83f9191f464eab9651b5fed7f0f9a4b9bfd966ab78d4f1fa"), looks := true }, kinds := [], alts := [], laidByText := true, laidKinds := [.sentinel, .sentinel, .sentinel, .sentinel, .sentinel, .sentinel, .sentinel, .sentinel, .sentinel, .sentinel, .sentinel, .sentinel, .sentinel, .sentinel, .sentinel, .sentinel], laidTests := true, laidLooks := .later }
def TimersActsCardSaid : Prop := Claim7.holds Tryd.pinned (.plain (OpenSpec.ofChange timersActsSpec)) timersActsCard

/-- THE SECOND FORM's CARD OF 'truchmanlaw13.TtypeCycles'. -/
def ttypeCyclesUptoCard : Claim7 := { stood := { row := ttypeCyclesUptoRow, standIns := [], harness := (true, "3c592e20e5d95eac83f9191f464eab9651b5fed7f0f9a4b9bfd966ab78d4f1fa"), looks := true }, kinds := [], alts := [], laidByText := true, laidKinds := [.sentinel, .sentinel, .sentinel, .sentinel, .sentinel, .sentinel, .sentinel, .sentinel, .sentinel, .sentinel, .sentinel, .sentinel, .sentinel, .sentinel, .sentinel, .sentinel], laidTests := true, laidLooks := .later }
def TtypeCyclesUptoCardSaid : Prop := Claim7.holds Tryd.pinned (.plain (OpenSpec.upto ttypeCyclesSpec)) ttypeCyclesUptoCard

/-- THE SECOND FORM's CARD OF 'truchmanlaw03.StreamParts'. -/
def streamPartsUptoCard : Claim7 := { stood := { row := streamPartsUptoRow, standIns := [], harness := (true, "3c592e20e5d95eac83f9191f464eab9651b5fed7f0f9a4b9bfd966ab78d4f1fa"), looks := true }, kinds := [], alts := [], laidByText := true, laidKinds := [.sentinel, .sentinel, .sentinel], laidTests := true, laidLooks := .later }
def StreamPartsUptoCardSaid : Prop := Claim7.holds Tryd.pinned (.plain (OpenSpec.upto streamPartsSpec)) streamPartsUptoCard

/-- THE SECOND FORM's CARD OF 'truchmanlaw03.StreamGrants'. -/
def streamGrantsUptoCard : Claim7 := { stood := { row := streamGrantsUptoRow, standIns := [], harness := (true, "3c592e20e5d95eac83f9191f464eab9651b5fed7f0f9a4b9bfd966ab78d4f1fa"), looks := true }, kinds := [], alts := [], laidByText := true, laidKinds := [.sentinel, .sentinel, .sentinel], laidTests := true, laidLooks := .later }
def StreamGrantsUptoCardSaid : Prop := Claim7.holds Tryd.pinned (.plain (OpenSpec.upto streamGrantsSpec)) streamGrantsUptoCard

/-- THE SECOND FORM's CARD OF 'truchmanlaw03.StreamActs'. -/
def streamActsUptoCard : Claim7 := { stood := { row := streamActsUptoRow, standIns := [], harness := (true, "3c592e20e5d95eac83f9191f464eab9651b5fed7f0f9a4b9bfd966ab78d4f1fa"), looks := true }, kinds := [], alts := [], laidByText := true, laidKinds := [.sentinel, .sentinel, .sentinel, .sentinel, .sentinel, .sentinel, .sentinel, .sentinel, .sentinel, .sentinel, .sentinel, .sentinel, .sentinel, .sentinel, .sentinel, .sentinel], laidTests := true, laidLooks := .later }
def StreamActsUptoCardSaid : Prop := Claim7.holds Tryd.pinned (.plain (OpenSpec.upto streamActsSpec)) streamActsUptoCard

/-- THE SECOND FORM's CARD OF 'truchmanlaw02.TimersNext'. -/
def timersNextUptoCard : Claim7 := { stood := { row := timersNextUptoRow, standIns := [], harness := (true, "3c592e20e5d95eac83f9191f464eab9651b5fed7f0f9a4b9bfd966ab78d4f1fa"), looks := true }, kinds := [], alts := [], laidByText := true, laidKinds := [.sentinel, .sentinel], laidTests := true, laidLooks := .later }
def TimersNextUptoCardSaid : Prop := Claim7.holds Tryd.pinned (.plain (OpenSpec.upto timersNextSpec)) timersNextUptoCard

/-- THE SECOND FORM's CARD OF 'truchmanlaw02.TimersActs'. -/
def timersActsUptoCard : Claim7 := { stood := { row := timersActsUptoRow, standIns := [], harness := (true, "3c592e20e5d95eac83f9191f464eab9651b5fed7f0f9a4b9bfd966ab78d4f1fa"), looks := true }, kinds := [], alts := [], laidByText := true, laidKinds := [.sentinel, .sentinel, .sentinel, .sentinel, .sentinel, .sentinel, .sentinel, .sentinel, .sentinel, .sentinel, .sentinel, .sentinel, .sentinel, .sentinel, .sentinel, .sentinel], laidTests := true, laidLooks := .later }
def TimersActsUptoCardSaid : Prop := Claim7.holds Tryd.pinned (.plain (OpenSpec.upto timersActsSpec)) timersActsUptoCard
end Rows
end Go.Proofs.YtnbdmlpnoiljdaaDoor
