/-
  DERIVED. GIVEN WITH THE SEED: THE CARDS: each row of YthjnbpfbhmfopaaDoorRows.lean that lists a variable, with what it lists TIED to the program's text (the seventh form; the later family's looks); each row that meets fmt, with fmt's text TOLD by the authors' own Lean function (tested against real Go, not proved from fmt's source: count such statements apart). THE CARD IS WHAT COUNTS. Prove the row's statement (the work); the ties are given (YthjnbpfbhmfopaaDoorTie.lean); close each card by the builder's one call (the guide's Derived/Test/ToyasCard.lean, 'card_holds'). Laid BY PROGRAM, IN A SANDBOX (cutbox-door.mjs). By AI agents, Wed Nov 11 2026. No macro, syntax, notation, axiom, sorry.
-/
import Derived.Test.YthjnbpfbhmfopaaDoorRows
import GoSem.ClaimSeven
namespace Go.Proofs.YthjnbpfbhmfopaaDoor
namespace Rows

/-- THE TIED CARD OF 'truchmanlaw23.RexGroups'. -/
def rexGroupsCard : Claim7 := { stood := { row := rexGroupsRow, standIns := [], harness := (true, "d182c235a029d6f699d1867bd391d5a40e0e5ddd093d745b2e681fa8d6912e10"), looks := true }, kinds := [], alts := [], laidByText := true, laidKinds := [.data, .sentinel, .sentinel, .sentinel, .sentinel, .sentinel, .sentinel], laidTests := true, laidLooks := .later }
def RexGroupsCardSaid : Prop := Claim7.holds Tryd.pinned (.plain (OpenSpec.ofChange rexGroupsSpec)) rexGroupsCard

/-- THE TIED CARD OF 'truchmanlaw23.RexTells'. -/
def rexTellsCard : Claim7 := { stood := { row := rexTellsRow, standIns := [], harness := (true, "d182c235a029d6f699d1867bd391d5a40e0e5ddd093d745b2e681fa8d6912e10"), looks := true }, kinds := [], alts := [], laidByText := true, laidKinds := [.data, .sentinel, .sentinel, .sentinel, .sentinel, .sentinel, .sentinel], laidTests := true, laidLooks := .later }
def RexTellsCardSaid : Prop := Claim7.holds Tryd.pinned (.plain (OpenSpec.ofChange rexTellsSpec)) rexTellsCard

/-- THE TIED CARD OF 'truchmanlaw23.RexParses'. -/
def rexParsesCard : Claim7 := { stood := { row := rexParsesRow, standIns := [], harness := (true, "d182c235a029d6f699d1867bd391d5a40e0e5ddd093d745b2e681fa8d6912e10"), looks := true }, kinds := [], alts := [], laidByText := true, laidKinds := [.data, .sentinel, .sentinel, .sentinel, .sentinel, .sentinel, .sentinel, .sentinel, .sentinel, .sentinel, .sentinel, .sentinel, .sentinel, .sentinel, .sentinel, .sentinel, .sentinel], laidTests := true, laidLooks := .later }
def RexParsesCardSaid : Prop := Claim7.holds Tryd.pinned (.plain (OpenSpec.ofChange rexParsesSpec)) rexParsesCard

/-- THE TIED CARD OF 'truchmanlaw23.RexBack'. -/
def rexBackCard : Claim7 := { stood := { row := rexBackRow, standIns := [], harness := (true, "d182c235a029d6f699d1867bd391d5a40e0e5ddd093d745b2e681fa8d6912e10"), looks := true }, kinds := [], alts := [], laidByText := true, laidKinds := [.data, .sentinel, .sentinel, .sentinel, .sentinel, .sentinel, .sentinel, .sentinel, .sentinel, .sentinel, .sentinel, .sentinel, .sentinel, .sentinel, .sentinel, .sentinel, .sentinel], laidTests := true, laidLooks := .later }
def RexBackCardSaid : Prop := Claim7.holds Tryd.pinned (.plain (OpenSpec.ofChange rexBackSpec)) rexBackCard

/-- THE SECOND FORM's CARD OF 'truchmanlaw23.RexGroups'. -/
def rexGroupsUptoCard : Claim7 := { stood := { row := rexGroupsUptoRow, standIns := [], harness := (true, "d182c235a029d6f699d1867bd391d5a40e0e5ddd093d745b2e681fa8d6912e10"), looks := true }, kinds := [], alts := [], laidByText := true, laidKinds := [.data, .sentinel, .sentinel, .sentinel, .sentinel, .sentinel, .sentinel], laidTests := true, laidLooks := .later }
def RexGroupsUptoCardSaid : Prop := Claim7.holds Tryd.pinned (.plain (OpenSpec.upto rexGroupsSpec)) rexGroupsUptoCard

/-- THE SECOND FORM's CARD OF 'truchmanlaw23.RexTells'. -/
def rexTellsUptoCard : Claim7 := { stood := { row := rexTellsUptoRow, standIns := [], harness := (true, "d182c235a029d6f699d1867bd391d5a40e0e5ddd093d745b2e681fa8d6912e10"), looks := true }, kinds := [], alts := [], laidByText := true, laidKinds := [.data, .sentinel, .sentinel, .sentinel, .sentinel, .sentinel, .sentinel], laidTests := true, laidLooks := .later }
def RexTellsUptoCardSaid : Prop := Claim7.holds Tryd.pinned (.plain (OpenSpec.upto rexTellsSpec)) rexTellsUptoCard

/-- THE SECOND FORM's CARD OF 'truchmanlaw23.RexParses'. -/
def rexParsesUptoCard : Claim7 := { stood := { row := rexParsesUptoRow, standIns := [], harness := (true, "d182c235a029d6f699d1867bd391d5a40e0e5ddd093d745b2e681fa8d6912e10"), looks := true }, kinds := [], alts := [], laidByText := true, laidKinds := [.data, .sentinel, .sentinel, .sentinel, .sentinel, .sentinel, .sentinel, .sentinel, .sentinel, .sentinel, .sentinel, .sentinel, .sentinel, .sentinel, .sentinel, .sentinel, .sentinel], laidTests := true, laidLooks := .later }
def RexParsesUptoCardSaid : Prop := Claim7.holds Tryd.pinned (.plain (OpenSpec.upto rexParsesSpec)) rexParsesUptoCard

/-- THE SECOND FORM's CARD OF 'truchmanlaw23.RexBack'. -/
def rexBackUptoCard : Claim7 := { stood := { row := rexBackUptoRow, standIns := [], harness := (true, "d182c235a029d6f699d1867bd391d5a40e0e5ddd093d745b2e681fa8d6912e10"), looks := true }, kinds := [], alts := [], laidByText := true, laidKinds := [.data, .sentinel, .sentinel, .sentinel, .sentinel, .sentinel, .sentinel, .sentinel, .sentinel, .sentinel, .sentinel, .sentinel, .sentinel, .sentinel, .sentinel, .sentinel, .sentinel], laidTests := true, laidLooks := .later }
def RexBackUptoCardSaid : Prop := Claim7.holds Tryd.pinned (.plain (OpenSpec.upto rexBackSpec)) rexBackUptoCard
end Rows
end Go.Proofs.YthjnbpfbhmfopaaDoor
