/-
  DERIVED. GIVEN WITH THE SEED: THE CARDS: each row of YtdhmfgaiomfodaaDoorRows.lean that lists a variable, with what it lists TIED to the program's text (the seventh form; the later family's looks); each row that meets fmt, with fmt's text TOLD by the authors' own Lean function (tested against real Go, not proved from fmt's source: count such statements apart). THE CARD IS WHAT COUNTS. Prove the row's statement (the work); the ties are given (YtdhmfgaiomfodaaDoorTie.lean); close each card by the builder's one call (the guide's Derived/Test/ToyasCard.lean, 'card_holds'). Laid BY PROGRAM, IN A SANDBOX (cutbox-door.mjs). By AI agents, Wed Nov 11 2026. No macro, syntax, notation, axiom, sorry.
-/
import Derived.Test.YtdhmfgaiomfodaaDoorRows
import GoSem.ClaimSeven
namespace Go.Proofs.YtdhmfgaiomfodaaDoor
namespace Rows

/-- THE TIED CARD OF 'truchmanlaw25.NfaRight'. -/
def nfaRightCard : Claim7 := { stood := { row := nfaRightRow, standIns := [], harness := (true, "34ffd85b590a2d95a109ad4a9f105e79a9a9bd0df091ad4ea1782c662a916caa"), looks := true }, kinds := [], alts := [], laidByText := true, laidKinds := [.data, .data, .data, .sentinel, .sentinel, .sentinel, .sentinel, .sentinel, .sentinel, .sentinel, .sentinel, .sentinel, .sentinel, .sentinel, .sentinel, .sentinel, .sentinel, .sentinel, .sentinel], laidTests := true, laidLooks := .later }
def NfaRightCardSaid : Prop := Claim7.holds Tryd.pinned (.plain (OpenSpec.ofChange nfaRightSpec)) nfaRightCard

/-- THE TIED CARD OF 'truchmanlaw25.NfaTells'. -/
def nfaTellsCard : Claim7 := { stood := { row := nfaTellsRow, standIns := [], harness := (true, "34ffd85b590a2d95a109ad4a9f105e79a9a9bd0df091ad4ea1782c662a916caa"), looks := true }, kinds := [], alts := [], laidByText := true, laidKinds := [.data, .data, .data, .sentinel, .sentinel, .sentinel, .sentinel, .sentinel, .sentinel], laidTests := true, laidLooks := .later }
def NfaTellsCardSaid : Prop := Claim7.holds Tryd.pinned (.plain (OpenSpec.ofChange nfaTellsSpec)) nfaTellsCard

/-- THE TIED CARD OF 'truchmanlaw26.SimFinds'. -/
def simFindsCard : Claim7 := { stood := { row := simFindsRow, standIns := [], harness := (true, "34ffd85b590a2d95a109ad4a9f105e79a9a9bd0df091ad4ea1782c662a916caa"), looks := true }, kinds := [], alts := [], laidByText := true, laidKinds := [.data, .sentinel, .sentinel, .sentinel, .sentinel, .sentinel, .sentinel, .sentinel], laidTests := true, laidLooks := .later }
def SimFindsCardSaid : Prop := Claim7.holds Tryd.pinned (.plain (OpenSpec.ofChange simFindsSpec)) simFindsCard

/-- THE TIED CARD OF 'truchmanlaw26.SimEarly'. -/
def simEarlyCard : Claim7 := { stood := { row := simEarlyRow, standIns := [], harness := (true, "34ffd85b590a2d95a109ad4a9f105e79a9a9bd0df091ad4ea1782c662a916caa"), looks := true }, kinds := [], alts := [], laidByText := true, laidKinds := [.data, .sentinel, .sentinel, .sentinel, .sentinel, .sentinel, .sentinel, .sentinel], laidTests := true, laidLooks := .later }
def SimEarlyCardSaid : Prop := Claim7.holds Tryd.pinned (.plain (OpenSpec.ofChange simEarlySpec)) simEarlyCard

/-- THE TIED CARD OF 'truchmanlaw26.SimShifts'. -/
def simShiftsCard : Claim7 := { stood := { row := simShiftsRow, standIns := [], harness := (true, "34ffd85b590a2d95a109ad4a9f105e79a9a9bd0df091ad4ea1782c662a916caa"), looks := true }, kinds := [], alts := [], laidByText := true, laidKinds := [.data, .sentinel, .sentinel, .sentinel, .sentinel, .sentinel, .sentinel, .sentinel], laidTests := true, laidLooks := .later }
def SimShiftsCardSaid : Prop := Claim7.holds Tryd.pinned (.plain (OpenSpec.ofChange simShiftsSpec)) simShiftsCard

/-- THE TIED CARD OF 'truchmanlaw26.SimSteps'. -/
def simStepsCard : Claim7 := { stood := { row := simStepsRow, standIns := [], harness := (true, "34ffd85b590a2d95a109ad4a9f105e79a9a9bd0df091ad4ea1782c662a916caa"), looks := true }, kinds := [], alts := [], laidByText := true, laidKinds := [.data, .sentinel, .sentinel, .sentinel, .sentinel, .sentinel, .sentinel, .sentinel, .sentinel, .sentinel, .sentinel, .sentinel, .sentinel, .sentinel, .sentinel, .sentinel, .sentinel], laidTests := true, laidLooks := .later }
def SimStepsCardSaid : Prop := Claim7.holds Tryd.pinned (.plain (OpenSpec.ofChange simStepsSpec)) simStepsCard

/-- THE TIED CARD OF 'truchmanlaw27.MeanAgrees'. -/
def meanAgreesCard : Claim7 := { stood := { row := meanAgreesRow, standIns := [], harness := (true, "34ffd85b590a2d95a109ad4a9f105e79a9a9bd0df091ad4ea1782c662a916caa"), looks := true }, kinds := [], alts := [], laidByText := true, laidKinds := [.data, .sentinel, .sentinel, .sentinel, .sentinel, .sentinel, .sentinel, .sentinel], laidTests := true, laidLooks := .later }
def MeanAgreesCardSaid : Prop := Claim7.holds Tryd.pinned (.plain (OpenSpec.ofChange meanAgreesSpec)) meanAgreesCard

/-- THE SECOND FORM's CARD OF 'truchmanlaw25.NfaRight'. -/
def nfaRightUptoCard : Claim7 := { stood := { row := nfaRightUptoRow, standIns := [], harness := (true, "34ffd85b590a2d95a109ad4a9f105e79a9a9bd0df091ad4ea1782c662a916caa"), looks := true }, kinds := [], alts := [], laidByText := true, laidKinds := [.data, .data, .data, .sentinel, .sentinel, .sentinel, .sentinel, .sentinel, .sentinel, .sentinel, .sentinel, .sentinel, .sentinel, .sentinel, .sentinel, .sentinel, .sentinel, .sentinel, .sentinel], laidTests := true, laidLooks := .later }
def NfaRightUptoCardSaid : Prop := Claim7.holds Tryd.pinned (.plain (OpenSpec.upto nfaRightSpec)) nfaRightUptoCard

/-- THE SECOND FORM's CARD OF 'truchmanlaw25.NfaTells'. -/
def nfaTellsUptoCard : Claim7 := { stood := { row := nfaTellsUptoRow, standIns := [], harness := (true, "34ffd85b590a2d95a109ad4a9f105e79a9a9bd0df091ad4ea1782c662a916caa"), looks := true }, kinds := [], alts := [], laidByText := true, laidKinds := [.data, .data, .data, .sentinel, .sentinel, .sentinel, .sentinel, .sentinel, .sentinel], laidTests := true, laidLooks := .later }
def NfaTellsUptoCardSaid : Prop := Claim7.holds Tryd.pinned (.plain (OpenSpec.upto nfaTellsSpec)) nfaTellsUptoCard

/-- THE SECOND FORM's CARD OF 'truchmanlaw26.SimFinds'. -/
def simFindsUptoCard : Claim7 := { stood := { row := simFindsUptoRow, standIns := [], harness := (true, "34ffd85b590a2d95a109ad4a9f105e79a9a9bd0df091ad4ea1782c662a916caa"), looks := true }, kinds := [], alts := [], laidByText := true, laidKinds := [.data, .sentinel, .sentinel, .sentinel, .sentinel, .sentinel, .sentinel, .sentinel], laidTests := true, laidLooks := .later }
def SimFindsUptoCardSaid : Prop := Claim7.holds Tryd.pinned (.plain (OpenSpec.upto simFindsSpec)) simFindsUptoCard

/-- THE SECOND FORM's CARD OF 'truchmanlaw26.SimEarly'. -/
def simEarlyUptoCard : Claim7 := { stood := { row := simEarlyUptoRow, standIns := [], harness := (true, "34ffd85b590a2d95a109ad4a9f105e79a9a9bd0df091ad4ea1782c662a916caa"), looks := true }, kinds := [], alts := [], laidByText := true, laidKinds := [.data, .sentinel, .sentinel, .sentinel, .sentinel, .sentinel, .sentinel, .sentinel], laidTests := true, laidLooks := .later }
def SimEarlyUptoCardSaid : Prop := Claim7.holds Tryd.pinned (.plain (OpenSpec.upto simEarlySpec)) simEarlyUptoCard

/-- THE SECOND FORM's CARD OF 'truchmanlaw26.SimShifts'. -/
def simShiftsUptoCard : Claim7 := { stood := { row := simShiftsUptoRow, standIns := [], harness := (true, "34ffd85b590a2d95a109ad4a9f105e79a9a9bd0df091ad4ea1782c662a916caa"), looks := true }, kinds := [], alts := [], laidByText := true, laidKinds := [.data, .sentinel, .sentinel, .sentinel, .sentinel, .sentinel, .sentinel, .sentinel], laidTests := true, laidLooks := .later }
def SimShiftsUptoCardSaid : Prop := Claim7.holds Tryd.pinned (.plain (OpenSpec.upto simShiftsSpec)) simShiftsUptoCard

/-- THE SECOND FORM's CARD OF 'truchmanlaw26.SimSteps'. -/
def simStepsUptoCard : Claim7 := { stood := { row := simStepsUptoRow, standIns := [], harness := (true, "34ffd85b590a2d95a109ad4a9f105e79a9a9bd0df091ad4ea1782c662a916caa"), looks := true }, kinds := [], alts := [], laidByText := true, laidKinds := [.data, .sentinel, .sentinel, .sentinel, .sentinel, .sentinel, .sentinel, .sentinel, .sentinel, .sentinel, .sentinel, .sentinel, .sentinel, .sentinel, .sentinel, .sentinel, .sentinel], laidTests := true, laidLooks := .later }
def SimStepsUptoCardSaid : Prop := Claim7.holds Tryd.pinned (.plain (OpenSpec.upto simStepsSpec)) simStepsUptoCard

/-- THE SECOND FORM's CARD OF 'truchmanlaw27.MeanAgrees'. -/
def meanAgreesUptoCard : Claim7 := { stood := { row := meanAgreesUptoRow, standIns := [], harness := (true, "34ffd85b590a2d95a109ad4a9f105e79a9a9bd0df091ad4ea1782c662a916caa"), looks := true }, kinds := [], alts := [], laidByText := true, laidKinds := [.data, .sentinel, .sentinel, .sentinel, .sentinel, .sentinel, .sentinel, .sentinel], laidTests := true, laidLooks := .later }
def MeanAgreesUptoCardSaid : Prop := Claim7.holds Tryd.pinned (.plain (OpenSpec.upto meanAgreesSpec)) meanAgreesUptoCard
end Rows
end Go.Proofs.YtdhmfgaiomfodaaDoor
