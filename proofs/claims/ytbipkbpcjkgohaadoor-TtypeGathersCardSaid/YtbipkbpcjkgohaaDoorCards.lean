/-
  DERIVED. GIVEN WITH THE SEED: THE CARDS: each row of YtbipkbpcjkgohaaDoorRows.lean that lists a variable, with what it lists TIED to the program's text (the seventh form; the later family's looks); each row that meets fmt, with fmt's text TOLD by the authors' own Lean function (tested against real Go, not proved from fmt's source: count such statements apart). THE CARD IS WHAT COUNTS. Prove the row's statement (the work); the ties are given (YtbipkbpcjkgohaaDoorTie.lean); close each card by the builder's one call (the guide's Derived/Test/ToyasCard.lean, 'card_holds'). Laid BY PROGRAM, IN A SANDBOX (cutbox-door.mjs). By AI agents, Wed Nov 11 2026. No macro, syntax, notation, axiom, sorry.
-/
import Derived.Test.YtbipkbpcjkgohaaDoorRows
import GoSem.ClaimSeven
namespace Go.Proofs.YtbipkbpcjkgohaaDoor
namespace Rows

/-- THE TIED CARD OF 'truchmanlaw01.RingKeeps'. -/
def ringKeepsCard : Claim7 := { stood := { row := ringKeepsRow, standIns := [], harness := (true, "4b53152358c85fd4e210a959f974acfb0ce964d2fa60a6c801d1102d728e3ce6"), looks := true }, kinds := [], alts := [], laidByText := true, laidKinds := [.sentinel], laidTests := true, laidLooks := .later }
def RingKeepsCardSaid : Prop := Claim7.holds Tryd.pinned (.plain (OpenSpec.ofChange ringKeepsSpec)) ringKeepsCard

/-- THE TIED CARD OF 'truchmanlaw01.RingParts'. -/
def ringPartsCard : Claim7 := { stood := { row := ringPartsRow, standIns := [], harness := (true, "4b53152358c85fd4e210a959f974acfb0ce964d2fa60a6c801d1102d728e3ce6"), looks := true }, kinds := [], alts := [], laidByText := true, laidKinds := [.sentinel], laidTests := true, laidLooks := .later }
def RingPartsCardSaid : Prop := Claim7.holds Tryd.pinned (.plain (OpenSpec.ofChange ringPartsSpec)) ringPartsCard

/-- THE TIED CARD OF 'truchmanlaw01.RingActs'. -/
def ringActsCard : Claim7 := { stood := { row := ringActsRow, standIns := [], harness := (true, "4b53152358c85fd4e210a959f974acfb0ce964d2fa60a6c801d1102d728e3ce6"), looks := true }, kinds := [], alts := [], laidByText := true, laidKinds := [.sentinel, .sentinel, .sentinel, .sentinel, .sentinel, .sentinel, .sentinel, .sentinel, .sentinel, .sentinel, .sentinel, .sentinel, .sentinel, .sentinel, .sentinel, .sentinel], laidTests := true, laidLooks := .later }
def RingActsCardSaid : Prop := Claim7.holds Tryd.pinned (.plain (OpenSpec.ofChange ringActsSpec)) ringActsCard

/-- THE TIED CARD OF 'truchmanlaw13.TtypeGathers'. -/
def ttypeGathersCard : Claim7 := { stood := { row := ttypeGathersRow, standIns := [], harness := (true, "4b53152358c85fd4e210a959f974acfb0ce964d2fa60a6c801d1102d728e3ce6"), looks := true }, kinds := [], alts := [], laidByText := true, laidKinds := [.sentinel, .sentinel, .sentinel, .sentinel, .sentinel], laidTests := true, laidLooks := .later }
def TtypeGathersCardSaid : Prop := Claim7.holds Tryd.pinned (.plain (OpenSpec.ofChange ttypeGathersSpec)) ttypeGathersCard

/-- THE TIED CARD OF 'truchmanlaw13.TtypeBodies'. -/
def ttypeBodiesCard : Claim7 := { stood := { row := ttypeBodiesRow, standIns := [], harness := (true, "4b53152358c85fd4e210a959f974acfb0ce964d2fa60a6c801d1102d728e3ce6"), looks := true }, kinds := [], alts := [], laidByText := true, laidKinds := [.sentinel, .sentinel, .sentinel, .sentinel, .sentinel, .sentinel, .sentinel, .sentinel, .sentinel, .sentinel, .sentinel, .sentinel, .sentinel, .sentinel, .sentinel, .sentinel], laidTests := true, laidLooks := .later }
def TtypeBodiesCardSaid : Prop := Claim7.holds Tryd.pinned (.plain (OpenSpec.ofChange ttypeBodiesSpec)) ttypeBodiesCard

/-- THE TIED CARD OF 'truchmanlaw13.TtypeCycles'. -/
def ttypeCyclesCard : Claim7 := { stood := { row := ttypeCyclesRow, standIns := [], harness := (true, "4b53152358c85fd4e210a959f974acfb0ce964d2fa60a6c801d1102d728e3ce6"), looks := true }, kinds := [], alts := [], laidByText := true, laidKinds := [.sentinel, .sentinel, .sentinel, .sentinel, .sentinel, .sentinel, .sentinel, .sentinel, .sentinel, .sentinel, .sentinel, .sentinel, .sentinel, .sentinel, .sentinel, .sentinel], laidTests := true, laidLooks := .later }
def TtypeCyclesCardSaid : Prop := Claim7.holds Tryd.pinned (.plain (OpenSpec.ofChange ttypeCyclesSpec)) ttypeCyclesCard

/-- THE TIED CARD OF 'truchmanlaw03.StreamParts'. -/
def streamPartsCard : Claim7 := { stood := { row := streamPartsRow, standIns := [], harness := (true, "4b53152358c85fd4e210a959f974acfb0ce964d2fa60a6c801d1102d728e3ce6"), looks := true }, kinds := [], alts := [], laidByText := true, laidKinds := [.sentinel, .sentinel, .sentinel], laidTests := true, laidLooks := .later }
def StreamPartsCardSaid : Prop := Claim7.holds Tryd.pinned (.plain (OpenSpec.ofChange streamPartsSpec)) streamPartsCard

/-- THE TIED CARD OF 'truchmanlaw03.StreamGrants'. -/
def streamGrantsCard : Claim7 := { stood := { row := streamGrantsRow, standIns := [], harness := (true, "4b53152358c85fd4e210a959f974acfb0ce964d2fa60a6c801d1102d728e3ce6"), looks := true }, kinds := [], alts := [], laidByText := true, laidKinds := [.sentinel, .sentinel, .sentinel], laidTests := true, laidLooks := .later }
def StreamGrantsCardSaid : Prop := Claim7.holds Tryd.pinned (.plain (OpenSpec.ofChange streamGrantsSpec)) streamGrantsCard

/-- THE TIED CARD OF 'truchmanlaw03.StreamActs'. -/
def streamActsCard : Claim7 := { stood := { row := streamActsRow, standIns := [], harness := (true, "4b53152358c85fd4e210a959f974acfb0ce964d2fa60a6c801d1102d728e3ce6"), looks := true }, kinds := [], alts := [], laidByText := true, laidKinds := [.sentinel, .sentinel, .sentinel, .sentinel, .sentinel, .sentinel, .sentinel, .sentinel, .sentinel, .sentinel, .sentinel, .sentinel, .sentinel, .sentinel, .sentinel, .sentinel], laidTests := true, laidLooks := .later }
def StreamActsCardSaid : Prop := Claim7.holds Tryd.pinned (.plain (OpenSpec.ofChange streamActsSpec)) streamActsCard

/-- THE TIED CARD OF 'truchmanlaw02.TimersNext'. -/
def timersNextCard : Claim7 := { stood := { row := timersNextRow, standIns := [], harness := (true, "4b53152358c85fd4e210a959f974acfb0ce964d2fa60a6c801d1102d728e3ce6"), looks := true }, kinds := [], alts := [], laidByText := true, laidKinds := [.sentinel, .sentinel], laidTests := true, laidLooks := .later }
def TimersNextCardSaid : Prop := Claim7.holds Tryd.pinned (.plain (OpenSpec.ofChange timersNextSpec)) timersNextCard

/-- THE TIED CARD OF 'truchmanlaw02.TimersActs'. -/
def timersActsCard : Claim7 := { stood := { row := timersActsRow, standIns := [], harness := (true, "4b53152358c85fd4e210a959f974acfb0ce964d2fa60a6c801d1102d728e3ce6"), looks := true }, kinds := [], alts := [], laidByText := true, laidKinds := [.sentinel, .sentinel, .sentinel, .sentinel, .sentinel, .sentinel, .sentinel, .sentinel, .sentinel, .sentinel, .sentinel, .sentinel, .sentinel, .sentinel, .sentinel, .sentinel], laidTests := true, laidLooks := .later }
def TimersActsCardSaid : Prop := Claim7.holds Tryd.pinned (.plain (OpenSpec.ofChange timersActsSpec)) timersActsCard

/-- THE SECOND FORM's CARD OF 'truchmanlaw01.RingKeeps'. -/
def ringKeepsUptoCard : Claim7 := { stood := { row := ringKeepsUptoRow, standIns := [], harness := (true, "4b53152358c85fd4e210a959f974acfb0ce964d2fa60a6c801d1102d728e3ce6"), looks := true }, kinds := [], alts := [], laidByText := true, laidKinds := [.sentinel], laidTests := true, laidLooks := .later }
def RingKeepsUptoCardSaid : Prop := Claim7.holds Tryd.pinned (.plain (OpenSpec.upto ringKeepsSpec)) ringKeepsUptoCard

/-- THE SECOND FORM's CARD OF 'truchmanlaw01.RingParts'. -/
def ringPartsUptoCard : Claim7 := { stood := { row := ringPartsUptoRow, standIns := [], harness := (true, "4b53152358c85fd4e210a959f974acfb0ce964d2fa60a6c801d1102d728e3ce6"), looks := true }, kinds := [], alts := [], laidByText := true, laidKinds := [.sentinel], laidTests := true, laidLooks := .later }
def RingPartsUptoCardSaid : Prop := Claim7.holds Tryd.pinned (.plain (OpenSpec.upto ringPartsSpec)) ringPartsUptoCard

/-- THE SECOND FORM's CARD OF 'truchmanlaw01.RingActs'. -/
def ringActsUptoCard : Claim7 := { stood := { row := ringActsUptoRow, standIns := [], harness := (true, "4b53152358c85fd4e210a959f974acfb0ce964d2fa60a6c801d1102d728e3ce6"), looks := true }, kinds := [], alts := [], laidByText := true, laidKinds := [.sentinel, .sentinel, .sentinel, .sentinel, .sentinel, .sentinel, .sentinel, .sentinel, .sentinel, .sentinel, .sentinel, .sentinel, .sentinel, .sentinel, .sentinel, .sentinel], laidTests := true, laidLooks := .later }
def RingActsUptoCardSaid : Prop := Claim7.holds Tryd.pinned (.plain (OpenSpec.upto ringActsSpec)) ringActsUptoCard

/-- THE SECOND FORM's CARD OF 'truchmanlaw13.TtypeGathers'. -/
def ttypeGathersUptoCard : Claim7 := { stood := { row := ttypeGathersUptoRow, standIns := [], harness := (true, "4b53152358c85fd4e210a959f974acfb0ce964d2fa60a6c801d1102d728e3ce6"), looks := true }, kinds := [], alts := [], laidByText := true, laidKinds := [.sentinel, .sentinel, .sentinel, .sentinel, .sentinel], laidTests := true, laidLooks := .later }
def TtypeGathersUptoCardSaid : Prop := Claim7.holds Tryd.pinned (.plain (OpenSpec.upto ttypeGathersSpec)) ttypeGathersUptoCard

/-- THE SECOND FORM's CARD OF 'truchmanlaw13.TtypeBodies'. -/
def ttypeBodiesUptoCard : Claim7 := { stood := { row := ttypeBodiesUptoRow, standIns := [], harness := (true, "4b53152358c85fd4e210a959f974acfb0ce964d2fa60a6c801d1102d728e3ce6"), looks := true }, kinds := [], alts := [], laidByText := true, laidKinds := [.sentinel, .sentinel, .sentinel, .sentinel, .sentinel, .sentinel, .sentinel, .sentinel, .sentinel, .sentinel, .sentinel, .sentinel, .sentinel, .sentinel, .sentinel, .sentinel], laidTests := true, laidLooks := .later }
def TtypeBodiesUptoCardSaid : Prop := Claim7.holds Tryd.pinned (.plain (OpenSpec.upto ttypeBodiesSpec)) ttypeBodiesUptoCard

/-- THE SECOND FORM's CARD OF 'truchmanlaw13.TtypeCycles'. -/
def ttypeCyclesUptoCard : Claim7 := { stood := { row := ttypeCyclesUptoRow, standIns := [], harness := (true, "4b53152358c85fd4e210a959f974acfb0ce964d2fa60a6c801d1102d728e3ce6"), looks := true }, kinds := [], alts := [], laidByText := true, laidKinds := [.sentinel, .sentinel, .sentinel, .sentinel, .sentinel, .sentinel, .sentinel, .sentinel, .sentinel, .sentinel, .sentinel, .sentinel, .sentinel, .sentinel, .sentinel, .sentinel], laidTests := true, laidLooks := .later }
def TtypeCyclesUptoCardSaid : Prop := Claim7.holds Tryd.pinned (.plain (OpenSpec.upto ttypeCyclesSpec)) ttypeCyclesUptoCard

/-- THE SECOND FORM's CARD OF 'truchmanlaw03.StreamParts'. -/
def streamPartsUptoCard : Claim7 := { stood := { row := streamPartsUptoRow, standIns := [], harness := (true, "4b53152358c85fd4e210a959f974acfb0ce964d2fa60a6c801d1102d728e3ce6"), looks := true }, kinds := [], alts := [], laidByText := true, laidKinds := [.sentinel, .sentinel, .sentinel], laidTests := true, laidLooks := .later }
def StreamPartsUptoCardSaid : Prop := Claim7.holds Tryd.pinned (.plain (OpenSpec.upto streamPartsSpec)) streamPartsUptoCard

/-- THE SECOND FORM's CARD OF 'truchmanlaw03.StreamGrants'. -/
def streamGrantsUptoCard : Claim7 := { stood := { row := streamGrantsUptoRow, standIns := [], harness := (true, "4b53152358c85fd4e210a959f974acfb0ce964d2fa60a6c801d1102d728e3ce6"), looks := true }, kinds := [], alts := [], laidByText := true, laidKinds := [.sentinel, .sentinel, .sentinel], laidTests := true, laidLooks := .later }
def StreamGrantsUptoCardSaid : Prop := Claim7.holds Tryd.pinned (.plain (OpenSpec.upto streamGrantsSpec)) streamGrantsUptoCard

/-- THE SECOND FORM's CARD OF 'truchmanlaw03.StreamActs'. -/
def streamActsUptoCard : Claim7 := { stood := { row := streamActsUptoRow, standIns := [], harness := (true, "4b53152358c85fd4e210a959f974acfb0ce964d2fa60a6c801d1102d728e3ce6"), looks := true }, kinds := [], alts := [], laidByText := true, laidKinds := [.sentinel, .sentinel, .sentinel, .sentinel, .sentinel, .sentinel, .sentinel, .sentinel, .sentinel, .sentinel, .sentinel, .sentinel, .sentinel, .sentinel, .sentinel, .sentinel], laidTests := true, laidLooks := .later }
def StreamActsUptoCardSaid : Prop := Claim7.holds Tryd.pinned (.plain (OpenSpec.upto streamActsSpec)) streamActsUptoCard

/-- THE SECOND FORM's CARD OF 'truchmanlaw02.TimersNext'. -/
def timersNextUptoCard : Claim7 := { stood := { row := timersNextUptoRow, standIns := [], harness := (true, "4b53152358c85fd4e210a959f974acfb0ce964d2fa60a6c801d1102d728e3ce6"), looks := true }, kinds := [], alts := [], laidByText := true, laidKinds := [.sentinel, .sentinel], laidTests := true, laidLooks := .later }
def TimersNextUptoCardSaid : Prop := Claim7.holds Tryd.pinned (.plain (OpenSpec.upto timersNextSpec)) timersNextUptoCard

/-- THE SECOND FORM's CARD OF 'truchmanlaw02.TimersActs'. -/
def timersActsUptoCard : Claim7 := { stood := { row := timersActsUptoRow, standIns := [], harness := (true, "4b53152358c85fd4e210a959f974acfb0ce964d2fa60a6c801d1102d728e3ce6"), looks := true }, kinds := [], alts := [], laidByText := true, laidKinds := [.sentinel, .sentinel, .sentinel, .sentinel, .sentinel, .sentinel, .sentinel, .sentinel, .sentinel, .sentinel, .sentinel, .sentinel, .sentinel, .sentinel, .sentinel, .sentinel], laidTests := true, laidLooks := .later }
def TimersActsUptoCardSaid : Prop := Claim7.holds Tryd.pinned (.plain (OpenSpec.upto timersActsSpec)) timersActsUptoCard
end Rows
end Go.Proofs.YtbipkbpcjkgohaaDoor
