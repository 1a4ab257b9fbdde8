/-
  DERIVED. GIVEN WITH THE SEED: THE CARDS: each row of YtnkhiohopcadmaaDoorRows.lean that lists a variable, with what it lists TIED to the program's text (the seventh form; the later family's looks); each row that meets fmt, with fmt's text TOLD by the authors' own Lean function (tested against real Go, not proved from fmt's source: count such statements apart). THE CARD IS WHAT COUNTS. Prove the row's statement (the work); the ties are given (YtnkhiohopcadmaaDoorTie.lean); close each card by the builder's one call (the guide's Derived/Test/ToyasCard.lean, 'card_holds'). Laid BY PROGRAM, IN A SANDBOX (cutbox-door.mjs). By AI agents, Wed Nov 11 2026. No macro, syntax, notation, axiom, sorry.
-/
import Derived.Test.YtnkhiohopcadmaaDoorRows
import GoSem.ClaimSeven
namespace Go.Proofs.YtnkhiohopcadmaaDoor
namespace Rows

/-- THE TIED CARD OF 'truchmanlaw23.RexTells'. -/
def rexTellsCard : Claim7 := { stood := { row := rexTellsRow, standIns := [], harness := (true, "6f26574bf397d31fca3a3633ca171c633e6043c6d9a1fd4b44d5e5fdea109903"), looks := true }, kinds := [], alts := [], laidByText := true, laidKinds := [.data, .sentinel, .sentinel, .sentinel, .sentinel, .sentinel, .sentinel], laidTests := true, laidLooks := .later }
def RexTellsCardSaid : Prop := Claim7.holds Tryd.pinned (.plain (OpenSpec.ofChange rexTellsSpec)) rexTellsCard

/-- THE TIED CARD OF 'truchmanlaw23.RexParses'. -/
def rexParsesCard : Claim7 := { stood := { row := rexParsesRow, standIns := [], harness := (true, "6f26574bf397d31fca3a3633ca171c633e6043c6d9a1fd4b44d5e5fdea109903"), looks := true }, kinds := [], alts := [], laidByText := true, laidKinds := [.data, .sentinel, .sentinel, .sentinel, .sentinel, .sentinel, .sentinel, .sentinel, .sentinel, .sentinel, .sentinel, .sentinel, .sentinel, .sentinel, .sentinel, .sentinel, .sentinel], laidTests := true, laidLooks := .later }
def RexParsesCardSaid : Prop := Claim7.holds Tryd.pinned (.plain (OpenSpec.ofChange rexParsesSpec)) rexParsesCard

/-- THE TIED CARD OF 'truchmanlaw27.MeanSays'. -/
def meanSaysCard : Claim7 := { stood := { row := meanSaysRow, standIns := [], harness := (true, "6f26574bf397d31fca3a3633ca171c633e6043c6d9a1fd4b44d5e5fdea109903"), looks := true }, kinds := [], alts := [], laidByText := true, laidKinds := [.data, .sentinel, .sentinel, .sentinel, .sentinel, .sentinel, .sentinel], laidTests := true, laidLooks := .later }
def MeanSaysCardSaid : Prop := Claim7.holds Tryd.pinned (.plain (OpenSpec.ofChange meanSaysSpec)) meanSaysCard

/-- THE TIED CARD OF 'truchmanlaw27.MeanAlgebra'. -/
def meanAlgebraCard : Claim7 := { stood := { row := meanAlgebraRow, standIns := [], harness := (true, "6f26574bf397d31fca3a3633ca171c633e6043c6d9a1fd4b44d5e5fdea109903"), looks := true }, kinds := [], alts := [], laidByText := true, laidKinds := [.data, .sentinel, .sentinel, .sentinel, .sentinel, .sentinel, .sentinel], laidTests := true, laidLooks := .later }
def MeanAlgebraCardSaid : Prop := Claim7.holds Tryd.pinned (.plain (OpenSpec.ofChange meanAlgebraSpec)) meanAlgebraCard

/-- THE TIED CARD OF 'truchmanlaw27.MeanStar'. -/
def meanStarCard : Claim7 := { stood := { row := meanStarRow, standIns := [], harness := (true, "6f26574bf397d31fca3a3633ca171c633e6043c6d9a1fd4b44d5e5fdea109903"), looks := true }, kinds := [], alts := [], laidByText := true, laidKinds := [.data, .sentinel, .sentinel, .sentinel, .sentinel, .sentinel, .sentinel], laidTests := true, laidLooks := .later }
def MeanStarCardSaid : Prop := Claim7.holds Tryd.pinned (.plain (OpenSpec.ofChange meanStarSpec)) meanStarCard

/-- THE TIED CARD OF 'truchmanlaw27.MeanFirst'. -/
def meanFirstCard : Claim7 := { stood := { row := meanFirstRow, standIns := [], harness := (true, "6f26574bf397d31fca3a3633ca171c633e6043c6d9a1fd4b44d5e5fdea109903"), looks := true }, kinds := [], alts := [], laidByText := true, laidKinds := [.data, .sentinel, .sentinel, .sentinel, .sentinel, .sentinel, .sentinel], laidTests := true, laidLooks := .later }
def MeanFirstCardSaid : Prop := Claim7.holds Tryd.pinned (.plain (OpenSpec.ofChange meanFirstSpec)) meanFirstCard

/-- THE SECOND FORM's CARD OF 'truchmanlaw23.RexTells'. -/
def rexTellsUptoCard : Claim7 := { stood := { row := rexTellsUptoRow, standIns := [], harness := (true, "6f26574bf397d31fca3a3633ca171c633e6043c6d9a1fd4b44d5e5fdea109903"), looks := true }, kinds := [], alts := [], laidByText := true, laidKinds := [.data, .sentinel, .sentinel, .sentinel, .sentinel, .sentinel, .sentinel], laidTests := true, laidLooks := .later }
def RexTellsUptoCardSaid : Prop := Claim7.holds Tryd.pinned (.plain (OpenSpec.upto rexTellsSpec)) rexTellsUptoCard

/-- THE SECOND FORM's CARD OF 'truchmanlaw23.RexParses'. -/
def rexParsesUptoCard : Claim7 := { stood := { row := rexParsesUptoRow, standIns := [], harness := (true, "6f26574bf397d31fca3a3633ca171c633e6043c6d9a1fd4b44d5e5fdea109903"), looks := true }, kinds := [], alts := [], laidByText := true, laidKinds := [.data, .sentinel, .sentinel, .sentinel, .sentinel, .sentinel, .sentinel, .sentinel, .sentinel, .sentinel, .sentinel, .sentinel, .sentinel, .sentinel, .sentinel, .sentinel, .sentinel], laidTests := true, laidLooks := .later }
def RexParsesUptoCardSaid : Prop := Claim7.holds Tryd.pinned (.plain (OpenSpec.upto rexParsesSpec)) rexParsesUptoCard

/-- THE SECOND FORM's CARD OF 'truchmanlaw27.MeanSays'. -/
def meanSaysUptoCard : Claim7 := { stood := { row := meanSaysUptoRow, standIns := [], harness := (true, "6f26574bf397d31fca3a3633ca171c633e6043c6d9a1fd4b44d5e5fdea109903"), looks := true }, kinds := [], alts := [], laidByText := true, laidKinds := [.data, .sentinel, .sentinel, .sentinel, .sentinel, .sentinel, .sentinel], laidTests := true, laidLooks := .later }
def MeanSaysUptoCardSaid : Prop := Claim7.holds Tryd.pinned (.plain (OpenSpec.upto meanSaysSpec)) meanSaysUptoCard

/-- THE SECOND FORM's CARD OF 'truchmanlaw27.MeanAlgebra'. -/
def meanAlgebraUptoCard : Claim7 := { stood := { row := meanAlgebraUptoRow, standIns := [], harness := (true, "6f26574bf397d31fca3a3633ca171c633e6043c6d9a1fd4b44d5e5fdea109903"), looks := true }, kinds := [], alts := [], laidByText := true, laidKinds := [.data, .sentinel, .sentinel, .sentinel, .sentinel, .sentinel, .sentinel], laidTests := true, laidLooks := .later }
def MeanAlgebraUptoCardSaid : Prop := Claim7.holds Tryd.pinned (.plain (OpenSpec.upto meanAlgebraSpec)) meanAlgebraUptoCard

/-- THE SECOND FORM's CARD OF 'truchmanlaw27.MeanStar'. -/
def meanStarUptoCard : Claim7 := { stood := { row := meanStarUptoRow, standIns := [], harness := (true, "6f26574bf397d31fca3a3633ca171c633e6043c6d9a1fd4b44d5e5fdea109903"), looks := true }, kinds := [], alts := [], laidByText := true, laidKinds := [.data, .sentinel, .sentinel, .sentinel, .sentinel, .sentinel, .sentinel], laidTests := true, laidLooks := .later }
def MeanStarUptoCardSaid : Prop := Claim7.holds Tryd.pinned (.plain (OpenSpec.upto meanStarSpec)) meanStarUptoCard

/-- THE SECOND FORM's CARD OF 'truchmanlaw27.MeanFirst'. -/
def meanFirstUptoCard : Claim7 := { stood := { row := meanFirstUptoRow, standIns := [], harness := (true, "6f26574bf397d31fca3a3633ca171c633e6043c6d9a1fd4b44d5e5fdea109903"), looks := true }, kinds := [], alts := [], laidByText := true, laidKinds := [.data, .sentinel, .sentinel, .sentinel, .sentinel, .sentinel, .sentinel], laidTests := true, laidLooks := .later }
def MeanFirstUptoCardSaid : Prop := Claim7.holds Tryd.pinned (.plain (OpenSpec.upto meanFirstSpec)) meanFirstUptoCard
end Rows
end Go.Proofs.YtnkhiohopcadmaaDoor
