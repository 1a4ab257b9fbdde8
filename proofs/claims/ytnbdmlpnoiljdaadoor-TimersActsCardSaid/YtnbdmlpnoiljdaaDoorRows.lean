/-
  NARROWER THAN 'FOR EVERY INPUT', by the rows' own cells (each row's printed sentence says how): TtypeCycles: laid · StreamParts: laid · StreamGrants: laid · StreamActs: laid · TimersNext: laid · TimersActs: laid.
  DERIVED. THE GIVEN ROWS OF THIS SEAT. 6 by the template 'for every input the law returns true; each argument reads behind the call as it read before'; 0 by the template 'total and deterministic' (their statements: YtnbdmlpnoiljdaaDoorTotals.lean).
  GIVEN WITH THE SEED: the statements are not yours to turn. If you find one false, say at which input.
  Laid BY PROGRAM, IN A SANDBOX (cutbox-rows.mjs): the forced cells as the released guide's own fill.sh prints them over the translation a4646f46d0f9bd19… (all of the seat's roots in one cut). By AI agents, Wed Nov 11 2026. No macro, syntax, notation, axiom, sorry.
-/
import Derived.Test.YtnbdmlpnoiljdaaDoorChecked
import GoSem.Claim
import GoSem.ClaimJoined
import GoSem.ClaimMapViews
import Derived.JoinedTies
import Derived.KernelRfl
namespace Go.Proofs.YtnbdmlpnoiljdaaDoor
/- THE CELL 'sum', in the pinned program and in every row, IS THE sha256 OF THE DUMP (.gsa) THAT YtnbdmlpnoiljdaaDoorProg.lean LOADS. Nothing in Lean hashes anything: it is a label: what it is worth is what the hold of that sum in a sandbox is worth. -/
noncomputable def Tryd.pinned : Pinned := { name := "ytnbdmlpnoiljdaadoor", sum := "a4646f46d0f9bd192843e5c7cf2054ce86c376eb4345bc63788db788d652d09c", checked := Tryd.checked }
namespace Rows
def none {H : Type} : Left H := { results := [], args := [] }

/- WHAT THE LISTED PACKAGE-LEVEL VARIABLES READ AS WHEN THE CALL BEGINS. Each datum BY PROGRAM (the guide's laid-datum.mjs) off the statement by which the dump's own 'gosem.cut.vars' lays the variable. In a bare row this is a premise. The card (YtnbdmlpnoiljdaaDoorCards.lean) ties it to the program's text. -/
def laid_truchman_api_ErrRange {H : Type} : DataW H := .iface "*errors.errorString" (.ptr (.agg [.lit (.string [97, 32, 110, 117, 109, 98, 101, 114, 32, 105, 115, 32, 111, 117, 116, 32, 111, 102, 32, 105, 116, 115, 32, 114, 97, 110, 103, 101])]))
def laid_truchman_api_ErrFull {H : Type} : DataW H := .iface "*errors.errorString" (.ptr (.agg [.lit (.string [116, 104, 101, 114, 101, 32, 105, 115, 32, 110, 111, 32, 109, 111, 114, 101, 32, 114, 111, 111, 109])]))
def laid_truchman_api_ErrShort {H : Type} : DataW H := .iface "*errors.errorString" (.ptr (.agg [.lit (.string [115, 111, 109, 101, 116, 104, 105, 110, 103, 32, 105, 115, 32, 109, 105, 115, 115, 105, 110, 103, 32, 97, 116, 32, 116, 104, 101, 32, 101, 110, 100])]))
def laid_truchman_api_ErrLong {H : Type} : DataW H := .iface "*errors.errorString" (.ptr (.agg [.lit (.string [116, 104, 101, 114, 101, 32, 105, 115, 32, 109, 111, 114, 101, 32, 116, 104, 97, 110, 32, 109, 97, 121, 32, 98, 101])]))
def laid_truchman_api_ErrForm {H : Type} : DataW H := .iface "*errors.errorString" (.ptr (.agg [.lit (.string [105, 116, 32, 105, 115, 32, 110, 111, 116, 32, 111, 102, 32, 105, 116, 115, 32, 102, 111, 114, 109])]))
def laid_truchman_api_ErrName {H : Type} : DataW H := .iface "*errors.errorString" (.ptr (.agg [.lit (.string [116, 104, 101, 114, 101, 32, 105, 115, 32, 110, 111, 32, 115, 117, 99, 104, 32, 110, 97, 109, 101])]))
def laid_truchman_api_ErrNone {H : Type} : DataW H := .iface "*errors.errorString" (.ptr (.agg [.lit (.string [116, 104, 101, 114, 101, 32, 105, 115, 32, 110, 111, 110, 101])]))
def laid_truchman_api_ErrDup {H : Type} : DataW H := .iface "*errors.errorString" (.ptr (.agg [.lit (.string [105, 116, 32, 105, 115, 32, 116, 104, 101, 114, 101, 32, 97, 108, 114, 101, 97, 100, 121])]))
def laid_truchman_api_ErrKind {H : Type} : DataW H := .iface "*errors.errorString" (.ptr (.agg [.lit (.string [105, 116, 32, 105, 115, 32, 111, 102, 32, 97, 110, 111, 116, 104, 101, 114, 32, 107, 105, 110, 100])]))
def laid_truchman_api_ErrState {H : Type} : DataW H := .iface "*errors.errorString" (.ptr (.agg [.lit (.string [105, 116, 32, 99, 97, 110, 32, 110, 111, 116, 32, 98, 101, 32, 100, 111, 110, 101, 32, 105, 110, 32, 116, 104, 105, 115, 32, 115, 116, 97, 116, 101])]))
def laid_truchman_api_ErrDepth {H : Type} : DataW H := .iface "*errors.errorString" (.ptr (.agg [.lit (.string [105, 116, 32, 103, 111, 101, 115, 32, 116, 111, 111, 32, 100, 101, 101, 112])]))
def laid_truchman_api_ErrFuel {H : Type} : DataW H := .iface "*errors.errorString" (.ptr (.agg [.lit (.string [116, 104, 101, 32, 102, 117, 101, 108, 32, 105, 115, 32, 115, 112, 101, 110, 116])]))
def laid_truchman_api_ErrStack {H : Type} : DataW H := .iface "*errors.errorString" (.ptr (.agg [.lit (.string [116, 104, 101, 114, 101, 32, 97, 114, 101, 32, 116, 111, 111, 32, 109, 97, 110, 121, 32, 99, 97, 108, 108, 115, 32, 119, 105, 116, 104, 105, 110, 32, 111, 110, 101, 32, 97, 110, 111, 116, 104, 101, 114])]))
def laid_truchman_api_ErrClosed {H : Type} : DataW H := .iface "*errors.errorString" (.ptr (.agg [.lit (.string [105, 116, 32, 105, 115, 32, 99, 108, 111, 115, 101, 100])]))
def laid_truchman_api_ErrEmpty {H : Type} : DataW H := .iface "*errors.errorString" (.ptr (.agg [.lit (.string [105, 116, 32, 119, 111, 117, 108, 100, 32, 109, 97, 116, 99, 104, 32, 110, 111, 116, 104, 105, 110, 103, 32, 97, 116, 32, 97, 108, 108])]))
def laid_truchman_api_ErrNumber {H : Type} : DataW H := .iface "*errors.errorString" (.ptr (.agg [.lit (.string [116, 104, 101, 32, 116, 101, 120, 116, 32, 105, 115, 32, 110, 111, 32, 110, 117, 109, 98, 101, 114])]))

/-- 'truchmanlaw13.TtypeCycles': WHATEVER THE INPUT: true; the input reads as it did. -/
def ttypeCyclesSpec : ChangeSpec := { name := "ttypeCycles", fn := fun _ => fun
  | [d1, d2, d3] => { results := [.lit (.bool true)], args := [d1, d2, d3] }
  | _ => none }
def ttypeCyclesRow : OpenClaim := { program := "ytnbdmlpnoiljdaadoor", sum := "a4646f46d0f9bd192843e5c7cf2054ce86c376eb4345bc63788db788d652d09c", func := "truchman/truchmanlaw13.TtypeCycles", spec := "ttypeCycles", inPlace := ["internal/reflectlite.TypeOf"], unfollowed := true, recurses := true, named := ["truchman/api.ErrRange", "truchman/api.ErrName", "truchman/api.ErrFull", "truchman/api.ErrShort", "truchman/api.ErrLong", "truchman/api.ErrForm", "truchman/api.ErrNone", "truchman/api.ErrDup", "truchman/api.ErrKind", "truchman/api.ErrState", "truchman/api.ErrDepth", "truchman/api.ErrFuel", "truchman/api.ErrStack", "truchman/api.ErrClosed", "truchman/api.ErrEmpty", "truchman/api.ErrNumber"], apart := false, laid := [("truchman/api.ErrRange", laid_truchman_api_ErrRange), ("truchman/api.ErrFull", laid_truchman_api_ErrFull), ("truchman/api.ErrShort", laid_truchman_api_ErrShort), ("truchman/api.ErrLong", laid_truchman_api_ErrLong), ("truchman/api.ErrForm", laid_truchman_api_ErrForm), ("truchman/api.ErrName", laid_truchman_api_ErrName), ("truchman/api.ErrNone", laid_truchman_api_ErrNone), ("truchman/api.ErrDup", laid_truchman_api_ErrDup), ("truchman/api.ErrKind", laid_truchman_api_ErrKind), ("truchman/api.ErrState", laid_truchman_api_ErrState), ("truchman/api.ErrDepth", laid_truchman_api_ErrDepth), ("truchman/api.ErrFuel", laid_truchman_api_ErrFuel), ("truchman/api.ErrStack", laid_truchman_api_ErrStack), ("truchman/api.ErrClosed", laid_truchman_api_ErrClosed), ("truchman/api.ErrEmpty", laid_truchman_api_ErrEmpty), ("truchman/api.ErrNumber", laid_truchman_api_ErrNumber)] }
def TtypeCyclesSaid : Prop := ttypeCyclesRow.holds Tryd.pinned (OpenSpec.ofChange ttypeCyclesSpec)

/-- ITS FALSE NEIGHBOUR: 'it returns false'. Refute it at one input. -/
def ttypeCyclesWrong : ChangeSpec := { name := "ttypeCycles", fn := fun _ => fun
  | [d1, d2, d3] => { results := [.lit (.bool false)], args := [d1, d2, d3] }
  | _ => none }
def TtypeCyclesWrongFalsely : Prop := ttypeCyclesRow.holds Tryd.pinned (OpenSpec.ofChange ttypeCyclesWrong)

/-- 'truchmanlaw03.StreamParts': WHATEVER THE INPUT: true; the input reads as it did. -/
def streamPartsSpec : ChangeSpec := { name := "streamParts", fn := fun _ => fun
  | [d1, d2, d3] => { results := [.lit (.bool true)], args := [d1, d2, d3] }
  | _ => none }
def streamPartsRow : OpenClaim := { program := "ytnbdmlpnoiljdaadoor", sum := "a4646f46d0f9bd192843e5c7cf2054ce86c376eb4345bc63788db788d652d09c", func := "truchman/truchmanlaw03.StreamParts", spec := "streamParts", named := ["truchman/api.ErrRange", "truchman/api.ErrClosed", "truchman/api.ErrFull"], apart := false, laid := [("truchman/api.ErrRange", laid_truchman_api_ErrRange), ("truchman/api.ErrFull", laid_truchman_api_ErrFull), ("truchman/api.ErrClosed", laid_truchman_api_ErrClosed)] }
def StreamPartsSaid : Prop := streamPartsRow.holds Tryd.pinned (OpenSpec.ofChange streamPartsSpec)

/-- ITS FALSE NEIGHBOUR: 'it returns false'. Refute it at one input. -/
def streamPartsWrong : ChangeSpec := { name := "streamParts", fn := fun _ => fun
  | [d1, d2, d3] => { results := [.lit (.bool false)], args := [d1, d2, d3] }
  | _ => none }
def StreamPartsWrongFalsely : Prop := streamPartsRow.holds Tryd.pinned (OpenSpec.ofChange streamPartsWrong)

/-- 'truchmanlaw03.StreamGrants': WHATEVER THE INPUT: true; the input reads as it did. -/
def streamGrantsSpec : ChangeSpec := { name := "streamGrants", fn := fun _ => fun
  | [d1, d2] => { results := [.lit (.bool true)], args := [d1, d2] }
  | _ => none }
def streamGrantsRow : OpenClaim := { program := "ytnbdmlpnoiljdaadoor", sum := "a4646f46d0f9bd192843e5c7cf2054ce86c376eb4345bc63788db788d652d09c", func := "truchman/truchmanlaw03.StreamGrants", spec := "streamGrants", named := ["truchman/api.ErrRange", "truchman/api.ErrClosed", "truchman/api.ErrFull"], apart := false, laid := [("truchman/api.ErrRange", laid_truchman_api_ErrRange), ("truchman/api.ErrFull", laid_truchman_api_ErrFull), ("truchman/api.ErrClosed", laid_truchman_api_ErrClosed)] }
def StreamGrantsSaid : Prop := streamGrantsRow.holds Tryd.pinned (OpenSpec.ofChange streamGrantsSpec)

/-- ITS FALSE NEIGHBOUR: 'it returns false'. Refute it at one input. -/
def streamGrantsWrong : ChangeSpec := { name := "streamGrants", fn := fun _ => fun
  | [d1, d2] => { results := [.lit (.bool false)], args := [d1, d2] }
  | _ => none }
def StreamGrantsWrongFalsely : Prop := streamGrantsRow.holds Tryd.pinned (OpenSpec.ofChange streamGrantsWrong)

/-- 'truchmanlaw03.StreamActs': WHATEVER THE INPUT: true; the input reads as it did. -/
def streamActsSpec : ChangeSpec := { name := "streamActs", fn := fun _ => fun
  | [d1, d2] => { results := [.lit (.bool true)], args := [d1, d2] }
  | _ => none }
def streamActsRow : OpenClaim := { program := "ytnbdmlpnoiljdaadoor", sum := "a4646f46d0f9bd192843e5c7cf2054ce86c376eb4345bc63788db788d652d09c", func := "truchman/truchmanlaw03.StreamActs", spec := "streamActs", inPlace := ["internal/reflectlite.TypeOf"], unfollowed := true, recurses := true, named := ["truchman/api.ErrRange", "truchman/api.ErrClosed", "truchman/api.ErrFull", "truchman/api.ErrShort", "truchman/api.ErrLong", "truchman/api.ErrForm", "truchman/api.ErrName", "truchman/api.ErrNone", "truchman/api.ErrDup", "truchman/api.ErrKind", "truchman/api.ErrState", "truchman/api.ErrDepth", "truchman/api.ErrFuel", "truchman/api.ErrStack", "truchman/api.ErrEmpty", "truchman/api.ErrNumber"], apart := false, laid := [("truchman/api.ErrRange", laid_truchman_api_ErrRange), ("truchman/api.ErrFull", laid_truchman_api_ErrFull), ("truchman/api.ErrShort", laid_truchman_api_ErrShort), ("truchman/api.ErrLong", laid_truchman_api_ErrLong), ("truchman/api.ErrForm", laid_truchman_api_ErrForm), ("truchman/api.ErrName", laid_truchman_api_ErrName), ("truchman/api.ErrNone", laid_truchman_api_ErrNone), ("truchman/api.ErrDup", laid_truchman_api_ErrDup), ("truchman/api.ErrKind", laid_truchman_api_ErrKind), ("truchman/api.ErrState", laid_truchman_api_ErrState), ("truchman/api.ErrDepth", laid_truchman_api_ErrDepth), ("truchman/api.ErrFuel", laid_truchman_api_ErrFuel), ("truchman/api.ErrStack", laid_truchman_api_ErrStack), ("truchman/api.ErrClosed", laid_truchman_api_ErrClosed), ("truchman/api.ErrEmpty", laid_truchman_api_ErrEmpty), ("truchman/api.ErrNumber", laid_truchman_api_ErrNumber)] }
def StreamActsSaid : Prop := streamActsRow.holds Tryd.pinned (OpenSpec.ofChange streamActsSpec)

/-- ITS FALSE NEIGHBOUR: 'it returns false'. Refute it at one input. -/
def streamActsWrong : ChangeSpec := { name := "streamActs", fn := fun _ => fun
  | [d1, d2] => { results := [.lit (.bool false)], args := [d1, d2] }
  | _ => none }
def StreamActsWrongFalsely : Prop := streamActsRow.holds Tryd.pinned (OpenSpec.ofChange streamActsWrong)

/-- 'truchmanlaw02.TimersNext': WHATEVER THE INPUT: true; the input reads as it did. -/
def timersNextSpec : ChangeSpec := { name := "timersNext", fn := fun _ => fun
  | [d] => { results := [.lit (.bool true)], args := [d] }
  | _ => none }
def timersNextRow : OpenClaim := { program := "ytnbdmlpnoiljdaadoor", sum := "a4646f46d0f9bd192843e5c7cf2054ce86c376eb4345bc63788db788d652d09c", func := "truchman/truchmanlaw02.TimersNext", spec := "timersNext", inPlace := ["slices.overlaps[truchman/timers.timer]"], unfollowed := true, recurses := true, named := ["truchman/api.ErrRange", "truchman/api.ErrFull"], apart := false, laid := [("truchman/api.ErrRange", laid_truchman_api_ErrRange), ("truchman/api.ErrFull", laid_truchman_api_ErrFull)] }
def TimersNextSaid : Prop := timersNextRow.holds Tryd.pinned (OpenSpec.ofChange timersNextSpec)

/-- ITS FALSE NEIGHBOUR: 'it returns false'. Refute it at one input. -/
def timersNextWrong : ChangeSpec := { name := "timersNext", fn := fun _ => fun
  | [d] => { results := [.lit (.bool false)], args := [d] }
  | _ => none }
def TimersNextWrongFalsely : Prop := timersNextRow.holds Tryd.pinned (OpenSpec.ofChange timersNextWrong)

/-- 'truchmanlaw02.TimersActs': WHATEVER THE INPUT: true; the input reads as it did. -/
def timersActsSpec : ChangeSpec := { name := "timersActs", fn := fun _ => fun
  | [d] => { results := [.lit (.bool true)], args := [d] }
  | _ => none }
def timersActsRow : OpenClaim := { program := "ytnbdmlpnoiljdaadoor", sum := "a4646f46d0f9bd192843e5c7cf2054ce86c376eb4345bc63788db788d652d09c", func := "truchman/truchmanlaw02.TimersActs", spec := "timersActs", inPlace := ["slices.overlaps[truchman/timers.timer]", "internal/reflectlite.TypeOf"], unfollowed := true, recurses := true, named := ["truchman/api.ErrRange", "truchman/api.ErrFull", "truchman/api.ErrShort", "truchman/api.ErrLong", "truchman/api.ErrForm", "truchman/api.ErrName", "truchman/api.ErrNone", "truchman/api.ErrDup", "truchman/api.ErrKind", "truchman/api.ErrState", "truchman/api.ErrDepth", "truchman/api.ErrFuel", "truchman/api.ErrStack", "truchman/api.ErrClosed", "truchman/api.ErrEmpty", "truchman/api.ErrNumber"], apart := false, laid := [("truchman/api.ErrRange", laid_truchman_api_ErrRange), ("truchman/api.ErrFull", laid_truchman_api_ErrFull), ("truchman/api.ErrShort", laid_truchman_api_ErrShort), ("truchman/api.ErrLong", laid_truchman_api_ErrLong), ("truchman/api.ErrForm", laid_truchman_api_ErrForm), ("truchman/api.ErrName", laid_truchman_api_ErrName), ("truchman/api.ErrNone", laid_truchman_api_ErrNone), ("truchman/api.ErrDup", laid_truchman_api_ErrDup), ("truchman/api.ErrKind", laid_truchman_api_ErrKind), ("truchman/api.ErrState", laid_truchman_api_ErrState), ("truchman/api.ErrDepth", laid_truchman_api_ErrDepth), ("truchman/api.ErrFuel", laid_truchman_api_ErrFuel), ("truchman/api.ErrStack", laid_truchman_api_ErrStack), ("truchman/api.ErrClosed", laid_truchman_api_ErrClosed), ("truchman/api.ErrEmpty", laid_truchman_api_ErrEmpty), ("truchman/api.ErrNumber", laid_truchman_api_ErrNumber)] }
def TimersActsSaid : Prop := timersActsRow.holds Tryd.pinned (OpenSpec.ofChange timersActsSpec)

/-- ITS FALSE NEIGHBOUR: 'it returns false'. Refute it at one input. -/
def timersActsWrong : ChangeSpec := { name := "timersActs", fn := fun _ => fun
  | [d] => { results := [.lit (.bool false)], args := [d] }
  | _ => none }
def TimersActsWrongFalsely : Prop := timersActsRow.holds Tryd.pinned (OpenSpec.ofChange timersActsWrong)

/- THE SECOND FORM. 'bulk': how many values and letters a reading holds, each counted each time it is reached (what is shared counts as often as it is met; a slice's spare places count too). A statement '..UptoSaid' is the law's where the arguments, and the package variables that the reading takes, are together of bulk at most 1048576: NARROWER than '..Said'. Prove '..Said' where nothing that the law and all that it calls make is longer than what came in: it says more and counts as full. Else prove '..UptoSaid'. A law counts once. -/
mutual
def uptoBulk {H : Type} : DataW H → Nat
  | .lit (.string bytes) => bytes.length + 1
  | .lit _ => 1
  | .nil => 1
  | .ptr d => uptoBulk d + 1
  | .slice elems spare => uptoBulkAll elems + uptoBulkAll spare + 1
  | .agg parts => uptoBulkAll parts + 1
  | .iface _ d => uptoBulk d + 1
  | .map entries => uptoBulkEntries entries + 1
  | .held _ => 1
def uptoBulkAll {H : Type} : List (DataW H) → Nat
  | [] => 0
  | d :: r => uptoBulk d + uptoBulkAll r
def uptoBulkEntries {H : Type} : List (Lit × DataW H) → Nat
  | [] => 0
  | x :: r => uptoBulkEntry x + uptoBulkEntries r
def uptoBulkEntry {H : Type} : Lit × DataW H → Nat
  | (.string bytes, d) => bytes.length + uptoBulk d + 1
  | (_, d) => uptoBulk d + 1
 end
def uptoSmall : (H : Type) → List (DataW H) → Bool := fun _ ds => decide (uptoBulkAll ds ≤ 1048576)
def OpenSpec.upto (s : _root_.Go.ChangeSpec) : _root_.Go.OpenSpec := { _root_.Go.OpenSpec.ofChange s with cond := some uptoSmall }

/-- 'truchmanlaw13.TtypeCycles', WHERE WHAT IT READS IS OF BULK AT MOST 1048576: true; the input reads as it did. -/
def ttypeCyclesUptoRow : OpenClaim := { program := "ytnbdmlpnoiljdaadoor", sum := "a4646f46d0f9bd192843e5c7cf2054ce86c376eb4345bc63788db788d652d09c", func := "truchman/truchmanlaw13.TtypeCycles", spec := "ttypeCycles", inPlace := ["internal/reflectlite.TypeOf"], unfollowed := true, recurses := true, named := ["truchman/api.ErrRange", "truchman/api.ErrName", "truchman/api.ErrFull", "truchman/api.ErrShort", "truchman/api.ErrLong", "truchman/api.ErrForm", "truchman/api.ErrNone", "truchman/api.ErrDup", "truchman/api.ErrKind", "truchman/api.ErrState", "truchman/api.ErrDepth", "truchman/api.ErrFuel", "truchman/api.ErrStack", "truchman/api.ErrClosed", "truchman/api.ErrEmpty", "truchman/api.ErrNumber"], apart := false, laid := [("truchman/api.ErrRange", laid_truchman_api_ErrRange), ("truchman/api.ErrFull", laid_truchman_api_ErrFull), ("truchman/api.ErrShort", laid_truchman_api_ErrShort), ("truchman/api.ErrLong", laid_truchman_api_ErrLong), ("truchman/api.ErrForm", laid_truchman_api_ErrForm), ("truchman/api.ErrName", laid_truchman_api_ErrName), ("truchman/api.ErrNone", laid_truchman_api_ErrNone), ("truchman/api.ErrDup", laid_truchman_api_ErrDup), ("truchman/api.ErrKind", laid_truchman_api_ErrKind), ("truchman/api.ErrState", laid_truchman_api_ErrState), ("truchman/api.ErrDepth", laid_truchman_api_ErrDepth), ("truchman/api.ErrFuel", laid_truchman_api_ErrFuel), ("truchman/api.ErrStack", laid_truchman_api_ErrStack), ("truchman/api.ErrClosed", laid_truchman_api_ErrClosed), ("truchman/api.ErrEmpty", laid_truchman_api_ErrEmpty), ("truchman/api.ErrNumber", laid_truchman_api_ErrNumber)], narrowed := true }
def TtypeCyclesUptoSaid : Prop := ttypeCyclesUptoRow.holds Tryd.pinned (OpenSpec.upto ttypeCyclesSpec)

/-- 'truchmanlaw03.StreamParts', WHERE WHAT IT READS IS OF BULK AT MOST 1048576: true; the input reads as it did. -/
def streamPartsUptoRow : OpenClaim := { program := "ytnbdmlpnoiljdaadoor", sum := "a4646f46d0f9bd192843e5c7cf2054ce86c376eb4345bc63788db788d652d09c", func := "truchman/truchmanlaw03.StreamParts", spec := "streamParts", named := ["truchman/api.ErrRange", "truchman/api.ErrClosed", "truchman/api.ErrFull"], apart := false, laid := [("truchman/api.ErrRange", laid_truchman_api_ErrRange), ("truchman/api.ErrFull", laid_truchman_api_ErrFull), ("truchman/api.ErrClosed", laid_truchman_api_ErrClosed)], narrowed := true }
def StreamPartsUptoSaid : Prop := streamPartsUptoRow.holds Tryd.pinned (OpenSpec.upto streamPartsSpec)

/-- 'truchmanlaw03.StreamGrants', WHERE WHAT IT READS IS OF BULK AT MOST 1048576: true; the input reads as it did. -/
def streamGrantsUptoRow : OpenClaim := { program := "ytnbdmlpnoiljdaadoor", sum := "a4646f46d0f9bd192843e5c7cf2054ce86c376eb4345bc63788db788d652d09c", func := "truchman/truchmanlaw03.StreamGrants", spec := "streamGrants", named := ["truchman/api.ErrRange", "truchman/api.ErrClosed", "truchman/api.ErrFull"], apart := false, laid := [("truchman/api.ErrRange", laid_truchman_api_ErrRange), ("truchman/api.ErrFull", laid_truchman_api_ErrFull), ("truchman/api.ErrClosed", laid_truchman_api_ErrClosed)], narrowed := true }
def StreamGrantsUptoSaid : Prop := streamGrantsUptoRow.holds Tryd.pinned (OpenSpec.upto streamGrantsSpec)

/-- 'truchmanlaw03.StreamActs', WHERE WHAT IT READS IS OF BULK AT MOST 1048576: true; the input reads as it did. -/
def streamActsUptoRow : OpenClaim := { program := "ytnbdmlpnoiljdaadoor", sum := "a4646f46d0f9bd192843e5c7cf2054ce86c376eb4345bc63788db788d652d09c", func := "truchman/truchmanlaw03.StreamActs", spec := "streamActs", inPlace := ["internal/reflectlite.TypeOf"], unfollowed := true, recurses := true, named := ["truchman/api.ErrRange", "truchman/api.ErrClosed", "truchman/api.ErrFull", "truchman/api.ErrShort", "truchman/api.ErrLong", "truchman/api.ErrForm", "truchman/api.ErrName", "truchman/api.ErrNone", "truchman/api.ErrDup", "truchman/api.ErrKind", "truchman/api.ErrState", "truchman/api.ErrDepth", "truchman/api.ErrFuel", "truchman/api.ErrStack", "truchman/api.ErrEmpty", "truchman/api.ErrNumber"], apart := false, laid := [("truchman/api.ErrRange", laid_truchman_api_ErrRange), ("truchman/api.ErrFull", laid_truchman_api_ErrFull), ("truchman/api.ErrShort", laid_truchman_api_ErrShort), ("truchman/api.ErrLong", laid_truchman_api_ErrLong), ("truchman/api.ErrForm", laid_truchman_api_ErrForm), ("truchman/api.ErrName", laid_truchman_api_ErrName), ("truchman/api.ErrNone", laid_truchman_api_ErrNone), ("truchman/api.ErrDup", laid_truchman_api_ErrDup), ("truchman/api.ErrKind", laid_truchman_api_ErrKind), ("truchman/api.ErrState", laid_truchman_api_ErrState), ("truchman/api.ErrDepth", laid_truchman_api_ErrDepth), ("truchman/api.ErrFuel", laid_truchman_api_ErrFuel), ("truchman/api.ErrStack", laid_truchman_api_ErrStack), ("truchman/api.ErrClosed", laid_truchman_api_ErrClosed), ("truchman/api.ErrEmpty", laid_truchman_api_ErrEmpty), ("truchman/api.ErrNumber", laid_truchman_api_ErrNumber)], narrowed := true }
def StreamActsUptoSaid : Prop := streamActsUptoRow.holds Tryd.pinned (OpenSpec.upto streamActsSpec)

/-- 'truchmanlaw02.TimersNext', WHERE WHAT IT READS IS OF BULK AT MOST 1048576: true; the input reads as it did. -/
def timersNextUptoRow : OpenClaim := { program := "ytnbdmlpnoiljdaadoor", sum := "a4646f46d0f9bd192843e5c7cf2054ce86c376eb4345bc63788db788d652d09c", func := "truchman/truchmanlaw02.TimersNext", spec := "timersNext", inPlace := ["slices.overlaps[truchman/timers.timer]"], unfollowed := true, recurses := true, named := ["truchman/api.ErrRange", "truchman/api.ErrFull"], apart := false, laid := [("truchman/api.ErrRange", laid_truchman_api_ErrRange), ("truchman/api.ErrFull", laid_truchman_api_ErrFull)], narrowed := true }
def TimersNextUptoSaid : Prop := timersNextUptoRow.holds Tryd.pinned (OpenSpec.upto timersNextSpec)

/-- 'truchmanlaw02.TimersActs', WHERE WHAT IT READS IS OF BULK AT MOST 1048576: true; the input reads as it did. -/
def timersActsUptoRow : OpenClaim := { program := "ytnbdmlpnoiljdaadoor", sum := "a4646f46d0f9bd192843e5c7cf2054ce86c376eb4345bc63788db788d652d09c", func := "truchman/truchmanlaw02.TimersActs", spec := "timersActs", inPlace := ["slices.overlaps[truchman/timers.timer]", "internal/reflectlite.TypeOf"], unfollowed := true, recurses := true, named := ["truchman/api.ErrRange", "truchman/api.ErrFull", "truchman/api.ErrShort", "truchman/api.ErrLong", "truchman/api.ErrForm", "truchman/api.ErrName", "truchman/api.ErrNone", "truchman/api.ErrDup", "truchman/api.ErrKind", "truchman/api.ErrState", "truchman/api.ErrDepth", "truchman/api.ErrFuel", "truchman/api.ErrStack", "truchman/api.ErrClosed", "truchman/api.ErrEmpty", "truchman/api.ErrNumber"], apart := false, laid := [("truchman/api.ErrRange", laid_truchman_api_ErrRange), ("truchman/api.ErrFull", laid_truchman_api_ErrFull), ("truchman/api.ErrShort", laid_truchman_api_ErrShort), ("truchman/api.ErrLong", laid_truchman_api_ErrLong), ("truchman/api.ErrForm", laid_truchman_api_ErrForm), ("truchman/api.ErrName", laid_truchman_api_ErrName), ("truchman/api.ErrNone", laid_truchman_api_ErrNone), ("truchman/api.ErrDup", laid_truchman_api_ErrDup), ("truchman/api.ErrKind", laid_truchman_api_ErrKind), ("truchman/api.ErrState", laid_truchman_api_ErrState), ("truchman/api.ErrDepth", laid_truchman_api_ErrDepth), ("truchman/api.ErrFuel", laid_truchman_api_ErrFuel), ("truchman/api.ErrStack", laid_truchman_api_ErrStack), ("truchman/api.ErrClosed", laid_truchman_api_ErrClosed), ("truchman/api.ErrEmpty", laid_truchman_api_ErrEmpty), ("truchman/api.ErrNumber", laid_truchman_api_ErrNumber)], narrowed := true }
def TimersActsUptoSaid : Prop := timersActsUptoRow.holds Tryd.pinned (OpenSpec.upto timersActsSpec)

end Rows
end Go.Proofs.YtnbdmlpnoiljdaaDoor
