/-
  No cell of these rows narrows 'for every input' (looked for: loops, veiled, ifaces, maps, wideKeys, modest, calm, conditions, laid).
  DERIVED. THE GIVEN ROWS OF THIS SEAT. 6 by the template 'for every input the law returns true; each argument reads behind the call as it read before'; 0 by the template 'total and deterministic' (their statements: YtbipkbpcjkgohaaTotals.lean).
  GIVEN WITH THE SEED: the statements are not yours to turn. If you find one false, say at which input.
  Laid BY PROGRAM, IN A SANDBOX (cutbox-rows.mjs): the forced cells as the released guide's own fill.sh prints them over the translation 4693c793bb8dffa3… (all of the seat's roots in one cut). By AI agents, Wed Nov 11 2026. No macro, syntax, notation, axiom, sorry.
-/
import Derived.Test.YtbipkbpcjkgohaaChecked
import GoSem.Claim
import GoSem.ClaimJoined
import GoSem.ClaimMapViews
import Derived.JoinedTies
import Derived.KernelRfl
namespace Go.Proofs.Ytbipkbpcjkgohaa
/- THE CELL 'sum', in the pinned program and in every row, IS THE sha256 OF THE DUMP (.gsa) THAT YtbipkbpcjkgohaaProg.lean LOADS. Nothing in Lean hashes anything: it is a label: what it is worth is what the hold of that sum in a sandbox is worth. -/
noncomputable def Try.pinned : Pinned := { name := "ytbipkbpcjkgohaa", sum := "4693c793bb8dffa3e7688a452abfba7632f8dce277b29e340456d51bed4d70a9", checked := Try.checked }
namespace Rows
def none {H : Type} : Left H := { results := [], args := [] }

/-- 'truchmanlaw05.IacTokens': WHATEVER THE INPUT: true; the input reads as it did. -/
def iacTokensSpec : ChangeSpec := { name := "iacTokens", fn := fun _ => fun
  | [d] => { results := [.lit (.bool true)], args := [d] }
  | _ => none }
def iacTokensRow : OpenClaim := { program := "ytbipkbpcjkgohaa", sum := "4693c793bb8dffa3e7688a452abfba7632f8dce277b29e340456d51bed4d70a9", func := "truchman/truchmanlaw05.IacTokens", spec := "iacTokens", apart := false }
def IacTokensSaid : Prop := iacTokensRow.holds Try.pinned (OpenSpec.ofChange iacTokensSpec)

/-- ITS FALSE NEIGHBOUR: 'it returns false'. Refute it at one input. -/
def iacTokensWrong : ChangeSpec := { name := "iacTokens", fn := fun _ => fun
  | [d] => { results := [.lit (.bool false)], args := [d] }
  | _ => none }
def IacTokensWrongFalsely : Prop := iacTokensRow.holds Try.pinned (OpenSpec.ofChange iacTokensWrong)

/-- 'truchmanlaw05.IacSteps': WHATEVER THE INPUT: true; the input reads as it did. -/
def iacStepsSpec : ChangeSpec := { name := "iacSteps", fn := fun _ => fun
  | [d1, d2, d3] => { results := [.lit (.bool true)], args := [d1, d2, d3] }
  | _ => none }
def iacStepsRow : OpenClaim := { program := "ytbipkbpcjkgohaa", sum := "4693c793bb8dffa3e7688a452abfba7632f8dce277b29e340456d51bed4d70a9", func := "truchman/truchmanlaw05.IacSteps", spec := "iacSteps", apart := false }
def IacStepsSaid : Prop := iacStepsRow.holds Try.pinned (OpenSpec.ofChange iacStepsSpec)

/-- ITS FALSE NEIGHBOUR: 'it returns false'. Refute it at one input. -/
def iacStepsWrong : ChangeSpec := { name := "iacSteps", fn := fun _ => fun
  | [d1, d2, d3] => { results := [.lit (.bool false)], args := [d1, d2, d3] }
  | _ => none }
def IacStepsWrongFalsely : Prop := iacStepsRow.holds Try.pinned (OpenSpec.ofChange iacStepsWrong)

/-- 'truchmanlaw05.IacParts': WHATEVER THE INPUT: true; the input reads as it did. -/
def iacPartsSpec : ChangeSpec := { name := "iacParts", fn := fun _ => fun
  | [d] => { results := [.lit (.bool true)], args := [d] }
  | _ => none }
def iacPartsRow : OpenClaim := { program := "ytbipkbpcjkgohaa", sum := "4693c793bb8dffa3e7688a452abfba7632f8dce277b29e340456d51bed4d70a9", func := "truchman/truchmanlaw05.IacParts", spec := "iacParts", apart := false }
def IacPartsSaid : Prop := iacPartsRow.holds Try.pinned (OpenSpec.ofChange iacPartsSpec)

/-- ITS FALSE NEIGHBOUR: 'it returns false'. Refute it at one input. -/
def iacPartsWrong : ChangeSpec := { name := "iacParts", fn := fun _ => fun
  | [d] => { results := [.lit (.bool false)], args := [d] }
  | _ => none }
def IacPartsWrongFalsely : Prop := iacPartsRow.holds Try.pinned (OpenSpec.ofChange iacPartsWrong)

/-- 'truchmanlaw05.IacJoins': WHATEVER THE INPUT: true; the input reads as it did. -/
def iacJoinsSpec : ChangeSpec := { name := "iacJoins", fn := fun _ => fun
  | [d1, d2] => { results := [.lit (.bool true)], args := [d1, d2] }
  | _ => none }
def iacJoinsRow : OpenClaim := { program := "ytbipkbpcjkgohaa", sum := "4693c793bb8dffa3e7688a452abfba7632f8dce277b29e340456d51bed4d70a9", func := "truchman/truchmanlaw05.IacJoins", spec := "iacJoins", apart := false }
def IacJoinsSaid : Prop := iacJoinsRow.holds Try.pinned (OpenSpec.ofChange iacJoinsSpec)

/-- ITS FALSE NEIGHBOUR: 'it returns false'. Refute it at one input. -/
def iacJoinsWrong : ChangeSpec := { name := "iacJoins", fn := fun _ => fun
  | [d1, d2] => { results := [.lit (.bool false)], args := [d1, d2] }
  | _ => none }
def IacJoinsWrongFalsely : Prop := iacJoinsRow.holds Try.pinned (OpenSpec.ofChange iacJoinsWrong)

/-- 'truchmanlaw39.CutParts': WHATEVER THE INPUT: true; the input reads as it did. -/
def cutPartsSpec : ChangeSpec := { name := "cutParts", fn := fun _ => fun
  | [d1, d2] => { results := [.lit (.bool true)], args := [d1, d2] }
  | _ => none }
def cutPartsRow : OpenClaim := { program := "ytbipkbpcjkgohaa", sum := "4693c793bb8dffa3e7688a452abfba7632f8dce277b29e340456d51bed4d70a9", func := "truchman/truchmanlaw39.CutParts", spec := "cutParts", unfollowed := true, recurses := true, apart := false }
def CutPartsSaid : Prop := cutPartsRow.holds Try.pinned (OpenSpec.ofChange cutPartsSpec)

/-- ITS FALSE NEIGHBOUR: 'it returns false'. Refute it at one input. -/
def cutPartsWrong : ChangeSpec := { name := "cutParts", fn := fun _ => fun
  | [d1, d2] => { results := [.lit (.bool false)], args := [d1, d2] }
  | _ => none }
def CutPartsWrongFalsely : Prop := cutPartsRow.holds Try.pinned (OpenSpec.ofChange cutPartsWrong)

/-- 'truchmanlaw39.CutSame': WHATEVER THE INPUT: true; the input reads as it did. -/
def cutSameSpec : ChangeSpec := { name := "cutSame", fn := fun _ => fun
  | [d1, d2, d3] => { results := [.lit (.bool true)], args := [d1, d2, d3] }
  | _ => none }
def cutSameRow : OpenClaim := { program := "ytbipkbpcjkgohaa", sum := "4693c793bb8dffa3e7688a452abfba7632f8dce277b29e340456d51bed4d70a9", func := "truchman/truchmanlaw39.CutSame", spec := "cutSame", unfollowed := true, recurses := true, apart := false }
def CutSameSaid : Prop := cutSameRow.holds Try.pinned (OpenSpec.ofChange cutSameSpec)

/-- ITS FALSE NEIGHBOUR: 'it returns false'. Refute it at one input. -/
def cutSameWrong : ChangeSpec := { name := "cutSame", fn := fun _ => fun
  | [d1, d2, d3] => { results := [.lit (.bool false)], args := [d1, d2, d3] }
  | _ => none }
def CutSameWrongFalsely : Prop := cutSameRow.holds Try.pinned (OpenSpec.ofChange cutSameWrong)

/- THE SECOND FORM. 'bulk': how many values and letters a reading holds, each counted each time it is reached (what is shared counts as often as it is met; a slice's spare places count too). A statement '..UptoSaid' is the law's where the arguments, and the package variables that the reading takes, are together of bulk at most 1048576: NARROWER than '..Said'. Prove '..Said' where nothing that the law and all that it calls make is longer than what came in: it says more and counts as full. Else prove '..UptoSaid'. A law counts once. -/
mutual
def uptoBulk {H : Type} : DataW H → Nat
  | .lit (.string bytes) => bytes.length + 1
  | .lit _ => 1
  | .nil => 1
  | .ptr d => uptoBulk d + 1
  | .slice elems spare => uptoBulkAll elems + uptoBulkAll spare + 1
  | .agg parts => uptoBulkAll parts + 1
  | .iface _ d => uptoBulk d + 1
  | .map entries => uptoBulkEntries entries + 1
  | .held _ => 1
def uptoBulkAll {H : Type} : List (DataW H) → Nat
  | [] => 0
  | d :: r => uptoBulk d + uptoBulkAll r
def uptoBulkEntries {H : Type} : List (Lit × DataW H) → Nat
  | [] => 0
  | x :: r => uptoBulkEntry x + uptoBulkEntries r
def uptoBulkEntry {H : Type} : Lit × DataW H → Nat
  | (.string bytes, d) => bytes.length + uptoBulk d + 1
  | (_, d) => uptoBulk d + 1
 end
def uptoSmall : (H : Type) → List (DataW H) → Bool := fun _ ds => decide (uptoBulkAll ds ≤ 1048576)
def OpenSpec.upto (s : _root_.Go.ChangeSpec) : _root_.Go.OpenSpec := { _root_.Go.OpenSpec.ofChange s with cond := some uptoSmall }

/-- 'truchmanlaw05.IacTokens', WHERE WHAT IT READS IS OF BULK AT MOST 1048576: true; the input reads as it did. -/
def iacTokensUptoRow : OpenClaim := { program := "ytbipkbpcjkgohaa", sum := "4693c793bb8dffa3e7688a452abfba7632f8dce277b29e340456d51bed4d70a9", func := "truchman/truchmanlaw05.IacTokens", spec := "iacTokens", apart := false, narrowed := true }
def IacTokensUptoSaid : Prop := iacTokensUptoRow.holds Try.pinned (OpenSpec.upto iacTokensSpec)

/-- 'truchmanlaw05.IacSteps', WHERE WHAT IT READS IS OF BULK AT MOST 1048576: true; the input reads as it did. -/
def iacStepsUptoRow : OpenClaim := { program := "ytbipkbpcjkgohaa", sum := "4693c793bb8dffa3e7688a452abfba7632f8dce277b29e340456d51bed4d70a9", func := "truchman/truchmanlaw05.IacSteps", spec := "iacSteps", apart := false, narrowed := true }
def IacStepsUptoSaid : Prop := iacStepsUptoRow.holds Try.pinned (OpenSpec.upto iacStepsSpec)

/-- 'truchmanlaw05.IacParts', WHERE WHAT IT READS IS OF BULK AT MOST 1048576: true; the input reads as it did. -/
def iacPartsUptoRow : OpenClaim := { program := "ytbipkbpcjkgohaa", sum := "4693c793bb8dffa3e7688a452abfba7632f8dce277b29e340456d51bed4d70a9", func := "truchman/truchmanlaw05.IacParts", spec := "iacParts", apart := false, narrowed := true }
def IacPartsUptoSaid : Prop := iacPartsUptoRow.holds Try.pinned (OpenSpec.upto iacPartsSpec)

/-- 'truchmanlaw05.IacJoins', WHERE WHAT IT READS IS OF BULK AT MOST 1048576: true; the input reads as it did. -/
def iacJoinsUptoRow : OpenClaim := { program := "ytbipkbpcjkgohaa", sum := "4693c793bb8dffa3e7688a452abfba7632f8dce277b29e340456d51bed4d70a9", func := "truchman/truchmanlaw05.IacJoins", spec := "iacJoins", apart := false, narrowed := true }
def IacJoinsUptoSaid : Prop := iacJoinsUptoRow.holds Try.pinned (OpenSpec.upto iacJoinsSpec)

/-- 'truchmanlaw39.CutParts', WHERE WHAT IT READS IS OF BULK AT MOST 1048576: true; the input reads as it did. -/
def cutPartsUptoRow : OpenClaim := { program := "ytbipkbpcjkgohaa", sum := "4693c793bb8dffa3e7688a452abfba7632f8dce277b29e340456d51bed4d70a9", func := "truchman/truchmanlaw39.CutParts", spec := "cutParts", unfollowed := true, recurses := true, apart := false, narrowed := true }
def CutPartsUptoSaid : Prop := cutPartsUptoRow.holds Try.pinned (OpenSpec.upto cutPartsSpec)

/-- 'truchmanlaw39.CutSame', WHERE WHAT IT READS IS OF BULK AT MOST 1048576: true; the input reads as it did. -/
def cutSameUptoRow : OpenClaim := { program := "ytbipkbpcjkgohaa", sum := "4693c793bb8dffa3e7688a452abfba7632f8dce277b29e340456d51bed4d70a9", func := "truchman/truchmanlaw39.CutSame", spec := "cutSame", unfollowed := true, recurses := true, apart := false, narrowed := true }
def CutSameUptoSaid : Prop := cutSameUptoRow.holds Try.pinned (OpenSpec.upto cutSameSpec)

end Rows
end Go.Proofs.Ytbipkbpcjkgohaa
