/-
  No cell of these rows narrows 'for every input' (looked for: loops, veiled, ifaces, maps, wideKeys, modest, calm, conditions, laid).
  DERIVED. THE GIVEN ROWS OF THIS SEAT. 3 by the template 'for every input the law returns true; each argument reads behind the call as it read before'; 0 by the template 'total and deterministic' (their statements: YtcdmjkhkgfegjaaTotals.lean).
  GIVEN WITH THE SEED: the statements are not yours to turn. If you find one false, say at which input.
  Laid BY PROGRAM, IN A SANDBOX (cutbox-rows.mjs): the forced cells as the released guide's own fill.sh prints them over the translation 97b0f6f446b7d18d… (all of the seat's roots in one cut). By AI agents, Wed Nov 11 2026. No macro, syntax, notation, axiom, sorry.
-/
import Derived.Test.YtcdmjkhkgfegjaaChecked
import GoSem.Claim
import GoSem.ClaimJoined
import GoSem.ClaimMapViews
import Derived.JoinedTies
import Derived.KernelRfl
namespace Go.Proofs.Ytcdmjkhkgfegjaa
/- THE CELL 'sum', in the pinned program and in every row, IS THE sha256 OF THE DUMP (.gsa) THAT YtcdmjkhkgfegjaaProg.lean LOADS. Nothing in Lean hashes anything: it is a label: what it is worth is what the hold of that sum in a sandbox is worth. -/
noncomputable def Try.pinned : Pinned := { name := "ytcdmjkhkgfegjaa", sum := "97b0f6f446b7d18da6fbf76b161dd88550da7661f69d4f434e2153a131746395", checked := Try.checked }
namespace Rows
def none {H : Type} : Left H := { results := [], args := [] }

/-- 'truchmanlaw08.NvtCodes': WHATEVER THE INPUT: true; the input reads as it did. -/
def nvtCodesSpec : ChangeSpec := { name := "nvtCodes", fn := fun _ => fun
  | [d1, d2] => { results := [.lit (.bool true)], args := [d1, d2] }
  | _ => none }
def nvtCodesRow : OpenClaim := { program := "ytcdmjkhkgfegjaa", sum := "97b0f6f446b7d18da6fbf76b161dd88550da7661f69d4f434e2153a131746395", func := "truchman/truchmanlaw08.NvtCodes", spec := "nvtCodes", recurses := true, apart := false }
def NvtCodesSaid : Prop := nvtCodesRow.holds Try.pinned (OpenSpec.ofChange nvtCodesSpec)

/-- ITS FALSE NEIGHBOUR: 'it returns false'. Refute it at one input. -/
def nvtCodesWrong : ChangeSpec := { name := "nvtCodes", fn := fun _ => fun
  | [d1, d2] => { results := [.lit (.bool false)], args := [d1, d2] }
  | _ => none }
def NvtCodesWrongFalsely : Prop := nvtCodesRow.holds Try.pinned (OpenSpec.ofChange nvtCodesWrong)

/-- 'truchmanlaw08.NvtBack': WHATEVER THE INPUT: true; the input reads as it did. -/
def nvtBackSpec : ChangeSpec := { name := "nvtBack", fn := fun _ => fun
  | [d1, d2] => { results := [.lit (.bool true)], args := [d1, d2] }
  | _ => none }
def nvtBackRow : OpenClaim := { program := "ytcdmjkhkgfegjaa", sum := "97b0f6f446b7d18da6fbf76b161dd88550da7661f69d4f434e2153a131746395", func := "truchman/truchmanlaw08.NvtBack", spec := "nvtBack", apart := false }
def NvtBackSaid : Prop := nvtBackRow.holds Try.pinned (OpenSpec.ofChange nvtBackSpec)

/-- ITS FALSE NEIGHBOUR: 'it returns false'. Refute it at one input. -/
def nvtBackWrong : ChangeSpec := { name := "nvtBack", fn := fun _ => fun
  | [d1, d2] => { results := [.lit (.bool false)], args := [d1, d2] }
  | _ => none }
def NvtBackWrongFalsely : Prop := nvtBackRow.holds Try.pinned (OpenSpec.ofChange nvtBackWrong)

/-- 'truchmanlaw08.NvtNext': WHATEVER THE INPUT: true; the input reads as it did. -/
def nvtNextSpec : ChangeSpec := { name := "nvtNext", fn := fun _ => fun
  | [d1, d2] => { results := [.lit (.bool true)], args := [d1, d2] }
  | _ => none }
def nvtNextRow : OpenClaim := { program := "ytcdmjkhkgfegjaa", sum := "97b0f6f446b7d18da6fbf76b161dd88550da7661f69d4f434e2153a131746395", func := "truchman/truchmanlaw08.NvtNext", spec := "nvtNext", apart := false }
def NvtNextSaid : Prop := nvtNextRow.holds Try.pinned (OpenSpec.ofChange nvtNextSpec)

/-- ITS FALSE NEIGHBOUR: 'it returns false'. Refute it at one input. -/
def nvtNextWrong : ChangeSpec := { name := "nvtNext", fn := fun _ => fun
  | [d1, d2] => { results := [.lit (.bool false)], args := [d1, d2] }
  | _ => none }
def NvtNextWrongFalsely : Prop := nvtNextRow.holds Try.pinned (OpenSpec.ofChange nvtNextWrong)

/- THE SECOND FORM. 'bulk': how many values and letters a reading holds, each counted each time it is reached (what is shared counts as often as it is met; a slice's spare places count too). A statement '..UptoSaid' is the law's where the arguments, and the package variables that the reading takes, are together of bulk at most 1048576: NARROWER than '..Said'. Prove '..Said' where nothing that the law and all that it calls make is longer than what came in: it says more and counts as full. Else prove '..UptoSaid'. A law counts once. -/
mutual
def uptoBulk {H : Type} : DataW H → Nat
  | .lit (.string bytes) => bytes.length + 1
  | .lit _ => 1
  | .nil => 1
  | .ptr d => uptoBulk d + 1
  | .slice elems spare => uptoBulkAll elems + uptoBulkAll spare + 1
  | .agg parts => uptoBulkAll parts + 1
  | .iface _ d => uptoBulk d + 1
  | .map entries => uptoBulkEntries entries + 1
  | .held _ => 1
def uptoBulkAll {H : Type} : List (DataW H) → Nat
  | [] => 0
  | d :: r => uptoBulk d + uptoBulkAll r
def uptoBulkEntries {H : Type} : List (Lit × DataW H) → Nat
  | [] => 0
  | x :: r => uptoBulkEntry x + uptoBulkEntries r
def uptoBulkEntry {H : Type} : Lit × DataW H → Nat
  | (.string bytes, d) => bytes.length + uptoBulk d + 1
  | (_, d) => uptoBulk d + 1
 end
def uptoSmall : (H : Type) → List (DataW H) → Bool := fun _ ds => decide (uptoBulkAll ds ≤ 1048576)
def OpenSpec.upto (s : _root_.Go.ChangeSpec) : _root_.Go.OpenSpec := { _root_.Go.OpenSpec.ofChange s with cond := some uptoSmall }

/-- 'truchmanlaw08.NvtCodes', WHERE WHAT IT READS IS OF BULK AT MOST 1048576: true; the input reads as it did. -/
def nvtCodesUptoRow : OpenClaim := { program := "ytcdmjkhkgfegjaa", sum := "97b0f6f446b7d18da6fbf76b161dd88550da7661f69d4f434e2153a131746395", func := "truchman/truchmanlaw08.NvtCodes", spec := "nvtCodes", recurses := true, apart := false, narrowed := true }
def NvtCodesUptoSaid : Prop := nvtCodesUptoRow.holds Try.pinned (OpenSpec.upto nvtCodesSpec)

/-- 'truchmanlaw08.NvtBack', WHERE WHAT IT READS IS OF BULK AT MOST 1048576: true; the input reads as it did. -/
def nvtBackUptoRow : OpenClaim := { program := "ytcdmjkhkgfegjaa", sum := "97b0f6f446b7d18da6fbf76b161dd88550da7661f69d4f434e2153a131746395", func := "truchman/truchmanlaw08.NvtBack", spec := "nvtBack", apart := false, narrowed := true }
def NvtBackUptoSaid : Prop := nvtBackUptoRow.holds Try.pinned (OpenSpec.upto nvtBackSpec)

/-- 'truchmanlaw08.NvtNext', WHERE WHAT IT READS IS OF BULK AT MOST 1048576: true; the input reads as it did. -/
def nvtNextUptoRow : OpenClaim := { program := "ytcdmjkhkgfegjaa", sum := "97b0f6f446b7d18da6fbf76b161dd88550da7661f69d4f434e2153a131746395", func := "truchman/truchmanlaw08.NvtNext", spec := "nvtNext", apart := false, narrowed := true }
def NvtNextUptoSaid : Prop := nvtNextUptoRow.holds Try.pinned (OpenSpec.upto nvtNextSpec)

end Rows
end Go.Proofs.Ytcdmjkhkgfegjaa
