/-
  DERIVED. GIVEN WITH THE SEED: THE PROGRAM's TIES (one call each: nine closed facts by the kernel) AND EACH ROW's TIE, after the 31st guide's Derived/Test/Toyas{Tie, Card}.lean. No idea stands in it: it is a product of the set-up. Laid BY PROGRAM, IN A SANDBOX (cutbox-door.mjs). By AI agents, Wed Nov 11 2026. No macro, syntax, notation, axiom, sorry.
-/
import Derived.Test.YtnkhiohopcadmaaDoorRows
import Derived.LaidByTextLater
import Derived.SevenTiedAt
import Derived.LaidSub
import Derived.LaidOnce
namespace Go.Proofs.YtnkhiohopcadmaaDoor
open Go
set_option maxRecDepth 100000
theorem seatTie1 : Tryd.prog.laidByTextLater [("math/bits.deBruijn64tab", Rows.laid_math_bits_deBruijn64tab), ("truchman/api.ErrRange", Rows.laid_truchman_api_ErrRange), ("truchman/api.ErrFull", Rows.laid_truchman_api_ErrFull), ("truchman/api.ErrShort", Rows.laid_truchman_api_ErrShort), ("truchman/api.ErrLong", Rows.laid_truchman_api_ErrLong), ("truchman/api.ErrForm", Rows.laid_truchman_api_ErrForm), ("truchman/api.ErrName", Rows.laid_truchman_api_ErrName), ("truchman/api.ErrNone", Rows.laid_truchman_api_ErrNone), ("truchman/api.ErrDup", Rows.laid_truchman_api_ErrDup), ("truchman/api.ErrKind", Rows.laid_truchman_api_ErrKind), ("truchman/api.ErrState", Rows.laid_truchman_api_ErrState), ("truchman/api.ErrDepth", Rows.laid_truchman_api_ErrDepth), ("truchman/api.ErrFuel", Rows.laid_truchman_api_ErrFuel), ("truchman/api.ErrStack", Rows.laid_truchman_api_ErrStack), ("truchman/api.ErrClosed", Rows.laid_truchman_api_ErrClosed), ("truchman/api.ErrEmpty", Rows.laid_truchman_api_ErrEmpty), ("truchman/api.ErrNumber", Rows.laid_truchman_api_ErrNumber)] [.data, .sentinel, .sentinel, .sentinel, .sentinel, .sentinel, .sentinel, .sentinel, .sentinel, .sentinel, .sentinel, .sentinel, .sentinel, .sentinel, .sentinel, .sentinel, .sentinel] true :=
  Program.laidByTextLater_by_one 318 8 65 (by kernel_rfl) (by kernel_rfl) (by kernel_rfl) (by kernel_rfl) (by kernel_rfl) (by kernel_rfl) (fun _ _ => by kernel_rfl)
theorem noOwnUnsafe : Tryd.pinned.checked.prog.headLifts.contains "ownunsafe" = false := by kernel_rfl
theorem tie : Tryd.prog.laidByTextLater [("math/bits.deBruijn64tab", Rows.laid_math_bits_deBruijn64tab), ("truchman/api.ErrFull", Rows.laid_truchman_api_ErrFull), ("truchman/api.ErrShort", Rows.laid_truchman_api_ErrShort), ("truchman/api.ErrLong", Rows.laid_truchman_api_ErrLong), ("truchman/api.ErrForm", Rows.laid_truchman_api_ErrForm), ("truchman/api.ErrDepth", Rows.laid_truchman_api_ErrDepth), ("truchman/api.ErrEmpty", Rows.laid_truchman_api_ErrEmpty)] [.data, .sentinel, .sentinel, .sentinel, .sentinel, .sentinel, .sentinel] true :=
  Program.laidByTextLater.sub seatTie1 ["math/bits.deBruijn64tab", "truchman/api.ErrFull", "truchman/api.ErrShort", "truchman/api.ErrLong", "truchman/api.ErrForm", "truchman/api.ErrDepth", "truchman/api.ErrEmpty"] (by kernel_rfl) (by kernel_rfl)
theorem rexTells_row_tie : Rows.rexTellsRow.laidByTextAt .later Tryd.pinned [.data, .sentinel, .sentinel, .sentinel, .sentinel, .sentinel, .sentinel] true :=
  OpenClaim.laidByTextAt_later rfl rfl tie noOwnUnsafe
theorem meanSays_row_tie : Rows.meanSaysRow.laidByTextAt .later Tryd.pinned [.data, .sentinel, .sentinel, .sentinel, .sentinel, .sentinel, .sentinel] true :=
  OpenClaim.laidByTextAt_later rfl rfl tie noOwnUnsafe
theorem meanAlgebra_row_tie : Rows.meanAlgebraRow.laidByTextAt .later Tryd.pinned [.data, .sentinel, .sentinel, .sentinel, .sentinel, .sentinel, .sentinel] true :=
  OpenClaim.laidByTextAt_later rfl rfl tie noOwnUnsafe
theorem meanStar_row_tie : Rows.meanStarRow.laidByTextAt .later Tryd.pinned [.data, .sentinel, .sentinel, .sentinel, .sentinel, .sentinel, .sentinel] true :=
  OpenClaim.laidByTextAt_later rfl rfl tie noOwnUnsafe
theorem meanFirst_row_tie : Rows.meanFirstRow.laidByTextAt .later Tryd.pinned [.data, .sentinel, .sentinel, .sentinel, .sentinel, .sentinel, .sentinel] true :=
  OpenClaim.laidByTextAt_later rfl rfl tie noOwnUnsafe
theorem tie2 : Tryd.prog.laidByTextLater [("math/bits.deBruijn64tab", Rows.laid_math_bits_deBruijn64tab), ("truchman/api.ErrRange", Rows.laid_truchman_api_ErrRange), ("truchman/api.ErrFull", Rows.laid_truchman_api_ErrFull), ("truchman/api.ErrShort", Rows.laid_truchman_api_ErrShort), ("truchman/api.ErrLong", Rows.laid_truchman_api_ErrLong), ("truchman/api.ErrForm", Rows.laid_truchman_api_ErrForm), ("truchman/api.ErrName", Rows.laid_truchman_api_ErrName), ("truchman/api.ErrNone", Rows.laid_truchman_api_ErrNone), ("truchman/api.ErrDup", Rows.laid_truchman_api_ErrDup), ("truchman/api.ErrKind", Rows.laid_truchman_api_ErrKind), ("truchman/api.ErrState", Rows.laid_truchman_api_ErrState), ("truchman/api.ErrDepth", Rows.laid_truchman_api_ErrDepth), ("truchman/api.ErrFuel", Rows.laid_truchman_api_ErrFuel), ("truchman/api.ErrStack", Rows.laid_truchman_api_ErrStack), ("truchman/api.ErrClosed", Rows.laid_truchman_api_ErrClosed), ("truchman/api.ErrEmpty", Rows.laid_truchman_api_ErrEmpty), ("truchman/api.ErrNumber", Rows.laid_truchman_api_ErrNumber)] [.data, .sentinel, .sentinel, .sentinel, .sentinel, .sentinel, .sentinel, .sentinel, .sentinel, .sentinel, .sentinel, .sentinel, .sentinel, .sentinel, .sentinel, .sentinel, .sentinel] true :=
  Program.laidByTextLater.sub seatTie1 ["math/bits.deBruijn64tab", "truchman/api.ErrRange", "truchman/api.ErrFull", "truchman/api.ErrShort", "truchman/api.ErrLong", "truchman/api.ErrForm", "truchman/api.ErrName", "truchman/api.ErrNone", "truchman/api.ErrDup", "truchman/api.ErrKind", "truchman/api.ErrState", "truchman/api.ErrDepth", "truchman/api.ErrFuel", "truchman/api.ErrStack", "truchman/api.ErrClosed", "truchman/api.ErrEmpty", "truchman/api.ErrNumber"] (by kernel_rfl) (by kernel_rfl)
theorem rexParses_row_tie : Rows.rexParsesRow.laidByTextAt .later Tryd.pinned [.data, .sentinel, .sentinel, .sentinel, .sentinel, .sentinel, .sentinel, .sentinel, .sentinel, .sentinel, .sentinel, .sentinel, .sentinel, .sentinel, .sentinel, .sentinel, .sentinel] true :=
  OpenClaim.laidByTextAt_later rfl rfl tie2 noOwnUnsafe
theorem rexTellsUpto_row_tie : Rows.rexTellsUptoRow.laidByTextAt .later Tryd.pinned [.data, .sentinel, .sentinel, .sentinel, .sentinel, .sentinel, .sentinel] true :=
  OpenClaim.laidByTextAt_later rfl rfl tie noOwnUnsafe
theorem rexParsesUpto_row_tie : Rows.rexParsesUptoRow.laidByTextAt .later Tryd.pinned [.data, .sentinel, .sentinel, .sentinel, .sentinel, .sentinel, .sentinel, .sentinel, .sentinel, .sentinel, .sentinel, .sentinel, .sentinel, .sentinel, .sentinel, .sentinel, .sentinel] true :=
  OpenClaim.laidByTextAt_later rfl rfl tie2 noOwnUnsafe
theorem meanSaysUpto_row_tie : Rows.meanSaysUptoRow.laidByTextAt .later Tryd.pinned [.data, .sentinel, .sentinel, .sentinel, .sentinel, .sentinel, .sentinel] true :=
  OpenClaim.laidByTextAt_later rfl rfl tie noOwnUnsafe
theorem meanAlgebraUpto_row_tie : Rows.meanAlgebraUptoRow.laidByTextAt .later Tryd.pinned [.data, .sentinel, .sentinel, .sentinel, .sentinel, .sentinel, .sentinel] true :=
  OpenClaim.laidByTextAt_later rfl rfl tie noOwnUnsafe
theorem meanStarUpto_row_tie : Rows.meanStarUptoRow.laidByTextAt .later Tryd.pinned [.data, .sentinel, .sentinel, .sentinel, .sentinel, .sentinel, .sentinel] true :=
  OpenClaim.laidByTextAt_later rfl rfl tie noOwnUnsafe
theorem meanFirstUpto_row_tie : Rows.meanFirstUptoRow.laidByTextAt .later Tryd.pinned [.data, .sentinel, .sentinel, .sentinel, .sentinel, .sentinel, .sentinel] true :=
  OpenClaim.laidByTextAt_later rfl rfl tie noOwnUnsafe
end Go.Proofs.YtnkhiohopcadmaaDoor
