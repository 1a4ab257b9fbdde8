/-
  DERIVED. GIVEN WITH THE SEED: THE PROGRAM's TIES (one call each: nine closed facts by the kernel) AND EACH ROW's TIE, after the 31st guide's Derived/Test/Toyas{Tie, Card}.lean. No idea stands in it: it is a product of the set-up. Laid BY PROGRAM, IN A SANDBOX (cutbox-door.mjs). By AI agents, Wed Nov 11 2026. No macro, syntax, notation, axiom, sorry.
-/
import Derived.Test.YtigmdlchbjanoaaGreatDoorRows
import Derived.LaidByTextLater
import Derived.SevenTiedAt
import Derived.LaidSub
import Derived.LaidOnce
namespace Go.Proofs.YtigmdlchbjanoaaGreatDoor
open Go
set_option maxRecDepth 100000
theorem seatTie1 : Tryz.prog.laidByTextLater [("math/bits.deBruijn64tab", Rows.laid_math_bits_deBruijn64tab), ("unicode/utf8.acceptRanges", Rows.laid_unicode_utf8_acceptRanges), ("truchman/api.ErrRange", Rows.laid_truchman_api_ErrRange), ("truchman/api.ErrFull", Rows.laid_truchman_api_ErrFull), ("truchman/api.ErrShort", Rows.laid_truchman_api_ErrShort), ("truchman/api.ErrLong", Rows.laid_truchman_api_ErrLong), ("truchman/api.ErrForm", Rows.laid_truchman_api_ErrForm), ("truchman/api.ErrName", Rows.laid_truchman_api_ErrName), ("truchman/api.ErrNone", Rows.laid_truchman_api_ErrNone), ("truchman/api.ErrDup", Rows.laid_truchman_api_ErrDup), ("truchman/api.ErrKind", Rows.laid_truchman_api_ErrKind), ("truchman/api.ErrState", Rows.laid_truchman_api_ErrState), ("truchman/api.ErrDepth", Rows.laid_truchman_api_ErrDepth), ("truchman/api.ErrFuel", Rows.laid_truchman_api_ErrFuel), ("truchman/api.ErrStack", Rows.laid_truchman_api_ErrStack), ("truchman/api.ErrClosed", Rows.laid_truchman_api_ErrClosed), ("truchman/api.ErrEmpty", Rows.laid_truchman_api_ErrEmpty), ("truchman/api.ErrNumber", Rows.laid_truchman_api_ErrNumber), ("truchman/glob.words", Rows.laid_truchman_glob_words)] [.data, .data, .sentinel, .sentinel, .sentinel, .sentinel, .sentinel, .sentinel, .sentinel, .sentinel, .sentinel, .sentinel, .sentinel, .sentinel, .sentinel, .sentinel, .sentinel, .sentinel, .widerDeep] true :=
  Program.laidByTextLater_by_one 333 8 65 (by kernel_rfl) (by kernel_rfl) (by kernel_rfl) (by kernel_rfl) (by kernel_rfl) (by kernel_rfl) (fun _ _ => by kernel_rfl)
theorem pin_laid_unicode_utf8_first : Tryz.pinned.checked.prog.pinnedFits "unicode/utf8.first" = true := by kernel_rfl
theorem noOwnUnsafe : Tryz.pinned.checked.prog.headLifts.contains "ownunsafe" = false := by kernel_rfl
theorem fits1 : Tryz.pinned.checked.prog.listedFits [("math/bits.deBruijn64tab", Rows.laid_math_bits_deBruijn64tab), ("unicode/utf8.acceptRanges", Rows.laid_unicode_utf8_acceptRanges), ("truchman/api.ErrRange", Rows.laid_truchman_api_ErrRange), ("truchman/api.ErrFull", Rows.laid_truchman_api_ErrFull), ("truchman/api.ErrShort", Rows.laid_truchman_api_ErrShort), ("truchman/api.ErrLong", Rows.laid_truchman_api_ErrLong), ("truchman/api.ErrForm", Rows.laid_truchman_api_ErrForm), ("truchman/api.ErrName", Rows.laid_truchman_api_ErrName), ("truchman/api.ErrNone", Rows.laid_truchman_api_ErrNone), ("truchman/api.ErrDup", Rows.laid_truchman_api_ErrDup), ("truchman/api.ErrKind", Rows.laid_truchman_api_ErrKind), ("truchman/api.ErrState", Rows.laid_truchman_api_ErrState), ("truchman/api.ErrDepth", Rows.laid_truchman_api_ErrDepth), ("truchman/api.ErrFuel", Rows.laid_truchman_api_ErrFuel), ("truchman/api.ErrStack", Rows.laid_truchman_api_ErrStack), ("truchman/api.ErrClosed", Rows.laid_truchman_api_ErrClosed), ("truchman/api.ErrEmpty", Rows.laid_truchman_api_ErrEmpty), ("truchman/api.ErrNumber", Rows.laid_truchman_api_ErrNumber), ("truchman/glob.words", Rows.laid_truchman_glob_words), ("unicode/utf8.first", Rows.laid_unicode_utf8_first)] = true := by
  unfold Program.listedFits
  rw [noOwnUnsafe]
  kernel_rfl
theorem tie : Tryz.prog.laidByTextLater [("math/bits.deBruijn64tab", Rows.laid_math_bits_deBruijn64tab), ("unicode/utf8.acceptRanges", Rows.laid_unicode_utf8_acceptRanges), ("truchman/api.ErrRange", Rows.laid_truchman_api_ErrRange), ("truchman/api.ErrFull", Rows.laid_truchman_api_ErrFull), ("truchman/api.ErrShort", Rows.laid_truchman_api_ErrShort), ("truchman/api.ErrLong", Rows.laid_truchman_api_ErrLong), ("truchman/api.ErrForm", Rows.laid_truchman_api_ErrForm), ("truchman/api.ErrName", Rows.laid_truchman_api_ErrName), ("truchman/api.ErrNone", Rows.laid_truchman_api_ErrNone), ("truchman/api.ErrDup", Rows.laid_truchman_api_ErrDup), ("truchman/api.ErrKind", Rows.laid_truchman_api_ErrKind), ("truchman/api.ErrState", Rows.laid_truchman_api_ErrState), ("truchman/api.ErrDepth", Rows.laid_truchman_api_ErrDepth), ("truchman/api.ErrFuel", Rows.laid_truchman_api_ErrFuel), ("truchman/api.ErrStack", Rows.laid_truchman_api_ErrStack), ("truchman/api.ErrClosed", Rows.laid_truchman_api_ErrClosed), ("truchman/api.ErrEmpty", Rows.laid_truchman_api_ErrEmpty), ("truchman/api.ErrNumber", Rows.laid_truchman_api_ErrNumber), ("truchman/glob.words", Rows.laid_truchman_glob_words)] [.data, .data, .sentinel, .sentinel, .sentinel, .sentinel, .sentinel, .sentinel, .sentinel, .sentinel, .sentinel, .sentinel, .sentinel, .sentinel, .sentinel, .sentinel, .sentinel, .sentinel, .widerDeep] true :=
  Program.laidByTextLater.sub seatTie1 ["math/bits.deBruijn64tab", "unicode/utf8.acceptRanges", "truchman/api.ErrRange", "truchman/api.ErrFull", "truchman/api.ErrShort", "truchman/api.ErrLong", "truchman/api.ErrForm", "truchman/api.ErrName", "truchman/api.ErrNone", "truchman/api.ErrDup", "truchman/api.ErrKind", "truchman/api.ErrState", "truchman/api.ErrDepth", "truchman/api.ErrFuel", "truchman/api.ErrStack", "truchman/api.ErrClosed", "truchman/api.ErrEmpty", "truchman/api.ErrNumber", "truchman/glob.words"] (by kernel_rfl) (by kernel_rfl)
theorem globTrees_row_tie : Rows.globTreesRow.laidByTextAt .later Tryz.pinned [.data, .data, .sentinel, .sentinel, .sentinel, .sentinel, .sentinel, .sentinel, .sentinel, .sentinel, .sentinel, .sentinel, .sentinel, .sentinel, .sentinel, .sentinel, .sentinel, .sentinel, .widerDeep, .pinned] true :=
  OpenClaim.laidByTextAt_pinned rfl rfl tie rfl rfl rfl rfl (fun y hy _e => by
    simp only [Rows.globTreesRow, List.zip_cons_cons, List.zip_nil_right, List.mem_cons, List.mem_nil_iff, or_false] at hy
    rcases hy with rfl | rfl | rfl | rfl | rfl | rfl | rfl | rfl | rfl | rfl | rfl | rfl | rfl | rfl | rfl | rfl | rfl | rfl | rfl | rfl
    · cases _e
    · cases _e
    · cases _e
    · cases _e
    · cases _e
    · cases _e
    · cases _e
    · cases _e
    · cases _e
    · cases _e
    · cases _e
    · cases _e
    · cases _e
    · cases _e
    · cases _e
    · cases _e
    · cases _e
    · cases _e
    · cases _e
    · exact ⟨pin_laid_unicode_utf8_first, by kernel_rfl⟩) fits1
theorem globTreesUpto_row_tie : Rows.globTreesUptoRow.laidByTextAt .later Tryz.pinned [.data, .data, .sentinel, .sentinel, .sentinel, .sentinel, .sentinel, .sentinel, .sentinel, .sentinel, .sentinel, .sentinel, .sentinel, .sentinel, .sentinel, .sentinel, .sentinel, .sentinel, .widerDeep, .pinned] true :=
  OpenClaim.laidByTextAt_pinned rfl rfl tie rfl rfl rfl rfl (fun y hy _e => by
    simp only [Rows.globTreesUptoRow, List.zip_cons_cons, List.zip_nil_right, List.mem_cons, List.mem_nil_iff, or_false] at hy
    rcases hy with rfl | rfl | rfl | rfl | rfl | rfl | rfl | rfl | rfl | rfl | rfl | rfl | rfl | rfl | rfl | rfl | rfl | rfl | rfl | rfl
    · cases _e
    · cases _e
    · cases _e
    · cases _e
    · cases _e
    · cases _e
    · cases _e
    · cases _e
    · cases _e
    · cases _e
    · cases _e
    · cases _e
    · cases _e
    · cases _e
    · cases _e
    · cases _e
    · cases _e
    · cases _e
    · cases _e
    · exact ⟨pin_laid_unicode_utf8_first, by kernel_rfl⟩) fits1
end Go.Proofs.YtigmdlchbjanoaaGreatDoor
