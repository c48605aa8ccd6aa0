/-
  DERIVED. GIVEN WITH THE SEED: THE PROGRAM's TIES (one call each: nine closed facts by the kernel) AND EACH ROW's TIE, after the 31st guide's Derived/Test/Toyas{Tie, Card}.lean. No idea stands in it: it is a product of the set-up. Laid BY PROGRAM, IN A SANDBOX (cutbox-door.mjs). By AI agents, Wed Nov 11 2026. No macro, syntax, notation, axiom, sorry.
-/
import Derived.Test.YtkfdnlfkomhmfaaGreatDoorRows
import Derived.LaidByTextLater
import Derived.SevenTiedAt
import Derived.LaidSub
import Derived.LaidOnce
namespace Go.Proofs.YtkfdnlfkomhmfaaGreatDoor
open Go
set_option maxRecDepth 100000
theorem seatTie1 : Tryz.prog.laidByTextLater [("unicode.White_Space", Rows.laid_unicode_White_Space), ("strings.asciiSpace", Rows.laid_strings_asciiSpace), ("trickle/ast.statements", Rows.laid_trickle_ast_statements)] [.listed, .data, .data] true :=
  Program.laidByTextLater_by_one 51 8 257 (by kernel_rfl) (by kernel_rfl) (by kernel_rfl) (by kernel_rfl) (by kernel_rfl) (by kernel_rfl) (fun _ _ => by kernel_rfl)
theorem noOwnUnsafe : Tryz.pinned.checked.prog.headLifts.contains "ownunsafe" = false := by kernel_rfl
theorem tie : Tryz.prog.laidByTextLater [("unicode.White_Space", Rows.laid_unicode_White_Space), ("strings.asciiSpace", Rows.laid_strings_asciiSpace), ("trickle/ast.statements", Rows.laid_trickle_ast_statements)] [.listed, .data, .data] true :=
  Program.laidByTextLater.sub seatTie1 ["unicode.White_Space", "strings.asciiSpace", "trickle/ast.statements"] (by kernel_rfl) (by kernel_rfl)
theorem checkDiagnostics_row_tie : Rows.checkDiagnosticsRow.laidByTextAt .later Tryz.pinned [.listed, .data, .data] true :=
  OpenClaim.laidByTextAt_later rfl rfl tie noOwnUnsafe
theorem checkLookup_row_tie : Rows.checkLookupRow.laidByTextAt .later Tryz.pinned [.listed, .data, .data] true :=
  OpenClaim.laidByTextAt_later rfl rfl tie noOwnUnsafe
theorem checkConstValue_row_tie : Rows.checkConstValueRow.laidByTextAt .later Tryz.pinned [.listed, .data, .data] true :=
  OpenClaim.laidByTextAt_later rfl rfl tie noOwnUnsafe
theorem checkPositions_row_tie : Rows.checkPositionsRow.laidByTextAt .later Tryz.pinned [.listed, .data, .data] true :=
  OpenClaim.laidByTextAt_later rfl rfl tie noOwnUnsafe
theorem checkTasks_row_tie : Rows.checkTasksRow.laidByTextAt .later Tryz.pinned [.listed, .data, .data] true :=
  OpenClaim.laidByTextAt_later rfl rfl tie noOwnUnsafe
theorem checkAccesses_row_tie : Rows.checkAccessesRow.laidByTextAt .later Tryz.pinned [.listed, .data, .data] true :=
  OpenClaim.laidByTextAt_later rfl rfl tie noOwnUnsafe
theorem checkUnion_row_tie : Rows.checkUnionRow.laidByTextAt .later Tryz.pinned [.listed, .data, .data] true :=
  OpenClaim.laidByTextAt_later rfl rfl tie noOwnUnsafe
theorem checkDiagnosticsUpto_row_tie : Rows.checkDiagnosticsUptoRow.laidByTextAt .later Tryz.pinned [.listed, .data, .data] true :=
  OpenClaim.laidByTextAt_later rfl rfl tie noOwnUnsafe
theorem checkLookupUpto_row_tie : Rows.checkLookupUptoRow.laidByTextAt .later Tryz.pinned [.listed, .data, .data] true :=
  OpenClaim.laidByTextAt_later rfl rfl tie noOwnUnsafe
theorem checkConstValueUpto_row_tie : Rows.checkConstValueUptoRow.laidByTextAt .later Tryz.pinned [.listed, .data, .data] true :=
  OpenClaim.laidByTextAt_later rfl rfl tie noOwnUnsafe
theorem checkPositionsUpto_row_tie : Rows.checkPositionsUptoRow.laidByTextAt .later Tryz.pinned [.listed, .data, .data] true :=
  OpenClaim.laidByTextAt_later rfl rfl tie noOwnUnsafe
theorem checkTasksUpto_row_tie : Rows.checkTasksUptoRow.laidByTextAt .later Tryz.pinned [.listed, .data, .data] true :=
  OpenClaim.laidByTextAt_later rfl rfl tie noOwnUnsafe
theorem checkAccessesUpto_row_tie : Rows.checkAccessesUptoRow.laidByTextAt .later Tryz.pinned [.listed, .data, .data] true :=
  OpenClaim.laidByTextAt_later rfl rfl tie noOwnUnsafe
theorem checkUnionUpto_row_tie : Rows.checkUnionUptoRow.laidByTextAt .later Tryz.pinned [.listed, .data, .data] true :=
  OpenClaim.laidByTextAt_later rfl rfl tie noOwnUnsafe
end Go.Proofs.YtkfdnlfkomhmfaaGreatDoor
