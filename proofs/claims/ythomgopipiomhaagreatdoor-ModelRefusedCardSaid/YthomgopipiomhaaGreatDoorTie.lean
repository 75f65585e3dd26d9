/-
  DERIVED. GIVEN WITH THE SEED: THE PROGRAM's TIES (one call each: nine closed facts by the kernel) AND EACH ROW's TIE, after the 31st guide's Derived/Test/Toyas{Tie, Card}.lean. No idea stands in it: it is a product of the set-up. Laid BY PROGRAM, IN A SANDBOX (cutbox-door.mjs). By AI agents, Wed Nov 11 2026. No macro, syntax, notation, axiom, sorry.
-/
import Derived.Test.YthomgopipiomhaaGreatDoorRows
import Derived.LaidByTextLater
import Derived.SevenTiedAt
import Derived.LaidSub
import Derived.LaidOnce
namespace Go.Proofs.YthomgopipiomhaaGreatDoor
open Go
set_option maxRecDepth 100000
theorem seatTie1 : Tryz.prog.laidByTextLater [("deponent/sha.start", Rows.laid_deponent_sha_start), ("deponent/sha.words", Rows.laid_deponent_sha_words), ("errors.errorType", Rows.laid_errors_errorType)] [.data, .data, .handle] true :=
  Program.laidByTextLater_by_one 26 8 65 (by kernel_rfl) (by kernel_rfl) (by kernel_rfl) (by kernel_rfl) (by kernel_rfl) (by kernel_rfl) (fun _ _ => by kernel_rfl)
theorem noOwnUnsafe : Tryz.pinned.checked.prog.headLifts.contains "ownunsafe" = false := by kernel_rfl
theorem tie : Tryz.prog.laidByTextLater [("deponent/sha.start", Rows.laid_deponent_sha_start), ("deponent/sha.words", Rows.laid_deponent_sha_words), ("errors.errorType", Rows.laid_errors_errorType)] [.data, .data, .handle] true :=
  Program.laidByTextLater.sub seatTie1 ["deponent/sha.start", "deponent/sha.words", "errors.errorType"] (by kernel_rfl) (by kernel_rfl)
theorem modelAsks_row_tie : Rows.modelAsksRow.laidByTextAt .later Tryz.pinned [.data, .data, .handle] true :=
  OpenClaim.laidByTextAt_later rfl rfl tie noOwnUnsafe
theorem modelTurns_row_tie : Rows.modelTurnsRow.laidByTextAt .later Tryz.pinned [.data, .data, .handle] true :=
  OpenClaim.laidByTextAt_later rfl rfl tie noOwnUnsafe
theorem modelNumbers_row_tie : Rows.modelNumbersRow.laidByTextAt .later Tryz.pinned [.data, .data, .handle] true :=
  OpenClaim.laidByTextAt_later rfl rfl tie noOwnUnsafe
theorem modelStays_row_tie : Rows.modelStaysRow.laidByTextAt .later Tryz.pinned [.data, .data, .handle] true :=
  OpenClaim.laidByTextAt_later rfl rfl tie noOwnUnsafe
theorem modelLooks_row_tie : Rows.modelLooksRow.laidByTextAt .later Tryz.pinned [.data, .data, .handle] true :=
  OpenClaim.laidByTextAt_later rfl rfl tie noOwnUnsafe
theorem modelWritten_row_tie : Rows.modelWrittenRow.laidByTextAt .later Tryz.pinned [.data, .data, .handle] true :=
  OpenClaim.laidByTextAt_later rfl rfl tie noOwnUnsafe
theorem modelPlays_row_tie : Rows.modelPlaysRow.laidByTextAt .later Tryz.pinned [.data, .data, .handle] true :=
  OpenClaim.laidByTextAt_later rfl rfl tie noOwnUnsafe
theorem modelFrom_row_tie : Rows.modelFromRow.laidByTextAt .later Tryz.pinned [.data, .data, .handle] true :=
  OpenClaim.laidByTextAt_later rfl rfl tie noOwnUnsafe
theorem modelRefused_row_tie : Rows.modelRefusedRow.laidByTextAt .later Tryz.pinned [.data, .data, .handle] true :=
  OpenClaim.laidByTextAt_later rfl rfl tie noOwnUnsafe
theorem modelAsksUpto_row_tie : Rows.modelAsksUptoRow.laidByTextAt .later Tryz.pinned [.data, .data, .handle] true :=
  OpenClaim.laidByTextAt_later rfl rfl tie noOwnUnsafe
theorem modelTurnsUpto_row_tie : Rows.modelTurnsUptoRow.laidByTextAt .later Tryz.pinned [.data, .data, .handle] true :=
  OpenClaim.laidByTextAt_later rfl rfl tie noOwnUnsafe
theorem modelNumbersUpto_row_tie : Rows.modelNumbersUptoRow.laidByTextAt .later Tryz.pinned [.data, .data, .handle] true :=
  OpenClaim.laidByTextAt_later rfl rfl tie noOwnUnsafe
theorem modelStaysUpto_row_tie : Rows.modelStaysUptoRow.laidByTextAt .later Tryz.pinned [.data, .data, .handle] true :=
  OpenClaim.laidByTextAt_later rfl rfl tie noOwnUnsafe
theorem modelLooksUpto_row_tie : Rows.modelLooksUptoRow.laidByTextAt .later Tryz.pinned [.data, .data, .handle] true :=
  OpenClaim.laidByTextAt_later rfl rfl tie noOwnUnsafe
theorem modelWrittenUpto_row_tie : Rows.modelWrittenUptoRow.laidByTextAt .later Tryz.pinned [.data, .data, .handle] true :=
  OpenClaim.laidByTextAt_later rfl rfl tie noOwnUnsafe
theorem modelPlaysUpto_row_tie : Rows.modelPlaysUptoRow.laidByTextAt .later Tryz.pinned [.data, .data, .handle] true :=
  OpenClaim.laidByTextAt_later rfl rfl tie noOwnUnsafe
theorem modelFromUpto_row_tie : Rows.modelFromUptoRow.laidByTextAt .later Tryz.pinned [.data, .data, .handle] true :=
  OpenClaim.laidByTextAt_later rfl rfl tie noOwnUnsafe
theorem modelRefusedUpto_row_tie : Rows.modelRefusedUptoRow.laidByTextAt .later Tryz.pinned [.data, .data, .handle] true :=
  OpenClaim.laidByTextAt_later rfl rfl tie noOwnUnsafe
end Go.Proofs.YthomgopipiomhaaGreatDoor
