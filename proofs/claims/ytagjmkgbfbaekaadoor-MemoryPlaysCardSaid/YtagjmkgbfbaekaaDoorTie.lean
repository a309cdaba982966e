/-
  DERIVED. GIVEN WITH THE SEED: THE PROGRAM's TIES (one call each: nine closed facts by the kernel) AND EACH ROW's TIE, after the 31st guide's Derived/Test/Toyas{Tie, Card}.lean. No idea stands in it: it is a product of the set-up. Laid BY PROGRAM, IN A SANDBOX (cutbox-door.mjs). By AI agents, Wed Nov 11 2026. No macro, syntax, notation, axiom, sorry.
-/
import Derived.Test.YtagjmkgbfbaekaaDoorRows
import Derived.LaidByTextLater
import Derived.SevenTiedAt
import Derived.LaidSub
import Derived.LaidOnce
namespace Go.Proofs.YtagjmkgbfbaekaaDoor
open Go
set_option maxRecDepth 100000
theorem seatTie1 : Tryd.prog.laidByTextLater [("tableau/api.ErrArg", Rows.laid_tableau_api_ErrArg), ("tableau/api.ErrShort", Rows.laid_tableau_api_ErrShort), ("tableau/api.ErrBytes", Rows.laid_tableau_api_ErrBytes), ("tableau/api.ErrBig", Rows.laid_tableau_api_ErrBig), ("tableau/api.ErrObject", Rows.laid_tableau_api_ErrObject), ("tableau/api.ErrMethod", Rows.laid_tableau_api_ErrMethod), ("tableau/api.ErrFormat", Rows.laid_tableau_api_ErrFormat), ("tableau/api.ErrStride", Rows.laid_tableau_api_ErrStride), ("tableau/api.ErrFile", Rows.laid_tableau_api_ErrFile), ("tableau/api.ErrRole", Rows.laid_tableau_api_ErrRole), ("tableau/api.ErrPlace", Rows.laid_tableau_api_ErrPlace), ("tableau/api.ErrState", Rows.laid_tableau_api_ErrState), ("tableau/api.ErrSerial", Rows.laid_tableau_api_ErrSerial), ("tableau/api.ErrFull", Rows.laid_tableau_api_ErrFull), ("tableau/api.ErrGone", Rows.laid_tableau_api_ErrGone), ("tableau/api.ErrSheet", Rows.laid_tableau_api_ErrSheet)] [.sentinel, .sentinel, .sentinel, .sentinel, .sentinel, .sentinel, .sentinel, .sentinel, .sentinel, .sentinel, .sentinel, .sentinel, .sentinel, .sentinel, .sentinel, .sentinel] true :=
  Program.laidByTextLater_by_one 313 8 2 (by kernel_rfl) (by kernel_rfl) (by kernel_rfl) (by kernel_rfl) (by kernel_rfl) (by kernel_rfl) (fun _ _ => by kernel_rfl)
theorem noOwnUnsafe : Tryd.pinned.checked.prog.headLifts.contains "ownunsafe" = false := by kernel_rfl
theorem tie : Tryd.prog.laidByTextLater [("tableau/api.ErrArg", Rows.laid_tableau_api_ErrArg), ("tableau/api.ErrStride", Rows.laid_tableau_api_ErrStride), ("tableau/api.ErrFile", Rows.laid_tableau_api_ErrFile)] [.sentinel, .sentinel, .sentinel] true :=
  Program.laidByTextLater.sub seatTie1 ["tableau/api.ErrArg", "tableau/api.ErrStride", "tableau/api.ErrFile"] (by kernel_rfl) (by kernel_rfl)
theorem memoryWords_row_tie : Rows.memoryWordsRow.laidByTextAt .later Tryd.pinned [.sentinel, .sentinel, .sentinel] true :=
  OpenClaim.laidByTextAt_later rfl rfl tie noOwnUnsafe
theorem memoryApart_row_tie : Rows.memoryApartRow.laidByTextAt .later Tryd.pinned [.sentinel, .sentinel, .sentinel] true :=
  OpenClaim.laidByTextAt_later rfl rfl tie noOwnUnsafe
theorem tie2 : Tryd.prog.laidByTextLater [("tableau/api.ErrArg", Rows.laid_tableau_api_ErrArg), ("tableau/api.ErrShort", Rows.laid_tableau_api_ErrShort), ("tableau/api.ErrBytes", Rows.laid_tableau_api_ErrBytes), ("tableau/api.ErrBig", Rows.laid_tableau_api_ErrBig), ("tableau/api.ErrObject", Rows.laid_tableau_api_ErrObject), ("tableau/api.ErrMethod", Rows.laid_tableau_api_ErrMethod), ("tableau/api.ErrFormat", Rows.laid_tableau_api_ErrFormat), ("tableau/api.ErrStride", Rows.laid_tableau_api_ErrStride), ("tableau/api.ErrFile", Rows.laid_tableau_api_ErrFile), ("tableau/api.ErrRole", Rows.laid_tableau_api_ErrRole), ("tableau/api.ErrPlace", Rows.laid_tableau_api_ErrPlace), ("tableau/api.ErrState", Rows.laid_tableau_api_ErrState), ("tableau/api.ErrSerial", Rows.laid_tableau_api_ErrSerial), ("tableau/api.ErrFull", Rows.laid_tableau_api_ErrFull), ("tableau/api.ErrGone", Rows.laid_tableau_api_ErrGone), ("tableau/api.ErrSheet", Rows.laid_tableau_api_ErrSheet)] [.sentinel, .sentinel, .sentinel, .sentinel, .sentinel, .sentinel, .sentinel, .sentinel, .sentinel, .sentinel, .sentinel, .sentinel, .sentinel, .sentinel, .sentinel, .sentinel] true :=
  Program.laidByTextLater.sub seatTie1 ["tableau/api.ErrArg", "tableau/api.ErrShort", "tableau/api.ErrBytes", "tableau/api.ErrBig", "tableau/api.ErrObject", "tableau/api.ErrMethod", "tableau/api.ErrFormat", "tableau/api.ErrStride", "tableau/api.ErrFile", "tableau/api.ErrRole", "tableau/api.ErrPlace", "tableau/api.ErrState", "tableau/api.ErrSerial", "tableau/api.ErrFull", "tableau/api.ErrGone", "tableau/api.ErrSheet"] (by kernel_rfl) (by kernel_rfl)
theorem memoryPlays_row_tie : Rows.memoryPlaysRow.laidByTextAt .later Tryd.pinned [.sentinel, .sentinel, .sentinel, .sentinel, .sentinel, .sentinel, .sentinel, .sentinel, .sentinel, .sentinel, .sentinel, .sentinel, .sentinel, .sentinel, .sentinel, .sentinel] true :=
  OpenClaim.laidByTextAt_later rfl rfl tie2 noOwnUnsafe
theorem memoryKeeps_row_tie : Rows.memoryKeepsRow.laidByTextAt .later Tryd.pinned [.sentinel, .sentinel, .sentinel, .sentinel, .sentinel, .sentinel, .sentinel, .sentinel, .sentinel, .sentinel, .sentinel, .sentinel, .sentinel, .sentinel, .sentinel, .sentinel] true :=
  OpenClaim.laidByTextAt_later rfl rfl tie2 noOwnUnsafe
theorem queueOrder_row_tie : Rows.queueOrderRow.laidByTextAt .later Tryd.pinned [.sentinel, .sentinel, .sentinel, .sentinel, .sentinel, .sentinel, .sentinel, .sentinel, .sentinel, .sentinel, .sentinel, .sentinel, .sentinel, .sentinel, .sentinel, .sentinel] true :=
  OpenClaim.laidByTextAt_later rfl rfl tie2 noOwnUnsafe
theorem queueRooms_row_tie : Rows.queueRoomsRow.laidByTextAt .later Tryd.pinned [.sentinel, .sentinel, .sentinel, .sentinel, .sentinel, .sentinel, .sentinel, .sentinel, .sentinel, .sentinel, .sentinel, .sentinel, .sentinel, .sentinel, .sentinel, .sentinel] true :=
  OpenClaim.laidByTextAt_later rfl rfl tie2 noOwnUnsafe
theorem queuePlays_row_tie : Rows.queuePlaysRow.laidByTextAt .later Tryd.pinned [.sentinel, .sentinel, .sentinel, .sentinel, .sentinel, .sentinel, .sentinel, .sentinel, .sentinel, .sentinel, .sentinel, .sentinel, .sentinel, .sentinel, .sentinel, .sentinel] true :=
  OpenClaim.laidByTextAt_later rfl rfl tie2 noOwnUnsafe
theorem sigAll_row_tie : Rows.sigAllRow.laidByTextAt .later Tryd.pinned [.sentinel, .sentinel, .sentinel, .sentinel, .sentinel, .sentinel, .sentinel, .sentinel, .sentinel, .sentinel, .sentinel, .sentinel, .sentinel, .sentinel, .sentinel, .sentinel] true :=
  OpenClaim.laidByTextAt_later rfl rfl tie2 noOwnUnsafe
theorem tie3 : Tryd.prog.laidByTextLater [("tableau/api.ErrMethod", Rows.laid_tableau_api_ErrMethod)] [.sentinel] true :=
  Program.laidByTextLater.sub seatTie1 ["tableau/api.ErrMethod"] (by kernel_rfl) (by kernel_rfl)
theorem sigLetters_row_tie : Rows.sigLettersRow.laidByTextAt .later Tryd.pinned [.sentinel] true :=
  OpenClaim.laidByTextAt_later rfl rfl tie3 noOwnUnsafe
theorem sigTable_row_tie : Rows.sigTableRow.laidByTextAt .later Tryd.pinned [.sentinel] true :=
  OpenClaim.laidByTextAt_later rfl rfl tie3 noOwnUnsafe
theorem sigNames_row_tie : Rows.sigNamesRow.laidByTextAt .later Tryd.pinned [.sentinel] true :=
  OpenClaim.laidByTextAt_later rfl rfl tie3 noOwnUnsafe
theorem memoryWordsUpto_row_tie : Rows.memoryWordsUptoRow.laidByTextAt .later Tryd.pinned [.sentinel, .sentinel, .sentinel] true :=
  OpenClaim.laidByTextAt_later rfl rfl tie noOwnUnsafe
theorem memoryApartUpto_row_tie : Rows.memoryApartUptoRow.laidByTextAt .later Tryd.pinned [.sentinel, .sentinel, .sentinel] true :=
  OpenClaim.laidByTextAt_later rfl rfl tie noOwnUnsafe
theorem memoryPlaysUpto_row_tie : Rows.memoryPlaysUptoRow.laidByTextAt .later Tryd.pinned [.sentinel, .sentinel, .sentinel, .sentinel, .sentinel, .sentinel, .sentinel, .sentinel, .sentinel, .sentinel, .sentinel, .sentinel, .sentinel, .sentinel, .sentinel, .sentinel] true :=
  OpenClaim.laidByTextAt_later rfl rfl tie2 noOwnUnsafe
theorem memoryKeepsUpto_row_tie : Rows.memoryKeepsUptoRow.laidByTextAt .later Tryd.pinned [.sentinel, .sentinel, .sentinel, .sentinel, .sentinel, .sentinel, .sentinel, .sentinel, .sentinel, .sentinel, .sentinel, .sentinel, .sentinel, .sentinel, .sentinel, .sentinel] true :=
  OpenClaim.laidByTextAt_later rfl rfl tie2 noOwnUnsafe
theorem queueOrderUpto_row_tie : Rows.queueOrderUptoRow.laidByTextAt .later Tryd.pinned [.sentinel, .sentinel, .sentinel, .sentinel, .sentinel, .sentinel, .sentinel, .sentinel, .sentinel, .sentinel, .sentinel, .sentinel, .sentinel, .sentinel, .sentinel, .sentinel] true :=
  OpenClaim.laidByTextAt_later rfl rfl tie2 noOwnUnsafe
theorem queueRoomsUpto_row_tie : Rows.queueRoomsUptoRow.laidByTextAt .later Tryd.pinned [.sentinel, .sentinel, .sentinel, .sentinel, .sentinel, .sentinel, .sentinel, .sentinel, .sentinel, .sentinel, .sentinel, .sentinel, .sentinel, .sentinel, .sentinel, .sentinel] true :=
  OpenClaim.laidByTextAt_later rfl rfl tie2 noOwnUnsafe
theorem queuePlaysUpto_row_tie : Rows.queuePlaysUptoRow.laidByTextAt .later Tryd.pinned [.sentinel, .sentinel, .sentinel, .sentinel, .sentinel, .sentinel, .sentinel, .sentinel, .sentinel, .sentinel, .sentinel, .sentinel, .sentinel, .sentinel, .sentinel, .sentinel] true :=
  OpenClaim.laidByTextAt_later rfl rfl tie2 noOwnUnsafe
theorem sigLettersUpto_row_tie : Rows.sigLettersUptoRow.laidByTextAt .later Tryd.pinned [.sentinel] true :=
  OpenClaim.laidByTextAt_later rfl rfl tie3 noOwnUnsafe
theorem sigTableUpto_row_tie : Rows.sigTableUptoRow.laidByTextAt .later Tryd.pinned [.sentinel] true :=
  OpenClaim.laidByTextAt_later rfl rfl tie3 noOwnUnsafe
theorem sigNamesUpto_row_tie : Rows.sigNamesUptoRow.laidByTextAt .later Tryd.pinned [.sentinel] true :=
  OpenClaim.laidByTextAt_later rfl rfl tie3 noOwnUnsafe
theorem sigAllUpto_row_tie : Rows.sigAllUptoRow.laidByTextAt .later Tryd.pinned [.sentinel, .sentinel, .sentinel, .sentinel, .sentinel, .sentinel, .sentinel, .sentinel, .sentinel, .sentinel, .sentinel, .sentinel, .sentinel, .sentinel, .sentinel, .sentinel] true :=
  OpenClaim.laidByTextAt_later rfl rfl tie2 noOwnUnsafe
end Go.Proofs.YtagjmkgbfbaekaaDoor
