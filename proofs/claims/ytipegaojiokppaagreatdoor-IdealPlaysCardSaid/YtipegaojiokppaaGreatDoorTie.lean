/-
  DERIVED. GIVEN WITH THE SEED: THE PROGRAM's TIES (one call each: nine closed facts by the kernel) AND EACH ROW's TIE, after the 31st guide's Derived/Test/Toyas{Tie, Card}.lean. No idea stands in it: it is a product of the set-up. Laid BY PROGRAM, IN A SANDBOX (cutbox-door.mjs). By AI agents, Wed Nov 11 2026. No macro, syntax, notation, axiom, sorry.
-/
import Derived.Test.YtipegaojiokppaaGreatDoorRows
import Derived.LaidByTextLater
import Derived.SevenTiedAt
import Derived.LaidSub
import Derived.LaidOnce
namespace Go.Proofs.YtipegaojiokppaaGreatDoor
open Go
set_option maxRecDepth 100000
theorem seatTie1 : Tryz.prog.laidByTextLater [("rollbacknet/rollbacknetmake.scalars", Rows.laid_rollbacknet_rollbacknetmake_scalars), ("rollbacknet/rollbacknetmake.arrays", Rows.laid_rollbacknet_rollbacknetmake_arrays)] [.data, .data] true :=
  Program.laidByTextLater_by_one 19 8 4 (by kernel_rfl) (by kernel_rfl) (by kernel_rfl) (by kernel_rfl) (by kernel_rfl) (by kernel_rfl) (fun _ _ => by kernel_rfl)
theorem noOwnUnsafe : Tryz.pinned.checked.prog.headLifts.contains "ownunsafe" = false := by kernel_rfl
theorem tie : Tryz.prog.laidByTextLater [("rollbacknet/rollbacknetmake.scalars", Rows.laid_rollbacknet_rollbacknetmake_scalars), ("rollbacknet/rollbacknetmake.arrays", Rows.laid_rollbacknet_rollbacknetmake_arrays)] [.data, .data] true :=
  Program.laidByTextLater.sub seatTie1 ["rollbacknet/rollbacknetmake.scalars", "rollbacknet/rollbacknetmake.arrays"] (by kernel_rfl) (by kernel_rfl)
theorem idealPlays_row_tie : Rows.idealPlaysRow.laidByTextAt .later Tryz.pinned [.data, .data] true :=
  OpenClaim.laidByTextAt_later rfl rfl tie noOwnUnsafe
theorem idealOutputs_row_tie : Rows.idealOutputsRow.laidByTextAt .later Tryz.pinned [.data, .data] true :=
  OpenClaim.laidByTextAt_later rfl rfl tie noOwnUnsafe
theorem idealPrefixes_row_tie : Rows.idealPrefixesRow.laidByTextAt .later Tryz.pinned [.data, .data] true :=
  OpenClaim.laidByTextAt_later rfl rfl tie noOwnUnsafe
theorem idealExchanges_row_tie : Rows.idealExchangesRow.laidByTextAt .later Tryz.pinned [.data, .data] true :=
  OpenClaim.laidByTextAt_later rfl rfl tie noOwnUnsafe
theorem idealDelivers_row_tie : Rows.idealDeliversRow.laidByTextAt .later Tryz.pinned [.data, .data] true :=
  OpenClaim.laidByTextAt_later rfl rfl tie noOwnUnsafe
theorem idealReplays_row_tie : Rows.idealReplaysRow.laidByTextAt .later Tryz.pinned [.data, .data] true :=
  OpenClaim.laidByTextAt_later rfl rfl tie noOwnUnsafe
theorem idealPlaysUpto_row_tie : Rows.idealPlaysUptoRow.laidByTextAt .later Tryz.pinned [.data, .data] true :=
  OpenClaim.laidByTextAt_later rfl rfl tie noOwnUnsafe
theorem idealOutputsUpto_row_tie : Rows.idealOutputsUptoRow.laidByTextAt .later Tryz.pinned [.data, .data] true :=
  OpenClaim.laidByTextAt_later rfl rfl tie noOwnUnsafe
theorem idealPrefixesUpto_row_tie : Rows.idealPrefixesUptoRow.laidByTextAt .later Tryz.pinned [.data, .data] true :=
  OpenClaim.laidByTextAt_later rfl rfl tie noOwnUnsafe
theorem idealExchangesUpto_row_tie : Rows.idealExchangesUptoRow.laidByTextAt .later Tryz.pinned [.data, .data] true :=
  OpenClaim.laidByTextAt_later rfl rfl tie noOwnUnsafe
theorem idealDeliversUpto_row_tie : Rows.idealDeliversUptoRow.laidByTextAt .later Tryz.pinned [.data, .data] true :=
  OpenClaim.laidByTextAt_later rfl rfl tie noOwnUnsafe
theorem idealReplaysUpto_row_tie : Rows.idealReplaysUptoRow.laidByTextAt .later Tryz.pinned [.data, .data] true :=
  OpenClaim.laidByTextAt_later rfl rfl tie noOwnUnsafe
end Go.Proofs.YtipegaojiokppaaGreatDoor
