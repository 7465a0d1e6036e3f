/-
  DERIVED. GIVEN WITH THE SEED: THE PROGRAM's TIES (one call each: nine closed facts by the kernel) AND EACH ROW's TIE, after the 31st guide's Derived/Test/Toyas{Tie, Card}.lean. No idea stands in it: it is a product of the set-up. Laid BY PROGRAM, IN A SANDBOX (cutbox-door.mjs). By AI agents, Wed Nov 11 2026. No macro, syntax, notation, axiom, sorry.
-/
import Derived.Test.YtmflbekabkainaaGreatDoorRows
import Derived.LaidByTextLater
import Derived.SevenTiedAt
import Derived.LaidSub
import Derived.LaidOnce
namespace Go.Proofs.YtmflbekabkainaaGreatDoor
open Go
set_option maxRecDepth 100000
theorem seatTie1 : Tryz.prog.laidByTextLater [("hourglass/sha.first", Rows.laid_hourglass_sha_first), ("hourglass/sha.steady", Rows.laid_hourglass_sha_steady), ("hourglass/chacha.begins", Rows.laid_hourglass_chacha_begins), ("hourglass/chacha.quarters", Rows.laid_hourglass_chacha_quarters), ("hourglass/chacha.turns", Rows.laid_hourglass_chacha_turns)] [.data, .data, .widerDeep, .data, .data] true :=
  Program.laidByTextLater_by_one 44 8 65 (by kernel_rfl) (by kernel_rfl) (by kernel_rfl) (by kernel_rfl) (by kernel_rfl) (by kernel_rfl) (fun _ _ => by kernel_rfl)
theorem noOwnUnsafe : Tryz.pinned.checked.prog.headLifts.contains "ownunsafe" = false := by kernel_rfl
theorem tie : Tryz.prog.laidByTextLater [("hourglass/sha.first", Rows.laid_hourglass_sha_first), ("hourglass/sha.steady", Rows.laid_hourglass_sha_steady), ("hourglass/chacha.begins", Rows.laid_hourglass_chacha_begins), ("hourglass/chacha.quarters", Rows.laid_hourglass_chacha_quarters), ("hourglass/chacha.turns", Rows.laid_hourglass_chacha_turns)] [.data, .data, .widerDeep, .data, .data] true :=
  Program.laidByTextLater.sub seatTie1 ["hourglass/sha.first", "hourglass/sha.steady", "hourglass/chacha.begins", "hourglass/chacha.quarters", "hourglass/chacha.turns"] (by kernel_rfl) (by kernel_rfl)
theorem nodeTells_row_tie : Rows.nodeTellsRow.laidByTextAt .later Tryz.pinned [.data, .data, .widerDeep, .data, .data] true :=
  OpenClaim.laidByTextAt_later rfl rfl tie noOwnUnsafe
theorem nodeRefuses_row_tie : Rows.nodeRefusesRow.laidByTextAt .later Tryz.pinned [.data, .data, .widerDeep, .data, .data] true :=
  OpenClaim.laidByTextAt_later rfl rfl tie noOwnUnsafe
theorem nodeCounts_row_tie : Rows.nodeCountsRow.laidByTextAt .later Tryz.pinned [.data, .data, .widerDeep, .data, .data] true :=
  OpenClaim.laidByTextAt_later rfl rfl tie noOwnUnsafe
theorem nodeTimes_row_tie : Rows.nodeTimesRow.laidByTextAt .later Tryz.pinned [.data, .data, .widerDeep, .data, .data] true :=
  OpenClaim.laidByTextAt_later rfl rfl tie noOwnUnsafe
theorem nodeEpochs_row_tie : Rows.nodeEpochsRow.laidByTextAt .later Tryz.pinned [.data, .data, .widerDeep, .data, .data] true :=
  OpenClaim.laidByTextAt_later rfl rfl tie noOwnUnsafe
theorem nodeWindows_row_tie : Rows.nodeWindowsRow.laidByTextAt .later Tryz.pinned [.data, .data, .widerDeep, .data, .data] true :=
  OpenClaim.laidByTextAt_later rfl rfl tie noOwnUnsafe
theorem nodeClients_row_tie : Rows.nodeClientsRow.laidByTextAt .later Tryz.pinned [.data, .data, .widerDeep, .data, .data] true :=
  OpenClaim.laidByTextAt_later rfl rfl tie noOwnUnsafe
theorem nodeOwn_row_tie : Rows.nodeOwnRow.laidByTextAt .later Tryz.pinned [.data, .data, .widerDeep, .data, .data] true :=
  OpenClaim.laidByTextAt_later rfl rfl tie noOwnUnsafe
theorem nodeTellsUpto_row_tie : Rows.nodeTellsUptoRow.laidByTextAt .later Tryz.pinned [.data, .data, .widerDeep, .data, .data] true :=
  OpenClaim.laidByTextAt_later rfl rfl tie noOwnUnsafe
theorem nodeRefusesUpto_row_tie : Rows.nodeRefusesUptoRow.laidByTextAt .later Tryz.pinned [.data, .data, .widerDeep, .data, .data] true :=
  OpenClaim.laidByTextAt_later rfl rfl tie noOwnUnsafe
theorem nodeCountsUpto_row_tie : Rows.nodeCountsUptoRow.laidByTextAt .later Tryz.pinned [.data, .data, .widerDeep, .data, .data] true :=
  OpenClaim.laidByTextAt_later rfl rfl tie noOwnUnsafe
theorem nodeTimesUpto_row_tie : Rows.nodeTimesUptoRow.laidByTextAt .later Tryz.pinned [.data, .data, .widerDeep, .data, .data] true :=
  OpenClaim.laidByTextAt_later rfl rfl tie noOwnUnsafe
theorem nodeEpochsUpto_row_tie : Rows.nodeEpochsUptoRow.laidByTextAt .later Tryz.pinned [.data, .data, .widerDeep, .data, .data] true :=
  OpenClaim.laidByTextAt_later rfl rfl tie noOwnUnsafe
theorem nodeWindowsUpto_row_tie : Rows.nodeWindowsUptoRow.laidByTextAt .later Tryz.pinned [.data, .data, .widerDeep, .data, .data] true :=
  OpenClaim.laidByTextAt_later rfl rfl tie noOwnUnsafe
theorem nodeClientsUpto_row_tie : Rows.nodeClientsUptoRow.laidByTextAt .later Tryz.pinned [.data, .data, .widerDeep, .data, .data] true :=
  OpenClaim.laidByTextAt_later rfl rfl tie noOwnUnsafe
theorem nodeOwnUpto_row_tie : Rows.nodeOwnUptoRow.laidByTextAt .later Tryz.pinned [.data, .data, .widerDeep, .data, .data] true :=
  OpenClaim.laidByTextAt_later rfl rfl tie noOwnUnsafe
end Go.Proofs.YtmflbekabkainaaGreatDoor
