/-
  DERIVED. GIVEN WITH THE SEED: THE PROGRAM's TIES (one call each: nine closed facts by the kernel) AND EACH ROW's TIE, after the 31st guide's Derived/Test/Toyas{Tie, Card}.lean. No idea stands in it: it is a product of the set-up. Laid BY PROGRAM, IN A SANDBOX (cutbox-door.mjs). By AI agents, Wed Nov 11 2026. No macro, syntax, notation, axiom, sorry.
-/
import Derived.Test.YtgdphamdbpkjdaaDoorRows
import Derived.LaidByTextLater
import Derived.SevenTiedAt
import Derived.LaidSub
import Derived.LaidOnce
namespace Go.Proofs.YtgdphamdbpkjdaaDoor
open Go
set_option maxRecDepth 100000
theorem seatTie1 : Tryd.prog.laidByTextLater [("hourglass/sha.first", Rows.laid_hourglass_sha_first), ("hourglass/sha.steady", Rows.laid_hourglass_sha_steady), ("hourglass/chacha.begins", Rows.laid_hourglass_chacha_begins), ("hourglass/chacha.quarters", Rows.laid_hourglass_chacha_quarters), ("hourglass/chacha.turns", Rows.laid_hourglass_chacha_turns)] [.data, .data, .widerDeep, .data, .data] true :=
  Program.laidByTextLater_by_one 44 8 65 (by kernel_rfl) (by kernel_rfl) (by kernel_rfl) (by kernel_rfl) (by kernel_rfl) (by kernel_rfl) (fun _ _ => by kernel_rfl)
theorem noOwnUnsafe : Tryd.pinned.checked.prog.headLifts.contains "ownunsafe" = false := by kernel_rfl
theorem tie : Tryd.prog.laidByTextLater [("hourglass/sha.first", Rows.laid_hourglass_sha_first), ("hourglass/sha.steady", Rows.laid_hourglass_sha_steady), ("hourglass/chacha.begins", Rows.laid_hourglass_chacha_begins), ("hourglass/chacha.quarters", Rows.laid_hourglass_chacha_quarters), ("hourglass/chacha.turns", Rows.laid_hourglass_chacha_turns)] [.data, .data, .widerDeep, .data, .data] true :=
  Program.laidByTextLater.sub seatTie1 ["hourglass/sha.first", "hourglass/sha.steady", "hourglass/chacha.begins", "hourglass/chacha.quarters", "hourglass/chacha.turns"] (by kernel_rfl) (by kernel_rfl)
theorem onionBack_row_tie : Rows.onionBackRow.laidByTextAt .later Tryd.pinned [.data, .data, .widerDeep, .data, .data] true :=
  OpenClaim.laidByTextAt_later rfl rfl tie noOwnUnsafe
theorem onionMAC_row_tie : Rows.onionMACRow.laidByTextAt .later Tryd.pinned [.data, .data, .widerDeep, .data, .data] true :=
  OpenClaim.laidByTextAt_later rfl rfl tie noOwnUnsafe
theorem onionAgain_row_tie : Rows.onionAgainRow.laidByTextAt .later Tryd.pinned [.data, .data, .widerDeep, .data, .data] true :=
  OpenClaim.laidByTextAt_later rfl rfl tie noOwnUnsafe
theorem onionBody_row_tie : Rows.onionBodyRow.laidByTextAt .later Tryd.pinned [.data, .data, .widerDeep, .data, .data] true :=
  OpenClaim.laidByTextAt_later rfl rfl tie noOwnUnsafe
theorem onionTells_row_tie : Rows.onionTellsRow.laidByTextAt .later Tryd.pinned [.data, .data, .widerDeep, .data, .data] true :=
  OpenClaim.laidByTextAt_later rfl rfl tie noOwnUnsafe
theorem onionEnd_row_tie : Rows.onionEndRow.laidByTextAt .later Tryd.pinned [.data, .data, .widerDeep, .data, .data] true :=
  OpenClaim.laidByTextAt_later rfl rfl tie noOwnUnsafe
theorem onionBackUpto_row_tie : Rows.onionBackUptoRow.laidByTextAt .later Tryd.pinned [.data, .data, .widerDeep, .data, .data] true :=
  OpenClaim.laidByTextAt_later rfl rfl tie noOwnUnsafe
theorem onionMACUpto_row_tie : Rows.onionMACUptoRow.laidByTextAt .later Tryd.pinned [.data, .data, .widerDeep, .data, .data] true :=
  OpenClaim.laidByTextAt_later rfl rfl tie noOwnUnsafe
theorem onionAgainUpto_row_tie : Rows.onionAgainUptoRow.laidByTextAt .later Tryd.pinned [.data, .data, .widerDeep, .data, .data] true :=
  OpenClaim.laidByTextAt_later rfl rfl tie noOwnUnsafe
theorem onionBodyUpto_row_tie : Rows.onionBodyUptoRow.laidByTextAt .later Tryd.pinned [.data, .data, .widerDeep, .data, .data] true :=
  OpenClaim.laidByTextAt_later rfl rfl tie noOwnUnsafe
theorem onionTellsUpto_row_tie : Rows.onionTellsUptoRow.laidByTextAt .later Tryd.pinned [.data, .data, .widerDeep, .data, .data] true :=
  OpenClaim.laidByTextAt_later rfl rfl tie noOwnUnsafe
theorem onionEndUpto_row_tie : Rows.onionEndUptoRow.laidByTextAt .later Tryd.pinned [.data, .data, .widerDeep, .data, .data] true :=
  OpenClaim.laidByTextAt_later rfl rfl tie noOwnUnsafe
end Go.Proofs.YtgdphamdbpkjdaaDoor
