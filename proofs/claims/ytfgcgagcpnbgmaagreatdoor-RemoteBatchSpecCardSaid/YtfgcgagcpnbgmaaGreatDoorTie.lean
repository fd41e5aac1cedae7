/-
  DERIVED. GIVEN WITH THE SEED: THE PROGRAM's TIES (one call each: nine closed facts by the kernel) AND EACH ROW's TIE, after the 31st guide's Derived/Test/Toyas{Tie, Card}.lean. No idea stands in it: it is a product of the set-up. Laid BY PROGRAM, IN A SANDBOX (cutbox-door.mjs). By AI agents, Wed Nov 11 2026. No macro, syntax, notation, axiom, sorry.
-/
import Derived.Test.YtfgcgagcpnbgmaaGreatDoorRows
import Derived.LaidByTextLater
import Derived.SevenTiedAt
import Derived.LaidSub
import Derived.LaidOnce
namespace Go.Proofs.YtfgcgagcpnbgmaaGreatDoor
open Go
set_option maxRecDepth 100000
theorem seatTie1 : Tryz.prog.laidByTextLater [("stopwatch/digest.start", Rows.laid_stopwatch_digest_start), ("stopwatch/digest.permutations", Rows.laid_stopwatch_digest_permutations), ("stopwatch/facts.timeS", Rows.laid_stopwatch_facts_timeS), ("stopwatch/facts.lengthS", Rows.laid_stopwatch_facts_lengthS), ("stopwatch/facts.bibS", Rows.laid_stopwatch_facts_bibS), ("stopwatch/facts.matS", Rows.laid_stopwatch_facts_matS), ("stopwatch/facts.epochS", Rows.laid_stopwatch_facts_epochS), ("stopwatch/facts.chipS", Rows.laid_stopwatch_facts_chipS), ("stopwatch/facts.positionS", Rows.laid_stopwatch_facts_positionS), ("stopwatch/facts.caseS", Rows.laid_stopwatch_facts_caseS), ("stopwatch/facts.crewS", Rows.laid_stopwatch_facts_crewS), ("stopwatch/facts.numberS", Rows.laid_stopwatch_facts_numberS), ("stopwatch/facts.bitS", Rows.laid_stopwatch_facts_bitS)] [.widerDeep, .data, .data, .data, .data, .data, .data, .data, .data, .data, .data, .data, .data] true :=
  Program.laidByTextLater_by_one 84 8 161 (by kernel_rfl) (by kernel_rfl) (by kernel_rfl) (by kernel_rfl) (by kernel_rfl) (by kernel_rfl) (fun _ _ => by kernel_rfl)
theorem noOwnUnsafe : Tryz.pinned.checked.prog.headLifts.contains "ownunsafe" = false := by kernel_rfl
theorem tie : Tryz.prog.laidByTextLater [("stopwatch/digest.start", Rows.laid_stopwatch_digest_start), ("stopwatch/digest.permutations", Rows.laid_stopwatch_digest_permutations), ("stopwatch/facts.timeS", Rows.laid_stopwatch_facts_timeS), ("stopwatch/facts.lengthS", Rows.laid_stopwatch_facts_lengthS), ("stopwatch/facts.bibS", Rows.laid_stopwatch_facts_bibS), ("stopwatch/facts.matS", Rows.laid_stopwatch_facts_matS), ("stopwatch/facts.epochS", Rows.laid_stopwatch_facts_epochS), ("stopwatch/facts.chipS", Rows.laid_stopwatch_facts_chipS), ("stopwatch/facts.positionS", Rows.laid_stopwatch_facts_positionS), ("stopwatch/facts.caseS", Rows.laid_stopwatch_facts_caseS), ("stopwatch/facts.crewS", Rows.laid_stopwatch_facts_crewS), ("stopwatch/facts.numberS", Rows.laid_stopwatch_facts_numberS), ("stopwatch/facts.bitS", Rows.laid_stopwatch_facts_bitS)] [.widerDeep, .data, .data, .data, .data, .data, .data, .data, .data, .data, .data, .data, .data] true :=
  Program.laidByTextLater.sub seatTie1 ["stopwatch/digest.start", "stopwatch/digest.permutations", "stopwatch/facts.timeS", "stopwatch/facts.lengthS", "stopwatch/facts.bibS", "stopwatch/facts.matS", "stopwatch/facts.epochS", "stopwatch/facts.chipS", "stopwatch/facts.positionS", "stopwatch/facts.caseS", "stopwatch/facts.crewS", "stopwatch/facts.numberS", "stopwatch/facts.bitS"] (by kernel_rfl) (by kernel_rfl)
theorem remoteNewSpec_row_tie : Rows.remoteNewSpecRow.laidByTextAt .later Tryz.pinned [.widerDeep, .data, .data, .data, .data, .data, .data, .data, .data, .data, .data, .data, .data] true :=
  OpenClaim.laidByTextAt_later rfl rfl tie noOwnUnsafe
theorem remoteRecordSpec_row_tie : Rows.remoteRecordSpecRow.laidByTextAt .later Tryz.pinned [.widerDeep, .data, .data, .data, .data, .data, .data, .data, .data, .data, .data, .data, .data] true :=
  OpenClaim.laidByTextAt_later rfl rfl tie noOwnUnsafe
theorem remoteBatchSpec_row_tie : Rows.remoteBatchSpecRow.laidByTextAt .later Tryz.pinned [.widerDeep, .data, .data, .data, .data, .data, .data, .data, .data, .data, .data, .data, .data] true :=
  OpenClaim.laidByTextAt_later rfl rfl tie noOwnUnsafe
theorem remoteAgain_row_tie : Rows.remoteAgainRow.laidByTextAt .later Tryz.pinned [.widerDeep, .data, .data, .data, .data, .data, .data, .data, .data, .data, .data, .data, .data] true :=
  OpenClaim.laidByTextAt_later rfl rfl tie noOwnUnsafe
theorem remoteAltered_row_tie : Rows.remoteAlteredRow.laidByTextAt .later Tryz.pinned [.widerDeep, .data, .data, .data, .data, .data, .data, .data, .data, .data, .data, .data, .data] true :=
  OpenClaim.laidByTextAt_later rfl rfl tie noOwnUnsafe
theorem remoteNumbers_row_tie : Rows.remoteNumbersRow.laidByTextAt .later Tryz.pinned [.widerDeep, .data, .data, .data, .data, .data, .data, .data, .data, .data, .data, .data, .data] true :=
  OpenClaim.laidByTextAt_later rfl rfl tie noOwnUnsafe
theorem remoteDurable_row_tie : Rows.remoteDurableRow.laidByTextAt .later Tryz.pinned [.widerDeep, .data, .data, .data, .data, .data, .data, .data, .data, .data, .data, .data, .data] true :=
  OpenClaim.laidByTextAt_later rfl rfl tie noOwnUnsafe
theorem remoteNewSpecUpto_row_tie : Rows.remoteNewSpecUptoRow.laidByTextAt .later Tryz.pinned [.widerDeep, .data, .data, .data, .data, .data, .data, .data, .data, .data, .data, .data, .data] true :=
  OpenClaim.laidByTextAt_later rfl rfl tie noOwnUnsafe
theorem remoteRecordSpecUpto_row_tie : Rows.remoteRecordSpecUptoRow.laidByTextAt .later Tryz.pinned [.widerDeep, .data, .data, .data, .data, .data, .data, .data, .data, .data, .data, .data, .data] true :=
  OpenClaim.laidByTextAt_later rfl rfl tie noOwnUnsafe
theorem remoteBatchSpecUpto_row_tie : Rows.remoteBatchSpecUptoRow.laidByTextAt .later Tryz.pinned [.widerDeep, .data, .data, .data, .data, .data, .data, .data, .data, .data, .data, .data, .data] true :=
  OpenClaim.laidByTextAt_later rfl rfl tie noOwnUnsafe
theorem remoteAgainUpto_row_tie : Rows.remoteAgainUptoRow.laidByTextAt .later Tryz.pinned [.widerDeep, .data, .data, .data, .data, .data, .data, .data, .data, .data, .data, .data, .data] true :=
  OpenClaim.laidByTextAt_later rfl rfl tie noOwnUnsafe
theorem remoteAlteredUpto_row_tie : Rows.remoteAlteredUptoRow.laidByTextAt .later Tryz.pinned [.widerDeep, .data, .data, .data, .data, .data, .data, .data, .data, .data, .data, .data, .data] true :=
  OpenClaim.laidByTextAt_later rfl rfl tie noOwnUnsafe
theorem remoteNumbersUpto_row_tie : Rows.remoteNumbersUptoRow.laidByTextAt .later Tryz.pinned [.widerDeep, .data, .data, .data, .data, .data, .data, .data, .data, .data, .data, .data, .data] true :=
  OpenClaim.laidByTextAt_later rfl rfl tie noOwnUnsafe
theorem remoteDurableUpto_row_tie : Rows.remoteDurableUptoRow.laidByTextAt .later Tryz.pinned [.widerDeep, .data, .data, .data, .data, .data, .data, .data, .data, .data, .data, .data, .data] true :=
  OpenClaim.laidByTextAt_later rfl rfl tie noOwnUnsafe
end Go.Proofs.YtfgcgagcpnbgmaaGreatDoor
