/-
  DERIVED. GIVEN WITH THE SEED: THE PROGRAM's TIES (one call each: nine closed facts by the kernel) AND EACH ROW's TIE, after the 31st guide's Derived/Test/Toyas{Tie, Card}.lean. No idea stands in it: it is a product of the set-up. Laid BY PROGRAM, IN A SANDBOX (cutbox-door.mjs). By AI agents, Wed Nov 11 2026. No macro, syntax, notation, axiom, sorry.
-/
import Derived.Test.YtaaeeabpbmigoaaGreatDoorRows
import Derived.LaidByTextLater
import Derived.SevenTiedAt
import Derived.LaidSub
import Derived.LaidOnce
namespace Go.Proofs.YtaaeeabpbmigoaaGreatDoor
open Go
set_option maxRecDepth 100000
theorem seatTie1 : Tryz.prog.laidByTextLater [("math/bits.deBruijn32tab", Rows.laid_math_bits_deBruijn32tab), ("math/bits.deBruijn64tab", Rows.laid_math_bits_deBruijn64tab), ("internal/strconv.uint64pow10", Rows.laid_internal_strconv_uint64pow10), ("tsblock/crc.table", Rows.laid_tsblock_crc_table), ("errors.errorType", Rows.laid_errors_errorType), ("tsblock/times.forms", Rows.laid_tsblock_times_forms), ("tsblock/verify.words", Rows.laid_tsblock_verify_words)] [.data, .data, .data, .data, .handle, .data, .data] true :=
  Program.laidByTextLater_by_one 51 8 65 (by kernel_rfl) (by kernel_rfl) (by kernel_rfl) (by kernel_rfl) (by kernel_rfl) (by kernel_rfl) (fun _ _ => by kernel_rfl)
theorem noOwnUnsafe : Tryz.pinned.checked.prog.headLifts.contains "ownunsafe" = false := by kernel_rfl
theorem tie : Tryz.prog.laidByTextLater [("math/bits.deBruijn64tab", Rows.laid_math_bits_deBruijn64tab), ("tsblock/crc.table", Rows.laid_tsblock_crc_table), ("tsblock/times.forms", Rows.laid_tsblock_times_forms)] [.data, .data, .data] true :=
  Program.laidByTextLater.sub seatTie1 ["math/bits.deBruijn64tab", "tsblock/crc.table", "tsblock/times.forms"] (by kernel_rfl) (by kernel_rfl)
theorem queryFilters_row_tie : Rows.queryFiltersRow.laidByTextAt .later Tryz.pinned [.data, .data, .data] true :=
  OpenClaim.laidByTextAt_later rfl rfl tie noOwnUnsafe
theorem querySelects_row_tie : Rows.querySelectsRow.laidByTextAt .later Tryz.pinned [.data, .data, .data] true :=
  OpenClaim.laidByTextAt_later rfl rfl tie noOwnUnsafe
theorem queryOpens_row_tie : Rows.queryOpensRow.laidByTextAt .later Tryz.pinned [.data, .data, .data] true :=
  OpenClaim.laidByTextAt_later rfl rfl tie noOwnUnsafe
theorem querySplits_row_tie : Rows.querySplitsRow.laidByTextAt .later Tryz.pinned [.data, .data, .data] true :=
  OpenClaim.laidByTextAt_later rfl rfl tie noOwnUnsafe
theorem queryValues_row_tie : Rows.queryValuesRow.laidByTextAt .later Tryz.pinned [.data, .data, .data] true :=
  OpenClaim.laidByTextAt_later rfl rfl tie noOwnUnsafe
theorem decodeChunks_row_tie : Rows.decodeChunksRow.laidByTextAt .later Tryz.pinned [.data, .data, .data] true :=
  OpenClaim.laidByTextAt_later rfl rfl tie noOwnUnsafe
theorem tie2 : Tryz.prog.laidByTextLater [("math/bits.deBruijn64tab", Rows.laid_math_bits_deBruijn64tab), ("tsblock/crc.table", Rows.laid_tsblock_crc_table), ("errors.errorType", Rows.laid_errors_errorType), ("tsblock/times.forms", Rows.laid_tsblock_times_forms)] [.data, .data, .handle, .data] true :=
  Program.laidByTextLater.sub seatTie1 ["math/bits.deBruijn64tab", "tsblock/crc.table", "errors.errorType", "tsblock/times.forms"] (by kernel_rfl) (by kernel_rfl)
theorem verifyReports_row_tie : Rows.verifyReportsRow.laidByTextAt .later Tryz.pinned [.data, .data, .handle, .data] true :=
  OpenClaim.laidByTextAt_later rfl rfl tie2 noOwnUnsafe
theorem verifyAccepts_row_tie : Rows.verifyAcceptsRow.laidByTextAt .later Tryz.pinned [.data, .data, .handle, .data] true :=
  OpenClaim.laidByTextAt_later rfl rfl tie2 noOwnUnsafe
theorem verifyFindsDamage_row_tie : Rows.verifyFindsDamageRow.laidByTextAt .later Tryz.pinned [.data, .data, .handle, .data] true :=
  OpenClaim.laidByTextAt_later rfl rfl tie2 noOwnUnsafe
theorem verifyClasses_row_tie : Rows.verifyClassesRow.laidByTextAt .later Tryz.pinned [.data, .data, .handle, .data] true :=
  OpenClaim.laidByTextAt_later rfl rfl tie2 noOwnUnsafe
theorem verifyChecks_row_tie : Rows.verifyChecksRow.laidByTextAt .later Tryz.pinned [.data, .data, .handle, .data] true :=
  OpenClaim.laidByTextAt_later rfl rfl tie2 noOwnUnsafe
theorem tie3 : Tryz.prog.laidByTextLater [("math/bits.deBruijn32tab", Rows.laid_math_bits_deBruijn32tab), ("math/bits.deBruijn64tab", Rows.laid_math_bits_deBruijn64tab), ("internal/strconv.uint64pow10", Rows.laid_internal_strconv_uint64pow10), ("tsblock/crc.table", Rows.laid_tsblock_crc_table), ("errors.errorType", Rows.laid_errors_errorType), ("tsblock/times.forms", Rows.laid_tsblock_times_forms), ("tsblock/verify.words", Rows.laid_tsblock_verify_words)] [.data, .data, .data, .data, .handle, .data, .data] true :=
  Program.laidByTextLater.sub seatTie1 ["math/bits.deBruijn32tab", "math/bits.deBruijn64tab", "internal/strconv.uint64pow10", "tsblock/crc.table", "errors.errorType", "tsblock/times.forms", "tsblock/verify.words"] (by kernel_rfl) (by kernel_rfl)
theorem verifyTexts_row_tie : Rows.verifyTextsRow.laidByTextAt .later Tryz.pinned [.data, .data, .data, .data, .handle, .data, .data] true :=
  OpenClaim.laidByTextAt_later rfl rfl tie3 noOwnUnsafe
theorem queryFiltersUpto_row_tie : Rows.queryFiltersUptoRow.laidByTextAt .later Tryz.pinned [.data, .data, .data] true :=
  OpenClaim.laidByTextAt_later rfl rfl tie noOwnUnsafe
theorem querySelectsUpto_row_tie : Rows.querySelectsUptoRow.laidByTextAt .later Tryz.pinned [.data, .data, .data] true :=
  OpenClaim.laidByTextAt_later rfl rfl tie noOwnUnsafe
theorem queryOpensUpto_row_tie : Rows.queryOpensUptoRow.laidByTextAt .later Tryz.pinned [.data, .data, .data] true :=
  OpenClaim.laidByTextAt_later rfl rfl tie noOwnUnsafe
theorem querySplitsUpto_row_tie : Rows.querySplitsUptoRow.laidByTextAt .later Tryz.pinned [.data, .data, .data] true :=
  OpenClaim.laidByTextAt_later rfl rfl tie noOwnUnsafe
theorem queryValuesUpto_row_tie : Rows.queryValuesUptoRow.laidByTextAt .later Tryz.pinned [.data, .data, .data] true :=
  OpenClaim.laidByTextAt_later rfl rfl tie noOwnUnsafe
theorem verifyReportsUpto_row_tie : Rows.verifyReportsUptoRow.laidByTextAt .later Tryz.pinned [.data, .data, .handle, .data] true :=
  OpenClaim.laidByTextAt_later rfl rfl tie2 noOwnUnsafe
theorem verifyTextsUpto_row_tie : Rows.verifyTextsUptoRow.laidByTextAt .later Tryz.pinned [.data, .data, .data, .data, .handle, .data, .data] true :=
  OpenClaim.laidByTextAt_later rfl rfl tie3 noOwnUnsafe
theorem verifyAcceptsUpto_row_tie : Rows.verifyAcceptsUptoRow.laidByTextAt .later Tryz.pinned [.data, .data, .handle, .data] true :=
  OpenClaim.laidByTextAt_later rfl rfl tie2 noOwnUnsafe
theorem verifyFindsDamageUpto_row_tie : Rows.verifyFindsDamageUptoRow.laidByTextAt .later Tryz.pinned [.data, .data, .handle, .data] true :=
  OpenClaim.laidByTextAt_later rfl rfl tie2 noOwnUnsafe
theorem verifyClassesUpto_row_tie : Rows.verifyClassesUptoRow.laidByTextAt .later Tryz.pinned [.data, .data, .handle, .data] true :=
  OpenClaim.laidByTextAt_later rfl rfl tie2 noOwnUnsafe
theorem verifyChecksUpto_row_tie : Rows.verifyChecksUptoRow.laidByTextAt .later Tryz.pinned [.data, .data, .handle, .data] true :=
  OpenClaim.laidByTextAt_later rfl rfl tie2 noOwnUnsafe
theorem decodeChunksUpto_row_tie : Rows.decodeChunksUptoRow.laidByTextAt .later Tryz.pinned [.data, .data, .data] true :=
  OpenClaim.laidByTextAt_later rfl rfl tie noOwnUnsafe
end Go.Proofs.YtaaeeabpbmigoaaGreatDoor
