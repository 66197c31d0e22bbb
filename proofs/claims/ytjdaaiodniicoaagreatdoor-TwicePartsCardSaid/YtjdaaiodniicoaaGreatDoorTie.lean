/-
  DERIVED. GIVEN WITH THE SEED: THE PROGRAM's TIES (one call each: nine closed facts by the kernel) AND EACH ROW's TIE, after the 31st guide's Derived/Test/Toyas{Tie, Card}.lean. No idea stands in it: it is a product of the set-up. Laid BY PROGRAM, IN A SANDBOX (cutbox-door.mjs). By AI agents, Wed Nov 11 2026. No macro, syntax, notation, axiom, sorry.
-/
import Derived.Test.YtjdaaiodniicoaaGreatDoorRows
import Derived.LaidByTextLater
import Derived.SevenTiedAt
import Derived.LaidSub
import Derived.LaidOnce
namespace Go.Proofs.YtjdaaiodniicoaaGreatDoor
open Go
set_option maxRecDepth 100000
theorem seatTie1 : Tryz.prog.laidByTextLater [("math/bits.deBruijn32tab", Rows.laid_math_bits_deBruijn32tab), ("math/bits.deBruijn64tab", Rows.laid_math_bits_deBruijn64tab), ("internal/strconv.uint64pow10", Rows.laid_internal_strconv_uint64pow10), ("scantling/heads.readies", Rows.laid_scantling_heads_readies), ("scantling/next.steps", Rows.laid_scantling_next_steps)] [.data, .data, .data, .data, .funcs] true :=
  Program.laidByTextLater_by_one 49 8 65 (by kernel_rfl) (by kernel_rfl) (by kernel_rfl) (by kernel_rfl) (by kernel_rfl) (by kernel_rfl) (fun _ _ => by kernel_rfl)
theorem noOwnUnsafe : Tryz.pinned.checked.prog.headLifts.contains "ownunsafe" = false := by kernel_rfl
theorem tie : Tryz.prog.laidByTextLater [("math/bits.deBruijn32tab", Rows.laid_math_bits_deBruijn32tab), ("math/bits.deBruijn64tab", Rows.laid_math_bits_deBruijn64tab), ("internal/strconv.uint64pow10", Rows.laid_internal_strconv_uint64pow10), ("scantling/heads.readies", Rows.laid_scantling_heads_readies), ("scantling/next.steps", Rows.laid_scantling_next_steps)] [.data, .data, .data, .data, .funcs] true :=
  Program.laidByTextLater.sub seatTie1 ["math/bits.deBruijn32tab", "math/bits.deBruijn64tab", "internal/strconv.uint64pow10", "scantling/heads.readies", "scantling/next.steps"] (by kernel_rfl) (by kernel_rfl)
theorem apartParts_row_tie : Rows.apartPartsRow.laidByTextAt .later Tryz.pinned [.data, .data, .data, .data, .funcs] true :=
  OpenClaim.laidByTextAt_later rfl rfl tie noOwnUnsafe
theorem twiceParts_row_tie : Rows.twicePartsRow.laidByTextAt .later Tryz.pinned [.data, .data, .data, .data, .funcs] true :=
  OpenClaim.laidByTextAt_later rfl rfl tie noOwnUnsafe
theorem twiceBuilt_row_tie : Rows.twiceBuiltRow.laidByTextAt .later Tryz.pinned [.data, .data, .data, .data, .funcs] true :=
  OpenClaim.laidByTextAt_later rfl rfl tie noOwnUnsafe
theorem twiceBound_row_tie : Rows.twiceBoundRow.laidByTextAt .later Tryz.pinned [.data, .data, .data, .data, .funcs] true :=
  OpenClaim.laidByTextAt_later rfl rfl tie noOwnUnsafe
theorem prefixBuilt_row_tie : Rows.prefixBuiltRow.laidByTextAt .later Tryz.pinned [.data, .data, .data, .data, .funcs] true :=
  OpenClaim.laidByTextAt_later rfl rfl tie noOwnUnsafe
theorem prefixCut_row_tie : Rows.prefixCutRow.laidByTextAt .later Tryz.pinned [.data, .data, .data, .data, .funcs] true :=
  OpenClaim.laidByTextAt_later rfl rfl tie noOwnUnsafe
theorem prefixBound_row_tie : Rows.prefixBoundRow.laidByTextAt .later Tryz.pinned [.data, .data, .data, .data, .funcs] true :=
  OpenClaim.laidByTextAt_later rfl rfl tie noOwnUnsafe
theorem prefixTells_row_tie : Rows.prefixTellsRow.laidByTextAt .later Tryz.pinned [.data, .data, .data, .data, .funcs] true :=
  OpenClaim.laidByTextAt_later rfl rfl tie noOwnUnsafe
theorem apartBound_row_tie : Rows.apartBoundRow.laidByTextAt .later Tryz.pinned [.data, .data, .data, .data, .funcs] true :=
  OpenClaim.laidByTextAt_later rfl rfl tie noOwnUnsafe
theorem apartPartsUpto_row_tie : Rows.apartPartsUptoRow.laidByTextAt .later Tryz.pinned [.data, .data, .data, .data, .funcs] true :=
  OpenClaim.laidByTextAt_later rfl rfl tie noOwnUnsafe
theorem twicePartsUpto_row_tie : Rows.twicePartsUptoRow.laidByTextAt .later Tryz.pinned [.data, .data, .data, .data, .funcs] true :=
  OpenClaim.laidByTextAt_later rfl rfl tie noOwnUnsafe
theorem twiceBuiltUpto_row_tie : Rows.twiceBuiltUptoRow.laidByTextAt .later Tryz.pinned [.data, .data, .data, .data, .funcs] true :=
  OpenClaim.laidByTextAt_later rfl rfl tie noOwnUnsafe
theorem twiceBoundUpto_row_tie : Rows.twiceBoundUptoRow.laidByTextAt .later Tryz.pinned [.data, .data, .data, .data, .funcs] true :=
  OpenClaim.laidByTextAt_later rfl rfl tie noOwnUnsafe
theorem prefixBuiltUpto_row_tie : Rows.prefixBuiltUptoRow.laidByTextAt .later Tryz.pinned [.data, .data, .data, .data, .funcs] true :=
  OpenClaim.laidByTextAt_later rfl rfl tie noOwnUnsafe
theorem prefixCutUpto_row_tie : Rows.prefixCutUptoRow.laidByTextAt .later Tryz.pinned [.data, .data, .data, .data, .funcs] true :=
  OpenClaim.laidByTextAt_later rfl rfl tie noOwnUnsafe
theorem prefixBoundUpto_row_tie : Rows.prefixBoundUptoRow.laidByTextAt .later Tryz.pinned [.data, .data, .data, .data, .funcs] true :=
  OpenClaim.laidByTextAt_later rfl rfl tie noOwnUnsafe
theorem prefixTellsUpto_row_tie : Rows.prefixTellsUptoRow.laidByTextAt .later Tryz.pinned [.data, .data, .data, .data, .funcs] true :=
  OpenClaim.laidByTextAt_later rfl rfl tie noOwnUnsafe
theorem apartBoundUpto_row_tie : Rows.apartBoundUptoRow.laidByTextAt .later Tryz.pinned [.data, .data, .data, .data, .funcs] true :=
  OpenClaim.laidByTextAt_later rfl rfl tie noOwnUnsafe
end Go.Proofs.YtjdaaiodniicoaaGreatDoor
