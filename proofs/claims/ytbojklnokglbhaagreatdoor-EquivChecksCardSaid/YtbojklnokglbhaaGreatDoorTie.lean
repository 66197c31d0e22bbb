/-
  DERIVED. GIVEN WITH THE SEED: THE PROGRAM's TIES (one call each: nine closed facts by the kernel) AND EACH ROW's TIE, after the 31st guide's Derived/Test/Toyas{Tie, Card}.lean. No idea stands in it: it is a product of the set-up. Laid BY PROGRAM, IN A SANDBOX (cutbox-door.mjs). By AI agents, Wed Nov 11 2026. No macro, syntax, notation, axiom, sorry.
-/
import Derived.Test.YtbojklnokglbhaaGreatDoorRows
import Derived.LaidByTextLater
import Derived.SevenTiedAt
import Derived.LaidSub
import Derived.LaidOnce
namespace Go.Proofs.YtbojklnokglbhaaGreatDoor
open Go
set_option maxRecDepth 100000
theorem seatTie1 : Tryz.prog.laidByTextLater [("math/bits.deBruijn32tab", Rows.laid_math_bits_deBruijn32tab), ("math/bits.deBruijn64tab", Rows.laid_math_bits_deBruijn64tab), ("internal/strconv.uint64pow10", Rows.laid_internal_strconv_uint64pow10), ("scantling/heads.readies", Rows.laid_scantling_heads_readies), ("scantling/next.steps", Rows.laid_scantling_next_steps)] [.data, .data, .data, .data, .funcs] true :=
  Program.laidByTextLater_by_one 49 8 65 (by kernel_rfl) (by kernel_rfl) (by kernel_rfl) (by kernel_rfl) (by kernel_rfl) (by kernel_rfl) (fun _ _ => by kernel_rfl)
theorem noOwnUnsafe : Tryz.pinned.checked.prog.headLifts.contains "ownunsafe" = false := by kernel_rfl
theorem tie : Tryz.prog.laidByTextLater [("math/bits.deBruijn32tab", Rows.laid_math_bits_deBruijn32tab), ("math/bits.deBruijn64tab", Rows.laid_math_bits_deBruijn64tab), ("internal/strconv.uint64pow10", Rows.laid_internal_strconv_uint64pow10), ("scantling/heads.readies", Rows.laid_scantling_heads_readies), ("scantling/next.steps", Rows.laid_scantling_next_steps)] [.data, .data, .data, .data, .funcs] true :=
  Program.laidByTextLater.sub seatTie1 ["math/bits.deBruijn32tab", "math/bits.deBruijn64tab", "internal/strconv.uint64pow10", "scantling/heads.readies", "scantling/next.steps"] (by kernel_rfl) (by kernel_rfl)
theorem equivChecks_row_tie : Rows.equivChecksRow.laidByTextAt .later Tryz.pinned [.data, .data, .data, .data, .funcs] true :=
  OpenClaim.laidByTextAt_later rfl rfl tie noOwnUnsafe
theorem equivTurned_row_tie : Rows.equivTurnedRow.laidByTextAt .later Tryz.pinned [.data, .data, .data, .data, .funcs] true :=
  OpenClaim.laidByTextAt_later rfl rfl tie noOwnUnsafe
theorem equivBound_row_tie : Rows.equivBoundRow.laidByTextAt .later Tryz.pinned [.data, .data, .data, .data, .funcs] true :=
  OpenClaim.laidByTextAt_later rfl rfl tie noOwnUnsafe
theorem equivLinked_row_tie : Rows.equivLinkedRow.laidByTextAt .later Tryz.pinned [.data, .data, .data, .data, .funcs] true :=
  OpenClaim.laidByTextAt_later rfl rfl tie noOwnUnsafe
theorem equivTells_row_tie : Rows.equivTellsRow.laidByTextAt .later Tryz.pinned [.data, .data, .data, .data, .funcs] true :=
  OpenClaim.laidByTextAt_later rfl rfl tie noOwnUnsafe
theorem equivChecksUpto_row_tie : Rows.equivChecksUptoRow.laidByTextAt .later Tryz.pinned [.data, .data, .data, .data, .funcs] true :=
  OpenClaim.laidByTextAt_later rfl rfl tie noOwnUnsafe
theorem equivTurnedUpto_row_tie : Rows.equivTurnedUptoRow.laidByTextAt .later Tryz.pinned [.data, .data, .data, .data, .funcs] true :=
  OpenClaim.laidByTextAt_later rfl rfl tie noOwnUnsafe
theorem equivBoundUpto_row_tie : Rows.equivBoundUptoRow.laidByTextAt .later Tryz.pinned [.data, .data, .data, .data, .funcs] true :=
  OpenClaim.laidByTextAt_later rfl rfl tie noOwnUnsafe
theorem equivLinkedUpto_row_tie : Rows.equivLinkedUptoRow.laidByTextAt .later Tryz.pinned [.data, .data, .data, .data, .funcs] true :=
  OpenClaim.laidByTextAt_later rfl rfl tie noOwnUnsafe
theorem equivTellsUpto_row_tie : Rows.equivTellsUptoRow.laidByTextAt .later Tryz.pinned [.data, .data, .data, .data, .funcs] true :=
  OpenClaim.laidByTextAt_later rfl rfl tie noOwnUnsafe
end Go.Proofs.YtbojklnokglbhaaGreatDoor
