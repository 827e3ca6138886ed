/-
  DERIVED. GIVEN WITH THE SEED: THE PROGRAM's TIES (one call each: nine closed facts by the kernel) AND EACH ROW's TIE, after the 31st guide's Derived/Test/Toyas{Tie, Card}.lean. No idea stands in it: it is a product of the set-up. Laid BY PROGRAM, IN A SANDBOX (cutbox-door.mjs). By AI agents, Wed Nov 11 2026. No macro, syntax, notation, axiom, sorry.
-/
import Derived.Test.YtalmmiojbmpmiaaGreatDoorRows
import Derived.LaidByTextLater
import Derived.SevenTiedAt
import Derived.LaidSub
import Derived.LaidOnce
namespace Go.Proofs.YtalmmiojbmpmiaaGreatDoor
open Go
set_option maxRecDepth 100000
theorem seatTie1 : Tryz.prog.laidByTextLater [("traveldoc/traveldocref04.constants", Rows.laid_traveldoc_traveldocref04_constants), ("traveldoc/digest.constants", Rows.laid_traveldoc_digest_constants)] [.data, .data] true :=
  Program.laidByTextLater_by_one 19 8 65 (by kernel_rfl) (by kernel_rfl) (by kernel_rfl) (by kernel_rfl) (by kernel_rfl) (by kernel_rfl) (fun _ _ => by kernel_rfl)
theorem noOwnUnsafe : Tryz.pinned.checked.prog.headLifts.contains "ownunsafe" = false := by kernel_rfl
theorem tie : Tryz.prog.laidByTextLater [("traveldoc/traveldocref04.constants", Rows.laid_traveldoc_traveldocref04_constants), ("traveldoc/digest.constants", Rows.laid_traveldoc_digest_constants)] [.data, .data] true :=
  Program.laidByTextLater.sub seatTie1 ["traveldoc/traveldocref04.constants", "traveldoc/digest.constants"] (by kernel_rfl) (by kernel_rfl)
theorem passwordKeys_row_tie : Rows.passwordKeysRow.laidByTextAt .later Tryz.pinned [.data, .data] true :=
  OpenClaim.laidByTextAt_later rfl rfl tie noOwnUnsafe
theorem passwordMaps_row_tie : Rows.passwordMapsRow.laidByTextAt .later Tryz.pinned [.data, .data] true :=
  OpenClaim.laidByTextAt_later rfl rfl tie noOwnUnsafe
theorem passwordSteps_row_tie : Rows.passwordStepsRow.laidByTextAt .later Tryz.pinned [.data, .data] true :=
  OpenClaim.laidByTextAt_later rfl rfl tie noOwnUnsafe
theorem passwordRuns_row_tie : Rows.passwordRunsRow.laidByTextAt .later Tryz.pinned [.data, .data] true :=
  OpenClaim.laidByTextAt_later rfl rfl tie noOwnUnsafe
theorem tie2 : Tryz.prog.laidByTextLater [("traveldoc/digest.constants", Rows.laid_traveldoc_digest_constants)] [.data] true :=
  Program.laidByTextLater.sub seatTie1 ["traveldoc/digest.constants"] (by kernel_rfl) (by kernel_rfl)
theorem passwordBegins_row_tie : Rows.passwordBeginsRow.laidByTextAt .later Tryz.pinned [.data] true :=
  OpenClaim.laidByTextAt_later rfl rfl tie2 noOwnUnsafe
theorem passwordAgrees_row_tie : Rows.passwordAgreesRow.laidByTextAt .later Tryz.pinned [.data] true :=
  OpenClaim.laidByTextAt_later rfl rfl tie2 noOwnUnsafe
theorem passwordShapes_row_tie : Rows.passwordShapesRow.laidByTextAt .later Tryz.pinned [.data] true :=
  OpenClaim.laidByTextAt_later rfl rfl tie2 noOwnUnsafe
theorem passwordKeysUpto_row_tie : Rows.passwordKeysUptoRow.laidByTextAt .later Tryz.pinned [.data, .data] true :=
  OpenClaim.laidByTextAt_later rfl rfl tie noOwnUnsafe
theorem passwordMapsUpto_row_tie : Rows.passwordMapsUptoRow.laidByTextAt .later Tryz.pinned [.data, .data] true :=
  OpenClaim.laidByTextAt_later rfl rfl tie noOwnUnsafe
theorem passwordBeginsUpto_row_tie : Rows.passwordBeginsUptoRow.laidByTextAt .later Tryz.pinned [.data] true :=
  OpenClaim.laidByTextAt_later rfl rfl tie2 noOwnUnsafe
theorem passwordStepsUpto_row_tie : Rows.passwordStepsUptoRow.laidByTextAt .later Tryz.pinned [.data, .data] true :=
  OpenClaim.laidByTextAt_later rfl rfl tie noOwnUnsafe
theorem passwordRunsUpto_row_tie : Rows.passwordRunsUptoRow.laidByTextAt .later Tryz.pinned [.data, .data] true :=
  OpenClaim.laidByTextAt_later rfl rfl tie noOwnUnsafe
theorem passwordAgreesUpto_row_tie : Rows.passwordAgreesUptoRow.laidByTextAt .later Tryz.pinned [.data] true :=
  OpenClaim.laidByTextAt_later rfl rfl tie2 noOwnUnsafe
theorem passwordShapesUpto_row_tie : Rows.passwordShapesUptoRow.laidByTextAt .later Tryz.pinned [.data] true :=
  OpenClaim.laidByTextAt_later rfl rfl tie2 noOwnUnsafe
end Go.Proofs.YtalmmiojbmpmiaaGreatDoor
