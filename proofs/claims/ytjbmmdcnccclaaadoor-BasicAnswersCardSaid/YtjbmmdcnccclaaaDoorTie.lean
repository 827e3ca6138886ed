/-
  DERIVED. GIVEN WITH THE SEED: THE PROGRAM's TIES (one call each: nine closed facts by the kernel) AND EACH ROW's TIE, after the 31st guide's Derived/Test/Toyas{Tie, Card}.lean. No idea stands in it: it is a product of the set-up. Laid BY PROGRAM, IN A SANDBOX (cutbox-door.mjs). By AI agents, Wed Nov 11 2026. No macro, syntax, notation, axiom, sorry.
-/
import Derived.Test.YtjbmmdcnccclaaaDoorRows
import Derived.LaidByTextLater
import Derived.SevenTiedAt
import Derived.LaidSub
import Derived.LaidOnce
namespace Go.Proofs.YtjbmmdcnccclaaaDoor
open Go
set_option maxRecDepth 100000
theorem seatTie1 : Tryd.prog.laidByTextLater [("traveldoc/traveldocref04.constants", Rows.laid_traveldoc_traveldocref04_constants), ("traveldoc/digest.constants", Rows.laid_traveldoc_digest_constants)] [.data, .data] true :=
  Program.laidByTextLater_by_one 19 8 65 (by kernel_rfl) (by kernel_rfl) (by kernel_rfl) (by kernel_rfl) (by kernel_rfl) (by kernel_rfl) (fun _ _ => by kernel_rfl)
theorem noOwnUnsafe : Tryd.pinned.checked.prog.headLifts.contains "ownunsafe" = false := by kernel_rfl
theorem tie : Tryd.prog.laidByTextLater [("traveldoc/traveldocref04.constants", Rows.laid_traveldoc_traveldocref04_constants), ("traveldoc/digest.constants", Rows.laid_traveldoc_digest_constants)] [.data, .data] true :=
  Program.laidByTextLater.sub seatTie1 ["traveldoc/traveldocref04.constants", "traveldoc/digest.constants"] (by kernel_rfl) (by kernel_rfl)
theorem basicAsks_row_tie : Rows.basicAsksRow.laidByTextAt .later Tryd.pinned [.data, .data] true :=
  OpenClaim.laidByTextAt_later rfl rfl tie noOwnUnsafe
theorem basicAnswers_row_tie : Rows.basicAnswersRow.laidByTextAt .later Tryd.pinned [.data, .data] true :=
  OpenClaim.laidByTextAt_later rfl rfl tie noOwnUnsafe
theorem tie2 : Tryd.prog.laidByTextLater [("traveldoc/digest.constants", Rows.laid_traveldoc_digest_constants)] [.data] true :=
  Program.laidByTextLater.sub seatTie1 ["traveldoc/digest.constants"] (by kernel_rfl) (by kernel_rfl)
theorem basicAgrees_row_tie : Rows.basicAgreesRow.laidByTextAt .later Tryd.pinned [.data] true :=
  OpenClaim.laidByTextAt_later rfl rfl tie2 noOwnUnsafe
theorem basicReplays_row_tie : Rows.basicReplaysRow.laidByTextAt .later Tryd.pinned [.data] true :=
  OpenClaim.laidByTextAt_later rfl rfl tie2 noOwnUnsafe
theorem basicAsksUpto_row_tie : Rows.basicAsksUptoRow.laidByTextAt .later Tryd.pinned [.data, .data] true :=
  OpenClaim.laidByTextAt_later rfl rfl tie noOwnUnsafe
theorem basicAnswersUpto_row_tie : Rows.basicAnswersUptoRow.laidByTextAt .later Tryd.pinned [.data, .data] true :=
  OpenClaim.laidByTextAt_later rfl rfl tie noOwnUnsafe
theorem basicAgreesUpto_row_tie : Rows.basicAgreesUptoRow.laidByTextAt .later Tryd.pinned [.data] true :=
  OpenClaim.laidByTextAt_later rfl rfl tie2 noOwnUnsafe
theorem basicReplaysUpto_row_tie : Rows.basicReplaysUptoRow.laidByTextAt .later Tryd.pinned [.data] true :=
  OpenClaim.laidByTextAt_later rfl rfl tie2 noOwnUnsafe
end Go.Proofs.YtjbmmdcnccclaaaDoor
