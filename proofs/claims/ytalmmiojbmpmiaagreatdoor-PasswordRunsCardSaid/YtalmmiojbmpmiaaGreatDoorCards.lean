/-
  DERIVED. GIVEN WITH THE SEED: THE CARDS: each row of YtalmmiojbmpmiaaGreatDoorRows.lean that lists a variable, with what it lists TIED to the program's text (the seventh form; the later family's looks); each row that meets fmt, with fmt's text TOLD by the authors' own Lean function (tested against real Go, not proved from fmt's source: count such statements apart). THE CARD IS WHAT COUNTS. Prove the row's statement (the work); the ties are given (YtalmmiojbmpmiaaGreatDoorTie.lean); close each card by the builder's one call (the guide's Derived/Test/ToyasCard.lean, 'card_holds'). Laid BY PROGRAM, IN A SANDBOX (cutbox-door.mjs). By AI agents, Wed Nov 11 2026. No macro, syntax, notation, axiom, sorry.
-/
import Derived.Test.YtalmmiojbmpmiaaGreatDoorRows
import GoSem.ClaimSeven
namespace Go.Proofs.YtalmmiojbmpmiaaGreatDoor
namespace Rows

/-- THE TIED CARD OF 'traveldoclaw21.PasswordKeys'. -/
def passwordKeysCard : Claim7 := { stood := { row := passwordKeysRow, standIns := [], harness := (true, "89435deedd2070af58b7807a70e6e743681a8e0d8d0f046b07f8e97991586eaa"), looks := false }, kinds := [], alts := [], laidByText := true, laidKinds := [.data, .data], laidTests := true, laidLooks := .later }
def PasswordKeysCardSaid : Prop := Claim7.holds Tryz.pinned (.plain (OpenSpec.ofChange passwordKeysSpec)) passwordKeysCard

/-- THE TIED CARD OF 'traveldoclaw21.PasswordMaps'. -/
def passwordMapsCard : Claim7 := { stood := { row := passwordMapsRow, standIns := [], harness := (true, "89435deedd2070af58b7807a70e6e743681a8e0d8d0f046b07f8e97991586eaa"), looks := false }, kinds := [], alts := [], laidByText := true, laidKinds := [.data, .data], laidTests := true, laidLooks := .later }
def PasswordMapsCardSaid : Prop := Claim7.holds Tryz.pinned (.plain (OpenSpec.ofChange passwordMapsSpec)) passwordMapsCard

/-- THE TIED CARD OF 'traveldoclaw21.PasswordBegins'. -/
def passwordBeginsCard : Claim7 := { stood := { row := passwordBeginsRow, standIns := [], harness := (true, "89435deedd2070af58b7807a70e6e743681a8e0d8d0f046b07f8e97991586eaa"), looks := false }, kinds := [], alts := [], laidByText := true, laidKinds := [.data], laidTests := true, laidLooks := .later }
def PasswordBeginsCardSaid : Prop := Claim7.holds Tryz.pinned (.plain (OpenSpec.ofChange passwordBeginsSpec)) passwordBeginsCard

/-- THE TIED CARD OF 'traveldoclaw21.PasswordSteps'. -/
def passwordStepsCard : Claim7 := { stood := { row := passwordStepsRow, standIns := [], harness := (true, "89435deedd2070af58b7807a70e6e743681a8e0d8d0f046b07f8e97991586eaa"), looks := false }, kinds := [], alts := [], laidByText := true, laidKinds := [.data, .data], laidTests := true, laidLooks := .later }
def PasswordStepsCardSaid : Prop := Claim7.holds Tryz.pinned (.plain (OpenSpec.ofChange passwordStepsSpec)) passwordStepsCard

/-- THE TIED CARD OF 'traveldoclaw21.PasswordRuns'. -/
def passwordRunsCard : Claim7 := { stood := { row := passwordRunsRow, standIns := [], harness := (true, "89435deedd2070af58b7807a70e6e743681a8e0d8d0f046b07f8e97991586eaa"), looks := false }, kinds := [], alts := [], laidByText := true, laidKinds := [.data, .data], laidTests := true, laidLooks := .later }
def PasswordRunsCardSaid : Prop := Claim7.holds Tryz.pinned (.plain (OpenSpec.ofChange passwordRunsSpec)) passwordRunsCard

/-- THE TIED CARD OF 'traveldoclaw21.PasswordAgrees'. -/
def passwordAgreesCard : Claim7 := { stood := { row := passwordAgreesRow, standIns := [], harness := (true, "89435deedd2070af58b7807a70e6e743681a8e0d8d0f046b07f8e97991586eaa"), looks := false }, kinds := [], alts := [], laidByText := true, laidKinds := [.data], laidTests := true, laidLooks := .later }
def PasswordAgreesCardSaid : Prop := Claim7.holds Tryz.pinned (.plain (OpenSpec.ofChange passwordAgreesSpec)) passwordAgreesCard

/-- THE TIED CARD OF 'traveldoclaw21.PasswordShapes'. -/
def passwordShapesCard : Claim7 := { stood := { row := passwordShapesRow, standIns := [], harness := (true, "89435deedd2070af58b7807a70e6e743681a8e0d8d0f046b07f8e97991586eaa"), looks := false }, kinds := [], alts := [], laidByText := true, laidKinds := [.data], laidTests := true, laidLooks := .later }
def PasswordShapesCardSaid : Prop := Claim7.holds Tryz.pinned (.plain (OpenSpec.ofChange passwordShapesSpec)) passwordShapesCard

/-- THE SECOND FORM's CARD OF 'traveldoclaw21.PasswordKeys'. -/
def passwordKeysUptoCard : Claim7 := { stood := { row := passwordKeysUptoRow, standIns := [], harness := (true, "89435deedd2070af58b7807a70e6e743681a8e0d8d0f046b07f8e97991586eaa"), looks := false }, kinds := [], alts := [], laidByText := true, laidKinds := [.data, .data], laidTests := true, laidLooks := .later }
def PasswordKeysUptoCardSaid : Prop := Claim7.holds Tryz.pinned (.plain (OpenSpec.upto passwordKeysSpec)) passwordKeysUptoCard

/-- THE SECOND FORM's CARD OF 'traveldoclaw21.PasswordMaps'. -/
def passwordMapsUptoCard : Claim7 := { stood := { row := passwordMapsUptoRow, standIns := [], harness := (true, "89435deedd2070af58b7807a70e6e743681a8e0d8d0f046b07f8e97991586eaa"), looks := false }, kinds := [], alts := [], laidByText := true, laidKinds := [.data, .data], laidTests := true, laidLooks := .later }
def PasswordMapsUptoCardSaid : Prop := Claim7.holds Tryz.pinned (.plain (OpenSpec.upto passwordMapsSpec)) passwordMapsUptoCard

/-- THE SECOND FORM's CARD OF 'traveldoclaw21.PasswordBegins'. -/
def passwordBeginsUptoCard : Claim7 := { stood := { row := passwordBeginsUptoRow, standIns := [], harness := (true, "89435deedd2070af58b7807a70e6e743681a8e0d8d0f046b07f8e97991586eaa"), looks := false }, kinds := [], alts := [], laidByText := true, laidKinds := [.data], laidTests := true, laidLooks := .later }
def PasswordBeginsUptoCardSaid : Prop := Claim7.holds Tryz.pinned (.plain (OpenSpec.upto passwordBeginsSpec)) passwordBeginsUptoCard

/-- THE SECOND FORM's CARD OF 'traveldoclaw21.PasswordSteps'. -/
def passwordStepsUptoCard : Claim7 := { stood := { row := passwordStepsUptoRow, standIns := [], harness := (true, "89435deedd2070af58b7807a70e6e743681a8e0d8d0f046b07f8e97991586eaa"), looks := false }, kinds := [], alts := [], laidByText := true, laidKinds := [.data, .data], laidTests := true, laidLooks := .later }
def PasswordStepsUptoCardSaid : Prop := Claim7.holds Tryz.pinned (.plain (OpenSpec.upto passwordStepsSpec)) passwordStepsUptoCard

/-- THE SECOND FORM's CARD OF 'traveldoclaw21.PasswordRuns'. -/
def passwordRunsUptoCard : Claim7 := { stood := { row := passwordRunsUptoRow, standIns := [], harness := (true, "89435deedd2070af58b7807a70e6e743681a8e0d8d0f046b07f8e97991586eaa"), looks := false }, kinds := [], alts := [], laidByText := true, laidKinds := [.data, .data], laidTests := true, laidLooks := .later }
def PasswordRunsUptoCardSaid : Prop := Claim7.holds Tryz.pinned (.plain (OpenSpec.upto passwordRunsSpec)) passwordRunsUptoCard

/-- THE SECOND FORM's CARD OF 'traveldoclaw21.PasswordAgrees'. -/
def passwordAgreesUptoCard : Claim7 := { stood := { row := passwordAgreesUptoRow, standIns := [], harness := (true, "89435deedd2070af58b7807a70e6e743681a8e0d8d0f046b07f8e97991586eaa"), looks := false }, kinds := [], alts := [], laidByText := true, laidKinds := [.data], laidTests := true, laidLooks := .later }
def PasswordAgreesUptoCardSaid : Prop := Claim7.holds Tryz.pinned (.plain (OpenSpec.upto passwordAgreesSpec)) passwordAgreesUptoCard

/-- THE SECOND FORM's CARD OF 'traveldoclaw21.PasswordShapes'. -/
def passwordShapesUptoCard : Claim7 := { stood := { row := passwordShapesUptoRow, standIns := [], harness := (true, "89435deedd2070af58b7807a70e6e743681a8e0d8d0f046b07f8e97991586eaa"), looks := false }, kinds := [], alts := [], laidByText := true, laidKinds := [.data], laidTests := true, laidLooks := .later }
def PasswordShapesUptoCardSaid : Prop := Claim7.holds Tryz.pinned (.plain (OpenSpec.upto passwordShapesSpec)) passwordShapesUptoCard
end Rows
end Go.Proofs.YtalmmiojbmpmiaaGreatDoor
