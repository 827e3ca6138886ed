/-
  DERIVED. GIVEN WITH THE SEED: THE CARDS: each row of YtjbmmdcnccclaaaDoorRows.lean that lists a variable, with what it lists TIED to the program's text (the seventh form; the later family's looks); each row that meets fmt, with fmt's text TOLD by the authors' own Lean function (tested against real Go, not proved from fmt's source: count such statements apart). THE CARD IS WHAT COUNTS. Prove the row's statement (the work); the ties are given (YtjbmmdcnccclaaaDoorTie.lean); close each card by the builder's one call (the guide's Derived/Test/ToyasCard.lean, 'card_holds'). Laid BY PROGRAM, IN A SANDBOX (cutbox-door.mjs). By AI agents, Wed Nov 11 2026. No macro, syntax, notation, axiom, sorry.
-/
import Derived.Test.YtjbmmdcnccclaaaDoorRows
import GoSem.ClaimSeven
namespace Go.Proofs.YtjbmmdcnccclaaaDoor
namespace Rows

/-- THE TIED CARD OF 'traveldoclaw20.BasicAsks'. -/
def basicAsksCard : Claim7 := { stood := { row := basicAsksRow, standIns := [], harness := (true, "f6ec75e3d20d9d76d756986211f3a52818693a10e3e7b894fbc2e89a0630c8b0"), looks := false }, kinds := [], alts := [], laidByText := true, laidKinds := [.data, .data], laidTests := true, laidLooks := .later }
def BasicAsksCardSaid : Prop := Claim7.holds Tryd.pinned (.plain (OpenSpec.ofChange basicAsksSpec)) basicAsksCard

/-- THE TIED CARD OF 'traveldoclaw20.BasicAnswers'. -/
def basicAnswersCard : Claim7 := { stood := { row := basicAnswersRow, standIns := [], harness := (true, "f6ec75e3d20d9d76d756986211f3a52818693a10e3e7b894fbc2e89a0630c8b0"), looks := false }, kinds := [], alts := [], laidByText := true, laidKinds := [.data, .data], laidTests := true, laidLooks := .later }
def BasicAnswersCardSaid : Prop := Claim7.holds Tryd.pinned (.plain (OpenSpec.ofChange basicAnswersSpec)) basicAnswersCard

/-- THE TIED CARD OF 'traveldoclaw20.BasicAgrees'. -/
def basicAgreesCard : Claim7 := { stood := { row := basicAgreesRow, standIns := [], harness := (true, "f6ec75e3d20d9d76d756986211f3a52818693a10e3e7b894fbc2e89a0630c8b0"), looks := false }, kinds := [], alts := [], laidByText := true, laidKinds := [.data], laidTests := true, laidLooks := .later }
def BasicAgreesCardSaid : Prop := Claim7.holds Tryd.pinned (.plain (OpenSpec.ofChange basicAgreesSpec)) basicAgreesCard

/-- THE TIED CARD OF 'traveldoclaw20.BasicReplays'. -/
def basicReplaysCard : Claim7 := { stood := { row := basicReplaysRow, standIns := [], harness := (true, "f6ec75e3d20d9d76d756986211f3a52818693a10e3e7b894fbc2e89a0630c8b0"), looks := false }, kinds := [], alts := [], laidByText := true, laidKinds := [.data], laidTests := true, laidLooks := .later }
def BasicReplaysCardSaid : Prop := Claim7.holds Tryd.pinned (.plain (OpenSpec.ofChange basicReplaysSpec)) basicReplaysCard

/-- THE SECOND FORM's CARD OF 'traveldoclaw20.BasicAsks'. -/
def basicAsksUptoCard : Claim7 := { stood := { row := basicAsksUptoRow, standIns := [], harness := (true, "f6ec75e3d20d9d76d756986211f3a52818693a10e3e7b894fbc2e89a0630c8b0"), looks := false }, kinds := [], alts := [], laidByText := true, laidKinds := [.data, .data], laidTests := true, laidLooks := .later }
def BasicAsksUptoCardSaid : Prop := Claim7.holds Tryd.pinned (.plain (OpenSpec.upto basicAsksSpec)) basicAsksUptoCard

/-- THE SECOND FORM's CARD OF 'traveldoclaw20.BasicAnswers'. -/
def basicAnswersUptoCard : Claim7 := { stood := { row := basicAnswersUptoRow, standIns := [], harness := (true, "f6ec75e3d20d9d76d756986211f3a52818693a10e3e7b894fbc2e89a0630c8b0"), looks := false }, kinds := [], alts := [], laidByText := true, laidKinds := [.data, .data], laidTests := true, laidLooks := .later }
def BasicAnswersUptoCardSaid : Prop := Claim7.holds Tryd.pinned (.plain (OpenSpec.upto basicAnswersSpec)) basicAnswersUptoCard

/-- THE SECOND FORM's CARD OF 'traveldoclaw20.BasicAgrees'. -/
def basicAgreesUptoCard : Claim7 := { stood := { row := basicAgreesUptoRow, standIns := [], harness := (true, "f6ec75e3d20d9d76d756986211f3a52818693a10e3e7b894fbc2e89a0630c8b0"), looks := false }, kinds := [], alts := [], laidByText := true, laidKinds := [.data], laidTests := true, laidLooks := .later }
def BasicAgreesUptoCardSaid : Prop := Claim7.holds Tryd.pinned (.plain (OpenSpec.upto basicAgreesSpec)) basicAgreesUptoCard

/-- THE SECOND FORM's CARD OF 'traveldoclaw20.BasicReplays'. -/
def basicReplaysUptoCard : Claim7 := { stood := { row := basicReplaysUptoRow, standIns := [], harness := (true, "f6ec75e3d20d9d76d756986211f3a52818693a10e3e7b894fbc2e89a0630c8b0"), looks := false }, kinds := [], alts := [], laidByText := true, laidKinds := [.data], laidTests := true, laidLooks := .later }
def BasicReplaysUptoCardSaid : Prop := Claim7.holds Tryd.pinned (.plain (OpenSpec.upto basicReplaysSpec)) basicReplaysUptoCard
end Rows
end Go.Proofs.YtjbmmdcnccclaaaDoor
