/-
  DERIVED. GIVEN WITH THE SEED: THE CARDS: each row of YtnogcnmoeekcpaaDoorRows.lean that lists a variable, with what it lists TIED to the program's text (the seventh form; the later family's looks); each row that meets fmt, with fmt's text TOLD by the authors' own Lean function (tested against real Go, not proved from fmt's source: count such statements apart). THE CARD IS WHAT COUNTS. Prove the row's statement (the work); the ties are given (YtnogcnmoeekcpaaDoorTie.lean); close each card by the builder's one call (the guide's Derived/Test/ToyasCard.lean, 'card_holds'). Laid BY PROGRAM, IN A SANDBOX (cutbox-door.mjs). By AI agents, Wed Nov 11 2026. No macro, syntax, notation, axiom, sorry.
-/
import Derived.Test.YtnogcnmoeekcpaaDoorRows
import GoSem.ClaimSeven
namespace Go.Proofs.YtnogcnmoeekcpaaDoor
namespace Rows

/-- THE TIED CARD OF 'traveldoclaw23.ChipauthReplies'. -/
def chipauthRepliesCard : Claim7 := { stood := { row := chipauthRepliesRow, standIns := [], harness := (true, "29f20957e6a6063bce5d211968f3f316de6c9290c2690b38c64d96f32111ba98"), looks := false }, kinds := [], alts := [], laidByText := true, laidKinds := [.data, .data], laidTests := true, laidLooks := .later }
def ChipauthRepliesCardSaid : Prop := Claim7.holds Tryd.pinned (.plain (OpenSpec.ofChange chipauthRepliesSpec)) chipauthRepliesCard

/-- THE TIED CARD OF 'traveldoclaw23.ChipauthChecks'. -/
def chipauthChecksCard : Claim7 := { stood := { row := chipauthChecksRow, standIns := [], harness := (true, "29f20957e6a6063bce5d211968f3f316de6c9290c2690b38c64d96f32111ba98"), looks := false }, kinds := [], alts := [], laidByText := true, laidKinds := [.data, .data], laidTests := true, laidLooks := .later }
def ChipauthChecksCardSaid : Prop := Claim7.holds Tryd.pinned (.plain (OpenSpec.ofChange chipauthChecksSpec)) chipauthChecksCard

/-- THE TIED CARD OF 'traveldoclaw23.ChipauthAgrees'. -/
def chipauthAgreesCard : Claim7 := { stood := { row := chipauthAgreesRow, standIns := [], harness := (true, "29f20957e6a6063bce5d211968f3f316de6c9290c2690b38c64d96f32111ba98"), looks := false }, kinds := [], alts := [], laidByText := true, laidKinds := [.data], laidTests := true, laidLooks := .later }
def ChipauthAgreesCardSaid : Prop := Claim7.holds Tryd.pinned (.plain (OpenSpec.ofChange chipauthAgreesSpec)) chipauthAgreesCard

/-- THE TIED CARD OF 'traveldoclaw23.ChipauthShort'. -/
def chipauthShortCard : Claim7 := { stood := { row := chipauthShortRow, standIns := [], harness := (true, "29f20957e6a6063bce5d211968f3f316de6c9290c2690b38c64d96f32111ba98"), looks := false }, kinds := [], alts := [], laidByText := true, laidKinds := [.data, .data], laidTests := true, laidLooks := .later }
def ChipauthShortCardSaid : Prop := Claim7.holds Tryd.pinned (.plain (OpenSpec.ofChange chipauthShortSpec)) chipauthShortCard

/-- THE SECOND FORM's CARD OF 'traveldoclaw23.ChipauthReplies'. -/
def chipauthRepliesUptoCard : Claim7 := { stood := { row := chipauthRepliesUptoRow, standIns := [], harness := (true, "29f20957e6a6063bce5d211968f3f316de6c9290c2690b38c64d96f32111ba98"), looks := false }, kinds := [], alts := [], laidByText := true, laidKinds := [.data, .data], laidTests := true, laidLooks := .later }
def ChipauthRepliesUptoCardSaid : Prop := Claim7.holds Tryd.pinned (.plain (OpenSpec.upto chipauthRepliesSpec)) chipauthRepliesUptoCard

/-- THE SECOND FORM's CARD OF 'traveldoclaw23.ChipauthChecks'. -/
def chipauthChecksUptoCard : Claim7 := { stood := { row := chipauthChecksUptoRow, standIns := [], harness := (true, "29f20957e6a6063bce5d211968f3f316de6c9290c2690b38c64d96f32111ba98"), looks := false }, kinds := [], alts := [], laidByText := true, laidKinds := [.data, .data], laidTests := true, laidLooks := .later }
def ChipauthChecksUptoCardSaid : Prop := Claim7.holds Tryd.pinned (.plain (OpenSpec.upto chipauthChecksSpec)) chipauthChecksUptoCard

/-- THE SECOND FORM's CARD OF 'traveldoclaw23.ChipauthAgrees'. -/
def chipauthAgreesUptoCard : Claim7 := { stood := { row := chipauthAgreesUptoRow, standIns := [], harness := (true, "29f20957e6a6063bce5d211968f3f316de6c9290c2690b38c64d96f32111ba98"), looks := false }, kinds := [], alts := [], laidByText := true, laidKinds := [.data], laidTests := true, laidLooks := .later }
def ChipauthAgreesUptoCardSaid : Prop := Claim7.holds Tryd.pinned (.plain (OpenSpec.upto chipauthAgreesSpec)) chipauthAgreesUptoCard

/-- THE SECOND FORM's CARD OF 'traveldoclaw23.ChipauthShort'. -/
def chipauthShortUptoCard : Claim7 := { stood := { row := chipauthShortUptoRow, standIns := [], harness := (true, "29f20957e6a6063bce5d211968f3f316de6c9290c2690b38c64d96f32111ba98"), looks := false }, kinds := [], alts := [], laidByText := true, laidKinds := [.data, .data], laidTests := true, laidLooks := .later }
def ChipauthShortUptoCardSaid : Prop := Claim7.holds Tryd.pinned (.plain (OpenSpec.upto chipauthShortSpec)) chipauthShortUptoCard
end Rows
end Go.Proofs.YtnogcnmoeekcpaaDoor
