/-
  No cell of these rows narrows 'for every input' (looked for: loops, veiled, ifaces, maps, wideKeys, modest, calm, conditions, laid).
  DERIVED. THE GIVEN ROWS OF THIS SEAT. 4 by the template 'for every input the law returns true; each argument reads behind the call as it read before'; 0 by the template 'total and deterministic' (their statements: YtadndhgebgjlaaaGreatTotals.lean).
  GIVEN WITH THE SEED: the statements are not yours to turn. If you find one false, say at which input.
  Laid BY PROGRAM, IN A SANDBOX (cutbox-rows.mjs): the forced cells as the released guide's own fill.sh prints them over the translation f921e9f93c4a23c4… (all of the seat's roots in one cut). By AI agents, Wed Nov 11 2026. No macro, syntax, notation, axiom, sorry.
-/
import Derived.Test.YtadndhgebgjlaaaGreatChecked
import GoSem.Claim
import GoSem.ClaimJoined
import GoSem.ClaimMapViews
import Derived.JoinedTies
import Derived.KernelRfl
namespace Go.Proofs.YtadndhgebgjlaaaGreat
/- THE CELL 'sum', in the pinned program and in every row, IS THE sha256 OF THE DUMP (.gsa) THAT YtadndhgebgjlaaaGreatProg.lean LOADS. Nothing in Lean hashes anything: it is a label: what it is worth is what the hold of that sum in a sandbox is worth. -/
noncomputable def Tryz.pinned : Pinned := { name := "ytadndhgebgjlaaagreat", sum := "f921e9f93c4a23c45bea25039e6143e788958ff4ba14bc450df479ac437c3d5c", checked := Tryz.checked }
namespace Rows
def none {H : Type} : Left H := { results := [], args := [] }

/-- 'traveldoclaw19.MessagingCommands': WHATEVER THE INPUT: true; the input reads as it did. -/
def messagingCommandsSpec : ChangeSpec := { name := "messagingCommands", fn := fun _ => fun
  | [d] => { results := [.lit (.bool true)], args := [d] }
  | _ => none }
def messagingCommandsRow : OpenClaim := { program := "ytadndhgebgjlaaagreat", sum := "f921e9f93c4a23c45bea25039e6143e788958ff4ba14bc450df479ac437c3d5c", func := "traveldoc/traveldoclaw19.MessagingCommands", spec := "messagingCommands", unfollowed := true, recurses := true, apart := false }
def MessagingCommandsSaid : Prop := messagingCommandsRow.holds Tryz.pinned (OpenSpec.ofChange messagingCommandsSpec)

/-- ITS FALSE NEIGHBOUR: 'it returns false'. Refute it at one input. -/
def messagingCommandsWrong : ChangeSpec := { name := "messagingCommands", fn := fun _ => fun
  | [d] => { results := [.lit (.bool false)], args := [d] }
  | _ => none }
def MessagingCommandsWrongFalsely : Prop := messagingCommandsRow.holds Tryz.pinned (OpenSpec.ofChange messagingCommandsWrong)

/-- 'traveldoclaw19.MessagingExact': WHATEVER THE INPUT: true; the input reads as it did. -/
def messagingExactSpec : ChangeSpec := { name := "messagingExact", fn := fun _ => fun
  | [d1, d2, d3] => { results := [.lit (.bool true)], args := [d1, d2, d3] }
  | _ => none }
def messagingExactRow : OpenClaim := { program := "ytadndhgebgjlaaagreat", sum := "f921e9f93c4a23c45bea25039e6143e788958ff4ba14bc450df479ac437c3d5c", func := "traveldoc/traveldoclaw19.MessagingExact", spec := "messagingExact", unfollowed := true, recurses := true, apart := false }
def MessagingExactSaid : Prop := messagingExactRow.holds Tryz.pinned (OpenSpec.ofChange messagingExactSpec)

/-- ITS FALSE NEIGHBOUR: 'it returns false'. Refute it at one input. -/
def messagingExactWrong : ChangeSpec := { name := "messagingExact", fn := fun _ => fun
  | [d1, d2, d3] => { results := [.lit (.bool false)], args := [d1, d2, d3] }
  | _ => none }
def MessagingExactWrongFalsely : Prop := messagingExactRow.holds Tryz.pinned (OpenSpec.ofChange messagingExactWrong)

/-- 'traveldoclaw19.MessagingResponses': WHATEVER THE INPUT: true; the input reads as it did. -/
def messagingResponsesSpec : ChangeSpec := { name := "messagingResponses", fn := fun _ => fun
  | [d] => { results := [.lit (.bool true)], args := [d] }
  | _ => none }
def messagingResponsesRow : OpenClaim := { program := "ytadndhgebgjlaaagreat", sum := "f921e9f93c4a23c45bea25039e6143e788958ff4ba14bc450df479ac437c3d5c", func := "traveldoc/traveldoclaw19.MessagingResponses", spec := "messagingResponses", unfollowed := true, recurses := true, apart := false }
def MessagingResponsesSaid : Prop := messagingResponsesRow.holds Tryz.pinned (OpenSpec.ofChange messagingResponsesSpec)

/-- ITS FALSE NEIGHBOUR: 'it returns false'. Refute it at one input. -/
def messagingResponsesWrong : ChangeSpec := { name := "messagingResponses", fn := fun _ => fun
  | [d] => { results := [.lit (.bool false)], args := [d] }
  | _ => none }
def MessagingResponsesWrongFalsely : Prop := messagingResponsesRow.holds Tryz.pinned (OpenSpec.ofChange messagingResponsesWrong)

/-- 'traveldoclaw19.MessagingObjects': WHATEVER THE INPUT: true; the input reads as it did. -/
def messagingObjectsSpec : ChangeSpec := { name := "messagingObjects", fn := fun _ => fun
  | [d] => { results := [.lit (.bool true)], args := [d] }
  | _ => none }
def messagingObjectsRow : OpenClaim := { program := "ytadndhgebgjlaaagreat", sum := "f921e9f93c4a23c45bea25039e6143e788958ff4ba14bc450df479ac437c3d5c", func := "traveldoc/traveldoclaw19.MessagingObjects", spec := "messagingObjects", unfollowed := true, recurses := true, apart := false }
def MessagingObjectsSaid : Prop := messagingObjectsRow.holds Tryz.pinned (OpenSpec.ofChange messagingObjectsSpec)

/-- ITS FALSE NEIGHBOUR: 'it returns false'. Refute it at one input. -/
def messagingObjectsWrong : ChangeSpec := { name := "messagingObjects", fn := fun _ => fun
  | [d] => { results := [.lit (.bool false)], args := [d] }
  | _ => none }
def MessagingObjectsWrongFalsely : Prop := messagingObjectsRow.holds Tryz.pinned (OpenSpec.ofChange messagingObjectsWrong)

/- THE SECOND FORM. 'bulk': how many values and letters a reading holds, each counted each time it is reached (what is shared counts as often as it is met; a slice's spare places count too). A statement '..UptoSaid' is the law's where the arguments, and the package variables that the reading takes, are together of bulk at most 1048576: NARROWER than '..Said'. Prove '..Said' where nothing that the law and all that it calls make is longer than what came in: it says more and counts as full. Else prove '..UptoSaid'. A law counts once. -/
mutual
def uptoBulk {H : Type} : DataW H → Nat
  | .lit (.string bytes) => bytes.length + 1
  | .lit _ => 1
  | .nil => 1
  | .ptr d => uptoBulk d + 1
  | .slice elems spare => uptoBulkAll elems + uptoBulkAll spare + 1
  | .agg parts => uptoBulkAll parts + 1
  | .iface _ d => uptoBulk d + 1
  | .map entries => uptoBulkEntries entries + 1
  | .held _ => 1
def uptoBulkAll {H : Type} : List (DataW H) → Nat
  | [] => 0
  | d :: r => uptoBulk d + uptoBulkAll r
def uptoBulkEntries {H : Type} : List (Lit × DataW H) → Nat
  | [] => 0
  | x :: r => uptoBulkEntry x + uptoBulkEntries r
def uptoBulkEntry {H : Type} : Lit × DataW H → Nat
  | (.string bytes, d) => bytes.length + uptoBulk d + 1
  | (_, d) => uptoBulk d + 1
 end
def uptoSmall : (H : Type) → List (DataW H) → Bool := fun _ ds => decide (uptoBulkAll ds ≤ 1048576)
def OpenSpec.upto (s : _root_.Go.ChangeSpec) : _root_.Go.OpenSpec := { _root_.Go.OpenSpec.ofChange s with cond := some uptoSmall }

/-- 'traveldoclaw19.MessagingCommands', WHERE WHAT IT READS IS OF BULK AT MOST 1048576: true; the input reads as it did. -/
def messagingCommandsUptoRow : OpenClaim := { program := "ytadndhgebgjlaaagreat", sum := "f921e9f93c4a23c45bea25039e6143e788958ff4ba14bc450df479ac437c3d5c", func := "traveldoc/traveldoclaw19.MessagingCommands", spec := "messagingCommands", unfollowed := true, recurses := true, apart := false, narrowed := true }
def MessagingCommandsUptoSaid : Prop := messagingCommandsUptoRow.holds Tryz.pinned (OpenSpec.upto messagingCommandsSpec)

/-- 'traveldoclaw19.MessagingExact', WHERE WHAT IT READS IS OF BULK AT MOST 1048576: true; the input reads as it did. -/
def messagingExactUptoRow : OpenClaim := { program := "ytadndhgebgjlaaagreat", sum := "f921e9f93c4a23c45bea25039e6143e788958ff4ba14bc450df479ac437c3d5c", func := "traveldoc/traveldoclaw19.MessagingExact", spec := "messagingExact", unfollowed := true, recurses := true, apart := false, narrowed := true }
def MessagingExactUptoSaid : Prop := messagingExactUptoRow.holds Tryz.pinned (OpenSpec.upto messagingExactSpec)

/-- 'traveldoclaw19.MessagingResponses', WHERE WHAT IT READS IS OF BULK AT MOST 1048576: true; the input reads as it did. -/
def messagingResponsesUptoRow : OpenClaim := { program := "ytadndhgebgjlaaagreat", sum := "f921e9f93c4a23c45bea25039e6143e788958ff4ba14bc450df479ac437c3d5c", func := "traveldoc/traveldoclaw19.MessagingResponses", spec := "messagingResponses", unfollowed := true, recurses := true, apart := false, narrowed := true }
def MessagingResponsesUptoSaid : Prop := messagingResponsesUptoRow.holds Tryz.pinned (OpenSpec.upto messagingResponsesSpec)

/-- 'traveldoclaw19.MessagingObjects', WHERE WHAT IT READS IS OF BULK AT MOST 1048576: true; the input reads as it did. -/
def messagingObjectsUptoRow : OpenClaim := { program := "ytadndhgebgjlaaagreat", sum := "f921e9f93c4a23c45bea25039e6143e788958ff4ba14bc450df479ac437c3d5c", func := "traveldoc/traveldoclaw19.MessagingObjects", spec := "messagingObjects", unfollowed := true, recurses := true, apart := false, narrowed := true }
def MessagingObjectsUptoSaid : Prop := messagingObjectsUptoRow.holds Tryz.pinned (OpenSpec.upto messagingObjectsSpec)

end Rows
end Go.Proofs.YtadndhgebgjlaaaGreat
