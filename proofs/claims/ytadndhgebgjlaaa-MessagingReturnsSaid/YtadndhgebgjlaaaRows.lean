/-
  No cell of these rows narrows 'for every input' (looked for: loops, veiled, ifaces, maps, wideKeys, modest, calm, conditions, laid).
  DERIVED. THE GIVEN ROWS OF THIS SEAT. 3 by the template 'for every input the law returns true; each argument reads behind the call as it read before'; 0 by the template 'total and deterministic' (their statements: YtadndhgebgjlaaaTotals.lean).
  GIVEN WITH THE SEED: the statements are not yours to turn. If you find one false, say at which input.
  Laid BY PROGRAM, IN A SANDBOX (cutbox-rows.mjs): the forced cells as the released guide's own fill.sh prints them over the translation bab4bcea50578281… (all of the seat's roots in one cut). By AI agents, Wed Nov 11 2026. No macro, syntax, notation, axiom, sorry.
-/
import Derived.Test.YtadndhgebgjlaaaChecked
import GoSem.Claim
import GoSem.ClaimJoined
import GoSem.ClaimMapViews
import Derived.JoinedTies
import Derived.KernelRfl
namespace Go.Proofs.Ytadndhgebgjlaaa
/- THE CELL 'sum', in the pinned program and in every row, IS THE sha256 OF THE DUMP (.gsa) THAT YtadndhgebgjlaaaProg.lean LOADS. Nothing in Lean hashes anything: it is a label: what it is worth is what the hold of that sum in a sandbox is worth. -/
noncomputable def Try.pinned : Pinned := { name := "ytadndhgebgjlaaa", sum := "bab4bcea50578281e20a17a79e09608fed8bd10923e8893fbc835bd95dc488e7", checked := Try.checked }
namespace Rows
def none {H : Type} : Left H := { results := [], args := [] }

/-- 'traveldoclaw19.MessagingLengths': WHATEVER THE INPUT: true; the input reads as it did. -/
def messagingLengthsSpec : ChangeSpec := { name := "messagingLengths", fn := fun _ => fun
  | [d1, d2] => { results := [.lit (.bool true)], args := [d1, d2] }
  | _ => none }
def messagingLengthsRow : OpenClaim := { program := "ytadndhgebgjlaaa", sum := "bab4bcea50578281e20a17a79e09608fed8bd10923e8893fbc835bd95dc488e7", func := "traveldoc/traveldoclaw19.MessagingLengths", spec := "messagingLengths", unfollowed := true, recurses := true, apart := false }
def MessagingLengthsSaid : Prop := messagingLengthsRow.holds Try.pinned (OpenSpec.ofChange messagingLengthsSpec)

/-- ITS FALSE NEIGHBOUR: 'it returns false'. Refute it at one input. -/
def messagingLengthsWrong : ChangeSpec := { name := "messagingLengths", fn := fun _ => fun
  | [d1, d2] => { results := [.lit (.bool false)], args := [d1, d2] }
  | _ => none }
def MessagingLengthsWrongFalsely : Prop := messagingLengthsRow.holds Try.pinned (OpenSpec.ofChange messagingLengthsWrong)

/-- 'traveldoclaw19.MessagingStarts': WHATEVER THE INPUT: true; the input reads as it did. -/
def messagingStartsSpec : ChangeSpec := { name := "messagingStarts", fn := fun _ => fun
  | [d1, d2, d3] => { results := [.lit (.bool true)], args := [d1, d2, d3] }
  | _ => none }
def messagingStartsRow : OpenClaim := { program := "ytadndhgebgjlaaa", sum := "bab4bcea50578281e20a17a79e09608fed8bd10923e8893fbc835bd95dc488e7", func := "traveldoc/traveldoclaw19.MessagingStarts", spec := "messagingStarts", unfollowed := true, recurses := true, apart := false }
def MessagingStartsSaid : Prop := messagingStartsRow.holds Try.pinned (OpenSpec.ofChange messagingStartsSpec)

/-- ITS FALSE NEIGHBOUR: 'it returns false'. Refute it at one input. -/
def messagingStartsWrong : ChangeSpec := { name := "messagingStarts", fn := fun _ => fun
  | [d1, d2, d3] => { results := [.lit (.bool false)], args := [d1, d2, d3] }
  | _ => none }
def MessagingStartsWrongFalsely : Prop := messagingStartsRow.holds Try.pinned (OpenSpec.ofChange messagingStartsWrong)

/-- 'traveldoclaw19.MessagingReturns': WHATEVER THE INPUT: true; the input reads as it did. -/
def messagingReturnsSpec : ChangeSpec := { name := "messagingReturns", fn := fun _ => fun
  | [d] => { results := [.lit (.bool true)], args := [d] }
  | _ => none }
def messagingReturnsRow : OpenClaim := { program := "ytadndhgebgjlaaa", sum := "bab4bcea50578281e20a17a79e09608fed8bd10923e8893fbc835bd95dc488e7", func := "traveldoc/traveldoclaw19.MessagingReturns", spec := "messagingReturns", unfollowed := true, recurses := true, apart := false }
def MessagingReturnsSaid : Prop := messagingReturnsRow.holds Try.pinned (OpenSpec.ofChange messagingReturnsSpec)

/-- ITS FALSE NEIGHBOUR: 'it returns false'. Refute it at one input. -/
def messagingReturnsWrong : ChangeSpec := { name := "messagingReturns", fn := fun _ => fun
  | [d] => { results := [.lit (.bool false)], args := [d] }
  | _ => none }
def MessagingReturnsWrongFalsely : Prop := messagingReturnsRow.holds Try.pinned (OpenSpec.ofChange messagingReturnsWrong)

/- THE SECOND FORM. 'bulk': how many values and letters a reading holds, each counted each time it is reached (what is shared counts as often as it is met; a slice's spare places count too). A statement '..UptoSaid' is the law's where the arguments, and the package variables that the reading takes, are together of bulk at most 1048576: NARROWER than '..Said'. Prove '..Said' where nothing that the law and all that it calls make is longer than what came in: it says more and counts as full. Else prove '..UptoSaid'. A law counts once. -/
mutual
def uptoBulk {H : Type} : DataW H → Nat
  | .lit (.string bytes) => bytes.length + 1
  | .lit _ => 1
  | .nil => 1
  | .ptr d => uptoBulk d + 1
  | .slice elems spare => uptoBulkAll elems + uptoBulkAll spare + 1
  | .agg parts => uptoBulkAll parts + 1
  | .iface _ d => uptoBulk d + 1
  | .map entries => uptoBulkEntries entries + 1
  | .held _ => 1
def uptoBulkAll {H : Type} : List (DataW H) → Nat
  | [] => 0
  | d :: r => uptoBulk d + uptoBulkAll r
def uptoBulkEntries {H : Type} : List (Lit × DataW H) → Nat
  | [] => 0
  | x :: r => uptoBulkEntry x + uptoBulkEntries r
def uptoBulkEntry {H : Type} : Lit × DataW H → Nat
  | (.string bytes, d) => bytes.length + uptoBulk d + 1
  | (_, d) => uptoBulk d + 1
 end
def uptoSmall : (H : Type) → List (DataW H) → Bool := fun _ ds => decide (uptoBulkAll ds ≤ 1048576)
def OpenSpec.upto (s : _root_.Go.ChangeSpec) : _root_.Go.OpenSpec := { _root_.Go.OpenSpec.ofChange s with cond := some uptoSmall }

/-- 'traveldoclaw19.MessagingLengths', WHERE WHAT IT READS IS OF BULK AT MOST 1048576: true; the input reads as it did. -/
def messagingLengthsUptoRow : OpenClaim := { program := "ytadndhgebgjlaaa", sum := "bab4bcea50578281e20a17a79e09608fed8bd10923e8893fbc835bd95dc488e7", func := "traveldoc/traveldoclaw19.MessagingLengths", spec := "messagingLengths", unfollowed := true, recurses := true, apart := false, narrowed := true }
def MessagingLengthsUptoSaid : Prop := messagingLengthsUptoRow.holds Try.pinned (OpenSpec.upto messagingLengthsSpec)

/-- 'traveldoclaw19.MessagingStarts', WHERE WHAT IT READS IS OF BULK AT MOST 1048576: true; the input reads as it did. -/
def messagingStartsUptoRow : OpenClaim := { program := "ytadndhgebgjlaaa", sum := "bab4bcea50578281e20a17a79e09608fed8bd10923e8893fbc835bd95dc488e7", func := "traveldoc/traveldoclaw19.MessagingStarts", spec := "messagingStarts", unfollowed := true, recurses := true, apart := false, narrowed := true }
def MessagingStartsUptoSaid : Prop := messagingStartsUptoRow.holds Try.pinned (OpenSpec.upto messagingStartsSpec)

/-- 'traveldoclaw19.MessagingReturns', WHERE WHAT IT READS IS OF BULK AT MOST 1048576: true; the input reads as it did. -/
def messagingReturnsUptoRow : OpenClaim := { program := "ytadndhgebgjlaaa", sum := "bab4bcea50578281e20a17a79e09608fed8bd10923e8893fbc835bd95dc488e7", func := "traveldoc/traveldoclaw19.MessagingReturns", spec := "messagingReturns", unfollowed := true, recurses := true, apart := false, narrowed := true }
def MessagingReturnsUptoSaid : Prop := messagingReturnsUptoRow.holds Try.pinned (OpenSpec.upto messagingReturnsSpec)

end Rows
end Go.Proofs.Ytadndhgebgjlaaa
