/-
  NARROWER THAN 'FOR EVERY INPUT', by the rows' own cells (each row's printed sentence says how): TlvEncodes: loops.
  DERIVED. THE GIVEN ROWS OF THIS SEAT. 8 by the template 'for every input the law returns true; each argument reads behind the call as it read before'; 0 by the template 'total and deterministic' (their statements: YtljalnfjneeieaaTotals.lean).
  GIVEN WITH THE SEED: the statements are not yours to turn. If you find one false, say at which input.
  Laid BY PROGRAM, IN A SANDBOX (cutbox-rows.mjs): the forced cells as the released guide's own fill.sh prints them over the translation 9198182ea51cbd45… (all of the seat's roots in one cut). By AI agents, Wed Nov 11 2026. No macro, syntax, notation, axiom, sorry.
-/
import Derived.Test.YtljalnfjneeieaaChecked
import GoSem.Claim
import GoSem.ClaimJoined
import GoSem.ClaimMapViews
import Derived.JoinedTies
import Derived.KernelRfl
namespace Go.Proofs.Ytljalnfjneeieaa
/- THE CELL 'sum', in the pinned program and in every row, IS THE sha256 OF THE DUMP (.gsa) THAT YtljalnfjneeieaaProg.lean LOADS. Nothing in Lean hashes anything: it is a label: what it is worth is what the hold of that sum in a sandbox is worth. -/
noncomputable def Try.pinned : Pinned := { name := "ytljalnfjneeieaa", sum := "9198182ea51cbd450186e57c8256e11de3f7eab52f504af10c523e5ca9a07e8b", checked := Try.checked }
namespace Rows
def none {H : Type} : Left H := { results := [], args := [] }

/-- 'traveldoclaw02.TlvTags': WHATEVER THE INPUT: true; the input reads as it did. -/
def tlvTagsSpec : ChangeSpec := { name := "tlvTags", fn := fun _ => fun
  | [d] => { results := [.lit (.bool true)], args := [d] }
  | _ => none }
def tlvTagsRow : OpenClaim := { program := "ytljalnfjneeieaa", sum := "9198182ea51cbd450186e57c8256e11de3f7eab52f504af10c523e5ca9a07e8b", func := "traveldoc/traveldoclaw02.TlvTags", spec := "tlvTags", recurses := true, apart := false }
def TlvTagsSaid : Prop := tlvTagsRow.holds Try.pinned (OpenSpec.ofChange tlvTagsSpec)

/-- ITS FALSE NEIGHBOUR: 'it returns false'. Refute it at one input. -/
def tlvTagsWrong : ChangeSpec := { name := "tlvTags", fn := fun _ => fun
  | [d] => { results := [.lit (.bool false)], args := [d] }
  | _ => none }
def TlvTagsWrongFalsely : Prop := tlvTagsRow.holds Try.pinned (OpenSpec.ofChange tlvTagsWrong)

/-- 'traveldoclaw02.TlvStrict': WHATEVER THE INPUT: true; the input reads as it did. -/
def tlvStrictSpec : ChangeSpec := { name := "tlvStrict", fn := fun _ => fun
  | [d1, d2] => { results := [.lit (.bool true)], args := [d1, d2] }
  | _ => none }
def tlvStrictRow : OpenClaim := { program := "ytljalnfjneeieaa", sum := "9198182ea51cbd450186e57c8256e11de3f7eab52f504af10c523e5ca9a07e8b", func := "traveldoc/traveldoclaw02.TlvStrict", spec := "tlvStrict", recurses := true, apart := false }
def TlvStrictSaid : Prop := tlvStrictRow.holds Try.pinned (OpenSpec.ofChange tlvStrictSpec)

/-- ITS FALSE NEIGHBOUR: 'it returns false'. Refute it at one input. -/
def tlvStrictWrong : ChangeSpec := { name := "tlvStrict", fn := fun _ => fun
  | [d1, d2] => { results := [.lit (.bool false)], args := [d1, d2] }
  | _ => none }
def TlvStrictWrongFalsely : Prop := tlvStrictRow.holds Try.pinned (OpenSpec.ofChange tlvStrictWrong)

/-- 'traveldoclaw02.TlvLimits': WHATEVER THE INPUT: true; the input reads as it did. -/
def tlvLimitsSpec : ChangeSpec := { name := "tlvLimits", fn := fun _ => fun
  | [d1, d2] => { results := [.lit (.bool true)], args := [d1, d2] }
  | _ => none }
def tlvLimitsRow : OpenClaim := { program := "ytljalnfjneeieaa", sum := "9198182ea51cbd450186e57c8256e11de3f7eab52f504af10c523e5ca9a07e8b", func := "traveldoc/traveldoclaw02.TlvLimits", spec := "tlvLimits", recurses := true, apart := false }
def TlvLimitsSaid : Prop := tlvLimitsRow.holds Try.pinned (OpenSpec.ofChange tlvLimitsSpec)

/-- ITS FALSE NEIGHBOUR: 'it returns false'. Refute it at one input. -/
def tlvLimitsWrong : ChangeSpec := { name := "tlvLimits", fn := fun _ => fun
  | [d1, d2] => { results := [.lit (.bool false)], args := [d1, d2] }
  | _ => none }
def TlvLimitsWrongFalsely : Prop := tlvLimitsRow.holds Try.pinned (OpenSpec.ofChange tlvLimitsWrong)

/-- 'traveldoclaw02.TlvReturns': WHATEVER THE INPUT: true; the input reads as it did. -/
def tlvReturnsSpec : ChangeSpec := { name := "tlvReturns", fn := fun _ => fun
  | [d] => { results := [.lit (.bool true)], args := [d] }
  | _ => none }
def tlvReturnsRow : OpenClaim := { program := "ytljalnfjneeieaa", sum := "9198182ea51cbd450186e57c8256e11de3f7eab52f504af10c523e5ca9a07e8b", func := "traveldoc/traveldoclaw02.TlvReturns", spec := "tlvReturns", recurses := true, apart := false }
def TlvReturnsSaid : Prop := tlvReturnsRow.holds Try.pinned (OpenSpec.ofChange tlvReturnsSpec)

/-- ITS FALSE NEIGHBOUR: 'it returns false'. Refute it at one input. -/
def tlvReturnsWrong : ChangeSpec := { name := "tlvReturns", fn := fun _ => fun
  | [d] => { results := [.lit (.bool false)], args := [d] }
  | _ => none }
def TlvReturnsWrongFalsely : Prop := tlvReturnsRow.holds Try.pinned (OpenSpec.ofChange tlvReturnsWrong)

/-- 'traveldoclaw02.TlvCuts': WHATEVER THE INPUT: true; the input reads as it did. -/
def tlvCutsSpec : ChangeSpec := { name := "tlvCuts", fn := fun _ => fun
  | [d1, d2] => { results := [.lit (.bool true)], args := [d1, d2] }
  | _ => none }
def tlvCutsRow : OpenClaim := { program := "ytljalnfjneeieaa", sum := "9198182ea51cbd450186e57c8256e11de3f7eab52f504af10c523e5ca9a07e8b", func := "traveldoc/traveldoclaw02.TlvCuts", spec := "tlvCuts", recurses := true, apart := false }
def TlvCutsSaid : Prop := tlvCutsRow.holds Try.pinned (OpenSpec.ofChange tlvCutsSpec)

/-- ITS FALSE NEIGHBOUR: 'it returns false'. Refute it at one input. -/
def tlvCutsWrong : ChangeSpec := { name := "tlvCuts", fn := fun _ => fun
  | [d1, d2] => { results := [.lit (.bool false)], args := [d1, d2] }
  | _ => none }
def TlvCutsWrongFalsely : Prop := tlvCutsRow.holds Try.pinned (OpenSpec.ofChange tlvCutsWrong)

/-- 'traveldoclaw02.TlvReads': WHATEVER THE INPUT: true; the input reads as it did. -/
def tlvReadsSpec : ChangeSpec := { name := "tlvReads", fn := fun _ => fun
  | [d1, d2] => { results := [.lit (.bool true)], args := [d1, d2] }
  | _ => none }
def tlvReadsRow : OpenClaim := { program := "ytljalnfjneeieaa", sum := "9198182ea51cbd450186e57c8256e11de3f7eab52f504af10c523e5ca9a07e8b", func := "traveldoc/traveldoclaw02.TlvReads", spec := "tlvReads", recurses := true, apart := false }
def TlvReadsSaid : Prop := tlvReadsRow.holds Try.pinned (OpenSpec.ofChange tlvReadsSpec)

/-- ITS FALSE NEIGHBOUR: 'it returns false'. Refute it at one input. -/
def tlvReadsWrong : ChangeSpec := { name := "tlvReads", fn := fun _ => fun
  | [d1, d2] => { results := [.lit (.bool false)], args := [d1, d2] }
  | _ => none }
def TlvReadsWrongFalsely : Prop := tlvReadsRow.holds Try.pinned (OpenSpec.ofChange tlvReadsWrong)

/-- 'traveldoclaw02.TlvEncodes': WHATEVER THE INPUT: true; the input reads as it did. -/
def tlvEncodesSpec : ChangeSpec := { name := "tlvEncodes", fn := fun _ => fun
  | [d1, d2] => { results := [.lit (.bool true)], args := [d1, d2] }
  | _ => none }
def tlvEncodesRow : OpenClaim := { program := "ytljalnfjneeieaa", sum := "9198182ea51cbd450186e57c8256e11de3f7eab52f504af10c523e5ca9a07e8b", func := "traveldoc/traveldoclaw02.TlvEncodes", spec := "tlvEncodes", unfollowed := true, recurses := true, loops := true, apart := false }
def TlvEncodesSaid : Prop := tlvEncodesRow.holds Try.pinned (OpenSpec.ofChange tlvEncodesSpec)

/-- ITS FALSE NEIGHBOUR: 'it returns false'. Refute it at one input. -/
def tlvEncodesWrong : ChangeSpec := { name := "tlvEncodes", fn := fun _ => fun
  | [d1, d2] => { results := [.lit (.bool false)], args := [d1, d2] }
  | _ => none }
def TlvEncodesWrongFalsely : Prop := tlvEncodesRow.holds Try.pinned (OpenSpec.ofChange tlvEncodesWrong)

/-- 'traveldoclaw02.TlvReadsMade': WHATEVER THE INPUT: true; the input reads as it did. -/
def tlvReadsMadeSpec : ChangeSpec := { name := "tlvReadsMade", fn := fun _ => fun
  | [d1, d2] => { results := [.lit (.bool true)], args := [d1, d2] }
  | _ => none }
def tlvReadsMadeRow : OpenClaim := { program := "ytljalnfjneeieaa", sum := "9198182ea51cbd450186e57c8256e11de3f7eab52f504af10c523e5ca9a07e8b", func := "traveldoc/traveldoclaw02.TlvReadsMade", spec := "tlvReadsMade", unfollowed := true, recurses := true, apart := false }
def TlvReadsMadeSaid : Prop := tlvReadsMadeRow.holds Try.pinned (OpenSpec.ofChange tlvReadsMadeSpec)

/-- ITS FALSE NEIGHBOUR: 'it returns false'. Refute it at one input. -/
def tlvReadsMadeWrong : ChangeSpec := { name := "tlvReadsMade", fn := fun _ => fun
  | [d1, d2] => { results := [.lit (.bool false)], args := [d1, d2] }
  | _ => none }
def TlvReadsMadeWrongFalsely : Prop := tlvReadsMadeRow.holds Try.pinned (OpenSpec.ofChange tlvReadsMadeWrong)

/- THE SECOND FORM. 'bulk': how many values and letters a reading holds, each counted each time it is reached (what is shared counts as often as it is met; a slice's spare places count too). A statement '..UptoSaid' is the law's where the arguments, and the package variables that the reading takes, are together of bulk at most 1048576: NARROWER than '..Said'. Prove '..Said' where nothing that the law and all that it calls make is longer than what came in: it says more and counts as full. Else prove '..UptoSaid'. A law counts once. -/
mutual
def uptoBulk {H : Type} : DataW H → Nat
  | .lit (.string bytes) => bytes.length + 1
  | .lit _ => 1
  | .nil => 1
  | .ptr d => uptoBulk d + 1
  | .slice elems spare => uptoBulkAll elems + uptoBulkAll spare + 1
  | .agg parts => uptoBulkAll parts + 1
  | .iface _ d => uptoBulk d + 1
  | .map entries => uptoBulkEntries entries + 1
  | .held _ => 1
def uptoBulkAll {H : Type} : List (DataW H) → Nat
  | [] => 0
  | d :: r => uptoBulk d + uptoBulkAll r
def uptoBulkEntries {H : Type} : List (Lit × DataW H) → Nat
  | [] => 0
  | x :: r => uptoBulkEntry x + uptoBulkEntries r
def uptoBulkEntry {H : Type} : Lit × DataW H → Nat
  | (.string bytes, d) => bytes.length + uptoBulk d + 1
  | (_, d) => uptoBulk d + 1
 end
def uptoSmall : (H : Type) → List (DataW H) → Bool := fun _ ds => decide (uptoBulkAll ds ≤ 1048576)
def OpenSpec.upto (s : _root_.Go.ChangeSpec) : _root_.Go.OpenSpec := { _root_.Go.OpenSpec.ofChange s with cond := some uptoSmall }

/-- 'traveldoclaw02.TlvTags', WHERE WHAT IT READS IS OF BULK AT MOST 1048576: true; the input reads as it did. -/
def tlvTagsUptoRow : OpenClaim := { program := "ytljalnfjneeieaa", sum := "9198182ea51cbd450186e57c8256e11de3f7eab52f504af10c523e5ca9a07e8b", func := "traveldoc/traveldoclaw02.TlvTags", spec := "tlvTags", recurses := true, apart := false, narrowed := true }
def TlvTagsUptoSaid : Prop := tlvTagsUptoRow.holds Try.pinned (OpenSpec.upto tlvTagsSpec)

/-- 'traveldoclaw02.TlvStrict', WHERE WHAT IT READS IS OF BULK AT MOST 1048576: true; the input reads as it did. -/
def tlvStrictUptoRow : OpenClaim := { program := "ytljalnfjneeieaa", sum := "9198182ea51cbd450186e57c8256e11de3f7eab52f504af10c523e5ca9a07e8b", func := "traveldoc/traveldoclaw02.TlvStrict", spec := "tlvStrict", recurses := true, apart := false, narrowed := true }
def TlvStrictUptoSaid : Prop := tlvStrictUptoRow.holds Try.pinned (OpenSpec.upto tlvStrictSpec)

/-- 'traveldoclaw02.TlvLimits', WHERE WHAT IT READS IS OF BULK AT MOST 1048576: true; the input reads as it did. -/
def tlvLimitsUptoRow : OpenClaim := { program := "ytljalnfjneeieaa", sum := "9198182ea51cbd450186e57c8256e11de3f7eab52f504af10c523e5ca9a07e8b", func := "traveldoc/traveldoclaw02.TlvLimits", spec := "tlvLimits", recurses := true, apart := false, narrowed := true }
def TlvLimitsUptoSaid : Prop := tlvLimitsUptoRow.holds Try.pinned (OpenSpec.upto tlvLimitsSpec)

/-- 'traveldoclaw02.TlvReturns', WHERE WHAT IT READS IS OF BULK AT MOST 1048576: true; the input reads as it did. -/
def tlvReturnsUptoRow : OpenClaim := { program := "ytljalnfjneeieaa", sum := "9198182ea51cbd450186e57c8256e11de3f7eab52f504af10c523e5ca9a07e8b", func := "traveldoc/traveldoclaw02.TlvReturns", spec := "tlvReturns", recurses := true, apart := false, narrowed := true }
def TlvReturnsUptoSaid : Prop := tlvReturnsUptoRow.holds Try.pinned (OpenSpec.upto tlvReturnsSpec)

/-- 'traveldoclaw02.TlvCuts', WHERE WHAT IT READS IS OF BULK AT MOST 1048576: true; the input reads as it did. -/
def tlvCutsUptoRow : OpenClaim := { program := "ytljalnfjneeieaa", sum := "9198182ea51cbd450186e57c8256e11de3f7eab52f504af10c523e5ca9a07e8b", func := "traveldoc/traveldoclaw02.TlvCuts", spec := "tlvCuts", recurses := true, apart := false, narrowed := true }
def TlvCutsUptoSaid : Prop := tlvCutsUptoRow.holds Try.pinned (OpenSpec.upto tlvCutsSpec)

/-- 'traveldoclaw02.TlvReads', WHERE WHAT IT READS IS OF BULK AT MOST 1048576: true; the input reads as it did. -/
def tlvReadsUptoRow : OpenClaim := { program := "ytljalnfjneeieaa", sum := "9198182ea51cbd450186e57c8256e11de3f7eab52f504af10c523e5ca9a07e8b", func := "traveldoc/traveldoclaw02.TlvReads", spec := "tlvReads", recurses := true, apart := false, narrowed := true }
def TlvReadsUptoSaid : Prop := tlvReadsUptoRow.holds Try.pinned (OpenSpec.upto tlvReadsSpec)

/-- 'traveldoclaw02.TlvEncodes', WHERE WHAT IT READS IS OF BULK AT MOST 1048576: true; the input reads as it did. -/
def tlvEncodesUptoRow : OpenClaim := { program := "ytljalnfjneeieaa", sum := "9198182ea51cbd450186e57c8256e11de3f7eab52f504af10c523e5ca9a07e8b", func := "traveldoc/traveldoclaw02.TlvEncodes", spec := "tlvEncodes", unfollowed := true, recurses := true, loops := true, apart := false, narrowed := true }
def TlvEncodesUptoSaid : Prop := tlvEncodesUptoRow.holds Try.pinned (OpenSpec.upto tlvEncodesSpec)

/-- 'traveldoclaw02.TlvReadsMade', WHERE WHAT IT READS IS OF BULK AT MOST 1048576: true; the input reads as it did. -/
def tlvReadsMadeUptoRow : OpenClaim := { program := "ytljalnfjneeieaa", sum := "9198182ea51cbd450186e57c8256e11de3f7eab52f504af10c523e5ca9a07e8b", func := "traveldoc/traveldoclaw02.TlvReadsMade", spec := "tlvReadsMade", unfollowed := true, recurses := true, apart := false, narrowed := true }
def TlvReadsMadeUptoSaid : Prop := tlvReadsMadeUptoRow.holds Try.pinned (OpenSpec.upto tlvReadsMadeSpec)

end Rows
end Go.Proofs.Ytljalnfjneeieaa
