/-
  NARROWER THAN 'FOR EVERY INPUT', by the rows' own cells (each row's printed sentence says how): PasswordKeys: laid · PasswordMaps: laid · PasswordBegins: laid · PasswordSteps: laid · PasswordRuns: laid · PasswordAgrees: laid · PasswordShapes: laid.
  DERIVED. THE GIVEN ROWS OF THIS SEAT. 7 by the template 'for every input the law returns true; each argument reads behind the call as it read before'; 0 by the template 'total and deterministic' (their statements: YtalmmiojbmpmiaaGreatDoorTotals.lean).
  GIVEN WITH THE SEED: the statements are not yours to turn. If you find one false, say at which input.
  Laid BY PROGRAM, IN A SANDBOX (cutbox-rows.mjs): the forced cells as the released guide's own fill.sh prints them over the translation 947cf467401f678e… (all of the seat's roots in one cut). By AI agents, Wed Nov 11 2026. No macro, syntax, notation, axiom, sorry.
-/
import Derived.Test.YtalmmiojbmpmiaaGreatDoorChecked
import GoSem.Claim
import GoSem.ClaimJoined
import GoSem.ClaimMapViews
import Derived.JoinedTies
import Derived.KernelRfl
namespace Go.Proofs.YtalmmiojbmpmiaaGreatDoor
/- THE CELL 'sum', in the pinned program and in every row, IS THE sha256 OF THE DUMP (.gsa) THAT YtalmmiojbmpmiaaGreatDoorProg.lean LOADS. Nothing in Lean hashes anything: it is a label: what it is worth is what the hold of that sum in a sandbox is worth. -/
noncomputable def Tryz.pinned : Pinned := { name := "ytalmmiojbmpmiaagreatdoor", sum := "947cf467401f678ec89e9dd1b998f9a7935a32ee3cbbc09aa2a5d2fe20c238fe", checked := Tryz.checked }
namespace Rows
def none {H : Type} : Left H := { results := [], args := [] }

/- WHAT THE LISTED PACKAGE-LEVEL VARIABLES READ AS WHEN THE CALL BEGINS. Each datum BY PROGRAM (the guide's laid-datum.mjs) off the statement by which the dump's own 'gosem.cut.vars' lays the variable. In a bare row this is a premise. The card (YtalmmiojbmpmiaaGreatDoorCards.lean) ties it to the program's text. -/
def laid_traveldoc_traveldocref04_constants {H : Type} : DataW H := .agg [.lit (.int .u32 1116352408), .lit (.int .u32 1899447441), .lit (.int .u32 3049323471), .lit (.int .u32 3921009573), .lit (.int .u32 961987163), .lit (.int .u32 1508970993), .lit (.int .u32 2453635748), .lit (.int .u32 2870763221), .lit (.int .u32 3624381080), .lit (.int .u32 310598401), .lit (.int .u32 607225278), .lit (.int .u32 1426881987), .lit (.int .u32 1925078388), .lit (.int .u32 2162078206), .lit (.int .u32 2614888103), .lit (.int .u32 3248222580), .lit (.int .u32 3835390401), .lit (.int .u32 4022224774), .lit (.int .u32 264347078), .lit (.int .u32 604807628), .lit (.int .u32 770255983), .lit (.int .u32 1249150122), .lit (.int .u32 1555081692), .lit (.int .u32 1996064986), .lit (.int .u32 2554220882), .lit (.int .u32 2821834349), .lit (.int .u32 2952996808), .lit (.int .u32 3210313671), .lit (.int .u32 3336571891), .lit (.int .u32 3584528711), .lit (.int .u32 113926993), .lit (.int .u32 338241895), .lit (.int .u32 666307205), .lit (.int .u32 773529912), .lit (.int .u32 1294757372), .lit (.int .u32 1396182291), .lit (.int .u32 1695183700), .lit (.int .u32 1986661051), .lit (.int .u32 2177026350), .lit (.int .u32 2456956037), .lit (.int .u32 2730485921), .lit (.int .u32 2820302411), .lit (.int .u32 3259730800), .lit (.int .u32 3345764771), .lit (.int .u32 3516065817), .lit (.int .u32 3600352804), .lit (.int .u32 4094571909), .lit (.int .u32 275423344), .lit (.int .u32 430227734), .lit (.int .u32 506948616), .lit (.int .u32 659060556), .lit (.int .u32 883997877), .lit (.int .u32 958139571), .lit (.int .u32 1322822218), .lit (.int .u32 1537002063), .lit (.int .u32 1747873779), .lit (.int .u32 1955562222), .lit (.int .u32 2024104815), .lit (.int .u32 2227730452), .lit (.int .u32 2361852424), .lit (.int .u32 2428436474), .lit (.int .u32 2756734187), .lit (.int .u32 3204031479), .lit (.int .u32 3329325298)]
def laid_traveldoc_digest_constants {H : Type} : DataW H := .agg [.lit (.int .u32 1116352408), .lit (.int .u32 1899447441), .lit (.int .u32 3049323471), .lit (.int .u32 3921009573), .lit (.int .u32 961987163), .lit (.int .u32 1508970993), .lit (.int .u32 2453635748), .lit (.int .u32 2870763221), .lit (.int .u32 3624381080), .lit (.int .u32 310598401), .lit (.int .u32 607225278), .lit (.int .u32 1426881987), .lit (.int .u32 1925078388), .lit (.int .u32 2162078206), .lit (.int .u32 2614888103), .lit (.int .u32 3248222580), .lit (.int .u32 3835390401), .lit (.int .u32 4022224774), .lit (.int .u32 264347078), .lit (.int .u32 604807628), .lit (.int .u32 770255983), .lit (.int .u32 1249150122), .lit (.int .u32 1555081692), .lit (.int .u32 1996064986), .lit (.int .u32 2554220882), .lit (.int .u32 2821834349), .lit (.int .u32 2952996808), .lit (.int .u32 3210313671), .lit (.int .u32 3336571891), .lit (.int .u32 3584528711), .lit (.int .u32 113926993), .lit (.int .u32 338241895), .lit (.int .u32 666307205), .lit (.int .u32 773529912), .lit (.int .u32 1294757372), .lit (.int .u32 1396182291), .lit (.int .u32 1695183700), .lit (.int .u32 1986661051), .lit (.int .u32 2177026350), .lit (.int .u32 2456956037), .lit (.int .u32 2730485921), .lit (.int .u32 2820302411), .lit (.int .u32 3259730800), .lit (.int .u32 3345764771), .lit (.int .u32 3516065817), .lit (.int .u32 3600352804), .lit (.int .u32 4094571909), .lit (.int .u32 275423344), .lit (.int .u32 430227734), .lit (.int .u32 506948616), .lit (.int .u32 659060556), .lit (.int .u32 883997877), .lit (.int .u32 958139571), .lit (.int .u32 1322822218), .lit (.int .u32 1537002063), .lit (.int .u32 1747873779), .lit (.int .u32 1955562222), .lit (.int .u32 2024104815), .lit (.int .u32 2227730452), .lit (.int .u32 2361852424), .lit (.int .u32 2428436474), .lit (.int .u32 2756734187), .lit (.int .u32 3204031479), .lit (.int .u32 3329325298)]

/-- 'traveldoclaw21.PasswordKeys': WHATEVER THE INPUT: true; the input reads as it did. -/
def passwordKeysSpec : ChangeSpec := { name := "passwordKeys", fn := fun _ => fun
  | [d1, d2, d3] => { results := [.lit (.bool true)], args := [d1, d2, d3] }
  | _ => none }
def passwordKeysRow : OpenClaim := { program := "ytalmmiojbmpmiaagreatdoor", sum := "947cf467401f678ec89e9dd1b998f9a7935a32ee3cbbc09aa2a5d2fe20c238fe", func := "traveldoc/traveldoclaw21.PasswordKeys", spec := "passwordKeys", unfollowed := true, recurses := true, named := ["traveldoc/digest.constants", "traveldoc/traveldocref04.constants"], apart := false, laid := [("traveldoc/traveldocref04.constants", laid_traveldoc_traveldocref04_constants), ("traveldoc/digest.constants", laid_traveldoc_digest_constants)] }
def PasswordKeysSaid : Prop := passwordKeysRow.holds Tryz.pinned (OpenSpec.ofChange passwordKeysSpec)

/-- ITS FALSE NEIGHBOUR: 'it returns false'. Refute it at one input. -/
def passwordKeysWrong : ChangeSpec := { name := "passwordKeys", fn := fun _ => fun
  | [d1, d2, d3] => { results := [.lit (.bool false)], args := [d1, d2, d3] }
  | _ => none }
def PasswordKeysWrongFalsely : Prop := passwordKeysRow.holds Tryz.pinned (OpenSpec.ofChange passwordKeysWrong)

/-- 'traveldoclaw21.PasswordMaps': WHATEVER THE INPUT: true; the input reads as it did. -/
def passwordMapsSpec : ChangeSpec := { name := "passwordMaps", fn := fun _ => fun
  | [d1, d2, d3] => { results := [.lit (.bool true)], args := [d1, d2, d3] }
  | _ => none }
def passwordMapsRow : OpenClaim := { program := "ytalmmiojbmpmiaagreatdoor", sum := "947cf467401f678ec89e9dd1b998f9a7935a32ee3cbbc09aa2a5d2fe20c238fe", func := "traveldoc/traveldoclaw21.PasswordMaps", spec := "passwordMaps", unfollowed := true, recurses := true, named := ["traveldoc/digest.constants", "traveldoc/traveldocref04.constants"], apart := false, laid := [("traveldoc/traveldocref04.constants", laid_traveldoc_traveldocref04_constants), ("traveldoc/digest.constants", laid_traveldoc_digest_constants)] }
def PasswordMapsSaid : Prop := passwordMapsRow.holds Tryz.pinned (OpenSpec.ofChange passwordMapsSpec)

/-- ITS FALSE NEIGHBOUR: 'it returns false'. Refute it at one input. -/
def passwordMapsWrong : ChangeSpec := { name := "passwordMaps", fn := fun _ => fun
  | [d1, d2, d3] => { results := [.lit (.bool false)], args := [d1, d2, d3] }
  | _ => none }
def PasswordMapsWrongFalsely : Prop := passwordMapsRow.holds Tryz.pinned (OpenSpec.ofChange passwordMapsWrong)

/-- 'traveldoclaw21.PasswordBegins': WHATEVER THE INPUT: true; the input reads as it did. -/
def passwordBeginsSpec : ChangeSpec := { name := "passwordBegins", fn := fun _ => fun
  | [d1, d2] => { results := [.lit (.bool true)], args := [d1, d2] }
  | _ => none }
def passwordBeginsRow : OpenClaim := { program := "ytalmmiojbmpmiaagreatdoor", sum := "947cf467401f678ec89e9dd1b998f9a7935a32ee3cbbc09aa2a5d2fe20c238fe", func := "traveldoc/traveldoclaw21.PasswordBegins", spec := "passwordBegins", unfollowed := true, recurses := true, named := ["traveldoc/digest.constants"], apart := false, laid := [("traveldoc/digest.constants", laid_traveldoc_digest_constants)] }
def PasswordBeginsSaid : Prop := passwordBeginsRow.holds Tryz.pinned (OpenSpec.ofChange passwordBeginsSpec)

/-- ITS FALSE NEIGHBOUR: 'it returns false'. Refute it at one input. -/
def passwordBeginsWrong : ChangeSpec := { name := "passwordBegins", fn := fun _ => fun
  | [d1, d2] => { results := [.lit (.bool false)], args := [d1, d2] }
  | _ => none }
def PasswordBeginsWrongFalsely : Prop := passwordBeginsRow.holds Tryz.pinned (OpenSpec.ofChange passwordBeginsWrong)

/-- 'traveldoclaw21.PasswordSteps': WHATEVER THE INPUT: true; the input reads as it did. -/
def passwordStepsSpec : ChangeSpec := { name := "passwordSteps", fn := fun _ => fun
  | [d1, d2, d3] => { results := [.lit (.bool true)], args := [d1, d2, d3] }
  | _ => none }
def passwordStepsRow : OpenClaim := { program := "ytalmmiojbmpmiaagreatdoor", sum := "947cf467401f678ec89e9dd1b998f9a7935a32ee3cbbc09aa2a5d2fe20c238fe", func := "traveldoc/traveldoclaw21.PasswordSteps", spec := "passwordSteps", unfollowed := true, recurses := true, named := ["traveldoc/digest.constants", "traveldoc/traveldocref04.constants"], apart := false, laid := [("traveldoc/traveldocref04.constants", laid_traveldoc_traveldocref04_constants), ("traveldoc/digest.constants", laid_traveldoc_digest_constants)] }
def PasswordStepsSaid : Prop := passwordStepsRow.holds Tryz.pinned (OpenSpec.ofChange passwordStepsSpec)

/-- ITS FALSE NEIGHBOUR: 'it returns false'. Refute it at one input. -/
def passwordStepsWrong : ChangeSpec := { name := "passwordSteps", fn := fun _ => fun
  | [d1, d2, d3] => { results := [.lit (.bool false)], args := [d1, d2, d3] }
  | _ => none }
def PasswordStepsWrongFalsely : Prop := passwordStepsRow.holds Tryz.pinned (OpenSpec.ofChange passwordStepsWrong)

/-- 'traveldoclaw21.PasswordRuns': WHATEVER THE INPUT: true; the input reads as it did. -/
def passwordRunsSpec : ChangeSpec := { name := "passwordRuns", fn := fun _ => fun
  | [d1, d2, d3] => { results := [.lit (.bool true)], args := [d1, d2, d3] }
  | _ => none }
def passwordRunsRow : OpenClaim := { program := "ytalmmiojbmpmiaagreatdoor", sum := "947cf467401f678ec89e9dd1b998f9a7935a32ee3cbbc09aa2a5d2fe20c238fe", func := "traveldoc/traveldoclaw21.PasswordRuns", spec := "passwordRuns", unfollowed := true, recurses := true, named := ["traveldoc/digest.constants", "traveldoc/traveldocref04.constants"], apart := false, laid := [("traveldoc/traveldocref04.constants", laid_traveldoc_traveldocref04_constants), ("traveldoc/digest.constants", laid_traveldoc_digest_constants)] }
def PasswordRunsSaid : Prop := passwordRunsRow.holds Tryz.pinned (OpenSpec.ofChange passwordRunsSpec)

/-- ITS FALSE NEIGHBOUR: 'it returns false'. Refute it at one input. -/
def passwordRunsWrong : ChangeSpec := { name := "passwordRuns", fn := fun _ => fun
  | [d1, d2, d3] => { results := [.lit (.bool false)], args := [d1, d2, d3] }
  | _ => none }
def PasswordRunsWrongFalsely : Prop := passwordRunsRow.holds Tryz.pinned (OpenSpec.ofChange passwordRunsWrong)

/-- 'traveldoclaw21.PasswordAgrees': WHATEVER THE INPUT: true; the input reads as it did. -/
def passwordAgreesSpec : ChangeSpec := { name := "passwordAgrees", fn := fun _ => fun
  | [d1, d2, d3] => { results := [.lit (.bool true)], args := [d1, d2, d3] }
  | _ => none }
def passwordAgreesRow : OpenClaim := { program := "ytalmmiojbmpmiaagreatdoor", sum := "947cf467401f678ec89e9dd1b998f9a7935a32ee3cbbc09aa2a5d2fe20c238fe", func := "traveldoc/traveldoclaw21.PasswordAgrees", spec := "passwordAgrees", unfollowed := true, recurses := true, named := ["traveldoc/digest.constants"], apart := false, laid := [("traveldoc/digest.constants", laid_traveldoc_digest_constants)] }
def PasswordAgreesSaid : Prop := passwordAgreesRow.holds Tryz.pinned (OpenSpec.ofChange passwordAgreesSpec)

/-- ITS FALSE NEIGHBOUR: 'it returns false'. Refute it at one input. -/
def passwordAgreesWrong : ChangeSpec := { name := "passwordAgrees", fn := fun _ => fun
  | [d1, d2, d3] => { results := [.lit (.bool false)], args := [d1, d2, d3] }
  | _ => none }
def PasswordAgreesWrongFalsely : Prop := passwordAgreesRow.holds Tryz.pinned (OpenSpec.ofChange passwordAgreesWrong)

/-- 'traveldoclaw21.PasswordShapes': WHATEVER THE INPUT: true; the input reads as it did. -/
def passwordShapesSpec : ChangeSpec := { name := "passwordShapes", fn := fun _ => fun
  | [d1, d2, d3] => { results := [.lit (.bool true)], args := [d1, d2, d3] }
  | _ => none }
def passwordShapesRow : OpenClaim := { program := "ytalmmiojbmpmiaagreatdoor", sum := "947cf467401f678ec89e9dd1b998f9a7935a32ee3cbbc09aa2a5d2fe20c238fe", func := "traveldoc/traveldoclaw21.PasswordShapes", spec := "passwordShapes", unfollowed := true, recurses := true, named := ["traveldoc/digest.constants"], apart := false, laid := [("traveldoc/digest.constants", laid_traveldoc_digest_constants)] }
def PasswordShapesSaid : Prop := passwordShapesRow.holds Tryz.pinned (OpenSpec.ofChange passwordShapesSpec)

/-- ITS FALSE NEIGHBOUR: 'it returns false'. Refute it at one input. -/
def passwordShapesWrong : ChangeSpec := { name := "passwordShapes", fn := fun _ => fun
  | [d1, d2, d3] => { results := [.lit (.bool false)], args := [d1, d2, d3] }
  | _ => none }
def PasswordShapesWrongFalsely : Prop := passwordShapesRow.holds Tryz.pinned (OpenSpec.ofChange passwordShapesWrong)

/- THE SECOND FORM. 'bulk': how many values and letters a reading holds, each counted each time it is reached (what is shared counts as often as it is met; a slice's spare places count too). A statement '..UptoSaid' is the law's where the arguments, and the package variables that the reading takes, are together of bulk at most 1048576: NARROWER than '..Said'. Prove '..Said' where nothing that the law and all that it calls make is longer than what came in: it says more and counts as full. Else prove '..UptoSaid'. A law counts once. -/
mutual
def uptoBulk {H : Type} : DataW H → Nat
  | .lit (.string bytes) => bytes.length + 1
  | .lit _ => 1
  | .nil => 1
  | .ptr d => uptoBulk d + 1
  | .slice elems spare => uptoBulkAll elems + uptoBulkAll spare + 1
  | .agg parts => uptoBulkAll parts + 1
  | .iface _ d => uptoBulk d + 1
  | .map entries => uptoBulkEntries entries + 1
  | .held _ => 1
def uptoBulkAll {H : Type} : List (DataW H) → Nat
  | [] => 0
  | d :: r => uptoBulk d + uptoBulkAll r
def uptoBulkEntries {H : Type} : List (Lit × DataW H) → Nat
  | [] => 0
  | x :: r => uptoBulkEntry x + uptoBulkEntries r
def uptoBulkEntry {H : Type} : Lit × DataW H → Nat
  | (.string bytes, d) => bytes.length + uptoBulk d + 1
  | (_, d) => uptoBulk d + 1
 end
def uptoSmall : (H : Type) → List (DataW H) → Bool := fun _ ds => decide (uptoBulkAll ds ≤ 1048576)
def OpenSpec.upto (s : _root_.Go.ChangeSpec) : _root_.Go.OpenSpec := { _root_.Go.OpenSpec.ofChange s with cond := some uptoSmall }

/-- 'traveldoclaw21.PasswordKeys', WHERE WHAT IT READS IS OF BULK AT MOST 1048576: true; the input reads as it did. -/
def passwordKeysUptoRow : OpenClaim := { program := "ytalmmiojbmpmiaagreatdoor", sum := "947cf467401f678ec89e9dd1b998f9a7935a32ee3cbbc09aa2a5d2fe20c238fe", func := "traveldoc/traveldoclaw21.PasswordKeys", spec := "passwordKeys", unfollowed := true, recurses := true, named := ["traveldoc/digest.constants", "traveldoc/traveldocref04.constants"], apart := false, laid := [("traveldoc/traveldocref04.constants", laid_traveldoc_traveldocref04_constants), ("traveldoc/digest.constants", laid_traveldoc_digest_constants)], narrowed := true }
def PasswordKeysUptoSaid : Prop := passwordKeysUptoRow.holds Tryz.pinned (OpenSpec.upto passwordKeysSpec)

/-- 'traveldoclaw21.PasswordMaps', WHERE WHAT IT READS IS OF BULK AT MOST 1048576: true; the input reads as it did. -/
def passwordMapsUptoRow : OpenClaim := { program := "ytalmmiojbmpmiaagreatdoor", sum := "947cf467401f678ec89e9dd1b998f9a7935a32ee3cbbc09aa2a5d2fe20c238fe", func := "traveldoc/traveldoclaw21.PasswordMaps", spec := "passwordMaps", unfollowed := true, recurses := true, named := ["traveldoc/digest.constants", "traveldoc/traveldocref04.constants"], apart := false, laid := [("traveldoc/traveldocref04.constants", laid_traveldoc_traveldocref04_constants), ("traveldoc/digest.constants", laid_traveldoc_digest_constants)], narrowed := true }
def PasswordMapsUptoSaid : Prop := passwordMapsUptoRow.holds Tryz.pinned (OpenSpec.upto passwordMapsSpec)

/-- 'traveldoclaw21.PasswordBegins', WHERE WHAT IT READS IS OF BULK AT MOST 1048576: true; the input reads as it did. -/
def passwordBeginsUptoRow : OpenClaim := { program := "ytalmmiojbmpmiaagreatdoor", sum := "947cf467401f678ec89e9dd1b998f9a7935a32ee3cbbc09aa2a5d2fe20c238fe", func := "traveldoc/traveldoclaw21.PasswordBegins", spec := "passwordBegins", unfollowed := true, recurses := true, named := ["traveldoc/digest.constants"], apart := false, laid := [("traveldoc/digest.constants", laid_traveldoc_digest_constants)], narrowed := true }
def PasswordBeginsUptoSaid : Prop := passwordBeginsUptoRow.holds Tryz.pinned (OpenSpec.upto passwordBeginsSpec)

/-- 'traveldoclaw21.PasswordSteps', WHERE WHAT IT READS IS OF BULK AT MOST 1048576: true; the input reads as it did. -/
def passwordStepsUptoRow : OpenClaim := { program := "ytalmmiojbmpmiaagreatdoor", sum := "947cf467401f678ec89e9dd1b998f9a7935a32ee3cbbc09aa2a5d2fe20c238fe", func := "traveldoc/traveldoclaw21.PasswordSteps", spec := "passwordSteps", unfollowed := true, recurses := true, named := ["traveldoc/digest.constants", "traveldoc/traveldocref04.constants"], apart := false, laid := [("traveldoc/traveldocref04.constants", laid_traveldoc_traveldocref04_constants), ("traveldoc/digest.constants", laid_traveldoc_digest_constants)], narrowed := true }
def PasswordStepsUptoSaid : Prop := passwordStepsUptoRow.holds Tryz.pinned (OpenSpec.upto passwordStepsSpec)

/-- 'traveldoclaw21.PasswordRuns', WHERE WHAT IT READS IS OF BULK AT MOST 1048576: true; the input reads as it did. -/
def passwordRunsUptoRow : OpenClaim := { program := "ytalmmiojbmpmiaagreatdoor", sum := "947cf467401f678ec89e9dd1b998f9a7935a32ee3cbbc09aa2a5d2fe20c238fe", func := "traveldoc/traveldoclaw21.PasswordRuns", spec := "passwordRuns", unfollowed := true, recurses := true, named := ["traveldoc/digest.constants", "traveldoc/traveldocref04.constants"], apart := false, laid := [("traveldoc/traveldocref04.constants", laid_traveldoc_traveldocref04_constants), ("traveldoc/digest.constants", laid_traveldoc_digest_constants)], narrowed := true }
def PasswordRunsUptoSaid : Prop := passwordRunsUptoRow.holds Tryz.pinned (OpenSpec.upto passwordRunsSpec)

/-- 'traveldoclaw21.PasswordAgrees', WHERE WHAT IT READS IS OF BULK AT MOST 1048576: true; the input reads as it did. -/
def passwordAgreesUptoRow : OpenClaim := { program := "ytalmmiojbmpmiaagreatdoor", sum := "947cf467401f678ec89e9dd1b998f9a7935a32ee3cbbc09aa2a5d2fe20c238fe", func := "traveldoc/traveldoclaw21.PasswordAgrees", spec := "passwordAgrees", unfollowed := true, recurses := true, named := ["traveldoc/digest.constants"], apart := false, laid := [("traveldoc/digest.constants", laid_traveldoc_digest_constants)], narrowed := true }
def PasswordAgreesUptoSaid : Prop := passwordAgreesUptoRow.holds Tryz.pinned (OpenSpec.upto passwordAgreesSpec)

/-- 'traveldoclaw21.PasswordShapes', WHERE WHAT IT READS IS OF BULK AT MOST 1048576: true; the input reads as it did. -/
def passwordShapesUptoRow : OpenClaim := { program := "ytalmmiojbmpmiaagreatdoor", sum := "947cf467401f678ec89e9dd1b998f9a7935a32ee3cbbc09aa2a5d2fe20c238fe", func := "traveldoc/traveldoclaw21.PasswordShapes", spec := "passwordShapes", unfollowed := true, recurses := true, named := ["traveldoc/digest.constants"], apart := false, laid := [("traveldoc/digest.constants", laid_traveldoc_digest_constants)], narrowed := true }
def PasswordShapesUptoSaid : Prop := passwordShapesUptoRow.holds Tryz.pinned (OpenSpec.upto passwordShapesSpec)

end Rows
end Go.Proofs.YtalmmiojbmpmiaaGreatDoor
