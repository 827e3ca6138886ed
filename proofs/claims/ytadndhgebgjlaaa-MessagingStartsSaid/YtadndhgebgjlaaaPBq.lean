/- A region that draws, in which some operations follow each other in one order and the others only read what stands: what holds behind each of those that follo... -/
import Derived.Test.YtadndhgebgjlaaaPBh
set_option linter.unusedVariables false
set_option linter.unusedSimpArgs false
namespace Go.Proofs.Ytadndhgebgjlaaa
section
variable {ch:List Nat} {G:Nat->(Nat->Value)->World->Prop} {L:Nat->Bool} {v:Nat->Value} {w w2:World} {y:Value}
end
end Go.Proofs.Ytadndhgebgjlaaa
