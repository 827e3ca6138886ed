/- A region that draws, in which some operations follow each other in one order and the others only read what stands: what holds behind each of those that follo... -/
import Derived.Test.YtadndhgebgjlaaaGreatPBh
namespace Go.Proofs.YtadndhgebgjlaaaGreat
open Go.RowKit Go.Deep
section
variable {ch:List Nat} {G:Nat->(Nat->Value)->World->Prop} {L:Nat->Bool} {v:Nat->Value} {w w2:World} {y:Value}
end
section
variable {wd w1:World} {p s:Nat} {a b:Value} {L:Nat->Bool} {v v':Nat->Value}
end
end Go.Proofs.YtadndhgebgjlaaaGreat
