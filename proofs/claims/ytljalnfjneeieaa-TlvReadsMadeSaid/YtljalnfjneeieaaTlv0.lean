/- Layer 2, plain: which numbers are tags, and of constructed objects. -/
import Derived.Test.YtljalnfjneeieaaTree
namespace Go.Proofs.Ytljalnfjneeieaa
open Go.RowKit

/-- Which numbers are tags. -/
def tagV (t : Int) : Bool := decide ((1 ≤ t ∧ t ≤ 255 ∧ ¬ t % 32 = 31) ∨ (256 ≤ t ∧ t ≤ 65535 ∧ t / 256 % 32 = 31 ∧ 1 ≤ t % 256 ∧ t % 256 ≤ 127))
/-- Which tags are those of constructed objects. -/
def tagC (t : Int) : Bool := tagV t && decide ((if 255 < t then t / 256 else t) / 32 % 2 = 1)
end Go.Proofs.Ytljalnfjneeieaa
