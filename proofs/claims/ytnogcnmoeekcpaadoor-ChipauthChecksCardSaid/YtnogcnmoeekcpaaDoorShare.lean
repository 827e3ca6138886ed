/- Contracts' shapes that many walks share. -/
import Derived.Test.YtnogcnmoeekcpaaDoorLaw5a
import Derived.Test.YtnogcnmoeekcpaaDoorQSame
namespace Go.Proofs.YtnogcnmoeekcpaaDoor
open Go.RowKit

/-- A call that returns bytes and an error number. -/
def BytesErr (w : World) (l : List UInt8) (n : Int) (e : Ending) (w' : World) : Prop := ∃ v', e = .returned (.tuple #[v', .int .i64 n]) ∧ Bs w' w'.heap.size v' l ∧ Below w.heap.size w w'
/-- A call that returns bytes. -/
def BytesOnly (w : World) (l : List UInt8) (e : Ending) (w' : World) : Prop := ∃ v', e = .returned v' ∧ Bs w' w'.heap.size v' l ∧ Below w.heap.size w w'
end Go.Proofs.YtnogcnmoeekcpaaDoor
