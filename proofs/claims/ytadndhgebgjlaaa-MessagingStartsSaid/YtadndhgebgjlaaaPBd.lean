/- Contracts' shapes that many walks share -/
import Derived.Test.YtadndhgebgjlaaaPp
import Derived.Test.YtadndhgebgjlaaaPv
set_option linter.unusedVariables false
set_option linter.unusedSimpArgs false
namespace Go.Proofs.Ytadndhgebgjlaaa
open Go.RowKit
def Kr(w:World)(l:List UInt8)(n:Int)(e:Ending)(w':World):Prop:=∃v',e=.returned (.tuple #[v',.int .i64 n])/\Bs w' w'.heap.size v' l/\Below w.heap.size w w'
end Go.Proofs.Ytadndhgebgjlaaa
