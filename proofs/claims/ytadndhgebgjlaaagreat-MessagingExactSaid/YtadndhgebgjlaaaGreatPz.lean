/- Contracts' shapes that many walks share -/
import Derived.Test.YtadndhgebgjlaaaGreatPy
import Derived.Test.YtadndhgebgjlaaaGreatPk
set_option linter.all false
namespace Go.Proofs.YtadndhgebgjlaaaGreat
open Go.RowKit
def xW(w:World)(l:List UInt8)(n:Int)(e:Ending)(w':World):Prop:=∃v',e=.returned (.tuple #[v',.int .i64 n])/\Bs w' w'.heap.size v' l/\Below w.heap.size w w'
end Go.Proofs.YtadndhgebgjlaaaGreat
