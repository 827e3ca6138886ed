/- Lists of lists of bytes in memory -/
import Derived.Test.YtadndhgebgjlaaaPc
set_option linter.unusedVariables false
set_option linter.unusedSimpArgs false
namespace Go.Proofs.Ytadndhgebgjlaaa
open Go.RowKit
def gl(L:List (List UInt8))(j:Nat):List UInt8:=L.getD j []
end Go.Proofs.Ytadndhgebgjlaaa
