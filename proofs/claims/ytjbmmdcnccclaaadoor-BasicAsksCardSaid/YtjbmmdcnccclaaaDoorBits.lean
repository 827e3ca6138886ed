/- bits.Len64, bits.Len (the shelf's contracts, laid for this seat), and powers modulo the group's prime. -/
import Derived.Test.YtjbmmdcnccclaaaDoorChecked
import Derived.Lib.Strings
import Derived.Lib.Slices
import Derived.Lib.Small
import Derived.Lib.Walk
import Derived.Lib.BitFns
namespace Go.Proofs.YtjbmmdcnccclaaaDoor

end Go.Proofs.YtjbmmdcnccclaaaDoor
