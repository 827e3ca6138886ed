/- Layer 14, plain: what is written for infos and read from objects. No program is named here -/
import Derived.BigQuiet
import Derived.Deep.DeepCutAuto
import Derived.StillTailTactics
import Derived.Test.YtalmmiojbmpmiaaGreatDoorPt
set_option linter.all false
namespace Go.Proofs.YtalmmiojbmpmiaaGreatDoor
open Go.RowKit
def xH(v:List UInt8):Int:=v.foldl (fun n b=>256*n+bv b) 0
end Go.Proofs.YtalmmiojbmpmiaaGreatDoor
