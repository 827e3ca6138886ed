/- Layer 14, plain: what is written for infos and read from objects. No program is named here -/
import Derived.BigQuiet
import Derived.Deep.DeepCutAuto
import Derived.StillTailTactics
import Derived.Test.YtalmmiojbmpmiaaGreatDoorPq
set_option linter.all false
namespace Go.Proofs.YtalmmiojbmpmiaaGreatDoor
open Go.RowKit
def zy(v:List UInt8):Int:=v.foldl (fun n b=>256*n+bv b) 0
end Go.Proofs.YtalmmiojbmpmiaaGreatDoor
