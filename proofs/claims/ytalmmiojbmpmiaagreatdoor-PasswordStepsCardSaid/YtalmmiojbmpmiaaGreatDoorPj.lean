/- A sum that does not wrap. No program is named here -/
import Derived.IntWalk
import Derived.Test.YtalmmiojbmpmiaaGreatDoorPi
set_option linter.all false
namespace Go.Proofs.YtalmmiojbmpmiaaGreatDoor
theorem Ua{e:Int}(h: -9223372036854775808<=e/\e<=9223372036854775807):Value.int .i64 (IntKind.i64.wrap e)=.int .i64 e:=by rw [IntWalk.i64_in _ h]
end Go.Proofs.YtalmmiojbmpmiaaGreatDoor
