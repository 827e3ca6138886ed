/- The walks of the small functions of the statements of layer 5 -/
import Derived.Test.YtalmmiojbmpmiaaGreatDoorPd
import Derived.Test.YtalmmiojbmpmiaaGreatDoorPu
set_option linter.all false
namespace Go.Proofs.YtalmmiojbmpmiaaGreatDoor
open Go.RowKit
theorem Bs.lift{w w':World}{v:Value}{l:List UInt8}(h:Bs w w.heap.size v l)(hb:Below w.heap.size w w'):Bs w' w'.heap.size v l:=
 BsS.keep h fun b hs _=>⟨hb.block b hs,iZ hs hb.size⟩
theorem Below.undrew{B:Nat}{w w':World}(h:Below B w.drew w'):Below B w w':=⟨h.os,h.tape,h.output,h.size,h.block⟩
def six(l:List UInt8):List UInt8:=(l++List.replicate 16 0).take 16
attribute [irreducible] six
end Go.Proofs.YtalmmiojbmpmiaaGreatDoor
