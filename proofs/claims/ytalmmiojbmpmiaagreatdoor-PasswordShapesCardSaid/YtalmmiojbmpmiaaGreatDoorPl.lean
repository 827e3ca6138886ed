/- The walks of the small functions of the statements of layer 5 -/
import Derived.Test.YtalmmiojbmpmiaaGreatDoorPj
import Derived.Test.YtalmmiojbmpmiaaGreatDoorPd
set_option linter.all false
namespace Go.Proofs.YtalmmiojbmpmiaaGreatDoor
open Go.RowKit
theorem Bs.lift{w w':World}{v:Value}{l:List UInt8}(h:Bs w w.heap.size v l)(hb:Below w.heap.size w w'):Bs w' w'.heap.size v l:=
 BsS.keep h fun b hs _=>⟨hb.block b hs,iZ hs hb.size⟩
theorem Below.undrew{B:Nat}{w w':World}(h:Below B w.drew w'):Below B w w':=⟨h.os,h.tape,h.output,h.size,h.block⟩
def six(l:List UInt8):List UInt8:=(l++List.replicate 16 0).take 16
theorem zS(l:List UInt8):(six l).length=16:=by simp [six]
theorem VQ(l:List UInt8)(j:Nat)(hj:j<16):(([]++l.map U8)++List.replicate 16 (.int .u8 0))[j]?=some (U8 (gb (six l) j)):=by
 have e:([]++l.map U8)++List.replicate 16 (Value.int .u8 0)=(l++List.replicate 16 0).map U8:=by
  rw [List.map_append,List.map_replicate]<;>rfl
 rw [e,jt _ _ (by simp;omega)]
 congr 2
 unfold gb six
 rw [List.getD_eq_getElem?_getD,List.getD_eq_getElem?_getD,List.getElem?_take,iT hj]
theorem j01{base:Nat}{v:Value}{n:Nat}{xs:List Value}{w:World}(hown:w.ownsRow base 5 1 v n xs)(hb:n+16<=140737488355328)(hbase:base<=w.heap.size)(ty:TypeId):
 ∃v' w',(Builtin.append_ #[22,3] ty #[v,.int .i64 16]).run Tryz.prog w=.ok v' w'/\w'.ownsRow base 5 1 v' (n+16) (xs++List.replicate 16 (.int .u8 0))/\w.grownBy w' v.ownBlock:=
 qe (P:=Tryz.prog) w base 22 3 ty 5 (.int .u8 0) 1 .i64 .i64 Tryz.underlying22 Tryz.underlying3 ki rfl rfl (by omega) v n xs hown 16 (by omega) (by omega) hbase
attribute [irreducible] six
end Go.Proofs.YtalmmiojbmpmiaaGreatDoor
