/- The walks of the small functions of the statements of layer 5. -/
import Derived.Test.YtnogcnmoeekcpaaDoorZeros
import Derived.Test.YtnogcnmoeekcpaaDoorClone
namespace Go.Proofs.YtnogcnmoeekcpaaDoor
open Go.RowKit

theorem BsS.lift {w w0 w' : World} {v : Value} {l : List UInt8} (h : BsS w (New w0 w) v l) (hb : Below w.heap.size w w') : Bs w' w'.heap.size v l :=
  h.keep fun b hs _ => ⟨hb.block b hs.2, Nat.lt_of_lt_of_le hs.2 hb.size⟩
theorem Bs.lift {w w' : World} {v : Value} {l : List UInt8} (h : Bs w w.heap.size v l) (hb : Below w.heap.size w w') : Bs w' w'.heap.size v l :=
  BsS.keep h fun b hs _ => ⟨hb.block b hs, Nat.lt_of_lt_of_le hs hb.size⟩
theorem Below.undrew {B : Nat} {w w' : World} (h : Below B w.drew w') : Below B w w' := ⟨h.os, h.tape, h.output, h.size, h.block⟩
/-- 16 bytes that are made of any. -/
def six (l : List UInt8) : List UInt8 := (l ++ List.replicate 16 0).take 16
theorem six_len (l : List UInt8) : (six l).length = 16 := by simp [six]
theorem six_get (l : List UInt8) (j : Nat) (hj : j < 16) : (([] ++ l.map U8) ++ List.replicate 16 (.int .u8 0))[j]? = some (U8 (gb (six l) j)) := by
  have e : ([] ++ l.map U8) ++ List.replicate 16 (Value.int .u8 0) = (l ++ List.replicate 16 0).map U8 := by
    rw [List.map_append, List.map_replicate]; rfl
  rw [e, mapU8_get _ _ (by simp; omega)]
  congr 2
  unfold gb six
  rw [List.getD_eq_getElem?_getD, List.getD_eq_getElem?_getD, List.getElem?_take, if_pos hj]
theorem zerosU8 {base : Nat} {v : Value} {n : Nat} {xs : List Value} {w : World} (hown : w.ownsRow base 5 1 v n xs) (hb : n + 16 ≤ 140737488355328) (hbase : base ≤ w.heap.size) (ty : TypeId) :
    ∃ v' w', (Builtin.append_ #[22, 3] ty #[v, .int .i64 16]).run Tryd.prog w = .ok v' w' ∧ w'.ownsRow base 5 1 v' (n + 16) (xs ++ List.replicate 16 (.int .u8 0)) ∧ w.grownBy w' v.ownBlock :=
  run_append_zeros (P := Tryd.prog) w base 22 3 ty 5 (.int .u8 0) 1 .i64 .i64 Tryd.underlying22 Tryd.underlying3 infoU8 rfl rfl (by omega) v n xs hown 16 (by omega) (by omega) hbase
attribute [irreducible] six
end Go.Proofs.YtnogcnmoeekcpaaDoor
