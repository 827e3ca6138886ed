/- Contracts' shapes that many walks share. -/
import Derived.Test.YtjbmmdcnccclaaaDoorLaw5a
import Derived.Test.YtjbmmdcnccclaaaDoorQSame
namespace Go.Proofs.YtjbmmdcnccclaaaDoor
open Go.RowKit

/-- A call that returns bytes and an error number. -/
def BytesErr (w : World) (l : List UInt8) (n : Int) (e : Ending) (w' : World) : Prop := ∃ v', e = .returned (.tuple #[v', .int .i64 n]) ∧ Bs w' w'.heap.size v' l ∧ Below w.heap.size w w'
/-- A call that returns bytes. -/
def BytesOnly (w : World) (l : List UInt8) (e : Ending) (w' : World) : Prop := ∃ v', e = .returned v' ∧ Bs w' w'.heap.size v' l ∧ Below w.heap.size w w'
theorem same_refl (va vb : Value) (l : List UInt8) (w : World) (ha : Bs w w.heap.size va l) (hb : Bs w w.heap.size vb l) :
    Calls Tryd.prog 11 #[va, vb] w fun e w' => e = .returned (.bool true) ∧ Below w.heap.size w w' := by
  refine (same_any va vb l l _ _ w ha hb).mono ?_
  rintro e w' ⟨rfl, n, rfl⟩
  exact ⟨by simp, below_drewN (Below.refl _ _) n⟩
end Go.Proofs.YtjbmmdcnccclaaaDoor
