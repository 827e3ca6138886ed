/- make([]byte, 16). -/
import Derived.Test.YtmpcjaoemfnjcaaLaw5a
import Derived.KernelRfl
namespace Go.Proofs.Ytmpcjaoemfnjcaa
open Go.RowKit

/-- The world behind make([]byte, 16). -/
def wz (w : World) : World := w.alloc (.cells (bArr 16 fun _ => 0) 5)
theorem make16 (w : World) : (Instr.makeSlice 22 (.int .i64 16) (.int .i64 16)).run Try.prog w = .ok (.slice (some ⟨w.heap.size, 0, none⟩) 16 16) (wz w) := by kernel_rfl
theorem zero16 (w : World) : BsS (wz w) (New w (wz w)) (.slice (some ⟨w.heap.size, 0, none⟩) 16 16) (List.replicate 16 0) := by
  have hr : (w.alloc (.cells (bArr 16 fun _ => 0) 5)).rowIs w.heap.size 5 16 (fun j => U8 ((fun _ => 0) j)) := rowIs_bArr _ _ _ _
  exact BsS.of_row (S := New w (wz w)) hr (by omega) ⟨Nat.le_refl _, by unfold wz; simp⟩
theorem zero16b (w : World) : Below w.heap.size w (wz w) := (Below.refl _ _).alloc (Nat.le_refl _) _
def Z16 : List UInt8 := List.replicate 16 0
theorem Z16_len : Z16.length = 16 := rfl
theorem zero_z (w : World) : BsS (wz w) (New w (wz w)) (.slice (some ⟨w.heap.size, 0, none⟩) 16 16) Z16 := zero16 w
attribute [irreducible] wz Z16
end Go.Proofs.Ytmpcjaoemfnjcaa
