/- make([]byte, 16) -/
import Derived.Test.YtadndhgebgjlaaaPr
set_option linter.unusedVariables false
set_option linter.unusedSimpArgs false
namespace Go.Proofs.Ytadndhgebgjlaaa
open Go.RowKit
def wz(w:World):World:=w.alloc (.cells (kx 16 fun _=>0) 5)
theorem Qp(w:World):(Instr.makeSlice 23 (.int .i64 16) (.int .i64 16)).run Try.prog w=.ok (.slice (some ⟨w.heap.size,0,none⟩) 16 16) (wz w):=by kernel_rfl
theorem j10(w:World):BsS (wz w) (New w (wz w)) (.slice (some ⟨w.heap.size,0,none⟩) 16 16) (List.replicate 16 0):=by
 have hr:(w.alloc (.cells (kx 16 fun _=>0) 5)).rowIs w.heap.size 5 16 (fun j=>U8 ((fun _=>0) j)):=jC _ _ _ _
 exact BsS.of_row (S:=New w (wz w)) hr (by omega) ⟨Nat.le_refl _,by unfold wz;simp⟩
theorem kC(w:World):Below w.heap.size w (wz w):=iA
def Z16:List UInt8:=List.replicate 16 0
theorem qi:Z16.length=16:=rfl
theorem QH(w:World):BsS (wz w) (New w (wz w)) (.slice (some ⟨w.heap.size,0,none⟩) 16 16) Z16:=j10 w
attribute [irreducible] wz Z16
end Go.Proofs.Ytadndhgebgjlaaa
