/- make([]byte, 16) -/
import Derived.Test.YtadndhgebgjlaaaPp
set_option linter.unusedVariables false
set_option linter.unusedSimpArgs false
namespace Go.Proofs.Ytadndhgebgjlaaa
open Go.RowKit
def wz(w:World):World:=w.alloc (.cells (ke 16 fun _=>0) 5)
theorem Kh(w:World):(Instr.makeSlice 23 (.int .i64 16) (.int .i64 16)).run Try.prog w=.ok (.slice (some ⟨w.heap.size,0,none⟩) 16 16) (wz w):=by kernel_rfl
theorem UG(w:World):BsS (wz w) (New w (wz w)) (.slice (some ⟨w.heap.size,0,none⟩) 16 16) (List.replicate 16 0):=by
 have hr:(w.alloc (.cells (ke 16 fun _=>0) 5)).rowIs w.heap.size 5 16 (fun j=>U8 ((fun _=>0) j)):=jt _ _ _ _
 exact BsS.of_row (S:=New w (wz w)) hr (by omega) ⟨Nat.le_refl _,by unfold wz;simp⟩
theorem kh(w:World):Below w.heap.size w (wz w):=iA
def Z16:List UInt8:=List.replicate 16 0
theorem kT:Z16.length=16:=rfl
theorem Kq(w:World):BsS (wz w) (New w (wz w)) (.slice (some ⟨w.heap.size,0,none⟩) 16 16) Z16:=UG w
attribute [irreducible] wz Z16
end Go.Proofs.Ytadndhgebgjlaaa
