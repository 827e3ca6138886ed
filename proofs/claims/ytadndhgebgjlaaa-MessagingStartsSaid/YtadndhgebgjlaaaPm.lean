/- made.Dice: what it is that a pointer points at dice, and Next, One; made.Dice: Tag and Bytes -/
import Derived.Test.YtadndhgebgjlaaaPg
import Derived.Test.YtadndhgebgjlaaaPi
set_option linter.unusedVariables false
set_option linter.unusedSimpArgs false
namespace Go.Proofs.Ytadndhgebgjlaaa
open Go.RowKit Go.Deep
theorem two{w:World}{X:Nat}{a b:Value}{t:TypeId}(h:w.heap[X]?=some (.cells #[a,b] t (0,0))):w.cell? ⟨X,0,none⟩=some a/\w.cell? ⟨X,1,none⟩=some b/\∀o,w.frozen? ⟨X,o,none⟩=false:=by
 refine⟨?_,?_,fun o=>by simp [World.frozen?,h]⟩<;>(rw [cell_of_row _ _ _ _ _ _ h];rfl)
theorem xO{z:Int}(h0:0<=z)(h1:z<=255):Value.int .u8 z=U8 (ofI z):=by rw [<-j4,Int.emod_eq_of_lt h0 (by omega)]
end Go.Proofs.Ytadndhgebgjlaaa
