/- Words: a slice of one object in its block; a row of plain objects that grows beside a row of bytes -/
import Derived.Test.YtadndhgebgjlaaaGreatPi
set_option linter.all false
namespace Go.Proofs.YtadndhgebgjlaaaGreat
open Go.RowKit Go.Deep
theorem xi{w:World}{p:Nat}{a b c u:Value}{t:TypeId}(h:w.heap[p]?=some (.cells #[a,b,c] t (0,0))):(w.setCell ⟨p,0,none⟩ u).heap[p]?=some (.cells #[u,b,c] t (0,0)):=by
 have hlt:=lt_of_block h
 have h':w.heap[p]=.cells #[a,b,c] t (0,0):=by simpa [Array.getElem?_eq_getElem hlt]using h
 show(w.heap.modify p _)[p]?=_
 rw [Array.getElem?_modify,iT rfl,h]
 rfl
theorem xj{w:World}{p:Nat}{a b c u:Value}{t:TypeId}(h:w.heap[p]?=some (.cells #[a,b,c] t (0,0))):(w.setCell ⟨p,1,none⟩ u).heap[p]?=some (.cells #[a,u,c] t (0,0)):=by
 show(w.heap.modify p _)[p]?=_
 rw [Array.getElem?_modify,iT rfl,h]
 rfl
theorem qB{w:World}{p:Nat}{a b c u:Value}{t:TypeId}(h:w.heap[p]?=some (.cells #[a,b,c] t (0,0))):(w.setCell ⟨p,2,none⟩ u).heap[p]?=some (.cells #[a,b,u] t (0,0)):=by
 show(w.heap.modify p _)[p]?=_
 rw [Array.getElem?_modify,iT rfl,h]
 rfl
end Go.Proofs.YtadndhgebgjlaaaGreat
