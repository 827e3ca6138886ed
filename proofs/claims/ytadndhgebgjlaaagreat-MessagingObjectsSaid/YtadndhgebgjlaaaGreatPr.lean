/- Words: a slice of one object in its block; a row of plain objects that grows beside a row of bytes -/
import Derived.Test.YtadndhgebgjlaaaGreatPq
set_option linter.all false
namespace Go.Proofs.YtadndhgebgjlaaaGreat
open Go.RowKit Go.Deep
section
variable{w:World}{p:Nat}{a b c u:Value}{t:TypeId}(h:w.heap[p]?=some (.cells #[a,b,c] t (0,0)))
include w p a b c u t h
theorem xr:(w.setCell ⟨p,0,none⟩ u).heap[p]?=some (.cells #[u,b,c] t (0,0)):=by
 have hlt:=lt_of_block h
 have h':w.heap[p]=.cells #[a,b,c] t (0,0):=by simpa [Array.getElem?_eq_getElem hlt]using h
 exact mG
theorem xt:(w.setCell ⟨p,1,none⟩ u).heap[p]?=some (.cells #[a,u,c] t (0,0)):=by
 exact mG
theorem qJ:(w.setCell ⟨p,2,none⟩ u).heap[p]?=some (.cells #[a,b,u] t (0,0)):=by
 exact mG
end
end Go.Proofs.YtadndhgebgjlaaaGreat
