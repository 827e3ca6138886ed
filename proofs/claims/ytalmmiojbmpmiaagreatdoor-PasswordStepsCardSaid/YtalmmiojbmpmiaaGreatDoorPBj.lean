/- Layer 21: exchanges that came in or went out, in rows side by side -/
import Derived.Test.YtalmmiojbmpmiaaGreatDoorPBi
set_option linter.all false
namespace Go.Proofs.YtalmmiojbmpmiaaGreatDoor
open Go.RowKit Go.Deep
def ExA(w:World)(v:Value)(X:Exg):Prop:=ExL w (·<w.heap.size) v X/\X.sec.length<=140737488351232/\X.non.length<=140737488351232/\X.k1.length<=140737488351232/\X.k2.length<=140737488351232
structure VR (w wx:World) (Rs:List (Nat×Array Value)) (L:List (Value×List UInt8)):Prop where
 bel:Below w.heap.size w wx
 rows:∀r∈Rs,wx.heap[r.1]?=some (.cells r.2 48 (0,0))
 all:∀x∈L,Bs wx wx.heap.size x.1 x.2
section
variable {w wx wy:World} {Rs:List (Nat×Array Value)} {L:List (Value×List UInt8)} {v:Value} {l:List UInt8}
section
variable(h:VR w wx Rs L)
include h
theorem VR.on(hb:Below wx.heap.size wx wy):VR w wy Rs L:=
 ⟨h.bel.trans (hb.mono h.bel.size),fun r hr=>(hb.block _ (lt_of_block (h.rows r hr))).trans (h.rows r hr),fun x hx=>Bs.lift (h.all x hx) hb⟩
theorem VR.add(hv:Bs wx wx.heap.size v l):VR w wx Rs ((v,l) :: L):=
 ⟨h.bel,h.rows,fun x hx=>by
  rcases List.mem_cons.1 hx with rfl|hx
  ·exact hv
  ·exact h.all x hx⟩
theorem VR.row(row:Array Value):VR w (wx.alloc (.cells row 48)) ((wx.heap.size,row) :: Rs) L:=by
 have h':=h.on (ju wx (.cells row 48))
 exact⟨h'.bel,fun r hr=>by
  rcases List.mem_cons.1 hr with rfl|hr
  ·exact iN
  ·exact h'.rows r hr,h'.all⟩
theorem VR.at(i:Nat)(hi:L[i]?=some (v,l)):Bs wx wx.heap.size v l:=h.all (v,l) (List.mem_of_getElem? hi)
end
theorem VR.rw{g:Nat}{row:Array Value}(h:VR w wx Rs L)(i:Nat)(hi:Rs[i]?=some (g,row)):wx.heap[g]?=some (.cells row 48 (0,0)):=h.rows (g,row) (List.mem_of_getElem? hi)
end
end Go.Proofs.YtalmmiojbmpmiaaGreatDoor
