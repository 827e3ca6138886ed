/- Words: a slice of one object in its block; a row of plain objects that grows beside a row of bytes; Rows of objects of the call's own whose bytes lie outside... -/
import Derived.Test.YtalmmiojbmpmiaaGreatDoorPBg
import Derived.Test.YtalmmiojbmpmiaaGreatDoorPBh
import Derived.Test.YtalmmiojbmpmiaaGreatDoorPv
import Derived.Test.YtalmmiojbmpmiaaGreatDoorPx
set_option linter.all false
namespace Go.Proofs.YtalmmiojbmpmiaaGreatDoor
open Go.RowKit Go.Deep
theorem NsS.one{w:World}{S:Nat->Prop}{g:Nat}{t:Int}{x y:Value}{v:List UInt8}{k:Ns}{ty:TypeId}(h:w.heap[g]?=some (.cells #[.int .i64 t,x,y] ty (0,0)))(hs:S g)(hi:zI t)(hv:BsS w S x v)(hk:NsS w S y k):
 NsS w S (.slice (some ⟨g,0,none⟩) 1 1) (.cons t v k .nil):=by
 obtain⟨c0,c1,c2,_⟩:=kt h
 obtain⟨a,c,rfl,h1,h2,h3,h4⟩:=hk
 exact⟨_,1,rfl,Nat.le_refl _,by simp [maxLen],by simp [Ns.len],fun _=>⟨g,0,rfl,hs,(iG h),c0,hi,⟨x,c1,hv⟩,⟨a,c,c2,h1,h2,h3,h4⟩,trivial⟩⟩
theorem BsS.off{w:World}{S:Nat->Prop}{v:Value}{l:List UInt8}{z:Nat}{C:Array Value}{t:TypeId}{f:Nat×Nat}(h:BsS w S v l)(hz:w.heap[z]?=some (.cells C t f))(hC:∀(i:Nat) (x:UInt8),C[i]? ≠some (U8 x)):BsS w (fun b=>S b/\b≠z) v l:=by
 obtain⟨a,c,e,h1,h2,h3,h4⟩:=h
 refine⟨a,c,e,h1,h2,h3,fun h0=> ?_⟩
 obtain⟨b,off,ea,hb,hc⟩:=h4 h0
 refine⟨b,off,ea,⟨hb,fun e=> ?_⟩,hc⟩
 subst e
 have:=hc 0 h0
 rw [cell_of_row _ _ _ _ _ _ hz]at this
 exact hC _ _ this
theorem xt{w:World}{p:Nat}{a b c:Value}{t:TypeId}(h:w.heap[p]?=some (.cells #[a,b,c] t (0,0))):
 w.cell? ⟨p,0,none⟩=some a/\w.cell? ⟨p,1,none⟩=some b/\w.cell? ⟨p,2,none⟩=some c/\∀o,w.frozen? ⟨p,o,none⟩=false:=by
 have key:∀o v,#[a,b,c][o]?=some v->w.cell? ⟨p,o,none⟩=some v:=fun o v e=>by rw [cell_of_row _ _ _ _ _ _ h];exact e
 exact⟨key 0 _ rfl,key 1 _ rfl,key 2 _ rfl,fun o=>by simp [World.frozen?,h]⟩
def QS(w:World)(g:Nat)(a b c:Value):World:=((w.setCell ⟨g,0,none⟩ a).setCell ⟨g,1,none⟩ b).setCell ⟨g,2,none⟩ c
theorem zi{w:World}{g:Nat}{x y z:Value}{t:TypeId}(a b c:Value)(h:w.heap[g]?=some (.cells #[x,y,z] t (0,0))):(QS w g a b c).heap[g]?=some (.cells #[a,b,c] t (0,0)):=
 kD (o:=2) (kD (o:=1) (kD (o:=0) h))
theorem qm{w w':World}{B g:Nat}{a b c:Value}(h:Below B w w')(hg:B<=g):Below B w (QS w' g a b c):=((h.setCell hg _).setCell hg _).setCell hg _
theorem qZ{w:World}{g j:Nat}{a b c:Value}(h:j≠g):(QS w g a b c).heap[j]?=w.heap[j]? :=by
 unfold QS
 rw [iO (by exact h),iO (by exact h),iO (by exact h)]
theorem k8(w:World)(S:Nat->Prop):BsS w S (.slice none 0 0) []:=⟨none,0,rfl,by simp,by omega,by simp,fun h=>by simp at h⟩
def Vi(w:World)(S:Nat->Prop)(v:Value)(k1 k2:List UInt8)(n:Int):Prop:=∃a b,v=.agg #[a,b,.int .i64 n]/\BsS w S a k1/\BsS w S b k2
theorem BsS.dieB{B n:Nat}{w w':World}{p:Nat}{v:Value}{l:List UInt8}(h:BsS w (fun b=>b<w.heap.size/\b≠p) v l)(hd:DiePost B w p n w'):BsS w' (fun b=>b<w'.heap.size/\b≠p) v l:=
 h.keep fun b hs hl=>⟨hd.2.block b hl (fun e=>by injection e with e;exact hs.2 e),iZ hl hd.2.size,hs.2⟩
theorem BsS.onB{w w':World}{p:Nat}{v:Value}{l:List UInt8}(h:BsS w (fun b=>b<w.heap.size/\b≠p) v l)(hb:Below w.heap.size w w'):BsS w' (fun b=>b<w'.heap.size/\b≠p) v l:=
 h.keep fun b hs hl=>⟨hb.block b hl,iZ hl hb.size,hs.2⟩
theorem BsS.madeB{w w':World}{p:Nat}{v:Value}{l:List UInt8}(h:BsS w' (New w w') v l)(hp:p<w.heap.size):BsS w' (fun b=>b<w'.heap.size/\b≠p) v l:=
 h.keep fun b hs _=>⟨rfl,hs.2,by have:=hs.1;omega⟩
theorem BsS.loB{w:World}{p:Nat}{v:Value}{l:List UInt8}(h:BsS w (fun b=>b<w.heap.size/\b≠p) v l):Bs w w.heap.size v l:=h.keep fun _ hs _=>⟨rfl,hs.1⟩
theorem Bs.formL{w:World}{S:Nat->Prop}{v:Value}{l:List UInt8}(h:BsS w S v l):∃A c,v=.slice A l.length c:=by
 obtain⟨a,c,e,_⟩:=h
 exact⟨a,c,e⟩
theorem OwnB.rd{w w':World}{v:Value}{l:List UInt8}(h:OwnB w' w.heap.size v l)(hl:l.length<=140737488355328):Bs w' w'.heap.size v l:=(h.out hl w iL).keep fun _ hs _=>⟨rfl,hs.2⟩
end Go.Proofs.YtalmmiojbmpmiaaGreatDoor
