/- Lists of lists of bytes in memory -/
import Derived.Test.YtalmmiojbmpmiaaGreatDoorPd
set_option linter.all false
namespace Go.Proofs.YtalmmiojbmpmiaaGreatDoor
open Go.RowKit
def gl(L:List (List UInt8))(j:Nat):List UInt8:=L.getD j []
def Each(w:World)(S:Nat->Prop)(xs:List Value)(L:List (List UInt8)):Prop:=xs.length=L.length/\∀j x,xs[j]?=some x->BsS w S x (gl L j)
def LBsS(w:World)(S:Nat->Prop)(v:Value)(L:List (List UInt8)):Prop:=
 ∃a c xs,v=.slice a L.length c/\L.length<=c/\c<=9223372036854775807/\Each w S xs L/\
  (0<L.length->∃b off,a=some ⟨b,off,none⟩/\S b/\∀j x,xs[j]?=some x->w.cell? ⟨b,off+j,none⟩=some x)
abbrev LBs(w:World)(B:Nat)(v:Value)(L:List (List UInt8)):Prop:=LBsS w (·<B) v L
theorem Each.keep{w w':World}{S S':Nat->Prop}{xs:List Value}{L:List (List UInt8)}(h:Each w S xs L)(hk:∀b,S b->b<w.heap.size->w'.heap[b]?=w.heap[b]?/\S' b):Each w' S' xs L:=
 ⟨h.1,fun j x hx=>(h.2 j x hx).keep hk⟩
def Off(base:Nat)(w:World)(v:Value)(b:Nat):Prop:=b<w.heap.size/\v.ownBlock≠some b/\base<=b
theorem Each.grown{w w':World}{base:Nat}{v v':Value}{xs:List Value}{L:List (List UInt8)}(h:Each w (Off base w v) xs L)(hg:w.grownBy w' v.ownBlock)(hv:v'.ownBlock=v.ownBlock\/v'.ownBlock=some w.heap.size):Each w' (Off base w' v') xs L:=
 h.keep fun b hs hlt=>⟨hg.block b hlt (fun e=>hs.2.1 e.symm),by have:=hg.size;omega,by
  rcases hv with e|e
  ·rw [e];exact hs.2.1
  ·rw [e];intro h';injection h' with h';omega,hs.2.2⟩
theorem Each.snoc{w:World}{S:Nat->Prop}{xs:List Value}{L:List (List UInt8)}(h:Each w S xs L){x:Value}{l:List UInt8}(hx:BsS w S x l):Each w S (xs++ [x]) (L++ [l]):=by
 refine⟨by simp [h.1],fun j y hy=> ?_⟩
 rcases Nat.lt_or_ge j xs.length with hj|hj
 ·rw [List.getElem?_append_left hj]at hy
  have:=h.2 j y hy
  unfold gl at this |-
  rwa [List.getD_eq_getElem?_getD,List.getElem?_append_left (by rw [<-h.1];exact hj),<-List.getD_eq_getElem?_getD]
 ·rw [List.getElem?_append_right hj]at hy
  have hj2:j=xs.length:=by
   rcases Nat.lt_or_ge (j - xs.length) 1 with h1|h1
   ·omega
   ·rw [List.getElem?_eq_none (by simpa using h1)]at hy;cases hy
  subst hj2
  simp at hy
  subst hy
  unfold gl
  rw [List.getD_eq_getElem?_getD,List.getElem?_append_right (by rw [h.1];exact Nat.le_refl _)]
  simpa [h.1]using hx
theorem Each.nil(w:World)(S:Nat->Prop):Each w S [] []:=⟨rfl,fun j x hx=>by simp at hx⟩
theorem LBsS.of_own{w:World}{base B:Nat}{e:TypeId}{S:Nat->Prop}{v:Value}{n:Nat}{xs:List Value}{L:List (List UInt8)}(h:w.ownsRow base e 1 v n xs)(hE:Each w S xs L)(hS:∀b,S b->B<=b/\b<w.heap.size)(hB:B<=base):LBsS w (fun b=>B<=b/\b<w.heap.size) v L:=by
 have hE':Each w (fun b=>B<=b/\b<w.heap.size) xs L:=hE.keep fun b hs _=>⟨rfl,hS b hs⟩
 have hn:n=L.length:=by have:=h.1;have:=hE.1;omega
 subst hn
 rcases h.2 with ⟨rfl,h0⟩|⟨g,cap,cur,hv,hg,hh,hlen,hcap,hrest⟩
 ·exact⟨none,0,xs,by rw [h0],by omega,by omega,hE',fun hp=>by omega⟩
 ·have hlt:g<w.heap.size:=(iG hh)
  refine⟨_,cap,xs,hv,hlen,by unfold maxLen at hcap;omega,hE',fun hpos=>⟨g,0,rfl,⟨Nat.le_trans hB hg,hlt⟩,fun j x hx=> ?_⟩⟩
  have:=h.cells (g:=g) (by rw [hv]<;>rfl) j x hx
  rwa [qN]at this
theorem LBsS.keep{w w':World}{S S':Nat->Prop}{v:Value}{L:List (List UInt8)}(h:LBsS w S v L)(hk:∀b,S b->b<w.heap.size->w'.heap[b]?=w.heap[b]?/\S' b):LBsS w' S' v L:=by
 obtain⟨a,c,xs,hv,h1,h2,hE,h4⟩:=h
 refine⟨a,c,xs,hv,h1,h2,hE.keep hk,fun hp=> ?_⟩
 obtain⟨b,off,ha,hs,hc⟩:=h4 hp
 have hx:xs[0]?=some (xs[0]'(by rw [hE.1];exact hp)):=List.getElem?_eq_getElem _
 have hlt:=block_lt_of_cell (hc 0 _ hx)
 exact⟨b,off,ha,(hk b hs hlt).2,fun j x hx=>(World.cell?_of_block (w:=w) (hk b hs hlt).1).trans (hc j x hx)⟩
theorem LBs.below{w w':World}{B:Nat}{v:Value}{L:List (List UInt8)}(h:LBs w B v L)(hb:Below B w w'):LBs w' B v L:=LBsS.keep h fun b hs _=>⟨hb.block b hs,hs⟩
theorem LBs.mono{w:World}{B B':Nat}{v:Value}{L:List (List UInt8)}(h:LBs w B v L)(hB:B<=B'):LBs w B' v L:=LBsS.keep h fun _ hs _=>⟨rfl,iZ hs hB⟩
theorem VN:(Tryz.prog.info? 22).map (fun i=>(i.zero,i.size,i.bytes))=some (some (.slice none 0 0),1,24):=by kernel_rfl
end Go.Proofs.YtalmmiojbmpmiaaGreatDoor
