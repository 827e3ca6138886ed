/- Words: a slice of one object in its block; a row of plain objects that grows beside a row of bytes; Rows of objects of the call's own whose bytes lie outside... -/
import Derived.Test.YtalmmiojbmpmiaaGreatDoorPl
import Derived.Test.YtalmmiojbmpmiaaGreatDoorPr
import Derived.Test.YtalmmiojbmpmiaaGreatDoorPk
import Derived.Test.YtalmmiojbmpmiaaGreatDoorPq
set_option linter.all false
namespace Go.Proofs.YtalmmiojbmpmiaaGreatDoor
open Go.RowKit Go.Deep
theorem NsS.one{w:World}{S:Nat->Prop}{g:Nat}{t:Int}{x y:Value}{v:List UInt8}{k:Ns}{ty:TypeId}(h:w.heap[g]?=some (.cells #[.int .i64 t,x,y] ty (0,0)))(hs:S g)(hi:x5 t)(hv:BsS w S x v)(hk:NsS w S y k):
 NsS w S (.slice (some ⟨g,0,none⟩) 1 1) (.cons t v k .nil):=by
 obtain⟨c0,c1,c2,_⟩:=qX h
 obtain⟨a,c,rfl,h1,h2,h3,h4⟩:=hk
 exact⟨_,1,rfl,Nat.le_refl _,by simp [maxLen],by simp [Ns.len],fun _=>⟨g,0,rfl,hs,(iG h),c0,hi,⟨x,c1,hv⟩,⟨a,c,c2,h1,h2,h3,h4⟩,trivial⟩⟩
theorem BsS.off{w:World}{S:Nat->Prop}{v:Value}{l:List UInt8}{z:Nat}{C:Array Value}{t:TypeId}{f:Nat×Nat}(h:BsS w S v l)(hz:w.heap[z]?=some (.cells C t f)) (hC:∀(i:Nat) (x:UInt8),C[i]? ≠some (U8 x)):BsS w (fun b=>S b/\b≠z) v l:=by
 obtain⟨a,c,e,h1,h2,h3,h4⟩:=h
 refine⟨a,c,e,h1,h2,h3,fun h0=> ?_⟩
 obtain⟨b,off,ea,hb,hc⟩:=h4 h0
 refine⟨b,off,ea,⟨hb,fun e=> ?_⟩,hc⟩
 subst e
 have:=hc 0 h0
 rw [cell_of_row _ _ _ _ _ _ hz]at this
 exact hC _ _ this
theorem UV{z:Int}(h0:0<=z)(h1:z<=255):Value.int .u8 z=U8 (ofI z):=by rw [<-j3,Int.emod_eq_of_lt h0 (by omega)]
theorem qc{ops:Array Oper}{rest:List Oper}{o:Oper}{a:Act}{w:World}{Q:Exit->Act->World->Prop}(hgd:o.guard=none)(s x:Operand)
 (ho:o.op=.call {callee:=.builtin .append,args:=#[s,x],argTypes:=#[22,22]})
 (base:Nat) (v:Value) (l:List UInt8) (hs:a.eval s=v) (hown:OwnB w base v l) (z:Int) (h0:0<=z) (h1:z<=255) (t:TypeId) (g:Nat) (hx:a.eval x=.slice (some ⟨g,0,none⟩) 1 1) (hg:g=w.heap.size)
 (hb:l.length+1<=140737488355328) (hbase:base<=w.heap.size)
 (h:∀v' w',V1 w w' base v v' (l++ [ofI z])->wpList Tryz.prog ops Q rest (a.put o.dst v') w'):wpList Tryz.prog ops Q (o :: rest) a (w.alloc (.cells #[.int .u8 z] t)):=by
 rw [UV h0 h1]
 exact jw hgd s x ho base v l hs hown (ofI z) t g hx hg hb hbase h
def DRow(B:Nat)(w wi:World)(p n:Nat)(o:Value)(l:List UInt8):Prop:=OwnB wi w.heap.size o l/\DiePost B w p n wi/\B<=w.heap.size
theorem DRow.start{B:Nat}{w:World}{p n:Nat}(h:Die B w p n):DRow B w w p n (.slice none 0 0) []:=⟨OwnB.nil _ _,⟨h,World.grownBy.refl _ _⟩,h.le⟩
theorem Kd{wi wj:World}{base e size n p:Nat}{o:Value}{xs:List Value}(h:wi.ownsRow base e size o n xs)(hp:p<base)(hg:wi.grownBy wj (some p)):wj.ownsRow base e size o n xs:=
 World.ownsRow.kept h hg (by
  rcases e:o.ownBlock with _|b
  ·exact .inl rfl
  ·refine .inr fun e2=> ?_
   have:=(h.lt b e).1
   injection e2 with e2
   omega)
theorem DRow.call{B:Nat}{w wi wj:World}{p n:Nat}{o:Value}{l:List UInt8}(h:DRow B w wi p n o l)(hd:DiePost B wi p n wj):DRow B w wj p n o l:=
 ⟨Kd h.1 (iZ hd.1.lt h.2.2) hd.2,h.2.1.trans hd,h.2.2⟩
theorem UB{w wi wj:World}{p:Nat}{row:Option Nat}(h:w.grownBy wi (some p))(hg:wi.grownBy wj row)(hr:∀b,row=some b->w.heap.size<=b):w.grownBy wj (some p):=
 ⟨hg.os.trans h.os,hg.tape.trans h.tape,hg.output.trans h.output,Nat.le_trans h.size hg.size,fun k hk hne=>(hg.block k (iZ hk h.size) (fun e=>by have:=hr k e.symm;omega)).trans (h.block k hk hne)⟩
theorem DRow.grew{B:Nat}{w wi wj:World}{p n:Nat}{o o':Value}{l l':List UInt8}(h:DRow B w wi p n o l)(g:V1 wi wj w.heap.size o o' l'):DRow B w wj p n o' l':=by
 obtain⟨h1,⟨h2,h3⟩,h4⟩:=h
 obtain⟨g1,g2,g3,g4⟩:=g
 exact⟨g1,⟨h2.below (g2.mono h4),UB h3 g3 fun b e=>(h1.lt b e).1⟩,h4⟩
theorem DRow.own{B:Nat}{w wi:World}{p n:Nat}{o:Value}{l:List UInt8}(h:DRow B w wi p n o l):OwnB wi w.heap.size o l:=h.1
theorem DRow.die{B:Nat}{w wi:World}{p n:Nat}{o:Value}{l:List UInt8}(h:DRow B w wi p n o l):Die B wi p n:=h.2.1.1
theorem DRow.size{B:Nat}{w wi:World}{p n:Nat}{o:Value}{l:List UInt8}(h:DRow B w wi p n o l):w.heap.size<=wi.heap.size:=h.2.1.2.size
theorem xw{w:World}{p:Nat}{a b c:Value}{t:TypeId}(h:w.heap[p]?=some (.cells #[a,b,c] t (0,0))):
 w.cell? ⟨p,0,none⟩=some a/\w.cell? ⟨p,1,none⟩=some b/\w.cell? ⟨p,2,none⟩=some c/\∀o,w.frozen? ⟨p,o,none⟩=false:=by
 have key:∀o v,#[a,b,c][o]?=some v->w.cell? ⟨p,o,none⟩=some v:=fun o v e=>by rw [cell_of_row _ _ _ _ _ _ h];exact e
 exact⟨key 0 _ rfl,key 1 _ rfl,key 2 _ rfl,fun o=>by simp [World.frozen?,h]⟩
def Z6(w:World)(g:Nat)(a b c:Value):World:=((w.setCell ⟨g,0,none⟩ a).setCell ⟨g,1,none⟩ b).setCell ⟨g,2,none⟩ c
theorem zl{w:World}{g:Nat}{x y z:Value}{t:TypeId}(a b c:Value)(h:w.heap[g]?=some (.cells #[x,y,z] t (0,0))):(Z6 w g a b c).heap[g]?=some (.cells #[a,b,c] t (0,0)):=
 kM (o:=2) (kM (o:=1) (kM (o:=0) h))
theorem kU{w w':World}{B g:Nat}{a b c:Value}(h:Below B w w')(hg:B<=g):Below B w (Z6 w' g a b c):=((h.setCell hg _).setCell hg _).setCell hg _
theorem yD{w:World}{g j:Nat}{a b c:Value}(h:j≠g):(Z6 w g a b c).heap[j]?=w.heap[j]? :=by
 unfold Z6
 rw [iO (by exact h),iO (by exact h),iO (by exact h)]
theorem kh(w:World)(S:Nat->Prop):BsS w S (.slice none 0 0) []:=⟨none,0,rfl,by simp,by omega,by simp,fun h=>by simp at h⟩
def YP(w:World)(S:Nat->Prop)(v:Value)(k1 k2:List UInt8)(n:Int):Prop:=∃a b,v=.agg #[a,b,.int .i64 n]/\BsS w S a k1/\BsS w S b k2
theorem BsS.onB{w w':World}{p:Nat}{v:Value}{l:List UInt8}(h:BsS w (fun b=>b<w.heap.size/\b≠p) v l)(hb:Below w.heap.size w w'):BsS w' (fun b=>b<w'.heap.size/\b≠p) v l:=
 h.keep fun b hs hl=>⟨hb.block b hl,iZ hl hb.size,hs.2⟩
theorem BsS.madeB{w w':World}{p:Nat}{v:Value}{l:List UInt8}(h:BsS w' (New w w') v l)(hp:p<w.heap.size):BsS w' (fun b=>b<w'.heap.size/\b≠p) v l:=
 h.keep fun b hs _=>⟨rfl,hs.2,by have:=hs.1;omega⟩
theorem BsS.loB{w:World}{p:Nat}{v:Value}{l:List UInt8}(h:BsS w (fun b=>b<w.heap.size/\b≠p) v l):Bs w w.heap.size v l:=h.keep fun _ hs _=>⟨rfl,hs.1⟩
theorem Bs.formL{w:World}{S:Nat->Prop}{v:Value}{l:List UInt8}(h:BsS w S v l):∃A c,v=.slice A l.length c:=by
 obtain⟨a,c,e,_⟩:=h
 exact⟨a,c,e⟩
theorem OwnB.rd{w w':World}{v:Value}{l:List UInt8}(h:OwnB w' w.heap.size v l)(hl:l.length<=140737488355328):Bs w' w'.heap.size v l:=(h.out hl w iL).keep fun _ hs _=>⟨rfl,hs.2⟩
end Go.Proofs.YtalmmiojbmpmiaaGreatDoor
