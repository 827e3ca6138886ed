/- Rows of objects of the call's own whose bytes lie outside of some blocks; append of any number of objects; Words for sessions; Values of bytes in one word; s... -/
import Derived.Test.YtadndhgebgjlaaaPl
import Derived.Test.YtadndhgebgjlaaaPp
import Derived.Test.YtadndhgebgjlaaaPm
import Derived.Test.YtadndhgebgjlaaaPo
set_option linter.unusedVariables false
set_option linter.unusedSimpArgs false
namespace Go.Proofs.Ytadndhgebgjlaaa
open Go.RowKit Go.Deep
theorem BsS.off{w:World}{S:Nat->Prop}{v:Value}{l:List UInt8}{z:Nat}{C:Array Value}{t:TypeId}{f:Nat×Nat}(h:BsS w S v l)(hz:w.heap[z]?=some (.cells C t f)) (hC:∀(i:Nat) (x:UInt8),C[i]? ≠some (U8 x)):BsS w (fun b=>S b/\b≠z) v l:=by
 obtain⟨a,c,e,h1,h2,h3,h4⟩:=h
 refine⟨a,c,e,h1,h2,h3,fun h0=> ?_⟩
 obtain⟨b,off,ea,hb,hc⟩:=h4 h0
 refine⟨b,off,ea,⟨hb,fun e=> ?_⟩,hc⟩
 subst e
 have:=hc 0 h0
 rw [cell_of_row _ _ _ _ _ _ hz]at this
 exact hC _ _ this
theorem jb{w:World}{p:Nat}{a b c:Value}{t:TypeId}(h:w.heap[p]?=some (.cells #[a,b,c] t (0,0))):
 w.cell? ⟨p,0,none⟩=some a/\w.cell? ⟨p,1,none⟩=some b/\w.cell? ⟨p,2,none⟩=some c/\∀o,w.frozen? ⟨p,o,none⟩=false:=by
 have key:∀o v,#[a,b,c][o]?=some v->w.cell? ⟨p,o,none⟩=some v:=fun o v e=>by rw [cell_of_row _ _ _ _ _ _ h];exact e
 exact⟨key 0 _ rfl,key 1 _ rfl,key 2 _ rfl,fun o=>by simp [World.frozen?,h]⟩
def set3(w:World)(g:Nat)(a b c:Value):World:=((w.setCell ⟨g,0,none⟩ a).setCell ⟨g,1,none⟩ b).setCell ⟨g,2,none⟩ c
theorem jF{w:World}{g:Nat}{x y z:Value}{t:TypeId}(a b c:Value)(h:w.heap[g]?=some (.cells #[x,y,z] t (0,0))):(set3 w g a b c).heap[g]?=some (.cells #[a,b,c] t (0,0)):=
 j7 (o:=2) (j7 (o:=1) (j7 (o:=0) h))
theorem jq{w w':World}{B g:Nat}{a b c:Value}(h:Below B w w')(hg:B<=g):Below B w (set3 w' g a b c):=((h.setCell hg _).setCell hg _).setCell hg _
theorem jz{w:World}{g j:Nat}{a b c:Value}(h:j≠g):(set3 w g a b c).heap[j]?=w.heap[j]? :=by
 unfold set3
 rw [Below.heap_setCell _ _ _ _ (by exact h),Below.heap_setCell _ _ _ _ (by exact h),Below.heap_setCell _ _ _ _ (by exact h)]
def yk(w:World)(S:Nat->Prop)(v:Value)(k1 k2:List UInt8)(n:Int):Prop:=∃a b,v=.agg #[a,b,.int .i64 n]/\BsS w S a k1/\BsS w S b k2
theorem UJ(A B:Option Addr)(n m c d:Nat)(k:Int):∀(i:Nat) (x:UInt8),(#[.slice A n c,.slice B m d,.int .i64 k]:Array Value)[i]? ≠some (U8 x):=by
 intro i x
 rcases i with _|_|_|i
 ·simp
 ·simp
 ·simp
 ·simp
theorem Bs.formL{w:World}{S:Nat->Prop}{v:Value}{l:List UInt8}(h:BsS w S v l):∃A c,v=.slice A l.length c:=by
 obtain⟨a,c,e,_⟩:=h
 exact⟨a,c,e⟩
theorem OwnB.rd{w w':World}{v:Value}{l:List UInt8}(h:OwnB w' w.heap.size v l)(hl:l.length<=140737488355328):Bs w' w'.heap.size v l:=(h.out hl w iL).keep fun _ hs _=>⟨rfl,hs.2⟩
theorem BsS.rd{w w':World}{v:Value}{l:List UInt8}(h:BsS w' (New w w') v l):Bs w' w'.heap.size v l:=h.keep fun _ hs _=>⟨rfl,hs.2⟩
theorem Bs.setr{w:World}{v:Value}{l:List UInt8}(h:Bs w w.heap.size v l){z k:Nat}{C:Array Value}{t:TypeId}{f:Nat×Nat}(u:Value)(hz:w.heap[z]?=some (.cells C t f)) (hC:∀(i:Nat) (x:UInt8),C[i]? ≠some (U8 x)):Bs (w.setCell ⟨z,k,none⟩ u) (w.setCell ⟨z,k,none⟩ u).heap.size v l:=
 BsS.keep (h.off hz hC) fun g hs _=>⟨Below.heap_setCell _ _ _ _ hs.2,by simpa using hs.1⟩
theorem jI{w:World}{p:Nat}{a b c d:Value}{t:TypeId}(h:w.heap[p]?=some (.cells #[a,b,c,d] t (0,0))):
 w.cell? ⟨p,0,none⟩=some a/\w.cell? ⟨p,1,none⟩=some b/\w.cell? ⟨p,2,none⟩=some c/\w.cell? ⟨p,3,none⟩=some d/\∀o,w.frozen? ⟨p,o,none⟩=false:=by
 have key:∀o v,#[a,b,c,d][o]?=some v->w.cell? ⟨p,o,none⟩=some v:=fun o v e=>by rw [cell_of_row _ _ _ _ _ _ h];exact e
 exact⟨key 0 _ rfl,key 1 _ rfl,key 2 _ rfl,key 3 _ rfl,fun o=>by simp [World.frozen?,h]⟩
def XQ(w:World)(g:Nat)(a b c d:Value):World:=(((w.setCell ⟨g,0,none⟩ a).setCell ⟨g,1,none⟩ b).setCell ⟨g,2,none⟩ c).setCell ⟨g,3,none⟩ d
theorem Kd{w:World}{g:Nat}{x y z u:Value}{t:TypeId}(a b c d:Value)(h:w.heap[g]?=some (.cells #[x,y,z,u] t (0,0))):(XQ w g a b c d).heap[g]?=some (.cells #[a,b,c,d] t (0,0)):=
 j7 (o:=3) (j7 (o:=2) (j7 (o:=1) (j7 (o:=0) h)))
theorem xm{w:World}{g j:Nat}{a b c d:Value}(h:j≠g):(XQ w g a b c d).heap[j]?=w.heap[j]? :=by
 unfold XQ
 rw [Below.heap_setCell _ _ _ _ (by exact h),Below.heap_setCell _ _ _ _ (by exact h),Below.heap_setCell _ _ _ _ (by exact h),Below.heap_setCell _ _ _ _ (by exact h)]
theorem zR{w w':World}{B g:Nat}{a b c d:Value}(h:Below B w w')(hg:B<=g):Below B w (XQ w' g a b c d):=(((h.setCell hg _).setCell hg _).setCell hg _).setCell hg _
theorem zt(w:World)(g:Nat)(a b c d:Value):(XQ w g a b c d).heap.size=w.heap.size:=by simp [XQ]
def noB(C:Array Value):Prop:=∀(i:Nat) (x:UInt8),C[i]? ≠some (U8 x)
theorem UY{a b c d:Value}(ha:∀x,a≠U8 x)(hb:∀x,b≠U8 x)(hc:∀x,c≠U8 x)(hd:∀x,d≠U8 x):noB #[a,b,c,d]:=by
 intro i x
 rcases i with _|_|_|_|i
 ·simpa using ha x
 ·simpa using hb x
 ·simpa using hc x
 ·simpa using hd x
 ·simp
structure Cm where
 cl:Int
 ins:Int
 p1:Int
 p2:Int
 data:List UInt8
 ex:Int
def XW(w:World)(S:Nat->Prop)(v:Value)(c:Cm):Prop:=∃d,v=.agg #[.int .i64 c.cl,.int .i64 c.ins,.int .i64 c.p1,.int .i64 c.p2,d,.int .i64 c.ex]/\BsS w S d c.data
end Go.Proofs.Ytadndhgebgjlaaa
