/- Digest: the walk of Compress -/
import Derived.Test.YtalmmiojbmpmiaaGreatDoorPi
import Derived.Test.YtalmmiojbmpmiaaGreatDoorPm
set_option linter.all false
namespace Go.Proofs.YtalmmiojbmpmiaaGreatDoor
open Go.RowKit Go.Deep
def KD(w:World):Prop:=∀j,j<64->w.cell? ⟨0,j,none⟩=some (W32 (j1p.getD j 0))
theorem KD.below{w w':World}{B:Nat}(h:KD w)(hb:Below B w w')(hB:0<B):KD w':=fun j hj=>(hb.cell (p:=⟨0,j,none⟩) hB).trans (h j hj)
theorem KD.lt{w:World}(h:KD w):0<w.heap.size:=block_lt_of_cell (h 0 (by omega))
theorem j6c(g:Nat)(w:World):(Instr.arrayAt 144 (.slice (some ⟨g,0,none⟩) 8 8)).run Tryz.prog w=.ok (.pointer (some ⟨g,0,none⟩)) w:=by kernel_rfl
theorem j6l(w:World):(Instr.makeSlice 106 (.int .i64 8) (.int .i64 8)).run Tryz.prog w=.ok (.slice (some ⟨w.heap.size,0,none⟩) 8 8) (w.alloc (.cells #[.int .u32 0,.int .u32 0,.int .u32 0,.int .u32 0,.int .u32 0,.int .u32 0,.int .u32 0,.int .u32 0] 113)):=by kernel_rfl
def X9(n:Nat)(l:List UInt32):Array Value:=((l++List.replicate (n - l.length) 0).map W32).toArray
section
variable{w:World}
include w
theorem qq{g m:Nat}{t:TypeId}{l:List UInt32}{f:Nat×Nat}(h:w.heap[g]?=some (.cells (X9 m l) t f)){j:Nat}(hj:j<l.length):w.cell? ⟨g,j,none⟩=some (W32 (l.getD j 0)):=by
 rw [cell_of_row _ _ _ _ _ _ h]
 simp [X9,List.getElem?_append,hj]
theorem xS{g m:Nat}{t:TypeId}{l:List UInt32}(hl:l.length<m)(h:w.heap[g]?=some (.cells (X9 m l) t (0,0))):w.cell? ⟨g,l.length,none⟩=some (W32 0)/\w.frozen? ⟨g,l.length,none⟩=false:=by
 refine⟨?_,by simp [World.frozen?,h]⟩
 rw [cell_of_row _ _ _ _ _ _ h]
 obtain⟨n,hn⟩:∃n,m - l.length=n+1:=⟨m - l.length - 1,by omega⟩
 simp [X9,hn,List.replicate_succ]
theorem xk{g o:Nat}{C:Array Value}{t:TypeId}{f:Nat×Nat}{v:Value}(h:w.heap[g]?=some (.cells C t f)):(w.setCell ⟨g,o,none⟩ v).heap[g]?=some (.cells (C.set! o v) t f):=by
 unfold World.setCell
 simp [Array.getElem?_modify,h]
theorem xR{g m:Nat}{t:TypeId}{l:List UInt32}{x:UInt32}(hl:l.length<m)(h:w.heap[g]?=some (.cells (X9 m l) t (0,0))):(w.setCell ⟨g,l.length,none⟩ (W32 x)).heap[g]?=some (.cells (X9 m (l++ [x])) t (0,0)):=by
 have h2:=xk (o:=l.length) (v:=W32 x) h
 rw [h2]
 have e:(X9 m l).set! l.length (W32 x)=X9 m (l++ [x]):=by
  apply Array.ext'
  simp only [X9,Array.set!_eq_setIfInBounds,Array.toList_setIfInBounds,List.length_append,List.length_singleton]
  obtain⟨n,hn⟩:∃n,m - l.length=n+1:=⟨m - l.length - 1,by omega⟩
  have hn2:m - (l.length+1)=n:=by omega
  rw [hn,hn2,List.replicate_succ]
  simp
 rw [e]
theorem xC{p:Nat}{a b c d e f g h:Value}{t:TypeId}(hh:w.heap[p]?=some (.cells #[a,b,c,d,e,f,g,h] t (0,0))):
 w.cell? ⟨p,0,none⟩=some a/\w.cell? ⟨p,1,none⟩=some b/\w.cell? ⟨p,2,none⟩=some c/\w.cell? ⟨p,3,none⟩=some d/\w.cell? ⟨p,4,none⟩=some e/\w.cell? ⟨p,5,none⟩=some f/\w.cell? ⟨p,6,none⟩=some g/\w.cell? ⟨p,7,none⟩=some h/\∀o,w.frozen? ⟨p,o,none⟩=false:=by
 have key:∀o v,#[a,b,c,d,e,f,g,h][o]?=some v->w.cell? ⟨p,o,none⟩=some v:=fun o v e=>by rw [cell_of_row _ _ _ _ _ _ hh];exact e
 exact⟨key 0 _ rfl,key 1 _ rfl,key 2 _ rfl,key 3 _ rfl,key 4 _ rfl,key 5 _ rfl,key 6 _ rfl,key 7 _ rfl,fun o=>by simp [World.frozen?,hh]⟩
theorem zS{p:Nat}{s:St8}{t:TypeId}(hh:w.heap[p]?=some (.cells s.cells t (0,0))){j:Nat}(hj:j<8):w.cell? ⟨p,j,none⟩=some (W32 (s.list.getD j 0)):=by
 rw [cell_of_row _ _ _ _ _ _ hh]
 obtain rfl|rfl|rfl|rfl|rfl|rfl|rfl|rfl:j=0\/j=1\/j=2\/j=3\/j=4\/j=5\/j=6\/j=7:=by omega
 all_goals rfl
end
theorem Vz(s:St8)(b:List UInt8){t:Nat}(ht:t<8):(zx s b).list.take (t+1)=(zx s b).list.take t++ [s.list.getD t 0+(qw b s 64).list.getD t 0]:=by
 unfold zx
 obtain⟨r,hr⟩:∃r,qw b s 64=r:=⟨_,rfl⟩
 rw [hr]
 obtain rfl|rfl|rfl|rfl|rfl|rfl|rfl|rfl:t=0\/t=1\/t=2\/t=3\/t=4\/t=5\/t=6\/t=7:=by omega
 all_goals rfl
def j85(w:World)(g:Nat)(x:St8):World:=(((((((w.setCell ⟨g,0,none⟩ (W32 x.a)).setCell ⟨g,1,none⟩ (W32 x.b)).setCell ⟨g,2,none⟩ (W32 x.c)).setCell ⟨g,3,none⟩ (W32 x.d)).setCell ⟨g,4,none⟩ (W32 x.e)).setCell ⟨g,5,none⟩ (W32 x.f)).setCell ⟨g,6,none⟩ (W32 x.g)).setCell ⟨g,7,none⟩ (W32 x.h)
theorem j3k{w:World}{p:Nat}{a b c d e f g h:Value}{t:TypeId}(x:St8)(hh:w.heap[p]?=some (.cells #[a,b,c,d,e,f,g,h] t (0,0))):(j85 w p x).heap[p]?=some (.cells x.cells t (0,0)):=by
 have h1:=xk (o:=0) (v:=W32 x.a) hh
 simp only [Array.set!_eq_setIfInBounds,List.setIfInBounds_toArray,List.set_cons_zero]at h1
 have h2:=xk (o:=1) (v:=W32 x.b) h1
 simp only [Array.set!_eq_setIfInBounds,List.setIfInBounds_toArray,List.set_cons_succ,List.set_cons_zero]at h2
 have h3:=xk (o:=2) (v:=W32 x.c) h2
 simp only [Array.set!_eq_setIfInBounds,List.setIfInBounds_toArray,List.set_cons_succ,List.set_cons_zero]at h3
 have h4:=xk (o:=3) (v:=W32 x.d) h3
 simp only [Array.set!_eq_setIfInBounds,List.setIfInBounds_toArray,List.set_cons_succ,List.set_cons_zero]at h4
 have h5:=xk (o:=4) (v:=W32 x.e) h4
 simp only [Array.set!_eq_setIfInBounds,List.setIfInBounds_toArray,List.set_cons_succ,List.set_cons_zero]at h5
 have h6:=xk (o:=5) (v:=W32 x.f) h5
 simp only [Array.set!_eq_setIfInBounds,List.setIfInBounds_toArray,List.set_cons_succ,List.set_cons_zero]at h6
 have h7:=xk (o:=6) (v:=W32 x.g) h6
 simp only [Array.set!_eq_setIfInBounds,List.setIfInBounds_toArray,List.set_cons_succ,List.set_cons_zero]at h7
 have h8:=xk (o:=7) (v:=W32 x.h) h7
 simp only [Array.set!_eq_setIfInBounds,List.setIfInBounds_toArray,List.set_cons_succ,List.set_cons_zero]at h8
 exact h8
theorem V0{w w':World}{B g:Nat}{x:St8}(h:Below B w w')(hg:B<=g):Below B w (j85 w' g x):=(((((((h.setCell hg _).setCell hg _).setCell hg _).setCell hg _).setCell hg _).setCell hg _).setCell hg _).setCell hg _
end Go.Proofs.YtalmmiojbmpmiaaGreatDoor
