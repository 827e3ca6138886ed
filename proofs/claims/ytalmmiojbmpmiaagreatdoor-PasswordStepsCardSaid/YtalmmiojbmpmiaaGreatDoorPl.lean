/- append of bytes onto a row of bytes of the call's own, told in lists of bytes -/
import Derived.Test.YtalmmiojbmpmiaaGreatDoorPd
import Derived.Test.YtalmmiojbmpmiaaGreatDoorPk
set_option linter.all false
namespace Go.Proofs.YtalmmiojbmpmiaaGreatDoor
open Go.RowKit
def j3w(w w':World)(base:Nat)(v v':Value)(l:List UInt8):Prop:=
 OwnB w' base v' l/\Below base w w'/\w.grownBy w' v.ownBlock/\(∀b,v'.ownBlock=some b->v.ownBlock=some b\/w.heap.size<=b)
theorem Yn{ops:Array Oper}{rest:List Oper}{o:Oper}{a:Act}{w:World}{Q:Exit->Act->World->Prop}(hgd:o.guard=none)(s x:Operand)(ho:o.op=.call {callee:=.builtin .append,args:=#[s,x],argTypes:=#[22,22]})(base:Nat)(v:Value)(l:List UInt8)(hs:a.eval s=v)(hown:OwnB w base v l)(u:UInt8)(g:Nat)(hx:a.eval x=.slice (some ⟨g,0,none⟩) 1 1)(hc:w.cell? ⟨g,0,none⟩=some (U8 u))(hb:l.length+1<=140737488355328)(hbase:base<=w.heap.size)(h:∀v' w',j3w w w' base v v' (l++ [u])->wpList Tryz.prog ops Q rest (a.put o.dst v') w'):wpList Tryz.prog ops Q (o :: rest) a w:=
 jn w hgd s x 22 ho base 5 (.int .u8 0) 1 Tryz.underlying22 kC rfl (by omega) v l.length (l.map U8) hs hown (some ⟨g,0,none⟩) 1 1 [U8 u] hx
  ⟨rfl,fun _=>⟨_,rfl,fun j y hy=>by
   have hj:j=0:=by
    rcases j with _|j
    ·rfl
    ·simp at hy
   subst hj
   rw [qN]
   simp at hy
   subst hy
   exact hc⟩,by simp [Value.oneCell']⟩ (by omega) hbase fun v' w' h1 h2 h3 _=>h v' w' ⟨by
    have:(l++ [u]).length=l.length+1:=by simp
    unfold OwnB
    rw [this,List.map_append]
    exact h1,jj hown h2 iL hbase,h2,fun b hb=>h3.elim (fun e=>.inl (e▸hb)) fun e=>.inr (by rw [e]at hb;injection hb with hb;omega)⟩
theorem j2t(w:World)(u:Value)(t:TypeId):(w.alloc (.cells #[u] t)).cell? ⟨w.heap.size,0,none⟩=some u:=by
 rw [cell_of_row _ _ _ _ _ _ (iN)]<;>rfl
section
variable{ops:Array Oper}{rest:List Oper}{o:Oper}{a:Act}{w:World}{Q:Exit->Act->World->Prop}(hgd:o.guard=none)(s x:Operand)(ho:o.op=.call {callee:=.builtin .append,args:=#[s,x],argTypes:=#[22,22]})(base:Nat)(v:Value)(l:List UInt8)(hs:a.eval s=v)(hown:OwnB w base v l)
include ops rest o a w Q hgd s x ho base v l hs hown
theorem ji(u:UInt8)(t:TypeId)(g:Nat)(hx:a.eval x=.slice (some ⟨g,0,none⟩) 1 1)(hg:g=w.heap.size)(hb:l.length+1<=140737488355328)(hbase:base<=w.heap.size)(h:∀v' w',j3w w w' base v v' (l++ [u])->wpList Tryz.prog ops Q rest (a.put o.dst v') w'):wpList Tryz.prog ops Q (o :: rest) a (w.alloc (.cells #[U8 u] t)):=by
 subst hg
 refine Yn hgd s x ho base v l hs (World.ownsRow.alloc hown _) u _ hx (j2t w _ t) hb (by simp;omega) fun v' w' ⟨h1,h2,h3,h4⟩=>h v' w' ⟨h1,(iB.alloc hbase _).trans h2,?_,fun b e=>(h4 b e).imp id fun hb=>by simp at hb;omega⟩
 exact⟨h3.os,h3.tape,h3.output,Nat.le_trans (by simp) h3.size,fun i hi hne=>(h3.block i (by simp;omega) hne).trans (Below.heap_alloc w _ i hi)⟩
theorem j5(A:Option Addr)(n c:Nat)(m:List UInt8)(S:Nat->Prop)(hx:a.eval x=.slice A n c)(hm:BsS w S (.slice A n c) m)(hb:l.length+m.length<=140737488355328)(hbase:base<=w.heap.size)(h:∀v' w',j3w w w' base v v' (l++m)->wpList Tryz.prog ops Q rest (a.put o.dst v') w'):wpList Tryz.prog ops Q (o :: rest) a w:=by
 have hn:=Bs.lenEq hm
 subst hn
 obtain⟨a',c',hv,h1,h2,h3,h4⟩:=hm
 injection hv with e1 e2 e3
 subst e1 e3
 refine jn w hgd s x 22 ho base 5 (.int .u8 0) 1 Tryz.underlying22 kC rfl (by omega) v l.length (l.map U8) hs hown A m.length c (m.map U8) hx
  ⟨by simp,fun hp=> ?_,by simp [Value.oneCell']⟩ (by omega) hbase fun v' w' h1 h2 h3 _=>h v' w' ⟨by
      unfold OwnB
      rw [List.length_append,List.map_append]
      exact h1,jj hown h2 iL hbase,h2,fun b hb=>h3.elim (fun e=>.inl (e▸hb)) fun e=>.inr (by rw [e]at hb;injection hb with hb;omega)⟩
 obtain⟨b,off,ha,_,hc⟩:=h4 hp
 refine⟨_,ha,fun j y hy=> ?_⟩
 have hj:j<m.length:=by
  rcases Nat.lt_or_ge j m.length with h'|h'
  ·exact h'
  ·rw [List.getElem?_eq_none (by simpa using h')]at hy;cases hy
 rw [jK m j hj]at hy
 injection hy with hy
 subst hy
 rw [qN]
 exact hc j hj
end
theorem OwnB.nil(w:World)(base:Nat):OwnB w base (.slice none 0 0) []:=World.ownsRow_nil _ _ _ _
section
variable{w:World}{base:Nat}{v:Value}{l:List UInt8}(h:OwnB w base v l)
include w base v l h
theorem OwnB.alloc(o:Obj):OwnB (w.alloc o) base v l:=World.ownsRow.alloc h o
theorem OwnB.out(hl:l.length<=140737488355328)(w0:World)(hw:w0.heap.size<=base):BsS w (New w0 w) v l:=
 (BsS.of_own h hl).keep fun _ hs _=>⟨rfl,Nat.le_trans hw hs.1,hs.2⟩
theorem OwnB.form:∃A c,v=.slice A l.length c:=by
 rcases h.2 with ⟨rfl,h0⟩|⟨g,cap,cur,hv,_⟩
 ·have e:l= []:=by simpa using h0
  subst e;exact⟨_,_,rfl⟩
 ·exact⟨_,_,hv⟩
end
end Go.Proofs.YtalmmiojbmpmiaaGreatDoor
