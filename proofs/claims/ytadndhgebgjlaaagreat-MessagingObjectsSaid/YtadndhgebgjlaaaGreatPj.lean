/- Rows of objects of the call's own: what they read as, and append of one object -/
import Derived.Test.YtadndhgebgjlaaaGreatPe
set_option linter.all false
namespace Go.Proofs.YtadndhgebgjlaaaGreat
open Go.RowKit
theorem m14{P:Prop}(h:P:=by
 have hkeep:∀b,xM base w o b->b<w.heap.size->w'.heap[b]?=w.heap[b]?/\xM base w' o' b:=fun b hs hl=>
  ⟨(g2.block b (by simp;omega) (fun e=>hs.2.1 e.symm)).trans (Below.heap_alloc w _ b hl),iZ (by simp;omega) g2.size,fun e=>g3.elim (fun h'=>hs.2.1 (h'▸e)) fun h'=>by rw [h']at e;injection e with e;simp at e;omega,hs.2.2⟩
 exact EachN.snoc L xs (h2.keep hkeep L xs) hi (hv.keep hkeep) (hk.keep hkeep)):P:=h
theorem m2e{P:Prop}(h:P:=by
 refine(iB.alloc hbase _).trans ⟨g2.os,g2.tape,g2.output,g2.size,fun b hb'=>g2.block b (by simp;omega) fun e=> ?_⟩
 have:=(h1.lt b e.symm).1
 omega):P:=h
theorem m2f{P:Prop}(h:P:=by
 exact⟨g2.os,g2.tape,g2.output,Nat.le_trans (by simp) g2.size,fun b hb' hne=>(g2.block b (by simp;omega) hne).trans (Below.heap_alloc w _ b hb')⟩):P:=h
theorem zk:(Tryz.prog.info? 61).map (fun i=>(i.zero,i.size,i.bytes))=some (some (.agg #[.int .i64 0,.slice none 0 0,.slice none 0 0]),3,56):=by kernel_rfl
theorem Ns.app_nil(l:Ns):l.app .nil=l:=by
 induction l with
 |nil=>rfl
 |cons t v k r _ ih=>simp [Ns.app,ih]
theorem Ns.app_assoc(a b c:Ns):(a.app b).app c=a.app (b.app c):=by
 induction a with
 |nil=>rfl
 |cons t v k r _ ih=>simp [Ns.app,ih]
theorem Ns.len_snoc(l:Ns)(t:Int)(v:List UInt8)(k:Ns):(l.app (.cons t v k .nil)).len=l.len+1:=by rw [Ns.len_app]<;>rfl
def EachN(w:World)(S:Nat->Prop):Ns->List Value->Prop
 |.nil,xs=>xs= []
 |.cons t v k r,xs=>∃x y xs',xs=.int .i64 t :: x :: y :: xs'/\kB t/\BsS w S x v/\NsS w S y k/\EachN w S r xs'
theorem EachN.keep{w w':World}{S S':Nat->Prop}(hk:∀b,S b->b<w.heap.size->w'.heap[b]?=w.heap[b]?/\S' b):∀(L:Ns) (xs:List Value),EachN w S L xs->EachN w' S' L xs:=by
 intro L
 induction L with
 |nil=>intro xs h;exact h
 |cons t v k r _ ih=>
  intro xs ⟨x,y,xs',e,hi,hv,hn,hr⟩
  exact⟨x,y,xs',e,hi,hv.keep hk,hn.keep hk,ih xs' hr⟩
section
variable{w:World}{S:Nat->Prop}
include w S
theorem EachN.snoc:∀(L:Ns) (xs:List Value),EachN w S L xs->∀ {t:Int} {v:List UInt8} {k:Ns} {x y:Value},kB t->BsS w S x v->NsS w S y k->EachN w S (L.app (.cons t v k .nil)) (xs++ [.int .i64 t,x,y]):=by
 intro L
 induction L with
 |nil=>intro xs h t v k x y hi hv hn;have h:xs= []:=h;subst h;exact⟨x,y,[],rfl,hi,hv,hn,rfl⟩
 |cons t' v' k' r _ ih=>
  intro xs ⟨x',y',xs',e,hi',hv',hn',hr⟩ t v k x y hi hv hn
  subst e
  exact⟨x',y',_,rfl,hi',hv',hn',ih xs' hr hi hv hn⟩
theorem NsS.form3{v:Value}{l:Ns}(h:NsS w S v l):∃A c,v=.slice A l.len c:=by
 exact m07
theorem NsAt.of_each{g:Nat}:∀(L:Ns) (xs:List Value) (off:Nat),EachN w S L xs->(∀j x,xs[j]?=some x->w.cell? ⟨g,off+j,none⟩=some x)->NsAt w S L g off:=by
 intro L
 induction L with
 |nil=>intros;trivial
 |cons t v k r _ ih=>
  intro xs off ⟨x,y,xs',e,hi,hv,hn,hr⟩ hc
  subst e
  obtain⟨a,c,rfl,h1,h2,h3,h4⟩:=hn
  refine⟨hc 0 _ rfl,hi,⟨x,hc 1 _ rfl,hv⟩,⟨a,c,hc 2 _ rfl,h1,h2,h3,h4⟩,ih xs' (off+3) hr fun j x hj=> ?_⟩
  have:=hc (3+j) x (by rw [Nat.add_comm];simpa using hj)
  rwa [<-Nat.add_assoc]at this
end
def xM(base:Nat)(w:World)(v:Value)(b:Nat):Prop:=b<w.heap.size/\v.ownBlock≠some b/\base<=b
def OwnN(w:World)(base:Nat)(o:Value)(L:Ns):Prop:=∃xs,w.ownsRow base 61 3 o L.len xs/\EachN w (xM base w o) L xs
theorem OwnN.nil(w:World)(base:Nat):OwnN w base (.slice none 0 0) .nil:=⟨[],World.ownsRow_nil _ _ _ _,rfl⟩
theorem OwnN.form{w:World}{base:Nat}{o:Value}{L:Ns}(h:OwnN w base o L):∃A c,o=.slice A L.len c:=by
 obtain⟨xs,h,_⟩:=h
 rcases h.2 with ⟨rfl,h0⟩|⟨g,cap,cur,hv,_⟩
 ·cases L with
  |nil=>exact⟨_,_,rfl⟩
  |cons t v k r=>
   simp [Ns.len]at h0
 ·exact⟨_,_,hv⟩
theorem OwnN.kept{w w':World}{base:Nat}{o:Value}{L:Ns}{row:Option Nat}(h:OwnN w base o L)(hg:w.grownBy w' row)(hr:∀p,row=some p->p<base):OwnN w' base o L:=by
 obtain⟨xs,h1,h2⟩:=h
 refine⟨xs,⟨h1.1,?_⟩,h2.keep (fun b hs hl=>⟨hg.block b hl (fun e=>by have:=hr b e.symm;have:=hs.2.2;omega),iZ hl hg.size,hs.2⟩) L xs⟩
 rcases h1.2 with h0|⟨g,cap,cur,hv,hb,hh,r⟩
 ·exact .inl h0
 ·exact .inr ⟨g,cap,cur,hv,hb,(hg.block g (iG hh) (fun e=>by have:=hr g e.symm;omega)).trans hh,r⟩
theorem OwnN.below{w w':World}{base:Nat}{o:Value}{L:Ns}(h:OwnN w base o L)(hb:Below w.heap.size w w'):OwnN w' base o L:=
 h.kept (row:=none) ⟨hb.os,hb.tape,hb.output,hb.size,fun i hi _=>hb.block i hi⟩ (fun p e=>by cases e)
section
variable{w:World}{base:Nat}{o:Value}{L:Ns}(h:OwnN w base o L)
include w base o L h
theorem OwnN.alloc(x:Obj):OwnN (w.alloc x) base o L:=h.below (iB.alloc iL x)
theorem OwnN.nss(hl:L.len<=2513169434843):NsS w (fun b=>base<=b/\b<w.heap.size) o L:=by
 obtain⟨xs,h1,h2⟩:=h
 have h2:EachN w (fun b=>base<=b/\b<w.heap.size) L xs:=h2.keep (fun b hs hl=>⟨rfl,hs.2.2,hl⟩) L xs
 rcases h1.2 with ⟨rfl,h0⟩|⟨g,cap,cur,hv,hb,hh,hn,hm,r⟩
 ·cases L with
  |nil=>exact⟨none,0,rfl,Nat.le_refl _,by simp [maxLen],by simp [Ns.len],fun h=>by simp [Ns.len]at h⟩
  |cons t v k r=>
   simp [Ns.len]at h0
 ·have hlt:g<w.heap.size:=(iG hh)
  refine⟨_,cap,hv,hn,hm,hl,fun _=>⟨g,0,rfl,⟨hb,hlt⟩,hlt,NsAt.of_each L xs 0 h2 fun j x hx=> ?_⟩⟩
  have:=h1.cells (g:=g) (by rw [hv]<;>rfl) j x hx
  exact m01
end
def j1q(w w':World)(base:Nat)(o o':Value)(L:Ns):Prop:=OwnN w' base o' L/\Below base w w'/\w.grownBy w' o.ownBlock
theorem jz{ops:Array Oper}{rest:List Oper}{op:Oper}{a:Act}{w:World}{Q:Exit->Act->World->Prop}(hgd:op.guard=none)(s x:Operand)(ho:op.op=.call {callee:=.builtin .append,args:=#[s,x],argTypes:=#[58,58]})(base:Nat)(o:Value)(L:Ns)(hs:a.eval s=o)(hown:OwnN w base o L)(t:Int)(v:List UInt8)(k:Ns)(xv yv:Value)(ty:TypeId)(g:Nat)(hx:a.eval x=.slice (some ⟨g,0,none⟩) 1 1)(hg:g=w.heap.size)(hi:kB t)(hv:BsS w (xM base w o) xv v)(hk:NsS w (xM base w o) yv k)(hb:L.len<=1000000000000)(hbase:base<=w.heap.size)(h:∀o' w',j1q w w' base o o' (L.app (.cons t v k .nil))->wpList Tryz.prog ops Q rest (a.put op.dst o') w'):wpList Tryz.prog ops Q (op :: rest) a (w.alloc (.cells #[.int .i64 t,xv,yv] ty)):=by
 subst hg
 obtain⟨xs,h1,h2⟩:=hown
 obtain⟨i,hinfo,hzz⟩:=Option.map_eq_some_iff.1 zk
 simp only [Prod.mk.injEq]at hzz
 obtain⟨hz,hsize,hbb⟩:=hzz
 obtain⟨xa,xc,rfl⟩:∃A c,xv=.slice A v.length c:=by obtain⟨a,c,hv,_⟩:=hv;exact⟨a,c,hv⟩
 obtain⟨ya,yc,rfl⟩:=hk.form3
 refine wpList_append_own_at (w:=w.alloc (.cells #[.int .i64 t,.slice xa v.length xc,.slice ya k.len yc] ty)) hgd s x 58 ho base 61 i _ 3 56 Tryz.underlying58 hinfo hz hsize hbb rfl (by omega) o L.len xs hs (World.ownsRow.alloc h1 _) ⟨w.heap.size,0,none⟩ 1 1 [.int .i64 t,.slice xa v.length xc,.slice ya k.len yc] hx rfl
  (fun j u hu=> ?_) (by simp [Value.oneCell']) (by unfold maxLen;omega) (by omega) (by simp;omega) fun o' w' g1 g2 _ g3=>h o' w' ⟨⟨xs++ [.int .i64 t,.slice xa v.length xc,.slice ya k.len yc],by rw [Ns.len_snoc];exact g1,?_⟩,?_,?_⟩
 ·have e:(⟨w.heap.size,0,none⟩:Addr).add j=⟨w.heap.size,0+j,none⟩:=by unfold Addr.add;split<;>simp_all
  rw [e,Nat.zero_add,cell_of_row _ _ _ _ _ _ (iN)]
  simpa using hu
 ·exact m14
 ·exact m2e
 ·exact m2f
end Go.Proofs.YtadndhgebgjlaaaGreat
