/- append onto a row of the call's own, one cell an element: the source nil, empty or not. No program is named here -/
import Derived.Deep.AppendLies
import Derived.Test.YtalmmiojbmpmiaaGreatDoorPb
set_option linter.all false
namespace Go.Proofs.YtalmmiojbmpmiaaGreatDoor
open Go.RowKit
theorem qN(b off j:Nat):(⟨b,off,none⟩:Addr).add j=⟨b,off+j,none⟩:=by unfold Addr.add;split<;>simp_all
def SrcAt(w:World)(A:Option Addr)(m:Nat)(news:List Value):Prop:=
 news.length=m/\(0<m->∃ad,A=some ad/\∀j u,news[j]?=some u->w.cell? (ad.add j)=some u)/\∀u∈news,u.oneCell'=true
section
variable {P:Program} (w:World)
section
variable(base:Nat)(t ty e:TypeId)
include base t ty e
theorem Kl(i:TypeInfo)(size:Nat)(ht:P.underlying t=some (.slice e))(hi:P.info? e=some i)(v:Value)(n:Nat)(xs:List Value)(hown:w.ownsRow base e size v n xs)(c:Nat):(Builtin.append_ #[t,t] ty #[v,.slice none 0 c]).run P w=.ok v w:=by
 rcases hown.2 with ⟨rfl,rfl⟩|⟨g,cap,cur,rfl,_,_,hnc,_⟩
 ·simp [Builtin.append_,run_underlying ht,sizeOf,typeInfo,hi,Builtin.lenOf,Builtin.firstCells]
 ·simp [Builtin.append_,run_underlying ht,sizeOf,typeInfo,hi,Builtin.lenOf,Builtin.firstCells,hnc,storeCells]
theorem Uc(i:TypeInfo)(z:Value)(ht:P.underlying t=some (.slice e))(hi:P.info? e=some i)(hz:i.zero=some z)(hsize:i.size=1)(v:Value)(n:Nat)(xs:List Value)(hown:w.ownsRow base e 1 v n xs)(ad:Addr)(m c:Nat)(news:List Value)(hl:news.length=m)(hcells:∀j u,news[j]?=some u->w.cell? (ad.add j)=some u)(h1:∀u∈news,u.oneCell'=true)(h63:n+m<=9223372036854775807)(hbytes:(n+m)*i.bytes<=140737488355328){v':Value}{w':World}(hrun:(Builtin.append_ #[t,t] ty #[v,.slice (some ad) m c]).run P w=.ok v' w'):w'.ownsRow base e 1 v n xs:=by
 refine⟨hown.1,?_⟩
 rcases hown.2 with h0|⟨g,cap,cur,rfl,hbg,hg,hnc,hcm,hcs,htake⟩
 ·exact .inl h0
 ·refine .inr ?_
  have hcur:cur.size=cap:=by omega
  by_cases hroom:n+m<=cap
  ·have hr:=run_append_room (P:=P) w t ty e i ht hi g n cap cur hg ad m c news (by rw [hsize];omega) hcells h1 hroom (by rw [hsize];omega)
   rw [hrun]at hr
   injection hr with _ hw
   subst hw
   refine⟨g,cap,_,rfl,hbg,setRow_heap w g cur _ e _ hg,hnc,hcm,?_,?_⟩
   ·simp only [hsize,List.size_toArray,List.length_append,List.length_take,List.length_drop,Array.length_toList]
    omega
   ·rw [hsize,List.append_assoc,List.take_append_of_le_length (by rw [List.length_take,Array.length_toList];omega),List.take_take,Nat.min_self]
    exact htake
  ·have holds:∀j u,xs[j]?=some u->w.cell? ((⟨g,0,none⟩:Addr).add j)=some u:=hown.cells (g:=g) rfl
   have hr:=run_append_grow (P:=P) w t ty e i z ht hi hz ⟨g,0,none⟩ n cap xs (by rw [hsize];exact hown.1) holds ad m c news (by rw [hsize];omega) hcells (by omega) (by omega) (growslice_fits (by omega) hbytes)
   rw [hrun]at hr
   injection hr with _ hw
   subst hw
   exact⟨g,cap,cur,rfl,hbg,(Below.heap_alloc w.drew _ g (iG hg)).trans hg,hnc,hcm,hcs,htake⟩
theorem zE(z:Value)(bytes:Nat)(ht:P.underlying t=some (.slice e))(hinfo:(P.info? e).map (fun i=>(i.zero,i.size,i.bytes))=some (some z,1,bytes))(hzs:z.cells.size=1)(hby:0<bytes)(v:Value)(n:Nat)(xs:List Value)(hown:w.ownsRow base e 1 v n xs)(A:Option Addr)(m c:Nat)(news:List Value)(hsrc:SrcAt w A m news)(hbytes:(n+m)*bytes<=140737488355328)(hbase:base<=w.heap.size):
 ∃v' w',(Builtin.append_ #[t,t] ty #[v,.slice A m c]).run P w=.ok v' w'/\w'.ownsRow base e 1 v' (n+m) (xs++news)/\w.grownBy w' v.ownBlock/\
  (v'.ownBlock=v.ownBlock\/v'.ownBlock=some w.heap.size)/\w'.ownsRow base e 1 v n xs:=by
 obtain⟨i,hi,hzz⟩:=Option.map_eq_some_iff.1 hinfo
 simp only [Prod.mk.injEq]at hzz
 obtain⟨hz,hsize,hbb⟩:=hzz
 obtain⟨hl,hne,h1⟩:=hsrc
 have h63:n+m<=maxLen:=by
  have:(n+m)*1<=(n+m)*bytes:=Nat.mul_le_mul_left _ hby
  unfold maxLen
  omega
 rcases A with _|ad
 ·have hm:m=0:=by
   rcases Nat.eq_zero_or_pos m with h0|h0
   ·exact h0
   ·obtain⟨ad,h,_⟩:=hne h0
    cases h
  subst hm
  have hn:news= []:=List.eq_nil_of_length_eq_zero hl
  subst hn
  exact⟨v,w,Kl w base t ty e i 1 ht hi v n xs hown c,by simpa using hown,World.grownBy.refl w _,.inl rfl,hown⟩
 ·have hcells:∀j u,news[j]?=some u->w.cell? (ad.add j)=some u:=by
   intro j u hu
   rcases Nat.eq_zero_or_pos m with h0|h0
   ·subst h0
    have hn:news= []:=List.eq_nil_of_length_eq_zero hl
    subst hn
    simp at hu
   ·obtain⟨ad',h,hc⟩:=hne h0
    injection h with h
    subst h
    exact hc j u hu
  obtain⟨v',w',hrun,h2,h3,_,h5⟩:=run_append_own_at (P:=P) w base t ty e i z 1 bytes ht hi hz hsize hbb hzs (by omega) v n xs hown ad m c news (by omega) hcells h1 h63 hbytes hbase
  exact⟨v',w',hrun,h2,h3,h5,Uc (P:=P) w base t ty e i z ht hi hz hsize v n xs hown ad m c news hl hcells h1 (by unfold maxLen at h63;exact h63) (by rw [hbb];exact hbytes) hrun⟩
end
theorem yG{o:Oper}{a:Act}{K:Act->World->Prop}{Q:Exit->Act->World->Prop}(s x:Operand)(t:TypeId)(ho:o.op=.call {callee:=.builtin .append,args:=#[s,x],argTypes:=#[t,t]})(base:Nat)(e:TypeId)(z:Value)(bytes:Nat)(ht:P.underlying t=some (.slice e))(hinfo:(P.info? e).map (fun i=>(i.zero,i.size,i.bytes))=some (some z,1,bytes))(hzs:z.cells.size=1)(hby:0<bytes)(v:Value)(n:Nat)(xs:List Value)(hs:a.eval s=v)(hown:w.ownsRow base e 1 v n xs)(A:Option Addr)(m c:Nat)(news:List Value)(hx:a.eval x=.slice A m c)(hsrc:SrcAt w A m news)(hbytes:(n+m)*bytes<=140737488355328)(hbase:base<=w.heap.size)(h:∀v' w',w'.ownsRow base e 1 v' (n+m) (xs++news)->w.grownBy w' v.ownBlock->(v'.ownBlock=v.ownBlock\/v'.ownBlock=some w.heap.size)->w'.ownsRow base e 1 v n xs->K (a.put o.dst v') w'):o.wp P a w K Q:=by
 obtain⟨v',w',hrun,h2,h3,h4,h5⟩:=zE (P:=P) w base t o.type e z bytes ht hinfo hzs hby v n xs hown A m c news hsrc hbytes hbase
 unfold Oper.wp execOp
 simp only [ho,resolve,invoke,builtin,Sem.run_bind,Sem.run_pure,Result.andThen_ok,List.map_toArray,List.map_cons,List.map_nil,hs,hx,hrun]
 exact h v' w' h2 h3 h4 h5
theorem jn{ops:Array Oper}{rest:List Oper}{o:Oper}{a:Act}{Q:Exit->Act->World->Prop}(hgd:o.guard=none)(s x:Operand)(t:TypeId)(ho:o.op=.call {callee:=.builtin .append,args:=#[s,x],argTypes:=#[t,t]})(base:Nat)(e:TypeId)(z:Value)(bytes:Nat)(ht:P.underlying t=some (.slice e))(hinfo:(P.info? e).map (fun i=>(i.zero,i.size,i.bytes))=some (some z,1,bytes))(hzs:z.cells.size=1)(hby:0<bytes)(v:Value)(n:Nat)(xs:List Value)(hs:a.eval s=v)(hown:w.ownsRow base e 1 v n xs)(A:Option Addr)(m c:Nat)(news:List Value)(hx:a.eval x=.slice A m c)(hsrc:SrcAt w A m news)(hbytes:(n+m)*bytes<=140737488355328)(hbase:base<=w.heap.size)(h:∀v' w',w'.ownsRow base e 1 v' (n+m) (xs++news)->w.grownBy w' v.ownBlock->(v'.ownBlock=v.ownBlock\/v'.ownBlock=some w.heap.size)->w'.ownsRow base e 1 v n xs->wpList P ops Q rest (a.put o.dst v') w'):wpList P ops Q (o :: rest) a w:=
 wpList_plain hgd fun _ hK=>yG w s x t ho base e z bytes ht hinfo hzs hby v n xs hs hown A m c news hx hsrc hbytes hbase fun v' w' h2 h3 h4 h5=>hK _ _ (h v' w' h2 h3 h4 h5)
theorem xO{ops:Array Oper}{o:Oper}{a:Act}{K:Act->World->Prop}{Q:Exit->Act->World->Prop}{E:Prop}(hgd:o.guard=none)(s x:Operand)(t:TypeId)(ho:o.op=.call {callee:=.builtin .append,args:=#[s,x],argTypes:=#[t,t]})(base:Nat)(e:TypeId)(z:Value)(bytes:Nat)(ht:P.underlying t=some (.slice e))(hinfo:(P.info? e).map (fun i=>(i.zero,i.size,i.bytes))=some (some z,1,bytes))(hzs:z.cells.size=1)(hby:0<bytes)(v:Value)(n:Nat)(xs:List Value)(hs:a.eval s=v)(hown:w.ownsRow base e 1 v n xs)(A:Option Addr)(m c:Nat)(news:List Value)(hx:a.eval x=.slice A m c)(hsrc:SrcAt w A m news)(hbytes:(n+m)*bytes<=140737488355328)(hbase:base<=w.heap.size)(h:∀v' w',w'.ownsRow base e 1 v' (n+m) (xs++news)->w.grownBy w' v.ownBlock->(v'.ownBlock=v.ownBlock\/v'.ownBlock=some w.heap.size)->w'.ownsRow base e 1 v n xs->K (a.put o.dst v') w'):
 if Region.wanted o (yielded ops a.tmps)=true then Oper.wp P o a w K Q else E:=by
 have hw:Region.wanted o (yielded ops a.tmps)=true:=by simp [Region.wanted,hgd]
 rw [iT hw]
 exact yG w s x t ho base e z bytes ht hinfo hzs hby v n xs hs hown A m c news hx hsrc hbytes hbase h
end
theorem jj{w w':World}{base B:Nat}{e:TypeId}{v:Value}{n size:Nat}{xs:List Value}(hown:w.ownsRow base e size v n xs)(hg:w.grownBy w' v.ownBlock)(hB:B<=base)(hbase:base<=w.heap.size):Below B w w':=
 ⟨hg.os,hg.tape,hg.output,hg.size,fun k hk=>hg.block k (by omega) (fun e=>by have:=(hown.lt k e.symm).1;omega)⟩
theorem kT{w w':World}{base:Nat}{e:TypeId}{v:Value}{n size:Nat}{xs:List Value}(h:w.ownsRow base e size v n xs)(hb:Below w.heap.size w w'):w'.ownsRow base e size v n xs:=by
 refine⟨h.1,?_⟩
 rcases h.2 with h2|⟨g,cap,cur,hv,hg,hh,r⟩
 ·exact .inl h2
 ·exact .inr ⟨g,cap,cur,hv,hg,(hb.block g (iG hh)).trans hh,r⟩
theorem BsS.src{w:World}{S:Nat->Prop}{A:Option Addr}{m c:Nat}{l:List UInt8}(h:BsS w S (.slice A m c) l):m=l.length/\SrcAt w A m (l.map U8):=by
 obtain⟨a,c',hv,h1,h2,h3,h4⟩:=h
 injection hv with ha hm hc
 subst ha hm
 refine⟨rfl,by simp,fun hn=> ?_,fun u hu=> ?_⟩
 ·obtain⟨b,off,rfl,hb,hcell⟩:=h4 hn
  refine⟨_,rfl,fun j u hu=> ?_⟩
  have hj:j<l.length:=by
   rcases Nat.lt_or_ge j l.length with h'|h'
   ·exact h'
   ·rw [List.getElem?_eq_none (by simpa using h')]at hu;cases hu
  rw [qN,hcell j hj,<-hu,jK l j hj]
 ·obtain⟨b,_,rfl⟩:=List.mem_map.1 hu
  rfl
theorem SrcAt.alloc{w:World}{A:Option Addr}{m:Nat}{news:List Value}(h:SrcAt w A m news)(o:Obj):SrcAt (w.alloc o) A m news:=by
 refine⟨h.1,fun hm=> ?_,h.2.2⟩
 obtain⟨ad,e,hc⟩:=h.2.1 hm
 refine⟨ad,e,fun j u hu=> ?_⟩
 have:=hc j u hu
 exact(((Below.refl w.heap.size w).alloc iL o).cell (block_lt_of_cell this)).trans this
theorem SrcAt.one{w:World}(u:Value)(t:TypeId)(h1:u.oneCell'=true):SrcAt (w.alloc (.cells #[u] t)) (some ⟨w.heap.size,0,none⟩) 1 [u]:=by
 refine⟨rfl,fun _=>⟨_,rfl,fun j x hx=> ?_⟩,by simpa using h1⟩
 have hj:j=0:=by
  rcases j with _|j
  ·rfl
  ·simp at hx
 subst hj
 rw [qN,cell_of_row _ _ _ _ _ _ (iN)]
 simpa using hx
end Go.Proofs.YtalmmiojbmpmiaaGreatDoor
