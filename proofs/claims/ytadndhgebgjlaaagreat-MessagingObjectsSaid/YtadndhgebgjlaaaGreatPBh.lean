/- Layer 2: what Find looks for (plain), and the walk of the reference's Find; Layer 2: the walk of Find; Layer 2: the walk of clone; Layer 2: the walk of Find -/
import Derived.Deep.CutRange
import Derived.Test.YtadndhgebgjlaaaGreatPBg
import Derived.Test.YtadndhgebgjlaaaGreatPr
set_option linter.all false
set_option maxRecDepth 100000
set_option maxHeartbeats 4000000
namespace Go.Proofs.YtadndhgebgjlaaaGreat
open Go.RowKit Go.Deep
theorem m2q{P:Prop}(h:P:=by
 have h:=congrArg (fun l:List Int=>l.getD 0 0) hpd.out
 simp only [List.getD_cons_zero]at h
 rw [h]
 simp [List.getD,List.getElem?_drop]):P:=h
theorem m40{P:Prop}(h:P:=by
 obtain⟨b,o,h1,h2,h3,h4⟩:=pcell h0
 exact⟨b,o,fun _=>⟨h1,h3,h4⟩⟩):P:=h
def Ns.pick:Ns->Int->Option (List UInt8×Ns)
 |.nil,_=>none
 |.cons t v k r,g=>if t=g then some (v,k)else r.pick g
structure Fnd where
 ok:Bool
 tag:Int
 val:List UInt8
 kids:Ns
def Fnd.no:Fnd:=⟨false,0,[],.nil⟩
def yS:List Int->Ns->Fnd
 |[],_=>.no
 |g :: p,l=>
  match l.pick g with
  |none=>.no
  |some (v,k)=>if p= []then⟨true,g,v,k⟩else yS p k
def IntL(w:World)(S:Nat->Prop)(v:Value)(l:List Int):Prop:=
 ∃a c,v=.slice a l.length c/\l.length<=c/\c<=9223372036854775807/\l.length<=1000000000000000000/\(∀z∈l,kB z)/\
  (0<l.length->∃b off,a=some ⟨b,off,none⟩/\S b/\b<w.heap.size/\∀j,j<l.length->w.cell? ⟨b,off+j,none⟩=some (.int .i64 (l.getD j 0)))
theorem IntL.keep{w w':World}{S S':Nat->Prop}{v:Value}{l:List Int}(h:IntL w S v l)(hk:∀b,S b->b<w.heap.size->w'.heap[b]?=w.heap[b]?/\S' b):IntL w' S' v l:=by
 obtain⟨a,c,e,h1,h2,h3,hz,h4⟩:=h
 refine⟨a,c,e,h1,h2,h3,hz,fun h0=> ?_⟩
 obtain⟨b,off,ea,hb,hl,hr⟩:=h4 h0
 refine⟨b,off,ea,(hk b hb hl).2,zn (hk b hb hl).1 hl,fun j hj=> ?_⟩
 exact(by simp [World.cell?,(hk b hb hl).1]:w'.cell? ⟨b,off+j,none⟩=w.cell? ⟨b,off+j,none⟩).trans (hr j hj)
def j3v(r:Fnd)(S:Nat->Prop)(w:World)(e:Ending)(w':World):Prop:=
 ∃vv kv,e=.returned (.tuple #[.agg #[.int .i64 r.tag,vv,kv],.bool r.ok])/\BsS w' S vv r.val/\NsS w' S kv r.kids/\kB r.tag/\Below w.heap.size w w'
theorem Vq(t g:Int)(xa ka:Option Addr)(xl xc kl kc p:Nat)(w:World)(hp:w.cell? ⟨p,0,none⟩=some (.int .i64 g))(hpl:p<w.heap.size):
 Calls Tryz.prog 114 #[.agg #[.int .i64 t,.slice xa xl xc,.slice ka kl kc],.pointer (some ⟨p,0,none⟩)] w fun e w'=>e=.returned (.bool (t==g))/\Below w.heap.size w w':=by
 go_enter Tryz.func114,Tryz.ntmps114
 go_wp2_with fail
 go_ret
 exact⟨rfl,iA⟩
def Ns.idx:Ns->Int->Nat->Int
 |.nil,_,_=> -1
 |.cons t _ _ r,g,j=>if t=g then(j:Int)else r.idx g (j+1)
theorem j2b(L:Ns)(g:Int):∀j,L.pick g=none->L.idx g j= -1:=by
 induction L with
 |nil=>intro j _;rfl
 |cons t v k r _ ih=>
  intro j h
  rw [Ns.pick]at h
  split at h
  ·cases h
  ·rename_i ht
   rw [Ns.idx,iF ht]
   exact ih (j+1) h
theorem j2c{w:World}{S:Nat->Prop}{g:Int}{v:List UInt8}{k:Ns}(L:Ns):∀(b off j:Nat),NsAt w S L b off->L.pick g=some (v,k)->∃i:Nat,L.idx g j=(i:Int)/\j<=i/\i<j+L.len/\
 w.cell? ⟨b,off+(i - j)*3,none⟩=some (.int .i64 g)/\kB g/\(∃x,w.cell? ⟨b,off+(i - j)*3+1,none⟩=some x/\BsS w S x v)/\(∃y,w.cell? ⟨b,off+(i - j)*3+2,none⟩=some y/\NsS w S y k):=by
 induction L with
 |nil=>intro b off j _ h;cases h
 |cons t v' k' r _ ih=>
  intro b off j hat h
  obtain⟨h1,h2,⟨x,h3,h4⟩,⟨ka,kc,h5,h6,h7,h8x,h9⟩,h10⟩:=hat
  rw [Ns.pick]at h
  split at h
  ·rename_i ht
   subst ht
   injection h with h
   injection h with e1 e2
   subst e1 e2
   refine⟨j,by rw [Ns.idx,iT rfl],Nat.le_refl _,by simp [Ns.len],?_⟩
   rw [Nat.sub_self,Nat.zero_mul,Nat.add_zero]
   exact⟨h1,h2,⟨x,h3,h4⟩,⟨_,h5,ka,kc,rfl,h6,h7,h8x,h9⟩⟩
  ·rename_i ht
   obtain⟨i,g1,g2,g3,g4⟩:=ih b (off+3) (j+1) h10 h
   have e:off+3+(i - (j+1))*3=off+(i - j)*3:=by
    obtain⟨d,rfl⟩:∃d,i=j+1+d:=⟨i - (j+1),by omega⟩
    rw [show j+1+d - (j+1)=d by omega,show j+1+d - j=d+1 by omega]
    omega
   rw [e]at g4
   exact⟨i,by rw [Ns.idx,iF ht];exact g1,by omega,by simp only [Ns.len];omega,g4⟩
theorem Vy(L:Ns)(v:Value)(S:Nat->Prop)(g:Int)(p:Nat)(w:World)(hv:NsS w S v L)(hp:w.cell? ⟨p,0,none⟩=some (.int .i64 g))(hpl:p<w.heap.size):
 Calls Tryz.prog 113 #[v,.func (.func 114) #[] #[.pointer (some ⟨p,0,none⟩)]] w fun e w'=>e=.returned (.int .i64 (L.idx g 0))/\Below w.heap.size w w':=by
 obtain⟨a,cap,rfl,hlc,hcap,hlen,hcells⟩:=hv
 have hcap':cap<=9223372036854775807:=hcap
 obtain⟨b,off,hb⟩:∃b off,Hid (0<L.len->a=some ⟨b,off,none⟩/\(S b/\b<w.heap.size)/\NsAt w S L b off):=by
  exact mT
 have HP:=iH hp
 clear hcells hcap hp
 go_enter Tryz.func113,Tryz.ntmps113
 go_wp2_with fail
 go_loopg [8] L.len (fun m i wr=>∃(R:Ns) (j:Nat),R.len=m/\j+R.len=L.len/\i=.int .i64 j/\Hid (R.idx g j=L.idx g 0)/\NsAt w S R b (off+j*3)/\Below w.heap.size w wr)
 case atStart=>exact⟨L,0,rfl,by omega,rfl,rfl,by rw [Nat.zero_mul,Nat.add_zero];exact NsAt.zero hb.out,Below.refl _ _⟩
 case round=>
  obtain⟨R,j,rfl,hj,rfl,hix,hat,hg⟩:=hrel
  cases R with
  |nil=>
   simp only [Ns.len,Nat.add_zero]at hj
   subst hj
   have E:Hid (L.idx g 0= -1):=hix.out.symm
   have HG:=iH hg
   clear hat hix hg
   go_wp2_with fail
   go_ret
   exact⟨by rw [E.out]<;>rfl,HG.out⟩
  |cons t v k r=>
   obtain⟨h1,h2,⟨x,h3,h4⟩,⟨ka,kc,h5,h6,h7,h8x,h9⟩,h10⟩:=hat
   simp only [Ns.len]at hj
   have hlt:(j:Int)<L.len:=by omega
   obtain⟨rfl,⟨hbS,hbl⟩,_⟩:=hb.out (by omega)
   obtain⟨xa,xc,rfl⟩:=h4.form2
   have q0:=(hg.cell (p:=⟨b,off+j*3,none⟩) hbl).trans h1
   have q1:=(hg.cell (p:=⟨b,off+j*3+1,none⟩) hbl).trans h3
   have q2:=(hg.cell (p:=⟨b,off+j*3+2,none⟩) hbl).trans h5
   have C:=iH (Vq t g xa ka v.length xc k.len kc p wr ((hg.cell (p:=⟨p,0,none⟩) hpl).trans HP.out) (iZ hpl hg.size))
   have HG:=iH hg;have H10:=iH h10
   clear h4 h9 h10 hg h1 h3 h5
   by_cases ht:t=g
   ·subst ht
    have tg:(t==t)=true:=by simp
    have E:Hid (L.idx t 0=j):=by show _=_;rw [<-hix.out,Ns.idx,iT rfl]
    rw [tg]at C
    clear hix
    go_wp2_with(go_at_call 114;refine C.out.mono ?_;rintro e w2 ⟨rfl,hb2⟩;have B2:=iH (HG.out.trans (hb2.mono HG.out.size));clear hb2)
    go_ret
    exact⟨by rw [E.out]<;>rfl,B2.out⟩
   ·have tg:(t==g)=false:=by simp [ht]
    have E:Hid (r.idx g (j+1)=L.idx g 0):=by show _=_;rw [<-hix.out,Ns.idx,iF ht]
    rw [tg]at C
    clear hix ht
    go_wp2_with(go_at_call 114;refine C.out.mono ?_;rintro e w2 ⟨rfl,hb2⟩;have B2:=iH (HG.out.trans (hb2.mono HG.out.size));clear hb2)
    go_roundg r.len
    case measure=>simp [Ns.len]
    case rel=>exact⟨r,j+1,rfl,by omega,by go_num,E.out,by rw [Nat.add_mul,<-Nat.add_assoc];exact H10.out,B2.out⟩
theorem j0w{ops:Array Oper}{op:Oper}{a:Act}{w:World}{K:Act->World->Prop}{Q:Exit->Act->World->Prop}{E:Prop}(hgd:op.guard=none)(s x:Operand)(ho:op.op=.call {callee:=.builtin .append,args:=#[s,x],argTypes:=#[58,58]})(base:Nat)(o:Value)(L:Ns)(hs:a.eval s=o)(hown:OwnN w base o L)(t:Int)(v:List UInt8)(k:Ns)(xv yv:Value)(ty:TypeId)(g:Nat)(hx:a.eval x=.slice (some ⟨g,0,none⟩) 1 1)(hg:g=w.heap.size)(hi:kB t)(hv:BsS w (xM base w o) xv v)(hk:NsS w (xM base w o) yv k)(hb:L.len<=1000000000000)(hbase:base<=w.heap.size)(h:∀o' w',j1q w w' base o o' (L.app (.cons t v k .nil))->K (a.put op.dst o') w'):if Region.wanted op (yielded ops a.tmps)=true then Oper.wp Tryz.prog op a (w.alloc (.cells #[.int .i64 t,xv,yv] ty)) K Q else E:=by
 have hw:Region.wanted op (yielded ops a.tmps)=true:=by simp [Region.wanted,hgd]
 rw [iT hw]
 subst hg
 obtain⟨xs,h1,h2⟩:=hown
 obtain⟨i,hinfo,hzz⟩:=Option.map_eq_some_iff.1 zk
 simp only [Prod.mk.injEq]at hzz
 obtain⟨hz,hsize,hbb⟩:=hzz
 obtain⟨xa,xc,rfl⟩:∃A c,xv=.slice A v.length c:=by obtain⟨a,c,hv,_⟩:=hv;exact⟨a,c,hv⟩
 obtain⟨ya,yc,rfl⟩:=hk.form3
 obtain⟨o',w',hr,g1,g2,_,g3⟩:=run_append_own_at (P:=Tryz.prog) (w.alloc (.cells #[.int .i64 t,.slice xa v.length xc,.slice ya k.len yc] ty)) base 58 op.type 61 i _ 3 56 Tryz.underlying58 hinfo hz hsize hbb rfl (by omega) o L.len xs (World.ownsRow.alloc h1 _) ⟨w.heap.size,0,none⟩ 1 1 [.int .i64 t,.slice xa v.length xc,.slice ya k.len yc] rfl
  (fun j u hu=>by
    have e:(⟨w.heap.size,0,none⟩:Addr).add j=⟨w.heap.size,0+j,none⟩:=by unfold Addr.add;split<;>simp_all
    rw [e,Nat.zero_add,cell_of_row _ _ _ _ _ _ (iN)]
    simpa using hu) (by simp [Value.oneCell']) (by unfold maxLen;omega) (by omega) (by simp;omega)
 unfold Oper.wp execOp
 simp only [ho,resolve,invoke,builtin,Sem.run_bind,Sem.run_pure,Result.andThen_ok,List.map_toArray,List.map_cons,List.map_nil,hs,hx,hr]
 refine h o' w' ⟨⟨xs++ [.int .i64 t,.slice xa v.length xc,.slice ya k.len yc],by rw [Ns.len_snoc];exact g1,?_⟩,?_,?_⟩
 ·exact m14
 ·exact m2e
 ·exact m2f
structure j1p (w w1:World) (t:Int) (v:List UInt8) (xv kv:Value) (Y:Nat) (vc:Value):Prop where
 y:w1.heap[Y]?=some (.cells #[.int .i64 t,vc,.slice none 0 0] 61 (0,0))
 lo:w.heap.size+2<=Y
 bx:w1.heap[w.heap.size]?=some (.cells #[.int .i64 t,xv,kv] 61 (0,0))
 rs:w1.heap[w.heap.size+1]?=some (.cells #[.int .i64 0,.slice none 0 0,.slice none 0 0] 61 (0,0))
 bs:BsS w1 (fun b=>w.heap.size+2<=b/\b<w1.heap.size/\b≠Y) vc v
 bel:Below w.heap.size w w1
theorem Jb{B:Nat}{w w':World}(h:Below B w.drew w'):Below B w w':=⟨h.os,h.tape,h.output,h.size,h.block⟩
section
variable{w w0 w5:World}{t:Int}{v:List UInt8}{xv kv vc:Value}(hz0:w0.heap.size=w.heap.size+2)(hbx:w0.heap[w.heap.size]?=some (.cells #[.int .i64 t,xv,kv] 61 (0,0)))(hrs:w0.heap[w.heap.size+1]?=some (.cells #[.int .i64 0,.slice none 0 0,.slice none 0 0] 61 (0,0)))(hB0:Below w.heap.size w w0)
include w w0 w5 t v xv kv vc hz0 hbx hrs hB0
theorem j4r(ho:OwnB w5 w0.heap.size vc v)(hl:v.length<=140737488355328)(hb:Below w0.heap.size w0 w5):
 j1p w (w5.alloc (.cells #[.int .i64 t,vc,.slice none 0 0] 61)) t v xv kv w5.heap.size vc:=by
 have hs:=hb.size
 refine⟨iN,by omega,(Below.heap_alloc _ _ _ (by omega)).trans ((hb.block _ (by omega)).trans hbx),(Below.heap_alloc _ _ _ (by omega)).trans ((hb.block _ (by omega)).trans hrs),?_,(hB0.trans (hb.mono hB0.size)).alloc (by omega) _⟩
 exact(ho.out hl w0 iL).keep fun b hs hl=>⟨Below.heap_alloc _ _ _ hl,by have:=hs.1;omega,by simp;omega,by omega⟩
theorem j4s(ho:OwnB w5 (w0.heap.size+1) vc v)(hl:v.length<=140737488355328)(hb:Below (w0.heap.size+1) (w0.alloc (.cells #[.int .i64 0,.slice none 0 0,.slice none 0 0] 61)) w5):
 j1p w (((w5.setCell ⟨w0.heap.size,0,none⟩ (.int .i64 t)).setCell ⟨w0.heap.size,1,none⟩ vc).setCell ⟨w0.heap.size,2,none⟩ (.slice none 0 0)) t v xv kv w0.heap.size vc:=by
 have hs:=hb.size
 simp at hs
 have hy:w5.heap[w0.heap.size]?=some (.cells #[.int .i64 0,.slice none 0 0,.slice none 0 0] 61 (0,0)):=(hb.block _ (by omega)).trans (iN)
 have hk:∀b,b≠w0.heap.size->(((w5.setCell ⟨w0.heap.size,0,none⟩ (.int .i64 t)).setCell ⟨w0.heap.size,1,none⟩ vc).setCell ⟨w0.heap.size,2,none⟩ (.slice none 0 0)).heap[b]?=w5.heap[b]? :=fun b hb=>by
  rw [iO (by show b≠w0.heap.size;omega),iO (by show b≠w0.heap.size;omega),iO (by show b≠w0.heap.size;omega)]
 refine⟨qJ (xt (xr hy)),by omega,(hk _ (by omega)).trans ((hb.block _ (by omega)).trans ((Below.heap_alloc _ _ _ (by omega)).trans hbx)),(hk _ (by omega)).trans ((hb.block _ (by omega)).trans ((Below.heap_alloc _ _ _ (by omega)).trans hrs)),?_,?_⟩
 ·refine(ho.out hl (w0.alloc (.cells #[.int .i64 0,.slice none 0 0,.slice none 0 0] 61)) (by simp)).keep fun b hs hl=> ?_
  have h1:=hs.1
  simp at h1
  exact⟨hk b (by omega),by omega,by simpa [World.setCell]using hl,by omega⟩
 ·have h1:Below w.heap.size w w5:=(hB0.alloc hB0.size _).trans (hb.mono (by omega))
  exact((h1.setCell (p:=⟨w0.heap.size,0,none⟩) hB0.size _).setCell (p:=⟨w0.heap.size,1,none⟩) hB0.size _).setCell (p:=⟨w0.heap.size,2,none⟩) hB0.size _
end
theorem j4o{w0 w5:World}{o:Obj}(h:Below (w0.drew.alloc o).heap.size (w0.drew.alloc o) w5):Below (w0.heap.size+1) (w0.alloc o) w5:=⟨h.os,h.tape,h.output,h.size,fun k hk=>h.block k (by simpa using hk)⟩
theorem j01{w wi wj:World}{p:Nat}{row:Option Nat}(h:w.grownBy wi (some p))(hg:wi.grownBy wj row)(hr:∀b,row=some b->w.heap.size<=b):w.grownBy wj (some p):=
 ⟨hg.os.trans h.os,hg.tape.trans h.tape,hg.output.trans h.output,Nat.le_trans h.size hg.size,fun k hk hne=>(hg.block k (iZ hk h.size) (fun e=>by have:=hr k e.symm;omega)).trans (h.block k hk hne)⟩
theorem Vj{w w1 wo:World}{t:Int}{v:List UInt8}{xv kv vc:Value}{Y:Nat}{oa:Option Addr}{oc:Nat}{K:Ns}(hH:j1p w w1 t v xv kv Y vc)(hG:w1.grownBy wo (some Y))(hO:OwnN wo w1.heap.size (.slice oa K.len oc) K)(hl:K.len<=2513169434843):
 ∃vv kk,Ending.returned (.agg #[.int .i64 t,vc,.slice oa K.len oc])=.returned (.agg #[.int .i64 t,vv,kk])/\
  BsS (((wo.setCell ⟨w.heap.size+1,0,none⟩ (.int .i64 t)).setCell ⟨w.heap.size+1,1,none⟩ vc).setCell ⟨w.heap.size+1,2,none⟩ (.slice oa K.len oc)) (New w (((wo.setCell ⟨w.heap.size+1,0,none⟩ (.int .i64 t)).setCell ⟨w.heap.size+1,1,none⟩ vc).setCell ⟨w.heap.size+1,2,none⟩ (.slice oa K.len oc))) vv v/\
  NsS (((wo.setCell ⟨w.heap.size+1,0,none⟩ (.int .i64 t)).setCell ⟨w.heap.size+1,1,none⟩ vc).setCell ⟨w.heap.size+1,2,none⟩ (.slice oa K.len oc)) (New w (((wo.setCell ⟨w.heap.size+1,0,none⟩ (.int .i64 t)).setCell ⟨w.heap.size+1,1,none⟩ vc).setCell ⟨w.heap.size+1,2,none⟩ (.slice oa K.len oc))) kk K/\
  Below w.heap.size w (((wo.setCell ⟨w.heap.size+1,0,none⟩ (.int .i64 t)).setCell ⟨w.heap.size+1,1,none⟩ vc).setCell ⟨w.heap.size+1,2,none⟩ (.slice oa K.len oc)):=by
 have hlo:=hH.lo
 have hs:=hG.size
 have hs1:w.heap.size+1<w1.heap.size:=(iG hH.rs)
 have hk:∀b,b≠w.heap.size+1->(((wo.setCell ⟨w.heap.size+1,0,none⟩ (.int .i64 t)).setCell ⟨w.heap.size+1,1,none⟩ vc).setCell ⟨w.heap.size+1,2,none⟩ (.slice oa K.len oc)).heap[b]?=wo.heap[b]? :=fun b hb=>by
  rw [iO (by show b≠w.heap.size+1;omega),iO (by show b≠w.heap.size+1;omega),iO (by show b≠w.heap.size+1;omega)]
 refine⟨vc,.slice oa K.len oc,rfl,hH.bs.keep fun b hb hl=>⟨(hk b (by omega)).trans (hG.block b hl (by intro e;injection e with e;omega)),by omega,by simp [World.setCell];omega⟩,(hO.nss hl).keep fun b hb hl=>⟨hk b (by omega),by omega,by simpa [World.setCell]using hl⟩,?_⟩
 have hB:=hH.bel.grown hG (by omega) (fun k e=>by injection e with e;omega)
 exact((hB.setCell (p:=⟨w.heap.size+1,0,none⟩) (Nat.le_succ _) _).setCell (p:=⟨w.heap.size+1,1,none⟩) (Nat.le_succ _) _).setCell (p:=⟨w.heap.size+1,2,none⟩) (Nat.le_succ _) _
theorem Up(n:Nat):∀(t:Int) (v:List UInt8) (K:Ns) (xv kv:Value) (S:Nat->Prop) (w:World),K.all<=n->n<=10000000->(∀b,S b->b<w.heap.size)->kB t->BsS w S xv v->NsS w S kv K->
 Calls Tryz.prog 115 #[.agg #[.int .i64 t,xv,kv]] w fun e w'=>∃vv kk,e=.returned (.agg #[.int .i64 t,vv,kk])/\BsS w' (New w w') vv v/\NsS w' (New w w') kk K/\Below w.heap.size w w':=by
 induction n using Nat.strongRecOn with
 |ind n ih=>
  intro t v K xv kv S w hn hn9 hS ht hx hk
  have hKn:=K.cnt_len
  obtain⟨xa,xc,rfl⟩:=hx.form2
  obtain⟨a,cap,rfl,hlc,hcap,hlen,hcells⟩:=hk
  have hcap':cap<=9223372036854775807:=hcap
  obtain⟨b,off,hb⟩:∃b off,Hid (0<K.len->a=some ⟨b,off,none⟩/\(S b/\b<w.heap.size)/\NsAt w S K b off):=by
   rcases Nat.eq_zero_or_pos K.len with h0|h0
   ·exact⟨0,0,fun h=>by omega⟩
   ·obtain⟨b,off,h1,h2,h3,h4⟩:=hcells h0
    exact⟨b,off,fun _=>⟨h1,⟨h2,h3⟩,h4⟩⟩
  have HX:=iH hx;have HS:=iH hS
  clear hcells hcap hx hS
  go_enter Tryz.func115,Tryz.ntmps115
  go_upto_region 1 with fail
  obtain⟨w0,hw0⟩:∃w0,w0=(w.alloc (.cells #[.int .i64 t,.slice xa v.length xc,.slice a K.len cap] 61)).alloc (.cells #[.int .i64 0,.slice none 0 0,.slice none 0 0] 61):=⟨_,rfl⟩
  rw [<-hw0]
  have hz0:w0.heap.size=w.heap.size+2:=by rw [hw0];simp
  have hbx:w0.heap[w.heap.size]?=some (.cells #[.int .i64 t,.slice xa v.length xc,.slice a K.len cap] 61 (0,0)):=by rw [hw0];exact(Below.heap_alloc _ _ _ (by simp)).trans (iN)
  have hrs:w0.heap[w.heap.size+1]?=some (.cells #[.int .i64 0,.slice none 0 0,.slice none 0 0] 61 (0,0)):=by
   rw [hw0]
   have:=heap_alloc_new (w.alloc (.cells #[.int .i64 t,.slice xa v.length xc,.slice a K.len cap] 61)) (.cells #[.int .i64 0,.slice none 0 0,.slice none 0 0] 61)
   simpa using this
  have hB0:Below w.heap.size w w0:=by rw [hw0];exact(iA).alloc (by simp) _
  have HBX:=iH hbx;have HRS:=iH hrs;have HB0:=iH hB0;have HZ0:=iH hz0
  obtain⟨x0,x1,x2,_⟩:=jO hbx
  have hxl:w.heap.size<w0.heap.size:=by omega
  have HC:=iH (fun(W1:World) (h:Below w.heap.size w W1)=>kR (.slice xa v.length xc) v W1 (HX.out.keep fun b hs hl=>⟨h.block b (HS.out b hs),iZ (HS.out b hs) h.size⟩))
  clear hw0 hz0 hbx hrs hB0
  go_cut [3] from 6 to 11 (fun y wx=>∃Y vA vC,y=.pointer (some ⟨Y,0,none⟩)/\j1p w wx t v (.slice xa v.length xc) (.slice a K.len cap) Y (.slice vA v.length vC))
  case first=>
   clear ih
   go_region_with (go_at_call 80;refine(HC.out _ (by first|exact HB0.out.drew|exact HB0.out.drew.alloc HB0.out.size _)).mono ?_;rintro e w5 ⟨v5,rfl,ho5,hb5⟩;obtain⟨a5,c5,rfl⟩:=ho5.form;have hbx5:=(hb5.block w.heap.size (by first|exact hxl|exact iZ hxl (by simp))).trans (by first|exact HBX.out|exact(Below.heap_alloc _ _ _ hxl).trans HBX.out);have HBX5:=iH hbx5;have hxl5:=(iG hbx5);obtain⟨b0,b1,b2,_⟩:=jO hbx5;(try(have hy5:=(hb5.block w0.heap.size (by simp)).trans (heap_alloc_new w0.drew (.cells #[.int .i64 0,.slice none 0 0,.slice none 0 0] 61));have HY5:=iH hy5;obtain⟨y0,y1,y2,yf⟩:=jO hy5;have g0:=yf 0;have g1:=yf 1;have g2:=yf 2;clear hy5 yf));have HO5:=iH ho5;have HB5:=iH hb5;clear hbx5 ho5 hb5)
   all_goals go_wp2_with fail
   all_goals go_meet
   all_goals first
    |exact⟨_,a5,c5,rfl,j4r HZ0.out HBX.out HRS.out HB0.out HO5.out HX.out.len (Jb HB5.out)⟩
    |exact⟨_,a5,c5,rfl,j4s HZ0.out HBX.out HRS.out HB0.out (by simpa using HO5.out) HX.out.len (j4o HB5.out)⟩
  case rest=>
   obtain⟨Y,vA,vC,rfl,hH⟩:=hcut
   obtain⟨w1,rfl⟩:∃w1:World,w1=wc:=⟨_,rfl⟩
   have HH:=iH hH
   have HLO:=hH.lo
   have hYl:=(iG hH.y)
   obtain⟨c0,c1,c2,_⟩:=jO hH.bx
   have hz1:=hH.bel.size
   clear hH
   go_wp2_with fail
   go_loopg [15] K.len (fun m i wr=>∃(R Ld:Ns) (j:Nat) (oa:Option Addr) (oc:Nat),R.len=m/\j+R.len=K.len/\i=.int .i64 j/\Ld.len=j/\Hid (Ld.app R=K)/\R.all<=n/\NsAt w S R b (off+j*3)/\
    OwnN wr w1.heap.size (.slice oa Ld.len oc) Ld/\wr.heap[Y]?=some (.cells #[.int .i64 t,.slice vA v.length vC,.slice oa Ld.len oc] 61 (0,0))/\w1.grownBy wr (some Y))
   case atStart=>exact⟨K,.nil,0,none,0,rfl,by omega,rfl,rfl,rfl,hn,by rw [Nat.zero_mul,Nat.add_zero];exact NsAt.zero hb.out,OwnN.nil _ _,HH.out.y,World.grownBy.refl _ _⟩
   case round=>
    obtain⟨wo,rfl⟩:∃wo:World,wo=wr:=⟨_,rfl⟩
    obtain⟨R,Ld,j,oa,oc,rfl,hj,rfl,hLd,hap,hRn,hat,hown,hy,hg⟩:=hrel
    have HO:=iH hown;have HY:=iH hy;have HG:=iH hg
    have hYo:=(iG hy)
    have hzo:=hg.size
    obtain⟨y0,y1,y2,yf⟩:=jO hy
    cases R with
    |nil=>
     simp only [Ns.len,Nat.add_zero]at hj
     have E:Hid (Ld=K):=by show _=_;rw [<-hap.out,Ns.app_nil]
     have hr2:=(hg.block (w.heap.size+1) (by omega) (by intro e;injection e with e;omega)).trans HH.out.rs
     have HR2:=iH hr2
     obtain⟨r0,r1,r2,rf⟩:=jO hr2
     have f0:=rf 0;have f1:=rf 1;have f2:=rf 2
     have hjj:((j:Int)<(K.len:Int))=False:=by simp;omega
     clear hown hy hg hat ih hr2 rf hap
     go_wp2_with fail
     obtain⟨g0,g1,g2,_⟩:=jO (qJ (u:=.slice oa K.len oc) (xt (u:=.slice vA v.length vC) (xr (u:=.int .i64 t) HR2.out)))
     have hlen':Ld.len=K.len:=by rw [E.out]
     have hO:=HO.out
     rw [hlen',E.out]at hO
     exact bodyPost_ret (v:=.agg #[.int .i64 t,.slice vA v.length vC,.slice oa K.len oc]) (by simp [results,Tryz.results115,go_sem,g0,g1,g2]) rfl (Vj HH.out HG.out hO hlen)
    |cons t1 v1 k1 r1=>
     obtain⟨h1,h2,⟨x1',h3,h4⟩,⟨ka,kc,h5,h6,h7,h8x,h9⟩,h10⟩:=hat
     simp only [Ns.len]at hj
     simp only [Ns.all]at hRn
     have hLb:Ld.len<=10000000:=by omega
     have HLd:=iH hLd
     clear hLd
     have hlt:(j:Int)<K.len:=by omega
     obtain⟨rfl,⟨hbS,hbl⟩,_⟩:=hb.out (by omega)
     obtain⟨xa1,xc1,rfl⟩:=h4.form2
     have BO:Hid (Below w.heap.size w wo):=HH.out.bel.grown HG.out hz1 (fun k e=>by injection e with e;omega)
     have q0:=(BO.out.cell (p:=⟨b,off+j*3,none⟩) hbl).trans h1
     have q1:=(BO.out.cell (p:=⟨b,off+j*3+1,none⟩) hbl).trans h3
     have q2:=(BO.out.cell (p:=⟨b,off+j*3+2,none⟩) hbl).trans h5
     have hkid:NsS w S (.slice ka k1.len kc) k1:=⟨ka,kc,rfl,h6,h7,h8x,h9⟩
     have HI:=iH (fun(W1:World) (h:Below w.heap.size w W1)=>ih k1.all (by omega) t1 v1 k1 (.slice xa1 v1.length xc1) (.slice ka k1.len kc) S W1 iL (by omega) (fun b hs=>iZ (HS.out b hs) h.size) h2 (h4.keep fun b hs _=>⟨h.block b (HS.out b hs),hs⟩) (hkid.keep fun b hs _=>⟨h.block b (HS.out b hs),hs⟩))
     have H10:=iH h10;have HT1:=iH h2
     have E:Hid ((Ld.app (.cons t1 v1 k1 .nil)).app r1=K):=by show _=_;rw [Ns.app_assoc];exact hap.out
     clear h1 h2 h3 h4 h5 h9 h10 hkid ih hown hy hg hap
     go_upto_region 5 with fail
     obtain⟨wa,hwa⟩:∃wa,wa=wo.alloc (.cells #[.int .i64 t1,.slice xa1 v1.length xc1,.slice ka k1.len kc] 61):=⟨_,rfl⟩
     rw [<-hwa]
     have hbxa:wa.heap[wo.heap.size]?=some (.cells #[.int .i64 t1,.slice xa1 v1.length xc1,.slice ka k1.len kc] 61 (0,0)):=by rw [hwa];exact iN
     have hBa:Below wo.heap.size wo wa:=by rw [hwa];exact iA
     have hya:=(hBa.block Y hYo).trans HY.out
     obtain⟨ya0,ya1,ya2,_⟩:=jO hya
     obtain⟨bx0,bx1,bx2,_⟩:=jO hbxa
     have BA:=iH hBa;have YA:=iH hya
     have hYa:Y<wa.heap.size:=iZ hYo hBa.size
     have hza:=hBa.size
     clear hwa hbxa hBa hya y0 y1 y2 yf q0 q1 q2
     go_region_law (first
      |(refine j0w rfl (.tmp 20) (.tmp 23) rfl w1.heap.size (.slice oa Ld.len oc) Ld (by simp [Act.eval,Act.put]) O5.out t1 v1 k1 (.slice xa5 v1.length xc5) (.slice ka5 k1.len kc5) _ w5.heap.size (by simp [Act.eval,Act.put]) rfl HT1.out V5.out K5.out (by omega) hz5 ?_
        intro o6 w6 hgr
        obtain⟨oa6,oc6,rfl⟩:=hgr.1.form
        have hy6:=(hgr.2.2.block Y hY5 (fun e=>by have:=(O5.out.lt e.symm).1;omega)).trans Y5.out
        have HY6:=iH hy6
        obtain⟨_,_,z2,zf⟩:=jO hy6
        have zf2:=zf 2
        have G6:=iH hgr
        clear hgr hy6 zf)
      |(go_simp
        go_at_call 115
        refine(HI.out _ (BO.out.trans (BA.out.mono (by omega))).drew).mono ?_
        rintro e w5 ⟨vv5,kk5,rfl,hv5,hk5,hb5⟩
        obtain⟨xa5,xc5,rfl⟩:=hv5.form2
        obtain⟨ka5,kc5,rfl⟩:=hk5.form2
        have hb5':Below wa.heap.size wa w5:=Jb hb5
        have O5:=iH ((HO.out.below BA.out).below hb5')
        have hy5:=(hb5'.block Y hYa).trans YA.out
        have Y5:=iH hy5
        obtain⟨e0,e1,e2,_⟩:=jO hy5
        have hY5:=(iG hy5)
        have hz5:w1.heap.size<=w5.heap.size:=by have:=hb5'.size;omega
        have V5:Hid (BsS w5 (xM w1.heap.size w5 (.slice oa Ld.len oc)) (.slice xa5 v1.length xc5) v1):=hv5.keep fun b hs hl=>⟨rfl,hl,fun e=>by have:=(HO.out.lt e).2;have h9:wa.heap.size<=b:=hs.1;omega,by have h9:wa.heap.size<=b:=hs.1;omega⟩
        have K5:Hid (NsS w5 (xM w1.heap.size w5 (.slice oa Ld.len oc)) (.slice ka5 k1.len kc5) k1):=hk5.keep fun b hs hl=>⟨rfl,hl,fun e=>by have:=(HO.out.lt e).2;have h9:wa.heap.size<=b:=hs.1;omega,by have h9:wa.heap.size<=b:=hs.1;omega⟩
        have B5:=iH hb5'
        clear hv5 hk5 hb5 hb5' hy5))
     all_goals go_wp2_with fail
     all_goals
      (go_roundg r1.len
       case measure=>simp [Ns.len]
       case rel=>
        have hYw:Y<w1.heap.size:=hYl
        have G1:=kr HG.out (jD BA.out _)
        have G2:=kr G1 (jD B5.out _)
        have G3:=j01 G2 G6.out.2.2 (fun b e=>(O5.out.lt e).1)
        exact⟨r1,Ld.app (.cons t1 v1 k1 .nil),j+1,oa6,oc6,rfl,by omega,by go_num,by rw [Ns.len_snoc,HLd.out],E.out,by omega,by rw [Nat.add_mul,<-Nat.add_assoc];exact H10.out,
         G6.out.1.kept (jb (World.grownBy.refl w6 (some Y)) (.inl rfl) _) (fun p e=>by injection e with e;omega),qJ HY6.out,jb G3 (.inl rfl) _⟩)
section
variable{g:Int}{v:List UInt8}{k:Ns}(L:Ns)(h:L.pick g=some (v,k))
include g v k L h
theorem j36:k.all<=L.all:=by
 induction L with
 |nil=>cases h
 |cons t v' k' r _ ih=>
  rw [Ns.pick]at h
  simp only [Ns.all]
  split at h
  ·injection h with h;injection h with _ e;subst e;omega
  ·have:=ih h;omega
theorem j38:0<L.len:=by
 cases L with
 |nil=>cases h
 |cons t v' k' r=>simp [Ns.len]
end
structure FSt (w wi:World) (S:Nat->Prop) (f:Fnd) (vv kv:Value):Prop where
 fd:wi.heap[w.heap.size+1]?=some (.cells #[.int .i64 f.tag,vv,kv] 61 (0,0))
 rs:wi.heap[w.heap.size]?=some (.cells #[.int .i64 0,.slice none 0 0,.slice none 0 0] 61 (0,0))
 bs:BsS w S vv f.val
 ks:NsS w S kv f.kids
 it:kB f.tag
 bel:Below w.heap.size w wi
theorem Xo{w wr w5:World}{r r1:Fnd}{vv kv x y z:Value}(e:r=r1)(hv:BsS w5 (New wr w5) vv r1.val)(hk:NsS w5 (New wr w5) kv r1.kids)(ht:kB r1.tag)(hb:Below w.heap.size w w5)(hz:w.heap.size+2<=wr.heap.size):
 j3v r (fun b=>b<w.heap.size\/w.heap.size+2<=b) w (.returned (.tuple #[.agg #[.int .i64 r1.tag,vv,kv],.bool r1.ok])) (((w5.setCell ⟨w.heap.size,0,none⟩ x).setCell ⟨w.heap.size,1,none⟩ y).setCell ⟨w.heap.size,2,none⟩ z):=by
 subst e
 have hk':∀b,New wr w5 b->b<w5.heap.size->(((w5.setCell ⟨w.heap.size,0,none⟩ x).setCell ⟨w.heap.size,1,none⟩ y).setCell ⟨w.heap.size,2,none⟩ z).heap[b]?=w5.heap[b]?/\(b<w.heap.size\/w.heap.size+2<=b):=fun b hs _=>by
  have:=hs.1
  exact⟨by rw [iO (by show b≠w.heap.size;omega),iO (by show b≠w.heap.size;omega),iO (by show b≠w.heap.size;omega)],.inr (by omega)⟩
 exact⟨_,_,rfl,hv.keep hk',hk.keep hk',ht,((hb.setCell (p:=⟨w.heap.size,0,none⟩) iL _).setCell (p:=⟨w.heap.size,1,none⟩) iL _).setCell (p:=⟨w.heap.size,2,none⟩) iL _⟩
theorem j22(ps:List Int)(L:Ns)(v vp:Value)(S:Nat->Prop)(w:World)(hS:∀b,S b->b<w.heap.size)(hv:NsS w S v L)(hp:IntL w S vp ps)(ha:L.all<=10000000):
 Calls Tryz.prog 86 #[v,vp] w (j3v (yS ps L) (fun b=>b<w.heap.size\/w.heap.size+2<=b) w):=by
 obtain⟨a,cap,rfl⟩:=hv.form2
 have HPI:=iH hp
 obtain⟨pa,pc,rfl,pl,pc9,pl9,pz,pcell⟩:=hp
 obtain⟨pb,po,Hpc⟩:∃b o,Hid (0<ps.length->pa=some ⟨b,o,none⟩/\b<w.heap.size/\∀j,j<ps.length->w.cell? ⟨b,o+j,none⟩=some (.int .i64 (ps.getD j 0))):=by
  rcases Nat.eq_zero_or_pos ps.length with h0|h0
  ·exact⟨0,0,fun h=>by omega⟩
  ·exact m40
 have HV:=iH hv;have HS:=iH hS;have PZ:=iH pz
 clear hv hS pz pcell
 go_enter Tryz.func86,Tryz.ntmps86
 go_wp2_with fail
 obtain⟨w0,hw0⟩:∃w0,w0=(w.alloc (.cells #[.int .i64 0,.slice none 0 0,.slice none 0 0] 61)).alloc (.cells #[.int .i64 0,.slice none 0 0,.slice none 0 0] 61):=⟨_,rfl⟩
 rw [<-hw0]
 have hF:FSt w w0 S .no (.slice none 0 0) (.slice none 0 0):=by
  rw [hw0]
  refine⟨?_,(Below.heap_alloc _ _ _ (by simp)).trans (iN),BsS.nil0 _ _,NsS.nil0 _ _,⟨by decide,by decide⟩,(iA).alloc (by simp) _⟩
  have h:=heap_alloc_new (w.alloc (.cells #[.int .i64 0,.slice none 0 0,.slice none 0 0] 61)) (.cells #[.int .i64 0,.slice none 0 0,.slice none 0 0] 61)
  rw [show(w.alloc (.cells #[.int .i64 0,.slice none 0 0,.slice none 0 0] 61)).heap.size=w.heap.size+1 by simp]at h
  exact h
 have HF:=iH hF
 clear hw0 hF
 go_loopg [0,12] ps.length (fun m cv i wr=>∃(p:List Int) (j:Nat) (f:Fnd) (cur:Ns) (ca fxa fka:Option Addr) (cc fxc fkc:Nat),p.length=m/\j+p.length=ps.length/\i=.int .i64 j/\Hid (p=ps.drop j)/\cv=.slice ca cur.len cc/\Hid (NsS w S (.slice ca cur.len cc) cur)/\
  Hid (FSt w wr S f (.slice fxa f.val.length fxc) (.slice fka f.kids.len fkc))/\Hid (yS ps L=if p= []then f else yS p cur)/\Hid (0<j->f.ok=true)/\f.kids.all<=10000000/\cur.all<=10000000)
 case atStart=>
  exact⟨ps,0,.no,L,a,none,none,cap,0,0,rfl,by omega,rfl,by simp [Hid],rfl,HV.out,HF.out,by show _=_;cases ps with|nil=>rfl|cons g p=>simp,fun h=>by omega,by simp [Fnd.no,Ns.all],ha⟩
 case round=>
  obtain⟨p,j,f,cur,ca,fxa,fka,cc,fxc,fkc,rfl,hj,rfl,hpd,rfl,hcur,hFS,hfind,hok,hfa,hca⟩:=hrel
  obtain⟨f0,f1,f2,ff⟩:=jO hFS.out.fd
  obtain⟨r0,r1,r2,rf⟩:=jO hFS.out.rs
  have ff0:=ff 0;have ff1:=ff 1;have ff2:=ff 2
  have rf0:=rf 0;have rf1:=rf 1;have rf2:=rf 2
  have hfl:=(iG hFS.out.fd)
  have hz:=hFS.out.bel.size
  clear ff rf
  cases p with
  |nil=>
   simp only [List.length_nil,Nat.add_zero]at hj
   have HC:=iH (fun(W1:World) (h:Below w.heap.size w W1)=>Up f.kids.all f.tag f.val f.kids (.slice fxa f.val.length fxc) (.slice fka f.kids.len fkc) S W1 iL hfa (fun b hs=>iZ (HS.out b hs) h.size) hFS.out.it (hFS.out.bs.keep fun b hs _=>⟨h.block b (HS.out b hs),hs⟩) (hFS.out.ks.keep fun b hs _=>⟨h.block b (HS.out b hs),hs⟩))
   have E:Hid (yS ps L=f):=by show _=_;rw [hfind.out]<;>rfl
   have hOk:Hid (f.ok=decide ((ps.length:Int)>0)):=by
    show _=_
    by_cases h0:ps= []
    ·have e:f=.no:=by rw [<-E.out,h0]<;>rfl
     rw [e,h0]<;>rfl
    ·have:0<ps.length:=List.length_pos_iff.2 h0
     rw [hok.out (by omega)]
     exact(decide_eq_true (by omega)).symm
   clear hfind hok hcur hpd
   go_wp2_with(go_at_call 115;refine(HC.out _ hFS.out.bel).mono ?_;rintro e w5 ⟨vv,kk,rfl,hvv,hkk,hb5⟩;obtain⟨va,vc,rfl⟩:=hvv.form2;obtain⟨ka,kc,rfl⟩:=hkk.form2;have hr5:=(hb5.block w.heap.size (by omega)).trans hFS.out.rs;have HR5:=iH hr5;obtain⟨s0,s1,s2,sf⟩:=jO hr5;have sf0:=sf 0;have sf1:=sf 1;have sf2:=sf 2;have V5:=iH hvv;have K5:=iH hkk;have B5:=iH hb5;clear hvv hkk hb5 hr5 sf)
   obtain⟨y0,y1,y2,_⟩:=jO (qJ (u:=.slice ka f.kids.len kc) (xt (u:=.slice va f.val.length vc) (xr (u:=.int .i64 f.tag) HR5.out)))
   refine bodyPost_ret (v:=.tuple #[.agg #[.int .i64 f.tag,.slice va f.val.length vc,.slice ka f.kids.len kc],.bool (decide (0<ps.length))]) (by simp [results,Tryz.results86,go_sem,y0,y1,y2]) rfl ?_
   have e1:decide (0<ps.length)=f.ok:=by rw [hOk.out];simp
   rw [e1]
   exact Xo E.out V5.out K5.out hFS.out.it (hFS.out.bel.trans (B5.out.mono hz)) (by have:=hFS.out.bel.size;omega)
  |cons g p=>
   simp only [List.length_cons]at hj
   have hjl:(j:Int)<ps.length:=by omega
   obtain⟨rfl,hpbl,hpcell⟩:=Hpc.out (by omega)
   have hg:ps.getD j 0=g:=by
    exact m2q
   have hpd2:Hid (p=ps.drop (j+1)):=by
    show p=_
    have h:=congrArg List.tail hpd.out
    simp only [List.tail_cons]at h
    rw [h,List.tail_drop]
   have hc0:=hpcell j (by omega)
   rw [hg]at hc0
   have hc1:=(hFS.out.bel.cell (p:=⟨pb,po+j,none⟩) hpbl).trans hc0
   have hgi:kB g:=PZ.out g (by
    have hjn:j<ps.length:=by omega
    have e:ps.getD j 0=ps[j]:=by simp [List.getD,hjn]
    rw [<-hg,e];exact List.getElem_mem _)
   obtain⟨wa,hwa⟩:∃wa,wa=wr.alloc (.cells #[.int .i64 g] 3):=⟨_,rfl⟩
   have hBa:Below wr.heap.size wr wa:=by rw [hwa];exact iA
   have hta:wa.heap[wr.heap.size]?=some (.cells #[.int .i64 g] 3 (0,0)):=by rw [hwa];exact iN
   have HI:=iH (Vy cur (.slice ca cur.len cc) S g wr.heap.size wa (hcur.out.keep fun b hs hl=>⟨(hBa.block b (iZ (HS.out b hs) hz)).trans (hFS.out.bel.block b (HS.out b hs)),hs⟩) (cell_of_one hta) (iG hta))
   have BA:=iH hBa;have WA:=iH hwa
   have hzA:=hBa.size
   clear hpcell hc0 hta hBa hwa hpd hg
   cases hpk:cur.pick g with
   |none=>
    have hix:=j2b cur g 0 hpk
    rw [hix]at HI
    have E:Hid (yS ps L=.no):=by show _=_;rw [hfind.out,iF (by simp),yS,hpk]
    clear hix hfind hok hcur hpd2
    go_wp2_with(rw [<-WA.out];go_at_call 113;refine HI.out.mono ?_;rintro e w5 ⟨rfl,hb5⟩;have hr5:=(hb5.block w.heap.size (by omega)).trans ((BA.out.block w.heap.size (by omega)).trans hFS.out.rs);have HR5:=iH hr5;obtain⟨s0,s1,s2,sf⟩:=jO hr5;have sf0:=sf 0;have sf1:=sf 1;have sf2:=sf 2;have B5:=iH hb5;clear hb5 hr5 sf)
    obtain⟨y0,y1,y2,_⟩:=jO (qJ (u:=.slice none 0 0) (xt (u:=.slice none 0 0) (xr (u:=.int .i64 0) HR5.out)))
    refine bodyPost_ret (v:=.tuple #[.agg #[.int .i64 0,.slice none 0 0,.slice none 0 0],.bool false]) (by simp [results,Tryz.results86,go_sem,y0,y1,y2]) rfl ?_
    exact Xo (wr:=wr) (r1:=.no) E.out (BsS.nil0 _ _) (NsS.nil0 _ _) ⟨by decide,by decide⟩ ((hFS.out.bel.trans (BA.out.mono hz)).trans (B5.out.mono (by omega))) (by omega)
   |some vk=>
    obtain⟨v,k⟩:=vk
    have hcl:=j38 cur hpk
    have hka:=j36 cur hpk
    obtain⟨_,_,hce,_,_,_,hcc⟩:=hcur.out
    injection hce with hce1 _ hce3
    subst hce1 hce3
    obtain⟨b,off,rfl,hbS,hbl,hat⟩:=hcc hcl
    obtain⟨i,hix,_,hil,d0,hgi2,⟨x,d1,hx⟩,⟨y,d2,hy⟩⟩:=j2c cur b off 0 hat hpk
    rw [Nat.sub_zero]at d0 d1 d2
    rw [hix]at HI
    obtain⟨xa,xc,rfl⟩:=hx.form2
    obtain⟨ka,kc,rfl⟩:=hy.form2
    have hil2:(i:Int)<cur.len:=by omega
    have hbw:=HS.out b hbS
    have E:Hid (yS ps L=if p= []then⟨true,g,v,k⟩else yS p k):=by show _=_;rw [hfind.out,iF (by simp),yS,hpk]
    have D0:=iH d0;have D1:=iH d1;have D2:=iH d2;have HX:=iH hx;have HY:=iH hy
    clear hix hfind hok hcc hat d0 d1 d2 hx hy
    go_wp2_with(rw [<-WA.out];go_at_call 113;refine HI.out.mono ?_;rintro e w5 ⟨rfl,hb5⟩;have B5:Hid (Below w.heap.size w w5):=(hFS.out.bel.trans (BA.out.mono hz)).trans (hb5.mono (by omega));have hf5:=(hb5.block (w.heap.size+1) (by omega)).trans ((BA.out.block (w.heap.size+1) hfl).trans hFS.out.fd);have HF5:=iH hf5;obtain⟨s0,s1,s2,sf⟩:=jO hf5;have sf0:=sf 0;have sf1:=sf 1;have sf2:=sf 2;have HR5:=iH ((hb5.block w.heap.size (by omega)).trans ((BA.out.block w.heap.size (by omega)).trans hFS.out.rs));have g0:=(B5.out.cell (p:=⟨b,off+i*3,none⟩) hbw).trans D0.out;have g1:=(B5.out.cell (p:=⟨b,off+i*3+1,none⟩) hbw).trans D1.out;have g2:=(B5.out.cell (p:=⟨b,off+i*3+2,none⟩) hbw).trans D2.out;clear hb5 hf5 sf)
    go_roundg p.length
    case measure=>simp
    case rel=>
     refine⟨p,j+1,⟨true,g,v,k⟩,k,ka,xa,ka,kc,xc,kc,rfl,by omega,by go_num,hpd2.out,rfl,HY.out,?_,E.out,fun _=>rfl,(by show k.all<=10000000;omega),by omega⟩
     refine⟨qJ (xt (xr HF5.out)),?_,HX.out,HY.out,hgi2,((B5.out.setCell (p:=⟨w.heap.size+1,0,none⟩) (Nat.le_succ _) _).setCell (p:=⟨w.heap.size+1,1,none⟩) (Nat.le_succ _) _).setCell (p:=⟨w.heap.size+1,2,none⟩) (Nat.le_succ _) _⟩
     rw [iO (by show _≠w.heap.size+1;omega),iO (by show _≠w.heap.size+1;omega),iO (by show _≠w.heap.size+1;omega)]
     exact HR5.out
end Go.Proofs.YtadndhgebgjlaaaGreat
