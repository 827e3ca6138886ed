/- slices.Reverse of a row of bytes of the call's own; Layer 2: the walk of length; Layer 2: the walk of write; Layer 2: the walk of Encode; Layer 2: the reader... -/
import Derived.StillTailTactics
import Derived.Test.YtalmmiojbmpmiaaGreatDoorPf
import Derived.Test.YtalmmiojbmpmiaaGreatDoorPl
set_option linter.all false
set_option maxRecDepth 100000
set_option maxHeartbeats 8000000
namespace Go.Proofs.YtalmmiojbmpmiaaGreatDoor
open Go.RowKit Go.Deep
def YR(n i:Nat)(f:Nat->UInt8)(j:Nat):UInt8:=if j<i\/n<=i+j then f (n - 1 - j)else f j
theorem j0o(n:Nat)(f:Nat->UInt8):zj n (YR n 0 f)=zj n f:=qn fun j hj=>by unfold YR;rw [iF (by omega)]
theorem j0m(n i:Nat)(f:Nat->UInt8)(h:n<=2*i+1):zj n (YR n i f)=zj n fun j=>f (n - 1 - j):=qn fun j hj=>by
 unfold YR
 by_cases e:j<i\/n<=i+j
 ·rw [iT e]
 ·rw [iF e];congr 1;omega
theorem j0n(n i:Nat)(f:Nat->UInt8)(h:2*i+1<n):((zj n (YR n i f)).set i (U8 (YR n i f (n - 1 - i)))).set (n - 1 - i) (U8 (YR n i f i))=zj n (YR n (i+1) f):=by
 rw [Jn,Jn]
 refine qn fun j hj=> ?_
 unfold YR
 by_cases e1:j=n - 1 - i
 ·rw [iT e1,iF (by omega),iT (by omega)];congr 1;omega
 ·rw [iF e1]
  by_cases e2:j=i
  ·rw [iT e2,iF (by omega),iT (by omega)];congr 1;omega
  ·rw [iF e2]
   by_cases e3:j<i\/n<=i+j
   ·rw [iT e3,iT (by omega)]
   ·rw [iF e3,iF (by omega)]
theorem j5n(g n cap base:Nat)(f:Nat->UInt8)(w:World)(h0:0<n)(hn:n<=140737488355328)(how:w.ownsRow base 5 1 (.slice (some ⟨g,0,none⟩) n cap) n (zj n f)):
 Calls Tryz.prog 194 #[.slice (some ⟨g,0,none⟩) n cap] w fun e w'=>e=.returned (.tuple #[])/\w'.ownsRow base 5 1 (.slice (some ⟨g,0,none⟩) n cap) n (zj n fun j=>f (n - 1 - j))/\w.grownBy w' (some g):=by
 have How:=iH how;clear how
 go_enter Tryz.func194,Tryz.ntmps194
 go_wp2_with fail
 go_loopg [2,3] n (fun m s2 s3 wr=>∃(i:Nat) (z:Int),s2=.int .i64 i/\s3=.int .i64 z/\z+i=n - 1/\m+i=n/\2*i<=n/\wr.ownsRow base 5 1 (.slice (some ⟨g,0,none⟩) n cap) n (zj n (YR n i f))/\w.grownBy wr (some g))
 case atStart=>exact⟨0,_,rfl,rfl,by omega,by omega,by omega,by rw [j0o];exact How.out,World.grownBy.refl w _⟩
 case round=>
  obtain⟨i,z,rfl,rfl,hz,hm,hi,how,hg⟩:=hrel
  have How2:=iH how;have Hg:=iH hg;clear how hg
  by_cases hlt:2*i+1<n
  ·obtain⟨j,hj,rfl⟩:∃j:Nat,j+i+1=n/\z=j:=⟨n - 1 - i,by omega,by omega⟩
   have hd:decide ((i:Int)<j)=true:=by simp;omega
   have c1:wr.cell? ⟨g,i,none⟩=some (U8 (YR n i f i)):=by rw [How2.out.cellAt i (by omega),xm _ _ _ (by omega)]
   have f1:=How2.out.frozenAt i
   have c2:wr.cell? ⟨g,j,none⟩=some (U8 (YR n i f j)):=by rw [How2.out.cellAt j (by omega),xm _ _ _ (by omega)]
   have f2:=How2.out.frozenAt j
   have b1:(0:Int)<=i:=by omega
   have b2:(0:Int)<=j:=by omega
   have b3:(i:Int)<n:=by omega
   have b4:(j:Int)<n:=by omega
   go_wp2_with fail
   go_region
   go_wp2_with fail
   go_roundg (n - (i+1))
   case measure=>omega
   case rel=>
    obtain⟨h1,_⟩:=How2.out.stored i (U8 (YR n i f j))
    obtain⟨h2,_⟩:=h1.stored j (U8 (YR n i f i))
    have e:=j0n n i f hlt
    have ej:n - 1 - i=j:=by omega
    rw [ej]at e
    rw [e]at h2
    refine⟨i+1,(j:Int) - 1,by go_num,rfl,by omega,by omega,by omega,?_,kS (j7 (j7 Hg.out (.inl rfl) _) (.inl rfl) _)⟩
    exact World.ownsRow.drew h2
  ·have hd:decide ((i:Int)<z)=false:=by simp;omega
   go_wp2_with fail
   go_end0
   exact⟨rfl,by rw [<-j0m n i f (by omega)];exact How2.out,Hg.out⟩
theorem zT(f:Nat):leN f 0= []:=by cases f<;>rfl
theorem j52(f n:Nat)(h:0<n):leN (f+1) n=ofI n :: leN f (n / 256):=by rw [leN,iF (by omega)]
theorem VT(f n:Nat):(leN f n).length<=f:=by
 induction f generalizing n with
 |zero=>simp [leN]
 |succ f ih=>rw [leN];split<;>simp;exact ih _
theorem Vo(l:List UInt8)(n:Nat)(h:l.length=n):jC n (fun j=>gb l (n - 1 - j))=l.reverse:=by
 subst h
 apply List.ext_getElem
 ·simp [jC]
 ·intro i h1 h2
  have h3:i<l.length:=by simpa [jC]using h1
  simp [gb,jC,List.getElem_reverse]
  rw [List.getElem?_eq_getElem (by omega)]<;>rfl
theorem j2p(n:Nat)(h:¬n<128):qL n=(leN 8 n++ [ofI (128+(leN 8 n).length)]).reverse:=by
 unfold qL;rw [iF h];simp
theorem j7i(n:Nat)(h:n<=8):(128:UInt8) ||| ofI (n:Int)=ofI (128+(n:Int)):=by
 have:(List.range 9).all (fun n=>((128:UInt8) ||| ofI (n:Int))==ofI (128+(n:Int)))=true:=by decide+kernel
 exact eq_of_beq (List.all_eq_true.1 this n (List.mem_range.2 (by omega)))
theorem xY(n:Nat)(hn:n<=140737488355328)(w:World):Calls Tryz.prog 181 #[.int .i64 n] w fun e w'=>∃v',e=.returned v'/\BsS w' (New w w') v' (qL n)/\Below w.heap.size w w':=by
 by_cases h1:n<128
 ·have d1:decide ((n:Int)<128)=true:=decide_eq_true (by omega)
  have E:Hid (qL n= [ofI n]):=iT h1
  clear h1 hn
  go_enter Tryz.func181,Tryz.ntmps181
  go_wp2_with fail
  go_ret
  rw [E.out]
  exact⟨_,rfl,yq w [ofI n] _ (by simp) _ rfl,iA⟩
 ·have d1:decide ((n:Int)<128)=false:=decide_eq_false (by omega)
  have E:=iH (j2p n h1)
  go_enter Tryz.func181,Tryz.ntmps181
  go_wp2_with fail
  go_loopg [0,3] 8 (fun f s o wr=>∃(m:Nat) (l:List UInt8),s=.int .i64 m/\m<=140737488355328/\m<256 ^ f/\l.length+f=8/\Hid (l++leN f m=leN 8 n)/\OwnB wr w.heap.size o l/\Below w.heap.size w wr)
  case atStart=>exact⟨n,[],rfl,hn,by omega,rfl,rfl,OwnB.nil _ _,Below.refl _ _⟩
  case round=>
   obtain⟨m,l,rfl,hm,hm2,hl,he,hown,hb⟩:=hrel
   obtain⟨oa,oc,rfl⟩:=hown.form
   by_cases hp:0<m
   ·obtain⟨f,rfl⟩:∃f,gk=f+1:=⟨gk - 1,by rcases gk with _|f<;>simp at hm2 |-;omega⟩
    have hq:m / 256<256 ^ f:=by rw [Nat.pow_succ]at hm2;omega
    have Hq:=iH hq;clear hq hm2
    rw [j52 _ _ hp]at he
    have Hown:=iH hown;have Hb:=iH hb;clear hown hb
    have hlen:l.length<=8:=by omega
    have Hl:=iH hl;clear hl
    have hz:=Hb.out.size
    go_wp2_with(at_builtin;(with_reducible refine ji rfl (.tmp 13) (.tmp 16) rfl w.heap.size (.slice oa l.length oc) l rfl Hown.out (ofI m) _ wr.heap.size rfl rfl (by omega) hz ?_);intro v1 w1 hgr;have Hgr:=iH hgr;clear hgr)
    go_roundg f
    case measure=>omega
    case rel=>
     obtain⟨g1,g2,_,_⟩:=Hgr.out
     exact⟨m / 256,l++ [ofI m],by go_num,by omega,Hq.out,by have:=Hl.out;simp;omega,by rw [List.append_assoc];exact he,g1,Hb.out.trans g2⟩
   ·have hm0:m=0:=by omega
    subst hm0
    rw [zT,List.append_nil]at he
    have he:=he.out
    obtain rfl:l=leN 8 n:=he
    have hlen:(leN 8 n).length<=8:=VT 8 n
    have Hor:=iH (j7i (leN 8 n).length hlen)
    have Hb0:=iH hb
    have Hown:=iH hown;have Hb:=iH hb;clear hown hb hl hm2 Hb0
    have hz:=Hb.out.size
    have HN:=iH (show(leN 8 n++ [ofI (128+((leN 8 n).length:Int))]).length=(leN 8 n).length+1 by simp)
    have hnz:0<(leN 8 n++ [ofI (128+((leN 8 n).length:Int))]).length:=by simp
    go_wp2_with(first
     |(at_builtin;(with_reducible refine ji rfl (.tmp 18) (.tmp 23) rfl w.heap.size (.slice oa (leN 8 n).length oc) (leN 8 n) rfl Hown.out (128 ||| ofI ((leN 8 n).length:Int)) _ wr.heap.size rfl rfl (by omega) hz ?_)
       intro v1 w1 hgr
       rw [Hor.out]at hgr
       obtain⟨g,cap,rfl,hg1,hg2,hcap⟩:=kZ hgr.1 hnz
       have Hgr:=iH hgr;clear hgr)
     |(go_at_call 194
       have R:=j5n g ((leN 8 n).length+1) cap w.heap.size (gb (leN 8 n++ [ofI (128+((leN 8 n).length:Int))])) w1 (by omega) (by omega) (by rw [<-X8 _ _ HN.out];have:=Hgr.out.1;unfold OwnB at this;rwa [HN.out]at this)
       refine R.mono ?_
       rintro e w2 ⟨rfl,hown2,hgr2⟩
       have Hown2:=iH hown2;have Hgr2:=iH hgr2;clear hown2 hgr2))
    go_ret
    refine⟨_,rfl,?_,(Hb.out.trans Hgr.out.2.1).trans (j8 Hgr2.out (Nat.le_trans hz Hgr.out.2.1.size) hg1)⟩
    rw [E.out,<-Vo _ _ HN.out]
    have h:=Hown2.out
    rw [Q1]at h
    exact(BsS.of_own h (by rw [jr];omega)).keep fun _ hs _=>⟨rfl,hs⟩
abbrev Beside(w:World)(v x:Value)(l:List UInt8):Prop:=BsS w (fun b=>b<w.heap.size/\v.ownBlock≠some b) x l
theorem Beside.grew{w w':World}{base:Nat}{v v' x:Value}{l m:List UInt8}(h:Beside w v x l)(hg:j3w w w' base v v' m):Beside w' v' x l:=
 h.keep fun b hs hl=>⟨hg.2.2.1.block b hl (fun e=>hs.2 e.symm),iZ hl hg.2.2.1.size,fun e=>(hg.2.2.2 b e).elim hs.2 fun h'=>by omega⟩
theorem Beside.below{w w':World}{v x:Value}{l:List UInt8}(h:Beside w v x l)(hb:Below w.heap.size w w'):Beside w' v x l:=
 h.keep fun b hs hl=>⟨hb.block b hl,iZ hl hb.size,hs.2⟩
theorem Beside.alloc{w:World}{v x:Value}{l:List UInt8}(h:Beside w v x l)(o:Obj):Beside (w.alloc o) v x l:=h.below (iB.alloc iL o)
theorem Beside.old{w:World}{v x:Value}{l:List UInt8}{B:Nat}{e n size:Nat}{xs:List Value}(h:BsS w (·<B) x l)(ho:w.ownsRow B e size v n xs):Beside w v x l:=
 h.keep fun b hs hl=>⟨rfl,hl,fun e=>by have:=(ho.lt b e).1;omega⟩
theorem Beside.new{w w1:World}{v x:Value}{l:List UInt8}{B:Nat}{e n size:Nat}{xs:List Value}(h:BsS w1 (New w w1) x l)(ho:w.ownsRow B e size v n xs):Beside w1 v x l:=
 h.keep fun b hs hl=>⟨rfl,hl,fun e=>by have:=(ho.lt b e).2;omega⟩
def WSt(w wi:World)(o:Value)(l:List UInt8)(cv:Value)(c:List UInt8)(X:Nat)(x:Obj):Prop:=OwnB wi w.heap.size o l/\Beside wi o cv c/\Below w.heap.size w wi/\wi.heap[X]?=some x/\o.ownBlock≠some X
theorem WSt.grew{w wi wj:World}{o o' cv:Value}{l l' c:List UInt8}{X:Nat}{x:Obj}(h:WSt w wi o l cv c X x)(g:j3w wi wj w.heap.size o o' l'):WSt w wj o' l' cv c X x:=by
 obtain⟨h1,h2,h3,h4,h5⟩:=h
 have hl:=(iG h4)
 exact⟨g.1,h2.grew g,h3.trans g.2.1,(g.2.2.1.block X hl (fun e=>h5 e.symm)).trans h4,fun e=>(g.2.2.2 X e).elim h5 fun h'=>by omega⟩
theorem WSt.call{w wi wj:World}{o cv:Value}{l c:List UInt8}{X:Nat}{x:Obj}(h:WSt w wi o l cv c X x)(g:Below wi.heap.size wi wj):WSt w wj o l cv c X x:=by
 obtain⟨h1,h2,h3,h4,h5⟩:=h
 have hl:=(iG h4)
 exact⟨kT h1 g,h2.below g,h3.trans (g.mono h3.size),(g.block X hl).trans h4,h5⟩
theorem WSt.tagc{w wi:World}{o cv:Value}{l c:List UInt8}{X:Nat}{t v k:Value}{ty:TypeId}(h:WSt w wi o l cv c X (.cells #[t,v,k] ty)):wi.cell? ⟨X,0,none⟩=some t:=by
 rw [cell_of_row _ _ _ _ _ _ h.2.2.2.1]<;>rfl
section
variable{w wi:World}{o cv:Value}{l c:List UInt8}{X:Nat}{x:Obj}(h:WSt w wi o l cv c X x)
include w wi o cv l c X x h
theorem WSt.own:OwnB wi w.heap.size o l:=h.1
theorem WSt.bes:Beside wi o cv c:=h.2.1
theorem WSt.size:w.heap.size<=wi.heap.size:=h.2.2.1.size
theorem WSt.form:∃A k,o=.slice A l.length k:=h.1.form
end
theorem Q2{w wr w1:World}{oa ca:Option Addr}{oc cc:Nat}{l c:List UInt8}{o:Obj}(ho:OwnB wr w.heap.size (.slice oa l.length oc) l)(hb:Below w.heap.size w wr)(hc:BsS w1 (New (wr.alloc o) w1) (.slice ca c.length cc) c)(hbw:Below (wr.alloc o).heap.size (wr.alloc o) w1):WSt w w1 (.slice oa l.length oc) l (.slice ca c.length cc) c wr.heap.size o:=
 ⟨kT (ho.alloc o) hbw,Beside.new hc (ho.alloc o),(hb.alloc hb.size o).trans (hbw.mono (Nat.le_trans hb.size (by simp))),(hbw.block _ (by simp)).trans (iN),fun e=>by have:=(ho.lt _ e).2;omega⟩
theorem Q3{w wr:World}{oa xa:Option Addr}{oc xc:Nat}{l v:List UInt8}(ho:OwnB wr w.heap.size (.slice oa l.length oc) l)(hb:Below w.heap.size w wr)(hx:BsS wr (·<w.heap.size) (.slice xa v.length xc) v)(o:Obj):WSt w (wr.alloc o) (.slice oa l.length oc) l (.slice xa v.length xc) v wr.heap.size o:=
 ⟨ho.alloc o,(Beside.old hx ho).alloc o,hb.alloc hb.size o,iN,fun e=>by have:=(ho.lt _ e).2;omega⟩
theorem V7{w wr:World}{r:Ns}{b off:Nat}(hbl:b<w.heap.size)(hb:Below w.heap.size w wr)(h:NsAt wr (·<w.heap.size) r b off):∀w6,Below w.heap.size w w6->NsAt w6 (·<w.heap.size) r b off:=
 fun _ h6=>NsAt.keep (fun i hi _=>⟨(h6.block i hi).trans (hb.block i hi).symm,hi⟩) r b off hbl (iZ hbl hb.size) h
theorem k7(l:List UInt8)(n:Nat)(h:l.length<=n):∃m,Hid (l=m)/\m.length<=n:=⟨l,rfl,h⟩
theorem qz(t:Int)(v:List UInt8)(k r:Ns)(c:List UInt8)(hc:c=if kr t then k.enc else v):(Ns.cons t v k r).enc=ki t++qL c.length++c++r.enc:=by subst hc;rfl
theorem Jf(n:Nat):(qL n).length<=9:=by
 unfold qL;split
 ·simp
 ·simp;exact VT 8 n
theorem j1n(n:Nat):∀(L:Ns) (v:Value) (w:World),L.all<=n->NsS w (·<w.heap.size) v L->L.enc.length<=1000000000000->
 Calls Tryz.prog 166 #[v] w fun e w'=>∃v',e=.returned v'/\BsS w' (New w w') v' L.enc/\Below w.heap.size w w':=by
 induction n with
 |zero=>
  intro L v w hn hv hb
  cases L with
  |cons t v k r=>simp only [Ns.all]at hn;omega
  |nil=>
   obtain⟨a,cap,rfl,hlc,hcap,hlen,hcells⟩:=hv
   clear hcells hb hn
   simp only [Ns.len]at*
   go_enter Tryz.func166,Tryz.ntmps166
   go_wp2_with fail
   refine wp_loop_rounds 1 ?_
   rw [rounds_succ]
   go_wp2
   go_ret
   exact⟨_,rfl,(BsS.of_own (OwnB.nil w w.heap.size) (Nat.zero_le _)),Below.refl _ _⟩
 |succ n ih=>
  intro L v w hn hv hB
  obtain⟨a,cap,rfl,hlc,hcap,hlen,hcells⟩:=hv
  have hcap':cap<=9223372036854775807:=hcap
  obtain⟨b,off,hb⟩:∃b off,Hid (0<L.len->a=some ⟨b,off,none⟩/\b<w.heap.size/\NsAt w (·<w.heap.size) L b off):=by
   rcases Nat.eq_zero_or_pos L.len with h0|h0
   ·exact⟨0,0,fun h=>by omega⟩
   ·obtain⟨b,off,h1,h2,h3,h4⟩:=hcells h0
    exact⟨b,off,fun _=>⟨h1,h2,h4⟩⟩
  clear hcells hcap
  have HB:=iH hB;clear hB
  go_enter Tryz.func166,Tryz.ntmps166
  go_wp2_with fail
  go_loopg [3,9] L.len (fun m o i wr=>∃(R:Ns) (j:Nat) (l:List UInt8),R.len=m/\j+R.len=L.len/\i=.int .i64 j/\Hid (l++R.enc=L.enc)/\R.all<=n+1/\
   NsAt wr (·<w.heap.size) R b (off+j*3)/\OwnB wr w.heap.size o l/\Below w.heap.size w wr)
  case atStart=>
   exact⟨L,0,[],rfl,by omega,rfl,rfl,hn,by rw [Nat.zero_mul,Nat.add_zero];exact NsAt.zero hb.out,OwnB.nil _ _,Below.refl _ _⟩
  case round=>
   obtain⟨R,j,l,rfl,hj,rfl,hl,hRn,hat,hown,hbel⟩:=hrel
   obtain⟨oa,oc,rfl⟩:=hown.form
   cases R with
   |nil=>
    simp only [Ns.len,Nat.add_zero]at hj
    subst hj
    have hl:=hl.out
    simp only [Ns.enc,List.append_nil]at hl
    subst hl
    have Hown:=iH hown;have Hbel:=iH hbel;clear hown hbel
    go_wp2_with fail
    go_ret
    exact⟨_,rfl,Hown.out.out (by have:=HB.out;omega) w iL,Hbel.out⟩
   |cons t v k r=>
    obtain⟨h1,h2,⟨x,h3,h4⟩,⟨ka,kc,h5,h6,h7,h8x,h9⟩,h10⟩:=hat
    simp only [Ns.len]at hj
    simp only [Ns.all]at hRn
    have hlt:(j:Int)<L.len:=by omega
    obtain⟨rfl,hbl,_⟩:=hb.out (by omega)
    have hbl':b<wr.heap.size:=iZ hbl hbel.size
    obtain⟨xa,xc,rfl⟩:=h4.form2
    have hz:=hbel.size
    have hkid:NsS (wr.alloc (.cells #[.int .i64 t,.slice xa v.length xc,.slice ka k.len kc] 66)) (·<(wr.alloc (.cells #[.int .i64 t,.slice xa v.length xc,.slice ka k.len kc] 66)).heap.size) (.slice ka k.len kc) k:=
     NsS.keep (w:=wr) (S:=(·<w.heap.size)) ⟨ka,kc,rfl,h6,h7,h8x,h9⟩ (fun b hs hl=>⟨Below.heap_alloc _ _ _ hl,by simp;omega⟩)
    have Hc:=iH (zP t h2)
    have Hkid:=iH hkid;have H4x:=iH h4;have Hown:=iH hown;have Hbel:=iH hbel
    have hkn:k.all<=n:=by omega
    have H10:Hid (∀w6,Below w.heap.size w w6->NsAt w6 (·<w.heap.size) r b (off+j*3+3)):=V7 hbl hbel h10
    clear hkid h4 h9 h10 hown hbel
    cases ec:kr t with
    |true=>
     rw [ec]at Hc
     by_cases hb255:255<t
     ·skip
      have E:=iH (qz t v k r k.enc (by rw [ec]<;>rfl))
      have hlen:l.length+(ki t).length+(qL k.enc.length).length+k.enc.length<=1000000000000:=by have h:=HB.out;rw [<-hl.out,E.out]at h;simp only [List.length_append]at h;omega
      have hg9:=Jf k.enc.length
      have htb:(ki t).length=2:=by unfold ki;rw [iT hb255]<;>rfl
      rw [htb]at hlen
      have T:=iH (show ki t= [ofI (t / 256),ofI t]by unfold ki;rw [iT hb255])
      have d255:decide (t>255)=true:=decide_eq_true hb255
      clear ec htb hb255
      go_wp2_with(first
       |(go_at_call 179;refine(Hc.out _).mono ?_;rintro e w' ⟨rfl,rfl⟩)
       |(go_at_call 166;refine(ih k _ _ hkn Hkid.out (by omega)).mono ?_;rintro e w1 ⟨cv,rfl,hcv,hbw⟩;obtain⟨ca,cc,rfl⟩:=hcv.form2;have H1:=iH (Q2 Hown.out Hbel.out hcv hbw);have z1:=H1.out.size;have q1:=H1.out.tagc;clear hcv hbw)
       |(at_builtin;(with_reducible refine ji rfl (.tmp 24) (.tmp 29) rfl w.heap.size (.slice oa l.length oc) l rfl H1.out.own (ofI (t / 256)) _ w1.heap.size rfl rfl (by omega) z1 ?_);intro v2 w2 hgr;obtain⟨l2,E2,k2⟩:=k7 (l++ [ofI (t / 256)]) (l.length+1) (by simp);rw [E2.out]at hgr;have H2:=iH (H1.out.grew hgr);obtain⟨a2,c2,rfl⟩:=H2.out.form;have z2:=H2.out.size;have q2:=H2.out.tagc;clear hgr)
       |(at_builtin;(with_reducible refine ji rfl (.tmp 31) (.tmp 35) rfl w.heap.size (.slice a2 l2.length c2) l2 rfl H2.out.own (ofI t) _ w2.heap.size rfl rfl (by omega) z2 ?_);intro v3 w3 hgr;obtain⟨l3,E3,k3⟩:=k7 (l2++ [ofI t]) (l2.length+1) (by simp);rw [E3.out]at hgr;have H3:=iH (H2.out.grew hgr);obtain⟨a3,c3,rfl⟩:=H3.out.form;have z3:=H3.out.size;have q3:=H3.out.tagc;clear hgr)
       |(go_at_call 181;refine(xY k.enc.length (by omega) _).mono ?_;rintro e w4 ⟨lv,rfl,hlv,hb4⟩;obtain⟨la,lc,rfl⟩:=hlv.form2;have H4:=iH (H3.out.call hb4);have Hlv:=iH hlv;have z4:=H4.out.size;have q4:=H4.out.tagc;clear hlv hb4)
       |(at_builtin;(with_reducible refine j5 rfl (.tmp 37) (.tmp 40) rfl w.heap.size (.slice a3 l3.length c3) l3 rfl H4.out.own la (qL k.enc.length).length lc (qL k.enc.length) _ rfl Hlv.out (by omega) z4 ?_);intro v5 w5 hgr;obtain⟨l5,E5,k5⟩:=k7 (l3++qL k.enc.length) (l3.length+(qL k.enc.length).length) (by simp);rw [E5.out]at hgr;have H5:=iH (H4.out.grew hgr);obtain⟨a5,c5,rfl⟩:=H5.out.form;have z5:=H5.out.size;have q5:=H5.out.tagc;clear hgr)
       |(at_builtin;(with_reducible refine j5 rfl (.tmp 42) (.tmp 43) rfl w.heap.size (.slice a5 l5.length c5) l5 rfl H5.out.own ca k.enc.length cc k.enc _ rfl H5.out.bes (by omega) z5 ?_);intro v6 w6 hgr;obtain⟨l6,E6,k6⟩:=k7 (l5++k.enc) (l5.length+k.enc.length) (by simp);rw [E6.out]at hgr;have H6:=iH (H5.out.grew hgr);clear hgr))
      go_roundg r.len
      case measure=>simp [Ns.len]
      case rel=>
       obtain⟨g1,g2,g3,_,_⟩:=H6.out
       refine⟨r,j+1,_,rfl,by omega,by go_num,?_,by omega,?_,g1,g3⟩
       ·have e:=hl.out
        rw [E.out,T.out]at e
        show _=_
        rw [<-e,<-E6.out,<-E5.out,<-E3.out,<-E2.out]
        simp only [List.append_assoc,List.cons_append,List.nil_append]
       ·rw [Nat.add_mul,<-Nat.add_assoc]
        exact H10.out w6 g3
     ·skip
      have E:=iH (qz t v k r k.enc (by rw [ec]<;>rfl))
      have hlen:l.length+(ki t).length+(qL k.enc.length).length+k.enc.length<=1000000000000:=by have h:=HB.out;rw [<-hl.out,E.out]at h;simp only [List.length_append]at h;omega
      have hg9:=Jf k.enc.length
      have htb:(ki t).length=1:=by unfold ki;rw [iF hb255]<;>rfl
      rw [htb]at hlen
      have T:=iH (show ki t= [ofI t]by unfold ki;rw [iF hb255])
      have d255:decide (t>255)=false:=decide_eq_false hb255
      clear ec htb hb255
      go_wp2_with(first
       |(go_at_call 179;refine(Hc.out _).mono ?_;rintro e w' ⟨rfl,rfl⟩)
       |(go_at_call 166;refine(ih k _ _ hkn Hkid.out (by omega)).mono ?_;rintro e w1 ⟨cv,rfl,hcv,hbw⟩;obtain⟨ca,cc,rfl⟩:=hcv.form2;have H1:=iH (Q2 Hown.out Hbel.out hcv hbw);have z1:=H1.out.size;have q1:=H1.out.tagc;clear hcv hbw)
       |(at_builtin;(with_reducible refine ji rfl (.tmp 31) (.tmp 35) rfl w.heap.size (.slice oa l.length oc) l rfl H1.out.own (ofI t) _ w1.heap.size rfl rfl (by omega) z1 ?_);intro v3 w3 hgr;obtain⟨l3,E3,k3⟩:=k7 (l++ [ofI t]) (l.length+1) (by simp);rw [E3.out]at hgr;have H3:=iH (H1.out.grew hgr);obtain⟨a3,c3,rfl⟩:=H3.out.form;have z3:=H3.out.size;have q3:=H3.out.tagc;clear hgr)
       |(go_at_call 181;refine(xY k.enc.length (by omega) _).mono ?_;rintro e w4 ⟨lv,rfl,hlv,hb4⟩;obtain⟨la,lc,rfl⟩:=hlv.form2;have H4:=iH (H3.out.call hb4);have Hlv:=iH hlv;have z4:=H4.out.size;have q4:=H4.out.tagc;clear hlv hb4)
       |(at_builtin;(with_reducible refine j5 rfl (.tmp 37) (.tmp 40) rfl w.heap.size (.slice a3 l3.length c3) l3 rfl H4.out.own la (qL k.enc.length).length lc (qL k.enc.length) _ rfl Hlv.out (by omega) z4 ?_);intro v5 w5 hgr;obtain⟨l5,E5,k5⟩:=k7 (l3++qL k.enc.length) (l3.length+(qL k.enc.length).length) (by simp);rw [E5.out]at hgr;have H5:=iH (H4.out.grew hgr);obtain⟨a5,c5,rfl⟩:=H5.out.form;have z5:=H5.out.size;have q5:=H5.out.tagc;clear hgr)
       |(at_builtin;(with_reducible refine j5 rfl (.tmp 42) (.tmp 43) rfl w.heap.size (.slice a5 l5.length c5) l5 rfl H5.out.own ca k.enc.length cc k.enc _ rfl H5.out.bes (by omega) z5 ?_);intro v6 w6 hgr;obtain⟨l6,E6,k6⟩:=k7 (l5++k.enc) (l5.length+k.enc.length) (by simp);rw [E6.out]at hgr;have H6:=iH (H5.out.grew hgr);clear hgr))
      go_roundg r.len
      case measure=>simp [Ns.len]
      case rel=>
       obtain⟨g1,g2,g3,_,_⟩:=H6.out
       refine⟨r,j+1,_,rfl,by omega,by go_num,?_,by omega,?_,g1,g3⟩
       ·have e:=hl.out
        rw [E.out,T.out]at e
        show _=_
        rw [<-e,<-E6.out,<-E5.out,<-E3.out]
        simp only [List.append_assoc,List.cons_append,List.nil_append]
       ·rw [Nat.add_mul,<-Nat.add_assoc]
        exact H10.out w6 g3
    |false=>
     rw [ec]at Hc
     by_cases hb255:255<t
     ·skip
      have E:=iH (qz t v k r v (by rw [ec]<;>rfl))
      have hlen:l.length+(ki t).length+(qL v.length).length+v.length<=1000000000000:=by have h:=HB.out;rw [<-hl.out,E.out]at h;simp only [List.length_append]at h;omega
      have hg9:=Jf v.length
      have htb:(ki t).length=2:=by unfold ki;rw [iT hb255]<;>rfl
      rw [htb]at hlen
      have T:=iH (show ki t= [ofI (t / 256),ofI t]by unfold ki;rw [iT hb255])
      have d255:decide (t>255)=true:=decide_eq_true hb255
      clear ec htb hb255
      have H1:=iH (Q3 Hown.out Hbel.out H4x.out (.cells #[.int .i64 t,.slice xa v.length xc,.slice ka k.len kc] 66))
      have z1:=H1.out.size;have q1:=H1.out.tagc
      go_wp2_with(first
       |(go_at_call 179;refine(Hc.out _).mono ?_;rintro e w' ⟨rfl,rfl⟩)
       |(at_builtin;(with_reducible refine ji rfl (.tmp 24) (.tmp 29) rfl w.heap.size (.slice oa l.length oc) l rfl H1.out.own (ofI (t / 256)) _ (wr.heap.size+1) rfl (by simp) (by omega) z1 ?_);intro v2 w2 hgr;obtain⟨l2,E2,k2⟩:=k7 (l++ [ofI (t / 256)]) (l.length+1) (by simp);rw [E2.out]at hgr;have H2:=iH (H1.out.grew hgr);obtain⟨a2,c2,rfl⟩:=H2.out.form;have z2:=H2.out.size;have q2:=H2.out.tagc;clear hgr)
       |(at_builtin;(with_reducible refine ji rfl (.tmp 31) (.tmp 35) rfl w.heap.size (.slice a2 l2.length c2) l2 rfl H2.out.own (ofI t) _ w2.heap.size rfl rfl (by omega) z2 ?_);intro v3 w3 hgr;obtain⟨l3,E3,k3⟩:=k7 (l2++ [ofI t]) (l2.length+1) (by simp);rw [E3.out]at hgr;have H3:=iH (H2.out.grew hgr);obtain⟨a3,c3,rfl⟩:=H3.out.form;have z3:=H3.out.size;have q3:=H3.out.tagc;clear hgr)
       |(go_at_call 181;refine(xY v.length (by omega) _).mono ?_;rintro e w4 ⟨lv,rfl,hlv,hb4⟩;obtain⟨la,lc,rfl⟩:=hlv.form2;have H4:=iH (H3.out.call hb4);have Hlv:=iH hlv;have z4:=H4.out.size;have q4:=H4.out.tagc;clear hlv hb4)
       |(at_builtin;(with_reducible refine j5 rfl (.tmp 37) (.tmp 40) rfl w.heap.size (.slice a3 l3.length c3) l3 rfl H4.out.own la (qL v.length).length lc (qL v.length) _ rfl Hlv.out (by omega) z4 ?_);intro v5 w5 hgr;obtain⟨l5,E5,k5⟩:=k7 (l3++qL v.length) (l3.length+(qL v.length).length) (by simp);rw [E5.out]at hgr;have H5:=iH (H4.out.grew hgr);obtain⟨a5,c5,rfl⟩:=H5.out.form;have z5:=H5.out.size;have q5:=H5.out.tagc;clear hgr)
       |(at_builtin;(with_reducible refine j5 rfl (.tmp 42) (.tmp 43) rfl w.heap.size (.slice a5 l5.length c5) l5 rfl H5.out.own xa v.length xc v _ rfl H5.out.bes (by omega) z5 ?_);intro v6 w6 hgr;obtain⟨l6,E6,k6⟩:=k7 (l5++v) (l5.length+v.length) (by simp);rw [E6.out]at hgr;have H6:=iH (H5.out.grew hgr);clear hgr))
      go_roundg r.len
      case measure=>simp [Ns.len]
      case rel=>
       obtain⟨g1,g2,g3,_,_⟩:=H6.out
       refine⟨r,j+1,_,rfl,by omega,by go_num,?_,by omega,?_,g1,g3⟩
       ·have e:=hl.out
        rw [E.out,T.out]at e
        show _=_
        rw [<-e,<-E6.out,<-E5.out,<-E3.out,<-E2.out]
        simp only [List.append_assoc,List.cons_append,List.nil_append]
       ·rw [Nat.add_mul,<-Nat.add_assoc]
        exact H10.out w6 g3
     ·skip
      have E:=iH (qz t v k r v (by rw [ec]<;>rfl))
      have hlen:l.length+(ki t).length+(qL v.length).length+v.length<=1000000000000:=by have h:=HB.out;rw [<-hl.out,E.out]at h;simp only [List.length_append]at h;omega
      have hg9:=Jf v.length
      have htb:(ki t).length=1:=by unfold ki;rw [iF hb255]<;>rfl
      rw [htb]at hlen
      have T:=iH (show ki t= [ofI t]by unfold ki;rw [iF hb255])
      have d255:decide (t>255)=false:=decide_eq_false hb255
      clear ec htb hb255
      have H1:=iH (Q3 Hown.out Hbel.out H4x.out (.cells #[.int .i64 t,.slice xa v.length xc,.slice ka k.len kc] 66))
      have z1:=H1.out.size;have q1:=H1.out.tagc
      go_wp2_with(first
       |(go_at_call 179;refine(Hc.out _).mono ?_;rintro e w' ⟨rfl,rfl⟩)
       |(at_builtin;(with_reducible refine ji rfl (.tmp 31) (.tmp 35) rfl w.heap.size (.slice oa l.length oc) l rfl H1.out.own (ofI t) _ (wr.heap.size+1) rfl (by simp) (by omega) z1 ?_);intro v3 w3 hgr;obtain⟨l3,E3,k3⟩:=k7 (l++ [ofI t]) (l.length+1) (by simp);rw [E3.out]at hgr;have H3:=iH (H1.out.grew hgr);obtain⟨a3,c3,rfl⟩:=H3.out.form;have z3:=H3.out.size;have q3:=H3.out.tagc;clear hgr)
       |(go_at_call 181;refine(xY v.length (by omega) _).mono ?_;rintro e w4 ⟨lv,rfl,hlv,hb4⟩;obtain⟨la,lc,rfl⟩:=hlv.form2;have H4:=iH (H3.out.call hb4);have Hlv:=iH hlv;have z4:=H4.out.size;have q4:=H4.out.tagc;clear hlv hb4)
       |(at_builtin;(with_reducible refine j5 rfl (.tmp 37) (.tmp 40) rfl w.heap.size (.slice a3 l3.length c3) l3 rfl H4.out.own la (qL v.length).length lc (qL v.length) _ rfl Hlv.out (by omega) z4 ?_);intro v5 w5 hgr;obtain⟨l5,E5,k5⟩:=k7 (l3++qL v.length) (l3.length+(qL v.length).length) (by simp);rw [E5.out]at hgr;have H5:=iH (H4.out.grew hgr);obtain⟨a5,c5,rfl⟩:=H5.out.form;have z5:=H5.out.size;have q5:=H5.out.tagc;clear hgr)
       |(at_builtin;(with_reducible refine j5 rfl (.tmp 42) (.tmp 43) rfl w.heap.size (.slice a5 l5.length c5) l5 rfl H5.out.own xa v.length xc v _ rfl H5.out.bes (by omega) z5 ?_);intro v6 w6 hgr;obtain⟨l6,E6,k6⟩:=k7 (l5++v) (l5.length+v.length) (by simp);rw [E6.out]at hgr;have H6:=iH (H5.out.grew hgr);clear hgr))
      go_roundg r.len
      case measure=>simp [Ns.len]
      case rel=>
       obtain⟨g1,g2,g3,_,_⟩:=H6.out
       refine⟨r,j+1,_,rfl,by omega,by go_num,?_,by omega,?_,g1,g3⟩
       ·have e:=hl.out
        rw [E.out,T.out]at e
        show _=_
        rw [<-e,<-E6.out,<-E5.out,<-E3.out]
        simp only [List.append_assoc,List.cons_append,List.nil_append]
       ·rw [Nat.add_mul,<-Nat.add_assoc]
        exact H10.out w6 g3
def j4w{α:Type}:Except Int α->Int
 |.error e=>e
 |.ok _=>0
def bytesOf:Except Int (List UInt8)->List UInt8
 |.error _=>[]
 |.ok l=>l
def BytesOut(r:Except Int (List UInt8))(w:World)(e:Ending)(w':World):Prop:=
 ∃v',e=.returned (.tuple #[v',.int .i64 (j4w r)])/\BsS w' (New w w') v' (bytesOf r)/\Below w.heap.size w w'
theorem BytesOut.no{w w':World}{r:Except Int (List UInt8)}{e:Int}(hr:r=.error e)(hb:Below w.heap.size w w'):BytesOut r w (.returned (.tuple #[.slice none 0 0,.int .i64 e])) w':=by
 subst hr
 exact⟨_,rfl,⟨none,0,rfl,by simp [bytesOf],by simp,by simp [bytesOf],by simp [bytesOf]⟩,hb⟩
theorem BytesOut.yes{w w':World}{r:Except Int (List UInt8)}{l:List UInt8}{v:Value}(hr:r=.ok l)(hv:BsS w' (New w w') v l)(hb:Below w.heap.size w w'):BytesOut r w (.returned (.tuple #[v,.int .i64 0])) w':=by
 subst hr
 exact⟨_,rfl,hv,hb⟩
theorem Kz(L:Ns)(v:Value)(w:World)(hv:NsS w (·<w.heap.size) v L)(ha:L.all<=100000000000)(hl:L.enc.length<=1000000000000):
 Calls Tryz.prog 134 #[v] w (BytesOut (yi L) w):=by
 have hv2:NsS (w.alloc (.cells #[.int .i64 0] 3)) (fun b=>b<(w.alloc (.cells #[.int .i64 0] 3)).heap.size/\b≠w.heap.size) v L:=
  hv.keep fun b hs hl=>⟨Below.heap_alloc _ _ _ hl,by simp;omega,by omega⟩
 have hc:=Vu L.all L v 1 0 w.heap.size (w.alloc (.cells #[.int .i64 0] 3)) iL hv2 (by omega) (by omega) (by omega) (iN)
 by_cases h1:L.chk 1=0
 ·rw [h1]at hc
  have Hc:=iH hc;have Hv:=iH hv
  obtain⟨a,c,rfl,hx⟩:=hv
  have Hw:∀w',(w.alloc (.cells #[.int .i64 0] 3)).grownBy w' (some w.heap.size)->Hid (Calls Tryz.prog 166 #[.slice a L.len c] w' fun e w''=>∃v',e=.returned v'/\BsS w'' (New w' w'') v' L.enc/\Below w'.heap.size w' w''):=fun w' hg=>
   j1n L.all L (.slice a L.len c) w' iL (Hv.out.keep fun b hs hl=>⟨(hg.block b (by simp;omega) (by intro e;injection e;omega)).trans (Below.heap_alloc _ _ _ hl),by have:=hg.size;simp at this;omega⟩) hl
  have hB:∀w',(w.alloc (.cells #[.int .i64 0] 3)).grownBy w' (some w.heap.size)->Below w.heap.size w w':=fun w' hg=>
   (iA).trans (j8 hg (by simp) iL)
  have HB:=iH hB
  clear hc hv2 hx hB
  by_cases h2:256<L.all
  ·have E:Hid (yi L=.error 2):=by unfold yi;rw [iF (by simpa using h1),iT h2]<;>rfl
   clear h1 Hw
   go_enter Tryz.func134,Tryz.ntmps134
   go_wp2_with(go_at_call 165;refine Hc.out.mono ?_;rintro e w1 ⟨rfl,⟨⟨cc,hb,hcc⟩,hg⟩⟩;have hcd:=hcc rfl;clear hcc;obtain rfl:cc=(L.all:Int):=(by omega);clear hcd;have Hg:=iH hg;have c1:=hb.cell;clear hg hb)
   go_ret2
   exact BytesOut.no E.out (HB.out _ Hg.out)
  ·by_cases h3:4096<L.enc.length
   ·have E:Hid (yi L=.error 2):=by unfold yi;rw [iF (by simpa using h1),iF h2,iT h3]<;>rfl
    clear h1
    go_enter Tryz.func134,Tryz.ntmps134
    go_wp2_with(first|(go_at_call 165;refine Hc.out.mono ?_;rintro e w1 ⟨rfl,⟨⟨cc,hb,hcc⟩,hg⟩⟩;have hcd:=hcc rfl;clear hcc;obtain rfl:cc=(L.all:Int):=(by omega);clear hcd;have Hg:=iH hg;have c1:=hb.cell;clear hg hb)|(go_at_call 166;refine(Hw _ Hg.out).out.mono ?_;rintro e w2 ⟨v2,rfl,hv2,hb2⟩;obtain⟨a2,c2,rfl⟩:=hv2.form2;have Hv2:=iH hv2;have Hb2:=iH hb2;clear hv2 hb2))
    go_ret2
    exact BytesOut.no E.out ((HB.out _ Hg.out).trans (Hb2.out.mono (HB.out _ Hg.out).size))
   ·have E:Hid (yi L=.ok L.enc):=by unfold yi;rw [iF (by simpa using h1),iF h2,iF h3]<;>rfl
    clear h1
    go_enter Tryz.func134,Tryz.ntmps134
    go_wp2_with(first|(go_at_call 165;refine Hc.out.mono ?_;rintro e w1 ⟨rfl,⟨⟨cc,hb,hcc⟩,hg⟩⟩;have hcd:=hcc rfl;clear hcc;obtain rfl:cc=(L.all:Int):=(by omega);clear hcd;have Hg:=iH hg;have c1:=hb.cell;clear hg hb)|(go_at_call 166;refine(Hw _ Hg.out).out.mono ?_;rintro e w2 ⟨v2,rfl,hv2,hb2⟩;obtain⟨a2,c2,rfl⟩:=hv2.form2;have Hv2:=iH hv2;have Hb2:=iH hb2;clear hv2 hb2))
    go_ret2
    exact BytesOut.yes E.out (Hv2.out.keep fun b hs _=>⟨rfl,Nat.le_trans (HB.out _ Hg.out).size hs.1,hs.2⟩) ((HB.out _ Hg.out).trans (Hb2.out.mono (HB.out _ Hg.out).size))
 ·have Hc:=iH hc
  have E:Hid (yi L=.error (L.chk 1)):=by unfold yi;rw [iT h1]<;>rfl
  have n0:((L.chk 1) != 0)=true:=by simp [h1]
  obtain⟨a,c,rfl,hx⟩:=hv
  clear hx hv2 hc h1
  go_enter Tryz.func134,Tryz.ntmps134
  go_wp2_with(go_at_call 165;refine Hc.out.mono ?_;rintro e w1 ⟨rfl,⟨_,hg⟩⟩;have Hg:=iH hg;clear hg)
  go_ret2
  exact BytesOut.no E.out ((iA).trans (j8 Hg.out (by simp) iL))
theorem j0c(n b:Nat)(hn:n<1099511627776)(hb:b<256):bits .or .i64 ((n:Int)*256) (b:Int)=(n:Int)*256+b:=by
 have h1:(BitVec.ofInt 64 ((n*256:Nat):Int)).toNat=n*256:=by
  rw [BitVec.ofInt_natCast,BitVec.toNat_ofNat];exact Nat.mod_eq_of_lt (by omega)
 have h2:(BitVec.ofInt 64 (b:Int)).toNat=b:=by
  rw [BitVec.ofInt_natCast,BitVec.toNat_ofNat];exact Nat.mod_eq_of_lt (by omega)
 have h3:n*256 ||| b=n*256+b:=by
  have:=Nat.two_pow_add_eq_or_of_lt (i:=8) (b:=b) (by omega) n
  rw [Nat.mul_comm]at this
  exact this.symm
 have e:(n:Int)*256=((n*256:Nat):Int):=by omega
 rw [e]
 show IntKind.i64.wrap ((BitVec.ofInt 64 ((n*256:Nat):Int) ||| BitVec.ofInt 64 (b:Int)).toNat:Int)=_
 rw [BitVec.toNat_or,h1,h2,h3,IntKind.wrap_i64]
 omega
def rst(B:List UInt8)(a e:Nat):List UInt8:=(B.take e).drop a
theorem ju{B:List UInt8}{a e:Nat}(h:e<=B.length):(rst B a e).length=e - a:=by simp [rst];omega
theorem yL{B:List UInt8}{a e j:Nat}(h:e<=B.length)(hj:a+j<e):gb (rst B a e) j=gb B (a+j):=by
 have h1:a+j<B.length:=by omega
 unfold gb rst
 rw [List.getD_eq_getElem?_getD,List.getD_eq_getElem?_getD,List.getElem?_drop,List.getElem?_take,iT hj]
theorem jH(B:List UInt8)(a e k:Nat):(rst B a e).drop k=rst B (a+k) e:=by simp [rst,List.drop_drop]
theorem y8(B:List UInt8)(a e n:Nat)(h:a+n<=e):(rst B a e).take n=rst B a (a+n):=by
 unfold rst
 rw [List.take_drop,List.take_take,Nat.min_eq_left h]
abbrev Rd(w:World)(p:Nat)(bv:Value)(at_:Nat)(st:Bool)(cnt:Nat):Prop:=w.heap[p]?=some (.cells #[bv,.int .i64 at_,.bool st,.int .i64 cnt] 173 (0,0))
section
variable{w:World}{p:Nat}{bv:Value}{a:Nat}{st:Bool}{c:Nat}(h:Rd w p bv a st c)
include w p bv a st c h
theorem Rd.lt:p<w.heap.size:=(iG h)
theorem Rd.c0:w.cell? ⟨p,0,none⟩=some bv:=by rw [cell_of_row _ _ _ _ _ _ h]<;>rfl
theorem Rd.c1:w.cell? ⟨p,1,none⟩=some (.int .i64 a):=by rw [cell_of_row _ _ _ _ _ _ h]<;>rfl
theorem Rd.c2:w.cell? ⟨p,2,none⟩=some (.bool st):=by rw [cell_of_row _ _ _ _ _ _ h]<;>rfl
theorem Rd.c3:w.cell? ⟨p,3,none⟩=some (.int .i64 c):=by rw [cell_of_row _ _ _ _ _ _ h]<;>rfl
theorem Rd.fr(o:Nat):w.frozen? ⟨p,o,none⟩=false:=by simp [World.frozen?,h]
end
theorem xN{w:World}{g i:Nat}{cs:Array Value}{t:TypeId}(h:w.heap[g]?=some (.cells cs t (0,0)))(v:Value):(w.setCell ⟨g,i,none⟩ v).heap[g]?=some (.cells (cs.setIfInBounds i v) t (0,0)):=by
 have hlt:g<w.heap.size:=(iG h)
 have h':w.heap[g]=.cells cs t (0,0):=by simpa [Array.getElem?_eq_getElem hlt]using h
 show(w.heap.modify g _)[g]?=_
 rw [Array.getElem?_eq_getElem (by simpa using hlt),Array.getElem_modify_self,h']
 rfl
section
variable{w:World}{p:Nat}{bv:Value}{a:Nat}{st:Bool}{c:Nat}(h:Rd w p bv a st c)(n:Nat)
include w p bv a st c h n
theorem Rd.at_(z:Int)(hz:z=n):Rd (w.setCell ⟨p,1,none⟩ (.int .i64 z)) p bv n st c:=by
 subst hz;exact xN h _
theorem Rd.cnt(z:Int)(hz:z=n):Rd (w.setCell ⟨p,3,none⟩ (.int .i64 z)) p bv a st n:=by
 subst hz;exact xN h _
theorem Rd.drewN:Rd (w.drewN n) p bv a st c:=h
end
def j7l:Except Int (Int×Nat)->Int
 |.error _=>0
 |.ok x=>x.1
def NumOut(r:Except Int (Int×Nat))(w:World)(p:Nat)(bv:Value)(a:Nat)(st:Bool)(c:Nat)(e:Ending)(w':World):Prop:=
 e=.returned (.tuple #[.int .i64 (j7l r),.int .i64 (j4w r)])/\(∃a',Rd w' p bv a' st c/\∀x,r=.ok x->a'=a+x.2)/\w.grownBy w' (some p)
section
variable{w w':World}{p:Nat}{bv:Value}{a:Nat}{st:Bool}{c:Nat}{r:Except Int (Int×Nat)}
include w w' p bv a st c r
theorem NumOut.no{er:Int}(hr:r=.error er)(a':Nat)(h:Rd w' p bv a' st c)(hg:w.grownBy w' (some p)):
 NumOut r w p bv a st c (.returned (.tuple #[.int .i64 0,.int .i64 er])) w':=by
 subst hr;exact⟨rfl,⟨a',h,fun x hx=>by cases hx⟩,hg⟩
theorem NumOut.yes{n:Int}{k:Nat}(hr:r=.ok (n,k))(h:Rd w' p bv (a+k) st c)(hg:w.grownBy w' (some p)):
 NumOut r w p bv a st c (.returned (.tuple #[.int .i64 n,.int .i64 0])) w':=by
 subst hr;exact⟨rfl,⟨_,h,fun x hx=>by injection hx with hx;subst hx;rfl⟩,hg⟩
end
theorem BsS.cellAt{w:World}{S:Nat->Prop}{A:Option Addr}{n k:Nat}{l:List UInt8}(h:BsS w S (.slice A n k) l){b off:Nat}(hA:A=some ⟨b,off,none⟩){j:Nat}(hj:j<l.length):w.cell? ⟨b,off+j,none⟩=some (U8 (gb l j)):=by
 obtain⟨a,c,hv,_,_,_,h4⟩:=h
 injection hv with e _ _
 obtain⟨b',off',e',_,hc⟩:=h4 (by omega)
 rw [<-e,hA]at e'
 injection e' with e'
 injection e' with e1 e2 _
 rw [e1,e2]
 exact hc j hj
theorem QW(B:List UInt8)(bb bo bc p a e cnt:Nat)(st:Bool)(w:World)(hB:BsS w (·≠p) (.slice (some ⟨bb,bo,none⟩) B.length bc) B)(he:e<=B.length)(hr:Rd w p (.slice (some ⟨bb,bo,none⟩) B.length bc) a st cnt)(ha:a<=e):
 Calls Tryz.prog 187 #[.pointer (some ⟨p,0,none⟩),.int .i64 e] w (NumOut (qj (rst B a e)) w p (.slice (some ⟨bb,bo,none⟩) B.length bc) a st cnt):=by
 have c0:=hr.c0;have c1:=hr.c1
 have hfz:=hr.fr 1
 have hlen:=hB.len
 have HR:=iH hr;have HB:=iH hB
 clear hr hB
 by_cases h0:a=e
 ·subst h0
  have E:Hid (qj (rst B a a)=.error 6):=by unfold qj;rw [iT (by rw [ju he];omega)]<;>rfl
  go_enter Tryz.func187,Tryz.ntmps187
  go_wp2_with fail
  go_ret2
  exact NumOut.no E.out _ HR.out (World.grownBy.refl w _)
 ·have hlt:a<e:=by omega
  have d0:decide ((a:Int)>=e)=false:=by simp;omega
  have hl:a<B.length:=by omega
  have q1:=HB.out.cellAt rfl hl
  have b1:(0:Int)<=a:=by omega
  have b2:(a:Int)<B.length:=by omega
  have g0:gb (rst B a e) 0=gb B a:=yL he (by omega)
  have L:=iH (fun w=>Qt (bv (gb B a)) (jP _) (by have:=jT (gb B a);omega) w)
  have V:=iH (fun t ht w=>Ka t ht w)
  by_cases h1:bv (gb B a) % 32=31
  ·have h1':(bv (gb B a) % 32==31)=true:=by simpa using h1
   rw [h1']at L
   by_cases h2:a+1=e
   ·have E:Hid (qj (rst B a e)=.error 6):=by unfold qj;rw [iF (by rw [ju he];omega),g0,iT h1,iT (by rw [ju he];omega)]<;>rfl
    have h2:e=a+1:=h2.symm
    subst h2
    clear h0 h1 h1' g0
    go_enter Tryz.func187,Tryz.ntmps187
    go_wp2_with fail
    go_quiet (fail)
    go_wp2_with(go_at_call 193;refine(L.out _).mono ?_;rintro e w' ⟨rfl,rfl⟩)
    go_ret2
    exact NumOut.no E.out _ ((HR.out.drewN nq).at_ (a+1) _ (by omega)) (j7 (jw (World.grownBy.refl w _) nq) (.inl rfl) _)
   ·have hlt2:a+1<e:=by omega
    have hl2:a+1<B.length:=by omega
    have q2:=HB.out.cellAt rfl hl2
    have hbp:bb≠p:=by
     obtain⟨_,_,hv,_,_,_,h4⟩:=HB.out
     obtain⟨_,_,e1,e2,_⟩:=h4 (by omega)
     injection hv with e3 _ _
     rw [<-e3]at e1
     injection e1 with e1
     injection e1 with e1 _ _
     rw [e1];exact e2
    have g1:gb (rst B a e) 1=gb B (a+1):=yL he (by omega)
    obtain⟨x,hx⟩:∃x:Nat,x=(gb B a).toNat:=⟨_,rfl⟩
    obtain⟨y,hy⟩:∃y:Nat,y=(gb B (a+1)).toNat:=⟨_,rfl⟩
    have ex:bv (gb B a)=x:=by rw [hx]<;>rfl
    have ey:bv (gb B (a+1))=y:=by rw [hy]<;>rfl
    have hxl:x<256:=by rw [hx];exact UInt8.toNat_lt _
    have hyl:y<256:=by rw [hy];exact UInt8.toNat_lt _
    have o1:=j0c x y (by omega) hyl
    have E:Hid (qj (rst B a e)=if xu ((x:Int)*256+y)=true then .ok ((x:Int)*256+y,2)else .error 4):=by
     unfold qj;rw [iF (by rw [ju he];omega),g0,g1,iT h1,iF (by rw [ju he];omega),ex,ey,Int.mul_comm]<;>rfl
    change w.cell? _=some (.int .u8 (bv (gb B a)))at q1
    change w.cell? _=some (.int .u8 (bv (gb B (a+1))))at q2
    rw [ex]at L q1
    rw [ey]at q2
    clear h0 h1 h1' g0 hx hy h2 ex ey g1
    go_enter Tryz.func187,Tryz.ntmps187
    go_wp2_with fail
    go_quiet (fail)
    go_wp2_with(go_at_call 193;refine(L.out _).mono ?_;rintro e w' ⟨rfl,rfl⟩)
    have HR1:=iH ((HR.out.drewN nq).at_ (a+1) ((a:Int)+1) (by omega))
    have HG1:=iH (j7 (jw (World.grownBy.refl w (some p)) nq) (.inl rfl) (p:=⟨p,1,none⟩) (.int .i64 ((a:Int)+1)))
    have q3:((w.drewN nq).setCell ⟨p,1,none⟩ (.int .i64 ((a:Int)+1))).cell? ⟨bb,bo+(a+1),none⟩=some (.int .u8 y):=(World.cell?_of_block (w:=w) (by rw [iO hbp]<;>rfl)).trans q2
    obtain⟨w1,hw1⟩:∃w1,w1=(w.drewN nq).setCell ⟨p,1,none⟩ (.int .i64 ((a:Int)+1)):=⟨_,rfl⟩
    rw [<-hw1]at HR1 HG1 q3 |-
    clear q2 c0 c1 hfz q1 hw1 L
    have c0:=HR1.out.c0
    have c1:=HR1.out.c1
    have hfz:=HR1.out.fr 1
    have b3:(0:Int)<=(a:Int)+1:=by omega
    have b4:(a:Int)+1<B.length:=by omega
    have V:=iH (fun w=>V.out ((x:Int)*256+y) ⟨by omega,by omega⟩ w)
    cases et:xu ((x:Int)*256+y)with
    |false=>
     have E:Hid (qj (rst B a e)=.error 4):=by rw [E.out,iF (by rw [et];decide)]<;>rfl
     rw [et]at V
     clear et
     go_quiet (fail)
     go_wp2_with(go_at_call 180;refine(V.out _).mono ?_;rintro e w' ⟨rfl,rfl⟩)
     go_ret2
     exact NumOut.no E.out _ ((HR1.out.drewN nq).at_ (a+1+1) _ (by omega)) (j7 (jw HG1.out nq) (.inl rfl) _)
    |true=>
     have E:Hid (qj (rst B a e)=.ok ((x:Int)*256+y,2)):=by rw [E.out,iT et]<;>rfl
     rw [et]at V
     clear et
     go_quiet (fail)
     go_wp2_with(go_at_call 180;refine(V.out _).mono ?_;rintro e w' ⟨rfl,rfl⟩)
     go_ret2
     exact NumOut.yes E.out ((HR1.out.drewN nq).at_ (a+2) _ (by omega)) (j7 (jw HG1.out nq) (.inl rfl) _)
  ·have h1':(bv (gb B a) % 32==31)=false:=by simpa using h1
   rw [h1']at L
   have V:=iH (fun w=>V.out (bv (gb B a)) ⟨by have:=jP (gb B a);omega,by have:=jT (gb B a);omega⟩ w)
   cases et:xu (bv (gb B a))with
   |false=>
    have E:Hid (qj (rst B a e)=.error 4):=by unfold qj;rw [iF (by rw [ju he];omega),g0,iF h1,iF (by rw [et];decide)]<;>rfl
    rw [et]at V
    clear h0 h1 h1' g0 et
    go_enter Tryz.func187,Tryz.ntmps187
    go_wp2_with fail
    go_quiet (fail)
    go_wp2_with(first|(go_at_call 193;refine(L.out _).mono ?_;rintro e w' ⟨rfl,rfl⟩)|(go_at_call 180;refine(V.out _).mono ?_;rintro e w' ⟨rfl,rfl⟩))
    go_ret2
    exact NumOut.no E.out _ ((HR.out.drewN nq).at_ (a+1) _ (by omega)) (j7 (jw (World.grownBy.refl w _) nq) (.inl rfl) _)
   |true=>
    have E:Hid (qj (rst B a e)=.ok (bv (gb B a),1)):=by unfold qj;rw [iF (by rw [ju he];omega),g0,iF h1,iT et]<;>rfl
    rw [et]at V
    clear h0 h1 h1' g0 et
    go_enter Tryz.func187,Tryz.ntmps187
    go_wp2_with fail
    go_quiet (fail)
    go_wp2_with(first|(go_at_call 193;refine(L.out _).mono ?_;rintro e w' ⟨rfl,rfl⟩)|(go_at_call 180;refine(V.out _).mono ?_;rintro e w' ⟨rfl,rfl⟩))
    go_ret2
    exact NumOut.yes E.out ((HR.out.drewN nq).at_ (a+1) _ (by omega)) (j7 (jw (World.grownBy.refl w _) nq) (.inl rfl) _)
section
variable(l:List UInt8)
include l
theorem Xg(k:Nat):0<=beV l k:=by
 induction k with
 |zero=>exact Int.le_refl _
 |succ k ih=>rw [beV];have:=jP (gb l (k+1));omega
theorem Xf(k:Nat):beV l k<256 ^ k:=by
 induction k with
 |zero=>show(0:Int)<256 ^ 0;decide
 |succ k ih=>rw [beV,Int.pow_succ];have:=jT (gb l (k+1));omega
theorem YX(f:UInt8)(x:Nat)(o st:Bool)(h:¬l.length=0)(h0:gb l 0=f)(hx:x=f.toNat):jz l o st=if(x:Int)<128 then .ok (x,1)else if 132<(x:Int)then .error 5 else if(x:Int)=128 then(if o=true then .ok (-1,1)else .error 5)
 else if l.length<1+(x - 128)then .error 6 else if st=true/\(beV l (x - 128)<128\/(1<x - 128/\gb l 1=0))then .error 5 else .ok (beV l (x - 128),1+(x - 128)):=by
 subst hx h0
 unfold jz
 rw [iF h]
 rfl
theorem j1b(z:Nat)(h:beV l 2=z):(z:Int) / 256=0↔gb l 1=0:=by
 have b1:=jT (gb l 1);have b2:=jT (gb l 2);have b3:=jT (gb l 3);have b4:=jT (gb l 4)
 have n1:=jP (gb l 1);have n2:=jP (gb l 2);have n3:=jP (gb l 3);have n4:=jP (gb l 4)
 have e:(z:Int) / 256=bv (gb l 1):=by
  rw [<-h];simp only [beV];simp only [Nat.reduceAdd];omega
 rw [e]
 exact⟨fun h=>xy h,fun h=>by rw [h]<;>rfl⟩
theorem j1c(z:Nat)(h:beV l 3=z):(z:Int) / 65536=0↔gb l 1=0:=by
 have b1:=jT (gb l 1);have b2:=jT (gb l 2);have b3:=jT (gb l 3);have b4:=jT (gb l 4)
 have n1:=jP (gb l 1);have n2:=jP (gb l 2);have n3:=jP (gb l 3);have n4:=jP (gb l 4)
 have e:(z:Int) / 65536=bv (gb l 1):=by
  rw [<-h];simp only [beV];simp only [Nat.reduceAdd];omega
 rw [e]
 exact⟨fun h=>xy h,fun h=>by rw [h]<;>rfl⟩
theorem j1d(z:Nat)(h:beV l 4=z):(z:Int) / 16777216=0↔gb l 1=0:=by
 have b1:=jT (gb l 1);have b2:=jT (gb l 2);have b3:=jT (gb l 3);have b4:=jT (gb l 4)
 have n1:=jP (gb l 1);have n2:=jP (gb l 2);have n3:=jP (gb l 3);have n4:=jP (gb l 4)
 have e:(z:Int) / 16777216=bv (gb l 1):=by
  rw [<-h];simp only [beV];simp only [Nat.reduceAdd];omega
 rw [e]
 exact⟨fun h=>xy h,fun h=>by rw [h]<;>rfl⟩
end
theorem BsS.ne{w:World}{S:Nat->Prop}{bb bo n c:Nat}{l:List UInt8}(h:BsS w S (.slice (some ⟨bb,bo,none⟩) n c) l)(hl:0<l.length):S bb:=by
 obtain⟨_,_,hv,_,_,_,h4⟩:=h
 obtain⟨_,_,e1,e2,_⟩:=h4 hl
 injection hv with e3 _ _
 rw [<-e3]at e1
 injection e1 with e1
 injection e1 with e1 _ _
 rw [e1];exact e2
theorem QM(B:List UInt8)(bb bo bc p a e cnt:Nat)(st opn:Bool)(w:World)(hB:BsS w (·≠p) (.slice (some ⟨bb,bo,none⟩) B.length bc) B)(he:e<=B.length)(hr:Rd w p (.slice (some ⟨bb,bo,none⟩) B.length bc) a st cnt)(ha:a<=e):
 Calls Tryz.prog 188 #[.pointer (some ⟨p,0,none⟩),.int .i64 e,.bool opn] w (NumOut (jz (rst B a e) opn st) w p (.slice (some ⟨bb,bo,none⟩) B.length bc) a st cnt):=by
 have c0:=hr.c0;have c1:=hr.c1
 have hfz:=hr.fr 1
 have hlen:=hB.len
 have HR:=iH hr;have HB:=iH hB
 clear hr hB
 by_cases h0:a=e
 ·subst h0
  have E:Hid (jz (rst B a a) opn st=.error 6):=by unfold jz;rw [iT (by rw [ju he];omega)]<;>rfl
  go_enter Tryz.func188,Tryz.ntmps188
  go_wp2_with fail
  go_ret2
  exact NumOut.no E.out _ HR.out (World.grownBy.refl w _)
 ·have hlt:a<e:=by omega
  have hl:a<B.length:=by omega
  have q1:=HB.out.cellAt rfl hl
  have hbp:bb≠p:=HB.out.ne (by omega)
  have b1:(0:Int)<=a:=by omega
  have b2:(a:Int)<B.length:=by omega
  have g0:gb (rst B a e) 0=gb B a:=yL he (by omega)
  have hne:¬(rst B a e).length=0:=by rw [ju he];omega
  obtain⟨x,hx⟩:∃x:Nat,x=(gb B a).toNat:=⟨_,rfl⟩
  have ex:bv (gb B a)=x:=by rw [hx]<;>rfl
  have hxl:x<256:=by rw [hx];exact UInt8.toNat_lt _
  change w.cell? _=some (.int .u8 (bv (gb B a)))at q1
  rw [ex]at q1
  have E0:=iH (YX (rst B a e) (gb B a) x opn st hne g0 hx)
  have HX:=iH hx
  clear g0 hne h0 hx ex
  by_cases h1:x<128
  ·have E:Hid (jz (rst B a e) opn st=.ok ((x:Int),1)):=by rw [E0.out,iT (by omega)]<;>rfl
   go_enter Tryz.func188,Tryz.ntmps188
   go_wp2_with fail
   go_quiet (fail)
   go_wp2_with fail
   go_ret2
   exact NumOut.yes E.out ((HR.out.drewN nq).at_ (a+1) _ (by omega)) (j7 (jw (World.grownBy.refl w _) nq) (.inl rfl) _)
  ·by_cases h2:132<x
   ·have E:Hid (jz (rst B a e) opn st=.error 5):=by rw [E0.out,iF (by omega),iT (by omega)]<;>rfl
    go_enter Tryz.func188,Tryz.ntmps188
    go_wp2_with fail
    go_quiet (fail)
    go_wp2_with fail
    go_ret2
    exact NumOut.no E.out _ ((HR.out.drewN nq).at_ (a+1) _ (by omega)) (j7 (jw (World.grownBy.refl w _) nq) (.inl rfl) _)
   ·by_cases h3:x=128
    ·subst h3
     cases opn with
     |true=>
      have E:Hid (jz (rst B a e) true st=.ok (-1,1)):=by rw [E0.out,iF (by omega),iF (by omega),iT (by omega),iT rfl]<;>rfl
      clear HX
      go_enter Tryz.func188,Tryz.ntmps188
      go_wp2_with fail
      go_quiet (fail)
      go_wp2_with fail
      go_ret2
      exact NumOut.yes E.out ((HR.out.drewN nq).at_ (a+1) _ (by omega)) (j7 (jw (World.grownBy.refl w _) nq) (.inl rfl) _)
     |false=>
      have E:Hid (jz (rst B a e) false st=.error 5):=by rw [E0.out,iF (by omega),iF (by omega),iT (by omega),iF (by decide)]<;>rfl
      clear HX
      go_enter Tryz.func188,Tryz.ntmps188
      go_wp2_with fail
      go_quiet (fail)
      go_wp2_with fail
      go_ret2
      exact NumOut.no E.out _ ((HR.out.drewN nq).at_ (a+1) _ (by omega)) (j7 (jw (World.grownBy.refl w _) nq) (.inl rfl) _)
    ·obtain⟨s,rfl,hs1,hs4⟩:∃s:Nat,x=128+s/\1<=s/\s<=4:=⟨x - 128,by omega,by omega,by omega⟩
     have hand:bits .and .i64 (128+(s:Int)) 15=s:=by
      have:=bits_mask .i64 63 (by decide) (fun n a b=>IntWalk.i64_in n ⟨by omega,by omega⟩) 4 (by decide) (128+(s:Int)) (by omega) (by omega)
      rw [show(15:Int)=2 ^ 4 - 1 by decide,this];omega
     have e15:(15:Int)=2 ^ 4 - 1:=by decide
     have E1:=E0.out
     rw [iF (by omega),iF (by omega),iF (by omega),show 128+s - 128=s by omega]at E1
     clear E0 HX h1 h2 h3 e15
     by_cases h4:e<a+1+s
     ·have E:Hid (jz (rst B a e) opn st=.error 6):=by rw [E1,iT (by rw [ju he];omega)]<;>rfl
      clear E1
      go_enter Tryz.func188,Tryz.ntmps188
      go_wp2_with fail
      go_quiet (fail)
      go_wp2_with fail
      go_ret2
      exact NumOut.no E.out _ ((HR.out.drewN nq).at_ (a+1) _ (by omega)) (j7 (jw (World.grownBy.refl w _) nq) (.inl rfl) _)
     ·rw [iF (by rw [ju he];omega)]at E1
      have E1:=iH E1
      have hg1:gb (rst B a e) 1=gb B (a+1):=yL he (by omega)
      obtain⟨l,hL⟩:∃l,l=rst B a e:=⟨_,rfl⟩
      have hgl:Hid (∀j,a+j<e->gb l j=gb B (a+j)):=fun j hj=>by rw [hL];exact yL he hj
      rw [<-hL]at E1 |-
      clear hL
      have h5:a+1+s<=e:=by omega
      clear h4
      go_enter Tryz.func188,Tryz.ntmps188
      go_wp2_with fail
      go_quiet (fail)
      go_wp2_with fail
      go_loopg [10,62] s (fun m n i wr=>∃k:Nat,k+m=s/\i=.int .i64 k/\n=.int .i64 (beV l k)/\Rd wr p (.slice (some ⟨bb,bo,none⟩) B.length bc) (a+1+k) st cnt/\w.grownBy wr (some p))
      case atStart=>exact⟨0,by omega,rfl,rfl,(HR.out.drewN nq).at_ (a+1) _ (by omega),j7 (jw (World.grownBy.refl w _) nq) (.inl rfl) _⟩
      case round=>
       obtain⟨k,hk,rfl,rfl,hr,hg⟩:=hrel
       by_cases hlt:k<s
       ·obtain⟨q,hq⟩:∃q,q=a+1+k:=⟨_,rfl⟩
        have hql:q<B.length:=by omega
        have hy0:=hgl.out (k+1) (by omega)
        rw [show a+(k+1)=q by omega]at hy0
        rw [<-hq]at hr
        have q2:=(World.cell?_of_block (hg.block bb (block_lt_of_cell (HB.out.cellAt rfl hql)) (by intro e;injection e;exact hbp (by assumption)))).trans (HB.out.cellAt rfl hql)
        obtain⟨x,hx⟩:=Int.eq_ofNat_of_zero_le (Xg l k)
        obtain⟨y,hy⟩:∃y:Nat,y=(gb B q).toNat:=⟨_,rfl⟩
        have ey:bv (gb B q)=y:=by rw [hy]<;>rfl
        have hyl:y<256:=by rw [hy];exact UInt8.toNat_lt _
        have hxl:x<16777216:=by
         have h:=Xf l k
         have:(256:Int) ^ k<=256 ^ 3:=by
          obtain h|h|h|h:k=0\/k=1\/k=2\/k=3:=by omega
          all_goals subst h;decide
         omega
        have o1:=j0c x y (by omega) hyl
        have E2:Hid (beV l (k+1)=(x:Int)*256+y):=by rw [beV,hy0,ey,hx,Int.mul_comm]<;>rfl
        change wr.cell? _=some (.int .u8 (bv (gb B q)))at q2
        rw [ey]at q2
        rw [hx]
        have c0:=hr.c0;have c1:=hr.c1;have hfz:=hr.fr 1
        have HR2:=iH hr;have HG:=iH hg
        have b3:(0:Int)<=q:=by omega
        have b4:(q:Int)<B.length:=by omega
        have hq1:q+1=a+1+(k+1):=by omega
        have HQ:=iH hq1
        clear hr hg hy0 hy ey hx hq hq1 q1
        go_wp2_with fail
        go_quiet (fail)
        go_wp2_with fail
        go_roundg (s - (k+1))
        case measure=>omega
        case rel=>exact⟨k+1,by omega,by go_num,by rw [E2.out],(HR2.out.drewN nq).at_ (a+1+(k+1)) _ (by have:=HQ.out;omega),j7 (jw HG.out nq) (.inl rfl) _⟩
       ·obtain rfl:k=s:=by omega
        obtain⟨z,hz⟩:=Int.eq_ofNat_of_zero_le (Xg l k)
        have hzl:=Xf l k
        rw [hz]at E1 hzl |-
        have hr2:Rd wr p (.slice (some ⟨bb,bo,none⟩) B.length bc) (a+(1+k)) st cnt:=by rw [<-Nat.add_assoc];exact hr
        have c0:=hr.c0;have c1:=hr.c1;have c2:=hr.c2
        have HR2:=iH hr2;have HG:=iH hg
        have HZ:=iH hz;have HZL:=iH hzl
        clear hr hg hr2 hz hzl q1
        cases st with
        |false=>
         have E:Hid (jz l opn false=.ok ((z:Int),1+k)):=by rw [E1.out,iF (by simp)]<;>rfl
         go_wp2_with fail
         go_ret2
         exact NumOut.yes E.out HR2.out HG.out
        |true=>
         by_cases h6:z<128
         ·have E:Hid (jz l opn true=.error 5):=by rw [E1.out,iT ⟨rfl,.inl (by omega)⟩]<;>rfl
          go_wp2_with fail
          go_ret2
          exact NumOut.no E.out _ HR2.out HG.out
         ·have d6:decide ((z:Int)<128)=false:=by simp;omega
          obtain rfl|rfl|rfl|rfl:k=1\/k=2\/k=3\/k=4:=by omega
          ·have E:Hid (jz l opn true=.ok ((z:Int),1+1)):=by rw [E1.out,iF (by omega)]<;>rfl
           have z0:((z:Int)==0)=false:=by simp;omega
           go_wp2_with fail
           go_ret2
           exact NumOut.yes E.out HR2.out HG.out
          ·have tp:=j1b l z HZ.out
           by_cases h7:(z:Int) / 256=0
           ·have z0:((z:Int) / 256==0)=true:=by simp [h7]
            have E:Hid (jz l opn true=.error 5):=by rw [E1.out,iT ⟨rfl,.inr ⟨by omega,tp.1 h7⟩⟩]<;>rfl
            clear tp h7
            go_wp2_with fail
            go_ret2
            exact NumOut.no E.out _ HR2.out HG.out
           ·have z0:((z:Int) / 256==0)=false:=by simp [h7]
            have E:Hid (jz l opn true=.ok ((z:Int),1+2)):=by rw [E1.out,iF (fun h=>h.2.elim (by omega) fun h=>h7 (tp.2 h.2))]<;>rfl
            clear tp h7
            go_wp2_with fail
            go_ret2
            exact NumOut.yes E.out HR2.out HG.out
          ·have tp:=j1c l z HZ.out
           by_cases h7:(z:Int) / 65536=0
           ·have z0:((z:Int) / 65536==0)=true:=by simp [h7]
            have E:Hid (jz l opn true=.error 5):=by rw [E1.out,iT ⟨rfl,.inr ⟨by omega,tp.1 h7⟩⟩]<;>rfl
            clear tp h7
            go_wp2_with fail
            go_ret2
            exact NumOut.no E.out _ HR2.out HG.out
           ·have z0:((z:Int) / 65536==0)=false:=by simp [h7]
            have E:Hid (jz l opn true=.ok ((z:Int),1+3)):=by rw [E1.out,iF (fun h=>h.2.elim (by omega) fun h=>h7 (tp.2 h.2))]<;>rfl
            clear tp h7
            go_wp2_with fail
            go_ret2
            exact NumOut.yes E.out HR2.out HG.out
          ·have tp:=j1d l z HZ.out
           by_cases h7:(z:Int) / 16777216=0
           ·have z0:((z:Int) / 16777216==0)=true:=by simp [h7]
            have E:Hid (jz l opn true=.error 5):=by rw [E1.out,iT ⟨rfl,.inr ⟨by omega,tp.1 h7⟩⟩]<;>rfl
            clear tp h7
            go_wp2_with fail
            go_ret2
            exact NumOut.no E.out _ HR2.out HG.out
           ·have z0:((z:Int) / 16777216==0)=false:=by simp [h7]
            have E:Hid (jz l opn true=.ok ((z:Int),1+4)):=by rw [E1.out,iF (fun h=>h.2.elim (by omega) fun h=>h7 (tp.2 h.2))]<;>rfl
            clear tp h7
            go_wp2_with fail
            go_ret2
            exact NumOut.yes E.out HR2.out HG.out
def Jo(r:Except Int j4i)(w:World)(p:Nat)(bv:Value)(a:Nat)(st:Bool)(e:Ending)(w':World):Prop:=
 match r with
 |.error er=>er≠0/\(∃t:Int,e=.returned (.tuple #[.agg #[.int .i64 t,.slice none 0 0,.slice none 0 0],.int .i64 er]))/\(∃a' c',Rd w' p bv a' st c')/\w.grownBy w' (some p)
 |.ok o=>∃vv kv,e=.returned (.tuple #[.agg #[.int .i64 o.tag,vv,kv],.int .i64 0])/\BsS w' (New w w') vv o.val/\NsS w' (New w w') kv o.kids/\zI o.tag/\Rd w' p bv (a+o.used) st o.count/\w.grownBy w' (some p)
def ListOut(r:Except Int Lst)(w:World)(p:Nat)(bv:Value)(a:Nat)(st:Bool)(e:Ending)(w':World):Prop:=
 match r with
 |.error er=>er≠0/\e=.returned (.tuple #[.slice none 0 0,.int .i64 er])/\(∃a' c',Rd w' p bv a' st c')/\w.grownBy w' (some p)
 |.ok o=>∃v,e=.returned (.tuple #[v,.int .i64 0])/\NsS w' (New w w') v o.list/\Rd w' p bv (a+o.used) st o.count/\w.grownBy w' (some p)
def OSt(w wi:World)(p:Nat)(bv:Value)(a:Nat)(st:Bool)(c:Nat):Prop:=
 Rd wi p bv a st c/\w.grownBy wi (some p)/\wi.heap[w.heap.size]?=some (.cells #[.int .i64 0,.slice none 0 0,.slice none 0 0] 66 (0,0))/\p<w.heap.size
theorem OSt.start{w:World}{p:Nat}{bv:Value}{a:Nat}{st:Bool}{c:Nat}(h:Rd w p bv a st c):OSt w (w.alloc (.cells #[.int .i64 0,.slice none 0 0,.slice none 0 0] 66)) p bv a st c:=
 ⟨(Below.heap_alloc w _ p h.lt).trans h,jQ (World.grownBy.refl w _) _,iN,h.lt⟩
theorem OSt.step{w wi wj:World}{p:Nat}{bv:Value}{a a':Nat}{st:Bool}{c c':Nat}(h:OSt w wi p bv a st c)(hr:Rd wj p bv a' st c')(hg:wi.grownBy wj (some p)):OSt w wj p bv a' st c':=
 ⟨hr,ky h.2.1 hg,(hg.block _ (iG h.2.2.1) (by intro e;injection e with e;have:=h.2.2.2;omega)).trans h.2.2.1,h.2.2.2⟩
section
variable{w wi:World}{p:Nat}{bv:Value}{a:Nat}{st:Bool}{c:Nat}(h:OSt w wi p bv a st c)
include w wi p bv a st c h
theorem OSt.zc:wi.cell? ⟨w.heap.size,0,none⟩=some (.int .i64 0)/\wi.cell? ⟨w.heap.size,1,none⟩=some (.slice none 0 0)/\wi.cell? ⟨w.heap.size,2,none⟩=some (.slice none 0 0):=by
 refine⟨?_,?_,?_⟩<;>(rw [cell_of_row _ _ _ _ _ _ h.2.2.1]<;>rfl)
theorem OSt.zf(o:Nat):wi.frozen? ⟨w.heap.size,o,none⟩=false:=by simp [World.frozen?,h.2.2.1]
end
theorem OSt.bytes{w wi:World}{p:Nat}{bv x:Value}{a:Nat}{st:Bool}{c:Nat}{l:List UInt8}(h:OSt w wi p bv a st c)(hB:BsS w (·≠p) x l):BsS wi (·≠p) x l:=
 hB.keep fun b hs hl=>⟨h.2.1.block b hl (by intro e;injection e with e;exact hs (by omega)),hs⟩
theorem NumOut.err{er:Int}{w:World}{p:Nat}{bv:Value}{a:Nat}{st:Bool}{c:Nat}{e:Ending}{w':World}(h:NumOut (.error er) w p bv a st c e w'):e=.returned (.tuple #[.int .i64 0,.int .i64 er])/\(∃a',Rd w' p bv a' st c)/\w.grownBy w' (some p):=
 ⟨h.1,⟨_,h.2.1.choose_spec.1⟩,h.2.2⟩
theorem NumOut.got{n:Int}{k:Nat}{w:World}{p:Nat}{bv:Value}{a:Nat}{st:Bool}{c:Nat}{e:Ending}{w':World}(h:NumOut (.ok (n,k)) w p bv a st c e w'):e=.returned (.tuple #[.int .i64 n,.int .i64 0])/\Rd w' p bv (a+k) st c/\w.grownBy w' (some p):=by
 obtain⟨h1,⟨a',h2,h3⟩,h4⟩:=h
 have:=h3 _ rfl
 subst this
 exact⟨h1,h2,h4⟩
section
variable{l:List UInt8}
include l
theorem yd{er:Int}(h:qj l=.error er):er≠0:=by
 unfold qj at h
 split at h
 ·injection h with h;omega
 ·split at h
  ·split at h
   ·injection h with h;omega
   ·split at h
    ·cases h
    ·injection h with h;omega
  ·split at h
   ·cases h
   ·injection h with h;omega
theorem zG{t:Int}{k:Nat}(h:qj l=.ok (t,k)):xu t=true/\1<=k/\k<=l.length:=by
 unfold qj at h
 split at h
 ·cases h
 ·split at h
  ·split at h
   ·cases h
   ·split at h
    ·injection h with h;injection h with h1 h2;subst h1 h2;exact⟨‹_›,by omega,by omega⟩
    ·cases h
  ·split at h
   ·injection h with h;injection h with h1 h2;subst h1 h2;exact⟨‹_›,by omega,by omega⟩
   ·cases h
theorem qh{o st:Bool}{er:Int}(h:jz l o st=.error er):er≠0:=by
 unfold jz at h
 split at h
 ·injection h with h;omega
 ·split at h
  ·cases h
  ·split at h
   ·injection h with h;omega
   ·split at h
    ·split at h
     ·cases h
     ·injection h with h;omega
    ·split at h
     ·injection h with h;omega
     ·split at h
      ·injection h with h;omega
      ·cases h
theorem xl{o st:Bool}{n:Int}{j:Nat}(h:jz l o st=.ok (n,j)):1<=j/\j<=l.length/\n<=4294967296/\(0<=n\/(n= -1/\o=true)):=by
 unfold jz at h
 split at h
 ·cases h
 ·split at h
  ·injection h with h;injection h with h1 h2;subst h1 h2
   have:=jP (gb l 0);have:=jT (gb l 0)
   exact⟨by omega,by omega,by omega,.inl (by omega)⟩
  ·split at h
   ·cases h
   ·split at h
    ·split at h
     ·injection h with h;injection h with h1 h2;subst h1 h2;exact⟨by omega,by omega,by omega,.inr ⟨rfl,‹_›⟩⟩
     ·cases h
    ·split at h
     ·cases h
     ·split at h
      ·cases h
      ·injection h with h;injection h with h1 h2;subst h1 h2
       have h5:(gb l 0).toNat - 128<=4:=by
        have h6:¬132<bv (gb l 0):=by assumption
        unfold bv at h6;omega
       have h7:=Xf l ((gb l 0).toNat - 128)
       have h8:(256:Int) ^ ((gb l 0).toNat - 128)<=256 ^ 4:=by
        obtain h|h|h|h|h:(gb l 0).toNat - 128=0\/(gb l 0).toNat - 128=1\/(gb l 0).toNat - 128=2\/(gb l 0).toNat - 128=3\/(gb l 0).toNat - 128=4:=by omega
        all_goals rw [h];decide
       exact⟨by omega,by omega,by omega,.inl (Xg _ _)⟩
end
def j69(L:List UInt8->Nat->Nat->Bool->Except Int Lst):Prop:=∀l d c o,c<=256->
 (∀r,L l d c o=.ok r->r.used<=l.length/\r.count<=256/\(o=false->r.used=l.length))/\(∀er,L l d c o=.error er->er≠0)
theorem xZ{st:Bool}{L:List UInt8->Nat->Nat->Bool->Except Int Lst}(hL:j69 L){l:List UInt8}{d c:Nat}:
 (∀o,yX st L l d c=.ok o->2<=o.used/\o.used<=l.length/\o.count<=256/\xu o.tag=true)/\(∀er,yX st L l d c=.error er->er≠0):=by
 unfold yX
 cases ht:qj l with
 |error e=>exact⟨fun o h=>by simp at h,fun er h=>by simp at h;subst h;exact yd ht⟩
 |ok x=>
  obtain⟨t,k⟩:=x
  obtain⟨tv,k1,k2⟩:=zG ht
  simp only
  cases hs:jz (l.drop k) (kr t&& !st) st with
  |error e=>exact⟨fun o h=>by simp at h,fun er h=>by simp at h;subst h;exact qh hs⟩
  |ok y=>
   obtain⟨n,j⟩:=y
   obtain⟨j1,j2,n1,n2⟩:=xl hs
   simp only
   rw [List.length_drop]at j2
   by_cases h1:8<d
   ·simp only [iT h1]
    exact⟨fun o h=>by simp at h,fun er h=>by simp at h;omega⟩
   ·simp only [iF h1]
    by_cases h2:256<c+1
    ·simp only [iT h2]
     exact⟨fun o h=>by simp at h,fun er h=>by simp at h;omega⟩
    ·simp only [iF h2]
     by_cases h3:((l.drop (k+j)).length:Int)<n
     ·simp only [iT h3]
      exact⟨fun o h=>by simp at h,fun er h=>by simp at h;omega⟩
     ·simp only [iF h3]
      rw [List.length_drop]at h3
      by_cases h4:n<0
      ·simp only [iT h4]
       obtain⟨g1,g2⟩:=hL (l.drop (k+j)) (d+1) (c+1) true (by omega)
       cases hr:L (l.drop (k+j)) (d+1) (c+1) true with
       |error e=>exact⟨fun o h=>by simp at h,fun er h=>by simp at h;subst h;exact g2 _ hr⟩
       |ok r=>
        obtain⟨u1,u2,_⟩:=g1 r hr
        rw [List.length_drop]at u1
        exact⟨fun o h=>by simp at h;subst h;exact⟨by simp only;omega,by simp only;omega,u2,tv⟩,fun er h=>by simp at h⟩
      ·simp only [iF h4]
       by_cases h5:kr t=true
       ·simp only [iT h5]
        obtain⟨g1,g2⟩:=hL ((l.drop (k+j)).take n.toNat) (d+1) (c+1) false (by omega)
        cases hr:L ((l.drop (k+j)).take n.toNat) (d+1) (c+1) false with
        |error e=>exact⟨fun o h=>by simp at h,fun er h=>by simp at h;subst h;exact g2 _ hr⟩
        |ok r=>
         obtain⟨u1,u2,_⟩:=g1 r hr
         exact⟨fun o h=>by simp at h;subst h;exact⟨by simp only;omega,by simp only;omega,u2,tv⟩,fun er h=>by simp at h⟩
       ·simp only [iF h5]
        exact⟨fun o h=>by simp at h;subst h;exact⟨by simp only;omega,by simp only;omega,by simp only;omega,tv⟩,fun er h=>by simp at h⟩
theorem Jc{l:List UInt8}{o:Bool}{u:Nat}(h:kh l o=some (.ok u)):u<=l.length/\(o=false->u=l.length):=by
 unfold kh at h
 cases o with
 |true=>
  simp only [iT]at h
  split at h
  ·cases h
  ·split at h
   ·injection h with h;injection h with h;subst h
    rename_i h1 h2
    refine⟨?_,fun h=>by cases h⟩
    rcases Nat.lt_or_ge 1 l.length with h3|h3
    ·omega
    ·exact absurd (by rcases Nat.eq_zero_or_pos l.length with h4|h4;exact .inl h4;exact .inr ⟨h2.1,by omega⟩) h1
   ·cases h
 |false=>
  simp at h
  exact⟨by omega,fun _=>by have:=h.1;rw [this]at h |-;simp;omega⟩
theorem XF{l:List UInt8}{o:Bool}{er:Int}(h:kh l o=some (.error er)):er≠0:=by
 unfold kh at h
 split at h
 ·split at h
  ·injection h with h;injection h with h;omega
  ·split at h<;>cases h
 ·split at h<;>cases h
theorem jS(st:Bool)(n:Nat):j69 (jf st n):=by
 induction n with
 |zero=>
  intro l d c o hc
  rw [jf]
  cases hh:kh l o with
  |none=>exact⟨fun r h=>by simp at h,fun er h=>by simp at h;omega⟩
  |some x=>
   cases x with
   |error e=>exact⟨fun r h=>by simp at h,fun er h=>by simp at h;subst h;exact XF hh⟩
   |ok u=>exact⟨fun r h=>by simp at h;subst h;exact⟨(Jc hh).1,hc,(Jc hh).2⟩,fun er h=>by simp at h⟩
 |succ n ih=>
  intro l d c o hc
  rw [jf]
  cases hh:kh l o with
  |some x=>
   cases x with
   |error e=>exact⟨fun r h=>by simp at h,fun er h=>by simp at h;subst h;exact XF hh⟩
   |ok u=>exact⟨fun r h=>by simp at h;subst h;exact⟨(Jc hh).1,hc,(Jc hh).2⟩,fun er h=>by simp at h⟩
  |none=>
   simp only
   obtain⟨s1,s2⟩:=xZ (st:=st) ih (l:=l) (d:=d) (c:=c)
   cases ho:yX st (jf st n) l d c with
   |error e=>exact⟨fun r h=>by simp at h,fun er h=>by simp at h;subst h;exact s2 _ ho⟩
   |ok x=>
    obtain⟨x1,x2,x3,_⟩:=s1 x ho
    simp only
    obtain⟨g1,g2⟩:=ih (l.drop x.used) d x.count o x3
    cases hr:jf st n (l.drop x.used) d x.count o with
    |error e=>exact⟨fun r h=>by simp at h,fun er h=>by simp at h;subst h;exact g2 _ hr⟩
    |ok r=>
     obtain⟨u1,u2,u3⟩:=g1 r hr
     rw [List.length_drop]at u1 u3
     exact⟨fun q h=>by simp at h;subst h;exact⟨by simp only;omega,u2,fun e=>by have:=u3 e;simp only;omega⟩,fun er h=>by simp at h⟩
section
variable {st:Bool} {n:Nat} {l:List UInt8} {d c:Nat} {t:Int} {k:Nat} (ht:qj l=.ok (t,k))
include ht
theorem XK{er:Int}(hs:jz (l.drop k) (kr t&& !st) st=.error er):kP st n l d c=.error er:=by unfold kP yX;rw [ht];simp only [hs]
variable {m:Int} {j:Nat} (hs:jz (l.drop k) (kr t&& !st) st=.ok (m,j))
include hs
theorem XL(h:8<d):kP st n l d c=.error 7:=by unfold kP yX;rw [ht];simp only [hs];rw [iT h]
theorem XM(h:¬8<d)(h2:256<c+1):kP st n l d c=.error 2:=by unfold kP yX;rw [ht];simp only [hs];rw [iF h,iT h2]
theorem XN(h:¬8<d)(h2:¬256<c+1)(h3:((l.drop (k+j)).length:Int)<m):kP st n l d c=.error 6:=by unfold kP yX;rw [ht];simp only [hs];rw [iF h,iF h2,iT h3]
variable (h:¬8<d) (h2:¬256<c+1) (h3:¬((l.drop (k+j)).length:Int)<m)
include h h2 h3
theorem j04{er:Int}(h4:m<0)(hr:jf st n (l.drop (k+j)) (d+1) (c+1) true=.error er):kP st n l d c=.error er:=by unfold kP yX;rw [ht];simp only [hs];rw [iF h,iF h2,iF h3,iT h4,hr]
theorem j2x{r:Lst}(h4:m<0)(hr:jf st n (l.drop (k+j)) (d+1) (c+1) true=.ok r):kP st n l d c=.ok ⟨t,[],r.list,k+j+r.used,r.count⟩:=by unfold kP yX;rw [ht];simp only [hs];rw [iF h,iF h2,iF h3,iT h4,hr]
theorem YH{er:Int}(h4:¬m<0)(h5:kr t=true)(hr:jf st n ((l.drop (k+j)).take m.toNat) (d+1) (c+1) false=.error er):kP st n l d c=.error er:=by unfold kP yX;rw [ht];simp only [hs];rw [iF h,iF h2,iF h3,iF h4,iT h5,hr]
theorem UD{r:Lst}(h4:¬m<0)(h5:kr t=true)(hr:jf st n ((l.drop (k+j)).take m.toNat) (d+1) (c+1) false=.ok r):kP st n l d c=.ok ⟨t,[],r.list,k+j+m.toNat,r.count⟩:=by unfold kP yX;rw [ht];simp only [hs];rw [iF h,iF h2,iF h3,iF h4,iT h5,hr]
theorem j05(h4:¬m<0)(h5:¬kr t=true):kP st n l d c=.ok ⟨t,(l.drop (k+j)).take m.toNat,.nil,k+j+m.toNat,c+1⟩:=by unfold kP yX;rw [ht];simp only [hs];rw [iF h,iF h2,iF h3,iF h4,iF h5]
end
def yU(f:Nat)(n:Nat)(opn:Bool):Prop:=∀(B:List UInt8) (bb bo bc p a e d c:Nat) (st:Bool) (w:World),
 BsS w (·≠p) (.slice (some ⟨bb,bo,none⟩) B.length bc) B->e<=B.length->B.length<=4096->Rd w p (.slice (some ⟨bb,bo,none⟩) B.length bc) a st c->a<=e->e - a<=n->d<=9->c<=256->
 Calls Tryz.prog f #[.pointer (some ⟨p,0,none⟩),.int .i64 e,.int .i64 d] w (ListOut (jf st n (rst B a e) d c opn) w p (.slice (some ⟨bb,bo,none⟩) B.length bc) a st)
def j7b(n:Nat):Prop:=∀(B:List UInt8) (bb bo bc p a e d c:Nat) (st:Bool) (w:World),
 BsS w (·≠p) (.slice (some ⟨bb,bo,none⟩) B.length bc) B->e<=B.length->B.length<=4096->Rd w p (.slice (some ⟨bb,bo,none⟩) B.length bc) a st c->a<=e->e - a<=n+1->d<=9->c<=256->
 Calls Tryz.prog 176 #[.pointer (some ⟨p,0,none⟩),.int .i64 e,.int .i64 d] w (Jo (kP st n (rst B a e) d c) w p (.slice (some ⟨bb,bo,none⟩) B.length bc) a st)
theorem K7{t:Int}(h:xu t=true):zI t:=by have:=yD h;exact⟨by omega,by omega⟩
abbrev j25(w wi:World)(t:Int)(vv kv:Value):World:=((wi.setCell ⟨w.heap.size,0,none⟩ (.int .i64 t)).setCell ⟨w.heap.size,1,none⟩ vv).setCell ⟨w.heap.size,2,none⟩ kv
section
variable{w wi:World}{p:Nat}{bv:Value}{a:Nat}{st:Bool}{c:Nat}(h:OSt w wi p bv a st c)
include w wi p bv a st c h
theorem OSt.cnt:OSt w (wi.setCell ⟨p,3,none⟩ (.int .i64 ((c:Int)+1))) p bv a st (c+1):=
 h.step (h.1.cnt (c+1) _ (by omega)) (j7 (World.grownBy.refl wi _) (.inl rfl) _)
theorem OSt.put(n:Nat)(z:Int)(hz:z=n):OSt w (wi.setCell ⟨p,1,none⟩ (.int .i64 z)) p bv n st c:=
 h.step (h.1.at_ n z hz) (j7 (World.grownBy.refl wi _) (.inl rfl) _)
theorem OSt.draws(n:Nat):OSt w (wi.drewN n) p bv a st c:=⟨h.1,jw h.2.1 n,h.2.2.1,h.2.2.2⟩
theorem OSt.alloc(o:Obj):OSt w (wi.alloc o) p bv a st c:=
 h.step ((Below.heap_alloc wi o p h.1.lt).trans h.1) (jQ (World.grownBy.refl wi _) o)
theorem OSt.other{X:Nat}(hX:w.heap.size<X)(i:Nat)(v:Value):OSt w (wi.setCell ⟨X,i,none⟩ v) p bv a st c:=by
 have hp:=h.2.2.2
 exact⟨(iO (show p≠X by omega)).trans h.1,j7 h.2.1 (.inr (Nat.le_of_lt hX)) _,(iO (show w.heap.size≠X by omega)).trans h.2.2.1,hp⟩
theorem OSt.lt:w.heap.size<wi.heap.size:=(iG h.2.2.1)
theorem OSt.finish(t:Int)(vv kv:Value):Rd (j25 w wi t vv kv) p bv a st c/\w.grownBy (j25 w wi t vv kv) (some p):=by
 have hp:=h.2.2.2
 have hne:p≠w.heap.size:=by omega
 refine⟨?_,j7 (j7 (j7 h.2.1 (.inr iL) _) (.inr iL) _) (.inr iL) _⟩
 exact((iO hne).trans ((iO hne).trans (iO hne))).trans h.1
theorem OSt.finc(t:Int)(vv kv:Value):
 (j25 w wi t vv kv).cell? ⟨w.heap.size,0,none⟩=some (.int .i64 t)/\(j25 w wi t vv kv).cell? ⟨w.heap.size,1,none⟩=some vv/\(j25 w wi t vv kv).cell? ⟨w.heap.size,2,none⟩=some kv:=by
 have h1:=xN (i:=2) (xN (i:=1) (xN (i:=0) h.2.2.1 (.int .i64 t)) vv) kv
 refine⟨?_,?_,?_⟩<;>(rw [cell_of_row _ _ _ _ _ _ h1]<;>rfl)
end
theorem OSt.no{w wi:World}{p:Nat}{bv:Value}{a a0:Nat}{st:Bool}{c:Nat}(h:OSt w wi p bv a st c)(t:Int){r:Except Int j4i}{er:Int}(hr:r=.error er)(he:er≠0):
 Jo r w p bv a0 st (.returned (.tuple #[.agg #[.int .i64 t,.slice none 0 0,.slice none 0 0],.int .i64 er])) (j25 w wi t (.slice none 0 0) (.slice none 0 0)):=by
 subst hr
 exact⟨he,⟨t,rfl⟩,⟨a,c,(h.finish t _ _).1⟩,(h.finish t _ _).2⟩
theorem Xw{w wi:World}(t:Int)(vv kv:Value){b:Nat}(hb:b≠w.heap.size):(j25 w wi t vv kv).heap[b]?=wi.heap[b]? :=
 (iO hb).trans ((iO hb).trans (iO hb))
theorem OSt.yes{w wi:World}{p:Nat}{bv:Value}{a a0:Nat}{st:Bool}{c:Nat}(h:OSt w wi p bv a st c){r:Except Int j4i}{o:j4i}{vv kv:Value}(hr:r=.ok o)(hv:BsS wi (fun b=>w.heap.size<b/\b<wi.heap.size) vv o.val)(hk:NsS wi (fun b=>w.heap.size<b/\b<wi.heap.size) kv o.kids)(hi:zI o.tag)(ha:a=a0+o.used)(hc:c=o.count):
 Jo r w p bv a0 st (.returned (.tuple #[.agg #[.int .i64 o.tag,vv,kv],.int .i64 0])) (j25 w wi o.tag vv kv):=by
 subst hr ha hc
 have hs:(j25 w wi o.tag vv kv).heap.size=wi.heap.size:=by simp [World.setCell]
 exact⟨vv,kv,rfl,hv.keep fun b hb _=>⟨Xw _ _ _ (by omega),by omega,by omega⟩,hk.keep fun b hb _=>⟨Xw _ _ _ (by omega),by omega,by omega⟩,hi,(h.finish _ _ _).1,(h.finish _ _ _).2⟩
theorem NsS.nil0(w:World)(S:Nat->Prop):NsS w S (.slice none 0 0) .nil:=⟨none,0,rfl,Nat.le_refl _,by simp [maxLen],by simp [Ns.len],fun h=>by simp [Ns.len]at h⟩
theorem BsS.nil0(w:World)(S:Nat->Prop):BsS w S (.slice none 0 0) []:=⟨none,0,rfl,by simp,by simp,by simp,by simp⟩
theorem BsS.capOf{w:World}{S:Nat->Prop}{A:Option Addr}{n c:Nat}{l:List UInt8}(h:BsS w S (.slice A n c) l):n<=c/\c<=9223372036854775807:=by
 obtain⟨_,_,hv,h1,h2,_,_⟩:=h
 injection hv with _ e2 e3
 omega
theorem OSt.below{w wi wj:World}{p:Nat}{bv:Value}{a:Nat}{st:Bool}{c:Nat}(h:OSt w wi p bv a st c)(hb:Below wi.heap.size wi wj):OSt w wj p bv a st c:=
 h.step ((hb.block p h.1.lt).trans h.1) (Qz hb _)
theorem j43{w:World}{S:Nat->Prop}{bb bo n bc:Nat}{B:List UInt8}(h:BsS w S (.slice (some ⟨bb,bo,none⟩) n bc) B)(g u:Nat)(hg:g+u<=B.length):
 BsS w S (.slice (if bc=g then some ⟨bb,bo,none⟩else some ⟨bb,bo+g,none⟩) (g+u - g) (bc - g)) (rst B g (g+u)):=by
 obtain⟨a,c,hv,h1,h2,h3,h4⟩:=h
 injection hv with ha hn hc
 subst ha hc hn
 have hl:(rst B g (g+u)).length=u:=by rw [ju hg];omega
 have hu:g+u - g=u:=by omega
 refine⟨_,bc - g,by rw [hl,hu],by rw [hl];omega,by omega,by rw [hl];omega,fun hp=> ?_⟩
 rw [hl]at hp
 obtain⟨b',off',e,hb,hcell⟩:=h4 (by omega)
 injection e with e
 injection e with e1 e2
 subst e1 e2
 rw [iF (by omega)]
 refine⟨bb,bo+g,rfl,hb,fun j hj=> ?_⟩
 rw [hl]at hj
 rw [Nat.add_assoc,hcell (g+j) (by omega),yL hg (by omega)]
theorem NsS.form2{w:World}{S:Nat->Prop}{v:Value}{l:Ns}(h:NsS w S v l):∃A c,v=.slice A l.len c:=by
 obtain⟨a,c,hv,_⟩:=h;exact⟨a,c,hv⟩
theorem kt{w:World}{X:Nat}{a b c:Value}{t:TypeId}(h:w.heap[X]?=some (.cells #[a,b,c] t (0,0))):w.cell? ⟨X,0,none⟩=some a/\w.cell? ⟨X,1,none⟩=some b/\w.cell? ⟨X,2,none⟩=some c/\∀o,w.frozen? ⟨X,o,none⟩=false:=by
 refine⟨?_,?_,?_,fun o=>by simp [World.frozen?,h]⟩<;>(rw [cell_of_row _ _ _ _ _ _ h]<;>rfl)
theorem UF(n:Nat):∀(B:List UInt8) (bb bo bc p a e d c:Nat) (st:Bool) (w:World),
 BsS w (·≠p) (.slice (some ⟨bb,bo,none⟩) B.length bc) B->e<=B.length->B.length<=4096->Rd w p (.slice (some ⟨bb,bo,none⟩) B.length bc) a st c->a<=e->e - a<=n+1->d<=9->c<=256->∀er,qj (rst B a e)=.error er->
 Calls Tryz.prog 176 #[.pointer (some ⟨p,0,none⟩),.int .i64 e,.int .i64 d] w (Jo (kP st n (rst B a e) d c) w p (.slice (some ⟨bb,bo,none⟩) B.length bc) a st):=by
 intro B bb bo bc p a e d c st w hB he hB4 hr ha hn hd hc
 have S0:=OSt.start hr
 have HB:=iH hB
 have T:=QW B bb bo bc p a e c st (w.alloc (.cells #[.int .i64 0,.slice none 0 0,.slice none 0 0] 66)) (S0.bytes hB) he S0.1 ha
 have HS0:=iH S0
 clear S0 hB hr
 intro er ht
 rw [ht]at T
 have n0:(er != 0)=true:=by simp [yd ht]
 have E:Hid (kP st n (rst B a e) d c=.error er):=by unfold kP yX;rw [ht]<;>rfl
 have HT:=iH T;have N0:=iH (yd ht)
 clear T ht
 go_enter Tryz.func176,Tryz.ntmps176
 go_wp2_with(go_at_call 187;refine HT.out.mono ?_;intro e1 w1 h1;obtain⟨rfl,⟨a1,hr1⟩,hg1⟩:=NumOut.err h1;have S1:=iH (HS0.out.step hr1 hg1);clear h1 hr1 hg1;obtain⟨z0,z1,z2⟩:=S1.out.zc;have f0:=S1.out.zf 0;have f1:=S1.out.zf 1;have f2:=S1.out.zf 2)
 obtain⟨y0,y1,y2⟩:=S1.out.finc 0 (.slice none 0 0) (.slice none 0 0)
 exact bodyPost_ret (v:=.tuple #[.agg #[.int .i64 0,.slice none 0 0,.slice none 0 0],.int .i64 er]) (by simp [results,Tryz.results176,go_sem,y0,y1,y2]) rfl (S1.out.no 0 E.out N0.out)
theorem ZP(n:Nat)(hk:yU 189 n true)(ho:yU 161 n false):∀(B:List UInt8) (bb bo bc p a e d c:Nat) (w:World),
 BsS w (·≠p) (.slice (some ⟨bb,bo,none⟩) B.length bc) B->e<=B.length->B.length<=4096->Rd w p (.slice (some ⟨bb,bo,none⟩) B.length bc) a false c->a<=e->e - a<=n+1->d<=9->c<=256->∀t k,qj (rst B a e)=.ok (t,k)->kr t=true->
 Calls Tryz.prog 176 #[.pointer (some ⟨p,0,none⟩),.int .i64 e,.int .i64 d] w (Jo (kP false n (rst B a e) d c) w p (.slice (some ⟨bb,bo,none⟩) B.length bc) a false):=by
 intro B bb bo bc p a e d c w hB he hB4 hr ha hn hd hc
 have S0:=OSt.start hr
 have HB:=iH hB
 have T:=QW B bb bo bc p a e c false (w.alloc (.cells #[.int .i64 0,.slice none 0 0,.slice none 0 0] 66)) (S0.bytes hB) he S0.1 ha
 have HS0:=iH S0
 clear S0 hB hr
 intro t k ht htc
 rw [ht]at T
 obtain⟨tv,k1,k2⟩:=zG ht
 rw [ju he]at k2
 have hin:=K7 tv
 have HC:=iH (fun w=>zP t hin w)
 have HT:=iH T
 have HL:=fun(w1:World) (h1:BsS w1 (·≠p) (.slice (some ⟨bb,bo,none⟩) B.length bc) B) (h2:Rd w1 p (.slice (some ⟨bb,bo,none⟩) B.length bc) (a+k) false c)=>iH (QM B bb bo bc p (a+k) e c false true w1 h1 he h2 (by omega))
 rw [htc]at HC
 have hob:(kr t&& !false)=true:=by rw [htc]<;>rfl
 have HI:=iH hin;have TC:=iH htc
 clear T tv hin htc
 cases hs:jz (rst B (a+k) e) true false with
 |error er=>
  have E:Hid (kP false n (rst B a e) d c=.error er):=XK ht (by rw [hob,jH];exact hs)
  have n0:(er != 0)=true:=by simp [qh hs]
  have N0:=iH (qh hs)
  rw [hs]at HL
  clear hs ht hob
  go_enter Tryz.func176,Tryz.ntmps176
  go_wp2_with(first
   |(go_at_call 187;refine HT.out.mono ?_;intro e1 w1 h1;obtain⟨rfl,hr1,hg1⟩:=NumOut.got h1;have S1:=iH (HS0.out.step hr1 hg1);clear h1 hr1 hg1;obtain⟨z0,z1,z2⟩:=S1.out.zc;have f0:=S1.out.zf 0;have f1:=S1.out.zf 1;have f2:=S1.out.zf 2;have r0:=S1.out.1.c0;have r1:=S1.out.1.c1;have r2:=S1.out.1.c2;have r3:=S1.out.1.c3;have q1:=S1.out.1.fr 1;have q3:=S1.out.1.fr 3)
   |(go_at_call 179;refine(HC.out _).mono ?_;rintro e w' ⟨rfl,rfl⟩)
   |(go_at_call 188;refine(HL _ (S1.out.bytes HB.out) S1.out.1).out.mono ?_;intro e2 w2 h2;obtain⟨rfl,⟨a2,hr2⟩,hg2⟩:=NumOut.err h2;have S2:=iH (S1.out.step hr2 hg2);clear h2 hr2 hg2 z0 z1 z2 f0 f1 f2 r0 r1 r2 r3 q1 q3;obtain⟨z0,z1,z2⟩:=S2.out.zc;have f0:=S2.out.zf 0;have f1:=S2.out.zf 1;have f2:=S2.out.zf 2))
  obtain⟨y0,y1,y2⟩:=S2.out.finc 0 (.slice none 0 0) (.slice none 0 0)
  exact bodyPost_ret (v:=.tuple #[.agg #[.int .i64 0,.slice none 0 0,.slice none 0 0],.int .i64 er]) (by simp [results,Tryz.results176,go_sem,y0,y1,y2]) rfl (S2.out.no 0 E.out N0.out)
 |ok y=>
  obtain⟨m,j⟩:=y
  obtain⟨j1,j2,m1,m2⟩:=xl hs
  rw [ju he]at j2
  rw [hs]at HL
  have hs':jz ((rst B a e).drop k) (kr t&& !false) false=.ok (m,j):=by rw [hob,jH];exact hs
  have HT2:=iH ht;have HS2:=iH hs'
  clear hs ht hob hs'
  by_cases h8:8<d
  ·have E:Hid (kP false n (rst B a e) d c=.error 7):=XL HT2.out HS2.out h8
   go_enter Tryz.func176,Tryz.ntmps176
   go_wp2_with(first
    |(go_at_call 187;refine HT.out.mono ?_;intro e1 w1 h1;obtain⟨rfl,hr1,hg1⟩:=NumOut.got h1;have S1:=iH (HS0.out.step hr1 hg1);clear h1 hr1 hg1;obtain⟨z0,z1,z2⟩:=S1.out.zc;have f0:=S1.out.zf 0;have f1:=S1.out.zf 1;have f2:=S1.out.zf 2;have r0:=S1.out.1.c0;have r1:=S1.out.1.c1;have r2:=S1.out.1.c2;have r3:=S1.out.1.c3;have q1:=S1.out.1.fr 1;have q3:=S1.out.1.fr 3)
    |(go_at_call 179;refine(HC.out _).mono ?_;rintro e w' ⟨rfl,rfl⟩)
    |(go_at_call 188;refine(HL _ (S1.out.bytes HB.out) S1.out.1).out.mono ?_;intro e2 w2 h2;obtain⟨rfl,hr2,hg2⟩:=NumOut.got h2;have S2:=iH (S1.out.step hr2 hg2);clear h2 hr2 hg2 z0 z1 z2 f0 f1 f2 r0 r1 r2 r3 q1 q3;obtain⟨z0,z1,z2⟩:=S2.out.zc;have f0:=S2.out.zf 0;have f1:=S2.out.zf 1;have f2:=S2.out.zf 2;have r0:=S2.out.1.c0;have r1:=S2.out.1.c1;have r2:=S2.out.1.c2;have r3:=S2.out.1.c3;have q1:=S2.out.1.fr 1;have q3:=S2.out.1.fr 3))
   obtain⟨y0,y1,y2⟩:=S2.out.cnt.finc 0 (.slice none 0 0) (.slice none 0 0)
   exact bodyPost_ret (v:=.tuple #[.agg #[.int .i64 0,.slice none 0 0,.slice none 0 0],.int .i64 7]) (by simp [results,Tryz.results176,go_sem,y0,y1,y2]) rfl (S2.out.cnt.no 0 E.out (by decide))
  ·by_cases h9:256<c+1
   ·have E:Hid (kP false n (rst B a e) d c=.error 2):=XM HT2.out HS2.out h8 h9
    go_enter Tryz.func176,Tryz.ntmps176
    go_wp2_with(first
     |(go_at_call 187;refine HT.out.mono ?_;intro e1 w1 h1;obtain⟨rfl,hr1,hg1⟩:=NumOut.got h1;have S1:=iH (HS0.out.step hr1 hg1);clear h1 hr1 hg1;obtain⟨z0,z1,z2⟩:=S1.out.zc;have f0:=S1.out.zf 0;have f1:=S1.out.zf 1;have f2:=S1.out.zf 2;have r0:=S1.out.1.c0;have r1:=S1.out.1.c1;have r2:=S1.out.1.c2;have r3:=S1.out.1.c3;have q1:=S1.out.1.fr 1;have q3:=S1.out.1.fr 3)
     |(go_at_call 179;refine(HC.out _).mono ?_;rintro e w' ⟨rfl,rfl⟩)
     |(go_at_call 188;refine(HL _ (S1.out.bytes HB.out) S1.out.1).out.mono ?_;intro e2 w2 h2;obtain⟨rfl,hr2,hg2⟩:=NumOut.got h2;have S2:=iH (S1.out.step hr2 hg2);clear h2 hr2 hg2 z0 z1 z2 f0 f1 f2 r0 r1 r2 r3 q1 q3;obtain⟨z0,z1,z2⟩:=S2.out.zc;have f0:=S2.out.zf 0;have f1:=S2.out.zf 1;have f2:=S2.out.zf 2;have r0:=S2.out.1.c0;have r1:=S2.out.1.c1;have r2:=S2.out.1.c2;have r3:=S2.out.1.c3;have q1:=S2.out.1.fr 1;have q3:=S2.out.1.fr 3))
    obtain⟨y0,y1,y2⟩:=S2.out.cnt.finc 0 (.slice none 0 0) (.slice none 0 0)
    exact bodyPost_ret (v:=.tuple #[.agg #[.int .i64 0,.slice none 0 0,.slice none 0 0],.int .i64 2]) (by simp [results,Tryz.results176,go_sem,y0,y1,y2]) rfl (S2.out.cnt.no 0 E.out (by decide))
   ·by_cases h10:(e:Int) - ((a+k+j:Nat):Int)<m
    ·have E:Hid (kP false n (rst B a e) d c=.error 6):=XN HT2.out HS2.out h8 h9 (by rw [jH,ju he];omega)
     go_enter Tryz.func176,Tryz.ntmps176
     go_wp2_with(first
      |(go_at_call 187;refine HT.out.mono ?_;intro e1 w1 h1;obtain⟨rfl,hr1,hg1⟩:=NumOut.got h1;have S1:=iH (HS0.out.step hr1 hg1);clear h1 hr1 hg1;obtain⟨z0,z1,z2⟩:=S1.out.zc;have f0:=S1.out.zf 0;have f1:=S1.out.zf 1;have f2:=S1.out.zf 2;have r0:=S1.out.1.c0;have r1:=S1.out.1.c1;have r2:=S1.out.1.c2;have r3:=S1.out.1.c3;have q1:=S1.out.1.fr 1;have q3:=S1.out.1.fr 3)
      |(go_at_call 179;refine(HC.out _).mono ?_;rintro e w' ⟨rfl,rfl⟩)
      |(go_at_call 188;refine(HL _ (S1.out.bytes HB.out) S1.out.1).out.mono ?_;intro e2 w2 h2;obtain⟨rfl,hr2,hg2⟩:=NumOut.got h2;have S2:=iH (S1.out.step hr2 hg2);clear h2 hr2 hg2 z0 z1 z2 f0 f1 f2 r0 r1 r2 r3 q1 q3;obtain⟨z0,z1,z2⟩:=S2.out.zc;have f0:=S2.out.zf 0;have f1:=S2.out.zf 1;have f2:=S2.out.zf 2;have r0:=S2.out.1.c0;have r1:=S2.out.1.c1;have r2:=S2.out.1.c2;have r3:=S2.out.1.c3;have q1:=S2.out.1.fr 1;have q3:=S2.out.1.fr 3))
     obtain⟨y0,y1,y2⟩:=S2.out.cnt.finc 0 (.slice none 0 0) (.slice none 0 0)
     exact bodyPost_ret (v:=.tuple #[.agg #[.int .i64 0,.slice none 0 0,.slice none 0 0],.int .i64 6]) (by simp [results,Tryz.results176,go_sem,y0,y1,y2]) rfl (S2.out.cnt.no 0 E.out (by decide))
    ·have h3':¬(((rst B a e).drop (k+j)).length:Int)<m:=by rw [jH,ju he];omega
     have H3:=iH h3';clear h3'
     have h11:m<=(e:Int) - (a+k+j):=by omega
     clear h10
     by_cases hm:m<0
     ·skip
      have em:(m== -1)=true:=by simp;omega
      obtain⟨g,hg⟩:∃g,g=a+k+j:=⟨_,rfl⟩
      have hge:g<=e:=by omega
      have HG:=iH hg
      have hl0:=jS false n (rst B g e) (d+1) (c+1) true (by omega)
      have HF:=fun(w3:World) (h1:BsS w3 (·≠p) (.slice (some ⟨bb,bo,none⟩) B.length bc) B) (h2:Rd w3 p (.slice (some ⟨bb,bo,none⟩) B.length bc) g false (c+1))=>
       iH (show Calls Tryz.prog 189 #[.pointer (some ⟨p,0,none⟩),.int .i64 (e:Int),.int .i64 ((d:Int)+1)] w3 (ListOut (jf false n (rst B g e) (d+1) (c+1) true) w3 p (.slice (some ⟨bb,bo,none⟩) B.length bc) g false) from
        hk B bb bo bc p g e (d+1) (c+1) false w3 h1 (by omega) hB4 h2 (by omega) (by omega) (by omega) (by omega))
      clear hg
      cases hl:jf false n (rst B g e) (d+1) (c+1) true with
      |error er=>
       have E:Hid (kP false n (rst B a e) d c=.error er):=j04 HT2.out HS2.out h8 h9 (by have:=H3.out;omega) hm (by rw [jH,<-Nat.add_assoc,<-HG.out];exact hl)
       have ner:er≠0:=hl0.2 er hl
       have n0:(er != 0)=true:=by simp [ner]
       have N0:=iH ner
       rw [hl]at HF
       clear hl hl0 ner
       go_enter Tryz.func176,Tryz.ntmps176
       go_upto_region 19 with (first
        |(go_at_call 187;refine HT.out.mono ?_;intro e1 w1 h1;obtain⟨rfl,hr1,hg1⟩:=NumOut.got h1;have S1:=iH (HS0.out.step hr1 hg1);clear h1 hr1 hg1;obtain⟨z0,z1,z2⟩:=S1.out.zc;have f0:=S1.out.zf 0;have f1:=S1.out.zf 1;have f2:=S1.out.zf 2;have r0:=S1.out.1.c0;have r1:=S1.out.1.c1;have r2:=S1.out.1.c2;have r3:=S1.out.1.c3;have q1:=S1.out.1.fr 1;have q3:=S1.out.1.fr 3)
        |(go_at_call 179;refine(HC.out _).mono ?_;rintro e w' ⟨rfl,rfl⟩)
        |(go_at_call 188;refine(HL _ (S1.out.bytes HB.out) S1.out.1).out.mono ?_;intro e2 w2 h2;obtain⟨rfl,hr2,hg2⟩:=NumOut.got h2;have S2:=iH (S1.out.step hr2 hg2);clear h2 hr2 hg2 z0 z1 z2 f0 f1 f2 r0 r1 r2 r3 q1 q3;obtain⟨z0,z1,z2⟩:=S2.out.zc;have f0:=S2.out.zf 0;have f1:=S2.out.zf 1;have f2:=S2.out.zf 2;have r0:=S2.out.1.c0;have r1:=S2.out.1.c1;have r2:=S2.out.1.c2;have r3:=S2.out.1.c3;have q1:=S2.out.1.fr 1;have q3:=S2.out.1.fr 3))
       have S3:=iH (S2.out.cnt.alloc (.cells #[.int .i64 t,.slice none 0 0,.slice none 0 0] 66))
       have X3:=iH (heap_alloc_new (w2.setCell ⟨p,3,none⟩ (.int .i64 ((c:Int)+1))) (.cells #[.int .i64 t,.slice none 0 0,.slice none 0 0] 66))
       obtain⟨w3,hw3⟩:∃w3,w3=(w2.setCell ⟨p,3,none⟩ (.int .i64 ((c:Int)+1))).alloc (.cells #[.int .i64 t,.slice none 0 0,.slice none 0 0] 66):=⟨_,rfl⟩
       have hX:(w2.setCell ⟨p,3,none⟩ (.int .i64 ((c:Int)+1))).heap.size=w2.heap.size:=by simp [World.setCell]
       rw [hX]at X3
       rw [<-hw3]at S3 X3 |-
       rw [<-HG.out]at S3
       have hlt2:=S2.out.lt
       have hpN:=S3.out.2.2.2
       clear hw3 hX z0 z1 z2 f0 f1 f2 r0 r1 r2 r3 q1 q3
       obtain⟨x0,x1,x2,xf⟩:=kt X3.out
       have xf1:=xf 2
       clear xf
       obtain⟨z0,z1,z2⟩:=S3.out.zc;have f0:=S3.out.zf 0;have f1:=S3.out.zf 1;have f2:=S3.out.zf 2;have r0:=S3.out.1.c0;have r1:=S3.out.1.c1;have r2:=S3.out.1.c2;have r3:=S3.out.1.c3;have q1:=S3.out.1.fr 1;have q3:=S3.out.1.fr 3
       go_wp2_with(go_at_call 189;refine(HF _ (S3.out.bytes HB.out) S3.out.1).out.mono ?_;intro e4 w4 h4;obtain⟨_,rfl,⟨a4,c4,hr4⟩,hg4⟩:=h4;have S4:=iH (S3.out.step hr4 hg4);have X4:=iH ((hg4.block _ (iG X3.out) (by intro e;injection e with e;omega)).trans X3.out);clear hr4 hg4 z0 z1 z2 f0 f1 f2 r0 r1 r2 r3 q1 q3 x0 x1 x2 xf1;obtain⟨x0,x1,x2,xf⟩:=kt X4.out;have xf1:=xf 2;clear xf;obtain⟨z0,z1,z2⟩:=S4.out.zc;have f0:=S4.out.zf 0;have f1:=S4.out.zf 1;have f2:=S4.out.zf 2;have r0:=S4.out.1.c0;have r1:=S4.out.1.c1;have r2:=S4.out.1.c2;have r3:=S4.out.1.c3;have q1:=S4.out.1.fr 1;have q3:=S4.out.1.fr 3)
       have S5:=S4.out.other hlt2 2 (.slice none 0 0)
       obtain⟨y0,y1,y2⟩:=S5.finc t (.slice none 0 0) (.slice none 0 0)
       exact bodyPost_ret (v:=.tuple #[.agg #[.int .i64 t,.slice none 0 0,.slice none 0 0],.int .i64 er]) (by simp [results,Tryz.results176,go_sem,y0,y1,y2]) rfl (S5.no t E.out N0.out)
      |ok r=>
       have E:Hid (kP false n (rst B a e) d c=.ok ⟨t,[],r.list,k+j+r.used,r.count⟩):=j2x HT2.out HS2.out h8 h9 (by have:=H3.out;omega) hm (by rw [jH,<-Nat.add_assoc,<-HG.out];exact hl)
       have hu:=hl0.1 r hl
       have HU:=iH hu
       clear hu
       rw [hl]at HF
       clear hl hl0
       go_enter Tryz.func176,Tryz.ntmps176
       go_upto_region 19 with (first
        |(go_at_call 187;refine HT.out.mono ?_;intro e1 w1 h1;obtain⟨rfl,hr1,hg1⟩:=NumOut.got h1;have S1:=iH (HS0.out.step hr1 hg1);clear h1 hr1 hg1;obtain⟨z0,z1,z2⟩:=S1.out.zc;have f0:=S1.out.zf 0;have f1:=S1.out.zf 1;have f2:=S1.out.zf 2;have r0:=S1.out.1.c0;have r1:=S1.out.1.c1;have r2:=S1.out.1.c2;have r3:=S1.out.1.c3;have q1:=S1.out.1.fr 1;have q3:=S1.out.1.fr 3)
        |(go_at_call 179;refine(HC.out _).mono ?_;rintro e w' ⟨rfl,rfl⟩)
        |(go_at_call 188;refine(HL _ (S1.out.bytes HB.out) S1.out.1).out.mono ?_;intro e2 w2 h2;obtain⟨rfl,hr2,hg2⟩:=NumOut.got h2;have S2:=iH (S1.out.step hr2 hg2);clear h2 hr2 hg2 z0 z1 z2 f0 f1 f2 r0 r1 r2 r3 q1 q3;obtain⟨z0,z1,z2⟩:=S2.out.zc;have f0:=S2.out.zf 0;have f1:=S2.out.zf 1;have f2:=S2.out.zf 2;have r0:=S2.out.1.c0;have r1:=S2.out.1.c1;have r2:=S2.out.1.c2;have r3:=S2.out.1.c3;have q1:=S2.out.1.fr 1;have q3:=S2.out.1.fr 3))
       have S3:=iH (S2.out.cnt.alloc (.cells #[.int .i64 t,.slice none 0 0,.slice none 0 0] 66))
       have X3:=iH (heap_alloc_new (w2.setCell ⟨p,3,none⟩ (.int .i64 ((c:Int)+1))) (.cells #[.int .i64 t,.slice none 0 0,.slice none 0 0] 66))
       obtain⟨w3,hw3⟩:∃w3,w3=(w2.setCell ⟨p,3,none⟩ (.int .i64 ((c:Int)+1))).alloc (.cells #[.int .i64 t,.slice none 0 0,.slice none 0 0] 66):=⟨_,rfl⟩
       have hX:(w2.setCell ⟨p,3,none⟩ (.int .i64 ((c:Int)+1))).heap.size=w2.heap.size:=by simp [World.setCell]
       rw [hX]at X3
       rw [<-hw3]at S3 X3 |-
       rw [<-HG.out]at S3
       have hlt2:=S2.out.lt
       have hpN:=S3.out.2.2.2
       clear hw3 hX z0 z1 z2 f0 f1 f2 r0 r1 r2 r3 q1 q3
       obtain⟨x0,x1,x2,xf⟩:=kt X3.out
       have xf1:=xf 2
       clear xf
       obtain⟨z0,z1,z2⟩:=S3.out.zc;have f0:=S3.out.zf 0;have f1:=S3.out.zf 1;have f2:=S3.out.zf 2;have r0:=S3.out.1.c0;have r1:=S3.out.1.c1;have r2:=S3.out.1.c2;have r3:=S3.out.1.c3;have q1:=S3.out.1.fr 1;have q3:=S3.out.1.fr 3
       go_wp2_with(go_at_call 189;refine(HF _ (S3.out.bytes HB.out) S3.out.1).out.mono ?_;intro e4 w4 h4;obtain⟨v4,rfl,hv4,hr4,hg4⟩:=h4;obtain⟨va,vc,rfl⟩:=NsS.form2 hv4;have Hv4:=iH hv4;have S4:=iH (S3.out.step hr4 hg4);have X4:=iH ((hg4.block _ (iG X3.out) (by intro e;injection e with e;omega)).trans X3.out);clear hv4 hr4 hg4 z0 z1 z2 f0 f1 f2 r0 r1 r2 r3 q1 q3 x0 x1 x2 xf1;obtain⟨x0,x1,x2,xf⟩:=kt X4.out;have xf1:=xf 2;clear xf;obtain⟨z0,z1,z2⟩:=S4.out.zc;have f0:=S4.out.zf 0;have f1:=S4.out.zf 1;have f2:=S4.out.zf 2;have r0:=S4.out.1.c0;have r1:=S4.out.1.c1;have r2:=S4.out.1.c2;have r3:=S4.out.1.c3;have q1:=S4.out.1.fr 1;have q3:=S4.out.1.fr 3)
       have S5:=S4.out.other hlt2 2 (.slice va r.list.len vc)
       obtain⟨y0,y1,y2⟩:=S5.finc t (.slice none 0 0) (.slice va r.list.len vc)
       have hX3:=(iG X3.out)
       exact bodyPost_ret (v:=.tuple #[.agg #[.int .i64 t,.slice none 0 0,.slice va r.list.len vc],.int .i64 0]) (by simp [results,Tryz.results176,go_sem,y0,y1,y2]) rfl
        (S5.yes E.out (BsS.nil0 _ _) (Hv4.out.keep fun b hb _=>⟨iO (by have:=hb.1;show b≠w2.heap.size;omega),by have:=hb.1;omega,by simpa [World.setCell]using hb.2⟩) HI.out (by have:=HG.out;simp only;omega) rfl)
     ·have m0:0<=m:=by omega
      have em:(m== -1)=false:=by simp;omega
      obtain⟨u,rfl⟩:=Int.eq_ofNat_of_zero_le m0
      clear m0 m2
      obtain⟨g,hg⟩:∃g,g=a+k+j:=⟨_,rfl⟩
      have hgu:g+u<=e:=by omega
      have b1:(g:Int)+u<=9223372036854775807:=by omega
      have HG:=iH hg
      have hl0:=jS false n (rst B g (g+u)) (d+1) (c+1) false (by omega)
      have HF:=fun(w3:World) (h1:BsS w3 (·≠p) (.slice (some ⟨bb,bo,none⟩) B.length bc) B) (h2:Rd w3 p (.slice (some ⟨bb,bo,none⟩) B.length bc) g false (c+1))=>
       iH (show Calls Tryz.prog 161 #[.pointer (some ⟨p,0,none⟩),.int .i64 ((g:Int)+u),.int .i64 ((d:Int)+1)] w3 (ListOut (jf false n (rst B g (g+u)) (d+1) (c+1) false) w3 p (.slice (some ⟨bb,bo,none⟩) B.length bc) g false) from
        ho B bb bo bc p g (g+u) (d+1) (c+1) false w3 h1 (by omega) hB4 h2 (by omega) (by omega) (by omega) (by omega))
      clear hg
      cases hl:jf false n (rst B g (g+u)) (d+1) (c+1) false with
      |error er=>
       have E:Hid (kP false n (rst B a e) d c=.error er):=YH HT2.out HS2.out h8 h9 (by have:=H3.out;omega) (by omega) TC.out (by rw [jH,y8 _ _ _ _ (by have:=HG.out;simp;omega),Int.toNat_natCast,<-Nat.add_assoc,<-HG.out];exact hl)
       have ner:er≠0:=hl0.2 er hl
       have n0:(er != 0)=true:=by simp [ner]
       have N0:=iH ner
       rw [hl]at HF
       clear hl hl0 ner
       go_enter Tryz.func176,Tryz.ntmps176
       go_upto_region 21 with (first
        |(go_at_call 187;refine HT.out.mono ?_;intro e1 w1 h1;obtain⟨rfl,hr1,hg1⟩:=NumOut.got h1;have S1:=iH (HS0.out.step hr1 hg1);clear h1 hr1 hg1;obtain⟨z0,z1,z2⟩:=S1.out.zc;have f0:=S1.out.zf 0;have f1:=S1.out.zf 1;have f2:=S1.out.zf 2;have r0:=S1.out.1.c0;have r1:=S1.out.1.c1;have r2:=S1.out.1.c2;have r3:=S1.out.1.c3;have q1:=S1.out.1.fr 1;have q3:=S1.out.1.fr 3)
        |(go_at_call 179;refine(HC.out _).mono ?_;rintro e w' ⟨rfl,rfl⟩)
        |(go_at_call 188;refine(HL _ (S1.out.bytes HB.out) S1.out.1).out.mono ?_;intro e2 w2 h2;obtain⟨rfl,hr2,hg2⟩:=NumOut.got h2;have S2:=iH (S1.out.step hr2 hg2);clear h2 hr2 hg2 z0 z1 z2 f0 f1 f2 r0 r1 r2 r3 q1 q3;obtain⟨z0,z1,z2⟩:=S2.out.zc;have f0:=S2.out.zf 0;have f1:=S2.out.zf 1;have f2:=S2.out.zf 2;have r0:=S2.out.1.c0;have r1:=S2.out.1.c1;have r2:=S2.out.1.c2;have r3:=S2.out.1.c3;have q1:=S2.out.1.fr 1;have q3:=S2.out.1.fr 3))
       have S3:=iH (S2.out.cnt.alloc (.cells #[.int .i64 t,.slice none 0 0,.slice none 0 0] 66))
       have X3:=iH (heap_alloc_new (w2.setCell ⟨p,3,none⟩ (.int .i64 ((c:Int)+1))) (.cells #[.int .i64 t,.slice none 0 0,.slice none 0 0] 66))
       obtain⟨w3,hw3⟩:∃w3,w3=(w2.setCell ⟨p,3,none⟩ (.int .i64 ((c:Int)+1))).alloc (.cells #[.int .i64 t,.slice none 0 0,.slice none 0 0] 66):=⟨_,rfl⟩
       have hX:(w2.setCell ⟨p,3,none⟩ (.int .i64 ((c:Int)+1))).heap.size=w2.heap.size:=by simp [World.setCell]
       rw [hX]at X3
       rw [<-hw3]at S3 X3 |-
       rw [<-HG.out]at S3
       have hlt2:=S2.out.lt
       have hpN:=S3.out.2.2.2
       clear hw3 hX z0 z1 z2 f0 f1 f2 r0 r1 r2 r3 q1 q3
       obtain⟨x0,x1,x2,xf⟩:=kt X3.out
       have xf1:=xf 2
       clear xf
       obtain⟨z0,z1,z2⟩:=S3.out.zc;have f0:=S3.out.zf 0;have f1:=S3.out.zf 1;have f2:=S3.out.zf 2;have r0:=S3.out.1.c0;have r1:=S3.out.1.c1;have r2:=S3.out.1.c2;have r3:=S3.out.1.c3;have q1:=S3.out.1.fr 1;have q3:=S3.out.1.fr 3
       go_wp2_with(go_at_call 161;refine(HF _ (S3.out.bytes HB.out) S3.out.1).out.mono ?_;intro e4 w4 h4;obtain⟨_,rfl,⟨a4,c4,hr4⟩,hg4⟩:=h4;have S4:=iH (S3.out.step hr4 hg4);have X4:=iH ((hg4.block _ (iG X3.out) (by intro e;injection e with e;omega)).trans X3.out);clear hr4 hg4 z0 z1 z2 f0 f1 f2 r0 r1 r2 r3 q1 q3 x0 x1 x2 xf1;obtain⟨x0,x1,x2,xf⟩:=kt X4.out;have xf1:=xf 2;clear xf;obtain⟨z0,z1,z2⟩:=S4.out.zc;have f0:=S4.out.zf 0;have f1:=S4.out.zf 1;have f2:=S4.out.zf 2;have r0:=S4.out.1.c0;have r1:=S4.out.1.c1;have r2:=S4.out.1.c2;have r3:=S4.out.1.c3;have q1:=S4.out.1.fr 1;have q3:=S4.out.1.fr 3)
       have S5:=S4.out.other hlt2 2 (.slice none 0 0)
       obtain⟨y0,y1,y2⟩:=S5.finc t (.slice none 0 0) (.slice none 0 0)
       exact bodyPost_ret (v:=.tuple #[.agg #[.int .i64 t,.slice none 0 0,.slice none 0 0],.int .i64 er]) (by simp [results,Tryz.results176,go_sem,y0,y1,y2]) rfl (S5.no t E.out N0.out)
      |ok r=>
       have E:Hid (kP false n (rst B a e) d c=.ok ⟨t,[],r.list,k+j+u,r.count⟩):=UD HT2.out HS2.out h8 h9 (by have:=H3.out;omega) (by omega) TC.out (by rw [jH,y8 _ _ _ _ (by have:=HG.out;simp;omega),Int.toNat_natCast,<-Nat.add_assoc,<-HG.out];exact hl)
       have hu:=hl0.1 r hl
       have HU:=iH hu
       clear hu
       rw [hl]at HF
       clear hl hl0
       go_enter Tryz.func176,Tryz.ntmps176
       go_upto_region 21 with (first
        |(go_at_call 187;refine HT.out.mono ?_;intro e1 w1 h1;obtain⟨rfl,hr1,hg1⟩:=NumOut.got h1;have S1:=iH (HS0.out.step hr1 hg1);clear h1 hr1 hg1;obtain⟨z0,z1,z2⟩:=S1.out.zc;have f0:=S1.out.zf 0;have f1:=S1.out.zf 1;have f2:=S1.out.zf 2;have r0:=S1.out.1.c0;have r1:=S1.out.1.c1;have r2:=S1.out.1.c2;have r3:=S1.out.1.c3;have q1:=S1.out.1.fr 1;have q3:=S1.out.1.fr 3)
        |(go_at_call 179;refine(HC.out _).mono ?_;rintro e w' ⟨rfl,rfl⟩)
        |(go_at_call 188;refine(HL _ (S1.out.bytes HB.out) S1.out.1).out.mono ?_;intro e2 w2 h2;obtain⟨rfl,hr2,hg2⟩:=NumOut.got h2;have S2:=iH (S1.out.step hr2 hg2);clear h2 hr2 hg2 z0 z1 z2 f0 f1 f2 r0 r1 r2 r3 q1 q3;obtain⟨z0,z1,z2⟩:=S2.out.zc;have f0:=S2.out.zf 0;have f1:=S2.out.zf 1;have f2:=S2.out.zf 2;have r0:=S2.out.1.c0;have r1:=S2.out.1.c1;have r2:=S2.out.1.c2;have r3:=S2.out.1.c3;have q1:=S2.out.1.fr 1;have q3:=S2.out.1.fr 3))
       have S3:=iH (S2.out.cnt.alloc (.cells #[.int .i64 t,.slice none 0 0,.slice none 0 0] 66))
       have X3:=iH (heap_alloc_new (w2.setCell ⟨p,3,none⟩ (.int .i64 ((c:Int)+1))) (.cells #[.int .i64 t,.slice none 0 0,.slice none 0 0] 66))
       obtain⟨w3,hw3⟩:∃w3,w3=(w2.setCell ⟨p,3,none⟩ (.int .i64 ((c:Int)+1))).alloc (.cells #[.int .i64 t,.slice none 0 0,.slice none 0 0] 66):=⟨_,rfl⟩
       have hX:(w2.setCell ⟨p,3,none⟩ (.int .i64 ((c:Int)+1))).heap.size=w2.heap.size:=by simp [World.setCell]
       rw [hX]at X3
       rw [<-hw3]at S3 X3 |-
       rw [<-HG.out]at S3
       have hlt2:=S2.out.lt
       have hpN:=S3.out.2.2.2
       clear hw3 hX z0 z1 z2 f0 f1 f2 r0 r1 r2 r3 q1 q3
       obtain⟨x0,x1,x2,xf⟩:=kt X3.out
       have xf1:=xf 2
       clear xf
       obtain⟨z0,z1,z2⟩:=S3.out.zc;have f0:=S3.out.zf 0;have f1:=S3.out.zf 1;have f2:=S3.out.zf 2;have r0:=S3.out.1.c0;have r1:=S3.out.1.c1;have r2:=S3.out.1.c2;have r3:=S3.out.1.c3;have q1:=S3.out.1.fr 1;have q3:=S3.out.1.fr 3
       go_wp2_with(go_at_call 161;refine(HF _ (S3.out.bytes HB.out) S3.out.1).out.mono ?_;intro e4 w4 h4;obtain⟨v4,rfl,hv4,hr4,hg4⟩:=h4;obtain⟨va,vc,rfl⟩:=NsS.form2 hv4;have Hv4:=iH hv4;have S4:=iH (S3.out.step hr4 hg4);have X4:=iH ((hg4.block _ (iG X3.out) (by intro e;injection e with e;omega)).trans X3.out);clear hv4 hr4 hg4 z0 z1 z2 f0 f1 f2 r0 r1 r2 r3 q1 q3 x0 x1 x2 xf1;obtain⟨x0,x1,x2,xf⟩:=kt X4.out;have xf1:=xf 2;clear xf;obtain⟨z0,z1,z2⟩:=S4.out.zc;have f0:=S4.out.zf 0;have f1:=S4.out.zf 1;have f2:=S4.out.zf 2;have r0:=S4.out.1.c0;have r1:=S4.out.1.c1;have r2:=S4.out.1.c2;have r3:=S4.out.1.c3;have q1:=S4.out.1.fr 1;have q3:=S4.out.1.fr 3)
       have S5:=S4.out.other hlt2 2 (.slice va r.list.len vc)
       obtain⟨y0,y1,y2⟩:=S5.finc t (.slice none 0 0) (.slice va r.list.len vc)
       have hX3:=(iG X3.out)
       exact bodyPost_ret (v:=.tuple #[.agg #[.int .i64 t,.slice none 0 0,.slice va r.list.len vc],.int .i64 0]) (by simp [results,Tryz.results176,go_sem,y0,y1,y2]) rfl
        (S5.yes E.out (BsS.nil0 _ _) (Hv4.out.keep fun b hb _=>⟨iO (by have:=hb.1;show b≠w2.heap.size;omega),by have:=hb.1;omega,by simpa [World.setCell]using hb.2⟩) HI.out (by have:=HG.out;have:=HU.out.2.2 (by simp);rw [ju (by omega)]at this;simp only;omega) rfl)
end Go.Proofs.YtalmmiojbmpmiaaGreatDoor
