/- slices.Reverse of a row of bytes of the call's own; Layer 2: the walk of length; Layer 2: the walk of write; Layer 2: the walk of Encode; Layer 2: the reader... -/
import Derived.Test.YtalmmiojbmpmiaaGreatDoorPg
import Derived.Test.YtalmmiojbmpmiaaGreatDoorPn
set_option linter.all false
set_option maxRecDepth 100000
set_option maxHeartbeats 2000000
namespace Go.Proofs.YtalmmiojbmpmiaaGreatDoor
open Go.RowKit Go.Deep
def QR(n i:Nat)(f:Nat->UInt8)(j:Nat):UInt8:=if j<i\/n<=i+j then f (n - 1 - j)else f j
theorem Yf(n:Nat)(f:Nat->UInt8):vals n (QR n 0 f)=vals n f:=kV fun j hj=>by unfold QR;rw [iF (by omega)]
theorem Yd(n i:Nat)(f:Nat->UInt8)(h:n<=2*i+1):vals n (QR n i f)=vals n fun j=>f (n - 1 - j):=kV fun j hj=>by
 unfold QR
 by_cases e:j<i\/n<=i+j
 ·rw [iT e]
 ·rw [iF e];congr 1;omega
theorem Ye(n i:Nat)(f:Nat->UInt8)(h:2*i+1<n):((vals n (QR n i f)).set i (U8 (QR n i f (n - 1 - i)))).set (n - 1 - i) (U8 (QR n i f i))=vals n (QR n (i+1) f):=by
 rw [JA,JA]
 refine kV fun j hj=> ?_
 unfold QR
 by_cases e1:j=n - 1 - i
 ·rw [iT e1,iF (by omega),iT (by omega)];congr 1;omega
 ·rw [iF e1]
  by_cases e2:j=i
  ·rw [iT e2,iF (by omega),iT (by omega)];congr 1;omega
  ·rw [iF e2]
   by_cases e3:j<i\/n<=i+j
   ·rw [iT e3,iT (by omega)]
   ·rw [iF e3,iF (by omega)]
theorem VM(g n cap base:Nat)(f:Nat->UInt8)(w:World)(h0:0<n)(hn:n<=140737488355328)(how:w.ownsRow base 5 1 (.slice (some ⟨g,0,none⟩) n cap) n (vals n f)):
 Calls Tryz.prog 194 #[.slice (some ⟨g,0,none⟩) n cap] w fun e w'=>e=.returned (.tuple #[])/\w'.ownsRow base 5 1 (.slice (some ⟨g,0,none⟩) n cap) n (vals n fun j=>f (n - 1 - j))/\w.grownBy w' (some g):=by
 have How:=iH how;clear how
 go_enter Tryz.func194,Tryz.ntmps194
 go_wp2_with fail
 go_loopg [2,3] n (fun m s2 s3 wr=>∃(i:Nat) (z:Int),s2=.int .i64 i/\s3=.int .i64 z/\z+i=n - 1/\m+i=n/\2*i<=n/\wr.ownsRow base 5 1 (.slice (some ⟨g,0,none⟩) n cap) n (vals n (QR n i f))/\w.grownBy wr (some g))
 case atStart=>exact⟨0,_,rfl,rfl,by omega,by omega,by omega,by rw [Yf];exact How.out,World.grownBy.refl w _⟩
 case round=>
  obtain⟨i,z,rfl,rfl,hz,hm,hi,how,hg⟩:=hrel
  have How2:=iH how;have Hg:=iH hg;clear how hg
  by_cases hlt:2*i+1<n
  ·obtain⟨j,hj,rfl⟩:∃j:Nat,j+i+1=n/\z=j:=⟨n - 1 - i,by omega,by omega⟩
   have hd:decide ((i:Int)<j)=true:=by simp;omega
   have c1:wr.cell? ⟨g,i,none⟩=some (U8 (QR n i f i)):=by rw [How2.out.cellAt i (by omega),qH _ _ _ (by omega)]
   have f1:=How2.out.frozenAt i
   have c2:wr.cell? ⟨g,j,none⟩=some (U8 (QR n i f j)):=by rw [How2.out.cellAt j (by omega),qH _ _ _ (by omega)]
   have f2:=How2.out.frozenAt j
   have b1:(0:Int)<=i:=by omega
   have b2:(0:Int)<=j:=by omega
   have b3:(i:Int)<n:=by omega
   have b4:(j:Int)<n:=by omega
   go_wp2_with fail
   go_region
   go_wp2_with fail
   go_roundg (n - (i+1))
   case measure=>omega
   case rel=>
    obtain⟨h1,_⟩:=How2.out.stored i (U8 (QR n i f j))
    obtain⟨h2,_⟩:=h1.stored j (U8 (QR n i f i))
    have e:=Ye n i f hlt
    have ej:n - 1 - i=j:=by omega
    rw [ej]at e
    rw [e]at h2
    refine⟨i+1,(j:Int) - 1,by go_num,rfl,by omega,by omega,by omega,?_,jR (j5 (j5 Hg.out (.inl rfl) _) (.inl rfl) _)⟩
    exact World.ownsRow.drew h2
  ·have hd:decide ((i:Int)<z)=false:=by simp;omega
   go_wp2_with fail
   go_end0
   exact⟨rfl,by rw [<-Yd n i f (by omega)];exact How2.out,Hg.out⟩
theorem J7(f:Nat):leN f 0= []:=by cases f<;>rfl
theorem Vy(f n:Nat)(h:0<n):leN (f+1) n=ofI n :: leN f (n / 256):=by rw [leN,iF (by omega)]
theorem ZF(f n:Nat):(leN f n).length<=f:=by
 induction f generalizing n with
 |zero=>simp [leN]
 |succ f ih=>rw [leN];split<;>simp;exact ih _
theorem Zg(l:List UInt8)(n:Nat)(h:l.length=n):jn n (fun j=>gb l (n - 1 - j))=l.reverse:=by
 subst h
 apply List.ext_getElem
 ·simp [jn]
 ·intro i h1 h2
  have h3:i<l.length:=by simpa [jn]using h1
  simp [gb,jn,List.getElem_reverse]
  rw [List.getElem?_eq_getElem (by omega)]<;>rfl
theorem Uq(n:Nat)(h:¬n<128):kS n=(leN 8 n++ [ofI (128+(leN 8 n).length)]).reverse:=by
 unfold kS;rw [iF h];simp
theorem j1t(n:Nat)(h:n<=8):(128:UInt8) ||| ofI (n:Int)=ofI (128+(n:Int)):=by
 have:(List.range 9).all (fun n=>((128:UInt8) ||| ofI (n:Int))==ofI (128+(n:Int)))=true:=by decide+kernel
 exact eq_of_beq (List.all_eq_true.1 this n (List.mem_range.2 (by omega)))
theorem qz(n:Nat)(hn:n<=140737488355328)(w:World):Calls Tryz.prog 181 #[.int .i64 n] w fun e w'=>∃v',e=.returned v'/\BsS w' (New w w') v' (kS n)/\Below w.heap.size w w':=by
 by_cases h1:n<128
 ·have d1:decide ((n:Int)<128)=true:=decide_eq_true (by omega)
  have E:Hid (kS n= [ofI n]):=iT h1
  clear h1 hn
  go_enter Tryz.func181,Tryz.ntmps181
  go_wp2_with fail
  go_ret
  rw [E.out]
  exact⟨_,rfl,ZL w [ofI n] _ (by simp) _ rfl,iA⟩
 ·have d1:decide ((n:Int)<128)=false:=decide_eq_false (by omega)
  have E:=iH (Uq n h1)
  go_enter Tryz.func181,Tryz.ntmps181
  go_wp2_with fail
  go_loopg [0,3] 8 (fun f s o wr=>∃(m:Nat) (l:List UInt8),s=.int .i64 m/\m<=140737488355328/\m<256 ^ f/\l.length+f=8/\Hid (l++leN f m=leN 8 n)/\OwnB wr w.heap.size o l/\Below w.heap.size w wr)
  case atStart=>exact⟨n,[],rfl,hn,by omega,rfl,rfl,OwnB.nil _ _,Below.refl _ _⟩
  case round=>
   obtain⟨m,l,rfl,hm,hm2,hl,he,hown,hb⟩:=hrel
   obtain⟨oa,oc,rfl⟩:=hown.form
   by_cases hp:0<m
   ·obtain⟨f,rfl⟩:∃f,gk=f+1:=⟨gk - 1,by rcases gk with _|f<;>simp at hm2 |-;omega⟩
    have hq:m / 256<256 ^ f:=by rw [Nat.pow_succ]at hm2;omega
    have Hq:=iH hq;clear hq hm2
    rw [Vy _ _ hp]at he
    have Hown:=iH hown;have Hb:=iH hb;clear hown hb
    have hlen:l.length<=8:=by omega
    have Hl:=iH hl;clear hl
    have hz:=Hb.out.size
    go_wp2_with(at_builtin;(with_reducible refine jw rfl (.tmp 13) (.tmp 16) rfl w.heap.size (.slice oa l.length oc) l rfl Hown.out (ofI m) _ wr.heap.size rfl rfl (by omega) hz ?_);intro v1 w1 hgr;have Hgr:=iH hgr;clear hgr)
    go_roundg f
    case measure=>omega
    case rel=>
     obtain⟨g1,g2,_,_⟩:=Hgr.out
     exact⟨m / 256,l++ [ofI m],by go_num,by omega,Hq.out,by have:=Hl.out;simp;omega,by rw [List.append_assoc];exact he,g1,Hb.out.trans g2⟩
   ·have hm0:m=0:=by omega
    subst hm0
    rw [J7,List.append_nil]at he
    have he:=he.out
    obtain rfl:l=leN 8 n:=he
    have hlen:(leN 8 n).length<=8:=ZF 8 n
    have Hor:=iH (j1t (leN 8 n).length hlen)
    have Hb0:=iH hb
    have Hown:=iH hown;have Hb:=iH hb;clear hown hb hl hm2 Hb0
    have hz:=Hb.out.size
    have HN:=iH (show(leN 8 n++ [ofI (128+((leN 8 n).length:Int))]).length=(leN 8 n).length+1 by simp)
    have hnz:0<(leN 8 n++ [ofI (128+((leN 8 n).length:Int))]).length:=by simp
    go_wp2_with(first
     |(at_builtin;(with_reducible refine jw rfl (.tmp 18) (.tmp 23) rfl w.heap.size (.slice oa (leN 8 n).length oc) (leN 8 n) rfl Hown.out (128 ||| ofI ((leN 8 n).length:Int)) _ wr.heap.size rfl rfl (by omega) hz ?_)
       intro v1 w1 hgr
       rw [Hor.out]at hgr
       obtain⟨g,cap,rfl,hg1,hg2,hcap⟩:=qE hgr.1 hnz
       have Hgr:=iH hgr;clear hgr)
     |(go_at_call 194
       have R:=VM g ((leN 8 n).length+1) cap w.heap.size (gb (leN 8 n++ [ofI (128+((leN 8 n).length:Int))])) w1 (by omega) (by omega) (by rw [<-YE _ _ HN.out];have:=Hgr.out.1;unfold OwnB at this;rwa [HN.out]at this)
       refine R.mono ?_
       rintro e w2 ⟨rfl,hown2,hgr2⟩
       have Hown2:=iH hown2;have Hgr2:=iH hgr2;clear hown2 hgr2))
    go_ret
    refine⟨_,rfl,?_,(Hb.out.trans Hgr.out.2.1).trans (j6 Hgr2.out (Nat.le_trans hz Hgr.out.2.1.size) hg1)⟩
    rw [E.out,<-Zg _ _ HN.out]
    have h:=Hown2.out
    rw [yI]at h
    exact(BsS.of_own h (by rw [je];omega)).keep fun _ hs _=>⟨rfl,hs⟩
abbrev Beside(w:World)(v x:Value)(l:List UInt8):Prop:=BsS w (fun b=>b<w.heap.size/\v.ownBlock≠some b) x l
theorem Beside.grew{w w':World}{base:Nat}{v v' x:Value}{l m:List UInt8}(h:Beside w v x l)(hg:V1 w w' base v v' m):Beside w' v' x l:=
 h.keep fun b hs hl=>⟨hg.2.2.1.block b hl (fun e=>hs.2 e.symm),iZ hl hg.2.2.1.size,fun e=>(hg.2.2.2 b e).elim hs.2 fun h'=>by omega⟩
theorem Beside.below{w w':World}{v x:Value}{l:List UInt8}(h:Beside w v x l)(hb:Below w.heap.size w w'):Beside w' v x l:=
 h.keep fun b hs hl=>⟨hb.block b hl,iZ hl hb.size,hs.2⟩
theorem Beside.alloc{w:World}{v x:Value}{l:List UInt8}(h:Beside w v x l)(o:Obj):Beside (w.alloc o) v x l:=h.below (iB.alloc iL o)
theorem Beside.old{w:World}{v x:Value}{l:List UInt8}{B:Nat}{e n size:Nat}{xs:List Value}(h:BsS w (·<B) x l)(ho:w.ownsRow B e size v n xs):Beside w v x l:=
 h.keep fun b hs hl=>⟨rfl,hl,fun e=>by have:=(ho.lt b e).1;omega⟩
theorem Beside.new{w w1:World}{v x:Value}{l:List UInt8}{B:Nat}{e n size:Nat}{xs:List Value}(h:BsS w1 (New w w1) x l)(ho:w.ownsRow B e size v n xs):Beside w1 v x l:=
 h.keep fun b hs hl=>⟨rfl,hl,fun e=>by have:=(ho.lt b e).2;omega⟩
def WSt(w wi:World)(o:Value)(l:List UInt8)(cv:Value)(c:List UInt8)(X:Nat)(x:Obj):Prop:=OwnB wi w.heap.size o l/\Beside wi o cv c/\Below w.heap.size w wi/\wi.heap[X]?=some x/\o.ownBlock≠some X
theorem WSt.grew{w wi wj:World}{o o' cv:Value}{l l' c:List UInt8}{X:Nat}{x:Obj}(h:WSt w wi o l cv c X x)(g:V1 wi wj w.heap.size o o' l'):WSt w wj o' l' cv c X x:=by
 obtain⟨h1,h2,h3,h4,h5⟩:=h
 have hl:=(iG h4)
 exact⟨g.1,h2.grew g,h3.trans g.2.1,(g.2.2.1.block X hl (fun e=>h5 e.symm)).trans h4,fun e=>(g.2.2.2 X e).elim h5 fun h'=>by omega⟩
theorem WSt.call{w wi wj:World}{o cv:Value}{l c:List UInt8}{X:Nat}{x:Obj}(h:WSt w wi o l cv c X x)(g:Below wi.heap.size wi wj):WSt w wj o l cv c X x:=by
 obtain⟨h1,h2,h3,h4,h5⟩:=h
 have hl:=(iG h4)
 exact⟨kf h1 g,h2.below g,h3.trans (g.mono h3.size),(g.block X hl).trans h4,h5⟩
theorem WSt.tagc{w wi:World}{o cv:Value}{l c:List UInt8}{X:Nat}{t v k:Value}{ty:TypeId}(h:WSt w wi o l cv c X (.cells #[t,v,k] ty)):wi.cell? ⟨X,0,none⟩=some t:=by
 rw [cell_of_row _ _ _ _ _ _ h.2.2.2.1]<;>rfl
theorem WSt.own{w wi:World}{o cv:Value}{l c:List UInt8}{X:Nat}{x:Obj}(h:WSt w wi o l cv c X x):OwnB wi w.heap.size o l:=h.1
theorem WSt.bes{w wi:World}{o cv:Value}{l c:List UInt8}{X:Nat}{x:Obj}(h:WSt w wi o l cv c X x):Beside wi o cv c:=h.2.1
theorem WSt.size{w wi:World}{o cv:Value}{l c:List UInt8}{X:Nat}{x:Obj}(h:WSt w wi o l cv c X x):w.heap.size<=wi.heap.size:=h.2.2.1.size
theorem WSt.form{w wi:World}{o cv:Value}{l c:List UInt8}{X:Nat}{x:Obj}(h:WSt w wi o l cv c X x):∃A k,o=.slice A l.length k:=h.1.form
theorem yJ{w wr w1:World}{oa ca:Option Addr}{oc cc:Nat}{l c:List UInt8}{o:Obj}(ho:OwnB wr w.heap.size (.slice oa l.length oc) l)(hb:Below w.heap.size w wr)
 (hc:BsS w1 (New (wr.alloc o) w1) (.slice ca c.length cc) c) (hbw:Below (wr.alloc o).heap.size (wr.alloc o) w1):WSt w w1 (.slice oa l.length oc) l (.slice ca c.length cc) c wr.heap.size o:=
 ⟨kf (ho.alloc o) hbw,Beside.new hc (ho.alloc o),(hb.alloc hb.size o).trans (hbw.mono (Nat.le_trans hb.size (by simp))),(hbw.block _ (by simp)).trans (iN),fun e=>by have:=(ho.lt _ e).2;omega⟩
theorem yK{w wr:World}{oa xa:Option Addr}{oc xc:Nat}{l v:List UInt8}(ho:OwnB wr w.heap.size (.slice oa l.length oc) l)(hb:Below w.heap.size w wr)
 (hx:BsS wr (·<w.heap.size) (.slice xa v.length xc) v) (o:Obj):WSt w (wr.alloc o) (.slice oa l.length oc) l (.slice xa v.length xc) v wr.heap.size o:=
 ⟨ho.alloc o,(Beside.old hx ho).alloc o,hb.alloc hb.size o,iN,fun e=>by have:=(ho.lt _ e).2;omega⟩
theorem Z1{w wr:World}{r:Ns}{b off:Nat}(hbl:b<w.heap.size)(hb:Below w.heap.size w wr)(h:NsAt wr (·<w.heap.size) r b off):∀w6,Below w.heap.size w w6->NsAt w6 (·<w.heap.size) r b off:=
 fun _ h6=>NsAt.keep (fun i hi _=>⟨(h6.block i hi).trans (hb.block i hi).symm,hi⟩) r b off hbl (iZ hbl hb.size) h
theorem xi(l:List UInt8)(n:Nat)(h:l.length<=n):∃m,Hid (l=m)/\m.length<=n:=⟨l,rfl,h⟩
theorem kL(t:Int)(v:List UInt8)(k r:Ns)(c:List UInt8)(hc:c=if kj t then k.enc else v):(Ns.cons t v k r).enc=jY t++kS c.length++c++r.enc:=by subst hc;rfl
theorem zi(n:Nat):(kS n).length<=9:=by
 unfold kS;split
 ·simp
 ·simp;exact ZF 8 n
theorem YK(n:Nat):∀(L:Ns) (v:Value) (w:World),L.all<=n->NsS w (·<w.heap.size) v L->L.enc.length<=1000000000000->
 Calls Tryz.prog 166 #[v] w fun e w'=>∃v',e=.returned v'/\BsS w' (New w w') v' L.enc/\Below w.heap.size w w':=by
 induction n with
 |zero=>
  intro L v w hn hv hb
  cases L with
  |cons t v k r=>simp only [Ns.all]at hn;omega
  |nil=>
   obtain⟨a,cap,rfl,hlc,hcap,hlen,hcells⟩:=hv
   clear hcells hb hn
   simp only [Ns.len]at*
   go_enter Tryz.func166,Tryz.ntmps166
   go_wp2_with fail
   refine wp_loop_rounds 1 ?_
   rw [rounds_succ]
   go_wp2
   go_ret
   exact⟨_,rfl,(BsS.of_own (OwnB.nil w w.heap.size) (Nat.zero_le _)),Below.refl _ _⟩
 |succ n ih=>
  intro L v w hn hv hB
  obtain⟨a,cap,rfl,hlc,hcap,hlen,hcells⟩:=hv
  have hcap':cap<=9223372036854775807:=hcap
  obtain⟨b,off,hb⟩:∃b off,Hid (0<L.len->a=some ⟨b,off,none⟩/\b<w.heap.size/\NsAt w (·<w.heap.size) L b off):=by
   rcases Nat.eq_zero_or_pos L.len with h0|h0
   ·exact⟨0,0,fun h=>by omega⟩
   ·obtain⟨b,off,h1,h2,h3,h4⟩:=hcells h0
    exact⟨b,off,fun _=>⟨h1,h2,h4⟩⟩
  clear hcells hcap
  have HB:=iH hB;clear hB
  go_enter Tryz.func166,Tryz.ntmps166
  go_wp2_with fail
  go_loopg [3,9] L.len (fun m o i wr=>∃(R:Ns) (j:Nat) (l:List UInt8),R.len=m/\j+R.len=L.len/\i=.int .i64 j/\Hid (l++R.enc=L.enc)/\R.all<=n+1/\
   NsAt wr (·<w.heap.size) R b (off+j*3)/\OwnB wr w.heap.size o l/\Below w.heap.size w wr)
  case atStart=>
   exact⟨L,0,[],rfl,by omega,rfl,rfl,hn,by rw [Nat.zero_mul,Nat.add_zero];exact NsAt.zero hb.out,OwnB.nil _ _,Below.refl _ _⟩
  case round=>
   obtain⟨R,j,l,rfl,hj,rfl,hl,hRn,hat,hown,hbel⟩:=hrel
   obtain⟨oa,oc,rfl⟩:=hown.form
   cases R with
   |nil=>
    simp only [Ns.len,Nat.add_zero]at hj
    subst hj
    have hl:=hl.out
    simp only [Ns.enc,List.append_nil]at hl
    subst hl
    have Hown:=iH hown;have Hbel:=iH hbel;clear hown hbel
    go_wp2_with fail
    go_ret
    exact⟨_,rfl,Hown.out.out (by have:=HB.out;omega) w iL,Hbel.out⟩
   |cons t v k r=>
    obtain⟨h1,h2,⟨x,h3,h4⟩,⟨ka,kc,h5,h6,h7,h8x,h9⟩,h10⟩:=hat
    simp only [Ns.len]at hj
    simp only [Ns.all]at hRn
    have hlt:(j:Int)<L.len:=by omega
    obtain⟨rfl,hbl,_⟩:=hb.out (by omega)
    have hbl':b<wr.heap.size:=iZ hbl hbel.size
    obtain⟨xa,xc,rfl⟩:=h4.form2
    have hz:=hbel.size
    have hkid:NsS (wr.alloc (.cells #[.int .i64 t,.slice xa v.length xc,.slice ka k.len kc] 66)) (·<(wr.alloc (.cells #[.int .i64 t,.slice xa v.length xc,.slice ka k.len kc] 66)).heap.size) (.slice ka k.len kc) k:=
     NsS.keep (w:=wr) (S:=(·<w.heap.size)) ⟨ka,kc,rfl,h6,h7,h8x,h9⟩ (fun b hs hl=>⟨Below.heap_alloc _ _ _ hl,by simp;omega⟩)
    have Hc:=iH (x9 t h2)
    have Hkid:=iH hkid;have H4x:=iH h4;have Hown:=iH hown;have Hbel:=iH hbel
    have hkn:k.all<=n:=by omega
    have H10:Hid (∀w6,Below w.heap.size w w6->NsAt w6 (·<w.heap.size) r b (off+j*3+3)):=Z1 hbl hbel h10
    clear hkid h4 h9 h10 hown hbel
    cases ec:kj t with
    |true=>
     rw [ec]at Hc
     by_cases hb255:255<t
     ·skip
      have E:=iH (kL t v k r k.enc (by rw [ec]<;>rfl))
      have hlen:l.length+(jY t).length+(kS k.enc.length).length+k.enc.length<=1000000000000:=by have h:=HB.out;rw [<-hl.out,E.out]at h;simp only [List.length_append]at h;omega
      have hg9:=zi k.enc.length
      have htb:(jY t).length=2:=by unfold jY;rw [iT hb255]<;>rfl
      rw [htb]at hlen
      have T:=iH (show jY t= [ofI (t / 256),ofI t]by unfold jY;rw [iT hb255])
      have d255:decide (t>255)=true:=decide_eq_true hb255
      clear ec htb hb255
      go_wp2_with(first
       |(go_at_call 179;refine(Hc.out _).mono ?_;rintro e w' ⟨rfl,rfl⟩)
       |(go_at_call 166;refine(ih k _ _ hkn Hkid.out (by omega)).mono ?_;rintro e w1 ⟨cv,rfl,hcv,hbw⟩;obtain⟨ca,cc,rfl⟩:=hcv.form2;have H1:=iH (yJ Hown.out Hbel.out hcv hbw);have z1:=H1.out.size;have q1:=H1.out.tagc;clear hcv hbw)
       |(at_builtin;(with_reducible refine jw rfl (.tmp 24) (.tmp 29) rfl w.heap.size (.slice oa l.length oc) l rfl H1.out.own (ofI (t / 256)) _ w1.heap.size rfl rfl (by omega) z1 ?_);intro v2 w2 hgr;obtain⟨l2,E2,k2⟩:=xi (l++ [ofI (t / 256)]) (l.length+1) (by simp);rw [E2.out]at hgr;have H2:=iH (H1.out.grew hgr);obtain⟨a2,c2,rfl⟩:=H2.out.form;have z2:=H2.out.size;have q2:=H2.out.tagc;clear hgr)
       |(at_builtin;(with_reducible refine jw rfl (.tmp 31) (.tmp 35) rfl w.heap.size (.slice a2 l2.length c2) l2 rfl H2.out.own (ofI t) _ w2.heap.size rfl rfl (by omega) z2 ?_);intro v3 w3 hgr;obtain⟨l3,E3,k3⟩:=xi (l2++ [ofI t]) (l2.length+1) (by simp);rw [E3.out]at hgr;have H3:=iH (H2.out.grew hgr);obtain⟨a3,c3,rfl⟩:=H3.out.form;have z3:=H3.out.size;have q3:=H3.out.tagc;clear hgr)
       |(go_at_call 181;refine(qz k.enc.length (by omega) _).mono ?_;rintro e w4 ⟨lv,rfl,hlv,hb4⟩;obtain⟨la,lc,rfl⟩:=hlv.form2;have H4:=iH (H3.out.call hb4);have Hlv:=iH hlv;have z4:=H4.out.size;have q4:=H4.out.tagc;clear hlv hb4)
       |(at_builtin;(with_reducible refine j9 rfl (.tmp 37) (.tmp 40) rfl w.heap.size (.slice a3 l3.length c3) l3 rfl H4.out.own la (kS k.enc.length).length lc (kS k.enc.length) _ rfl Hlv.out (by omega) z4 ?_);intro v5 w5 hgr;obtain⟨l5,E5,k5⟩:=xi (l3++kS k.enc.length) (l3.length+(kS k.enc.length).length) (by simp);rw [E5.out]at hgr;have H5:=iH (H4.out.grew hgr);obtain⟨a5,c5,rfl⟩:=H5.out.form;have z5:=H5.out.size;have q5:=H5.out.tagc;clear hgr)
       |(at_builtin;(with_reducible refine j9 rfl (.tmp 42) (.tmp 43) rfl w.heap.size (.slice a5 l5.length c5) l5 rfl H5.out.own ca k.enc.length cc k.enc _ rfl H5.out.bes (by omega) z5 ?_);intro v6 w6 hgr;obtain⟨l6,E6,k6⟩:=xi (l5++k.enc) (l5.length+k.enc.length) (by simp);rw [E6.out]at hgr;have H6:=iH (H5.out.grew hgr);clear hgr))
      go_roundg r.len
      case measure=>simp [Ns.len]
      case rel=>
       obtain⟨g1,g2,g3,_,_⟩:=H6.out
       refine⟨r,j+1,_,rfl,by omega,by go_num,?_,by omega,?_,g1,g3⟩
       ·have e:=hl.out
        rw [E.out,T.out]at e
        show _=_
        rw [<-e,<-E6.out,<-E5.out,<-E3.out,<-E2.out]
        simp only [List.append_assoc,List.cons_append,List.nil_append]
       ·rw [Nat.add_mul,<-Nat.add_assoc]
        exact H10.out w6 g3
     ·skip
      have E:=iH (kL t v k r k.enc (by rw [ec]<;>rfl))
      have hlen:l.length+(jY t).length+(kS k.enc.length).length+k.enc.length<=1000000000000:=by have h:=HB.out;rw [<-hl.out,E.out]at h;simp only [List.length_append]at h;omega
      have hg9:=zi k.enc.length
      have htb:(jY t).length=1:=by unfold jY;rw [iF hb255]<;>rfl
      rw [htb]at hlen
      have T:=iH (show jY t= [ofI t]by unfold jY;rw [iF hb255])
      have d255:decide (t>255)=false:=decide_eq_false hb255
      clear ec htb hb255
      go_wp2_with(first
       |(go_at_call 179;refine(Hc.out _).mono ?_;rintro e w' ⟨rfl,rfl⟩)
       |(go_at_call 166;refine(ih k _ _ hkn Hkid.out (by omega)).mono ?_;rintro e w1 ⟨cv,rfl,hcv,hbw⟩;obtain⟨ca,cc,rfl⟩:=hcv.form2;have H1:=iH (yJ Hown.out Hbel.out hcv hbw);have z1:=H1.out.size;have q1:=H1.out.tagc;clear hcv hbw)
       |(at_builtin;(with_reducible refine jw rfl (.tmp 31) (.tmp 35) rfl w.heap.size (.slice oa l.length oc) l rfl H1.out.own (ofI t) _ w1.heap.size rfl rfl (by omega) z1 ?_);intro v3 w3 hgr;obtain⟨l3,E3,k3⟩:=xi (l++ [ofI t]) (l.length+1) (by simp);rw [E3.out]at hgr;have H3:=iH (H1.out.grew hgr);obtain⟨a3,c3,rfl⟩:=H3.out.form;have z3:=H3.out.size;have q3:=H3.out.tagc;clear hgr)
       |(go_at_call 181;refine(qz k.enc.length (by omega) _).mono ?_;rintro e w4 ⟨lv,rfl,hlv,hb4⟩;obtain⟨la,lc,rfl⟩:=hlv.form2;have H4:=iH (H3.out.call hb4);have Hlv:=iH hlv;have z4:=H4.out.size;have q4:=H4.out.tagc;clear hlv hb4)
       |(at_builtin;(with_reducible refine j9 rfl (.tmp 37) (.tmp 40) rfl w.heap.size (.slice a3 l3.length c3) l3 rfl H4.out.own la (kS k.enc.length).length lc (kS k.enc.length) _ rfl Hlv.out (by omega) z4 ?_);intro v5 w5 hgr;obtain⟨l5,E5,k5⟩:=xi (l3++kS k.enc.length) (l3.length+(kS k.enc.length).length) (by simp);rw [E5.out]at hgr;have H5:=iH (H4.out.grew hgr);obtain⟨a5,c5,rfl⟩:=H5.out.form;have z5:=H5.out.size;have q5:=H5.out.tagc;clear hgr)
       |(at_builtin;(with_reducible refine j9 rfl (.tmp 42) (.tmp 43) rfl w.heap.size (.slice a5 l5.length c5) l5 rfl H5.out.own ca k.enc.length cc k.enc _ rfl H5.out.bes (by omega) z5 ?_);intro v6 w6 hgr;obtain⟨l6,E6,k6⟩:=xi (l5++k.enc) (l5.length+k.enc.length) (by simp);rw [E6.out]at hgr;have H6:=iH (H5.out.grew hgr);clear hgr))
      go_roundg r.len
      case measure=>simp [Ns.len]
      case rel=>
       obtain⟨g1,g2,g3,_,_⟩:=H6.out
       refine⟨r,j+1,_,rfl,by omega,by go_num,?_,by omega,?_,g1,g3⟩
       ·have e:=hl.out
        rw [E.out,T.out]at e
        show _=_
        rw [<-e,<-E6.out,<-E5.out,<-E3.out]
        simp only [List.append_assoc,List.cons_append,List.nil_append]
       ·rw [Nat.add_mul,<-Nat.add_assoc]
        exact H10.out w6 g3
    |false=>
     rw [ec]at Hc
     by_cases hb255:255<t
     ·skip
      have E:=iH (kL t v k r v (by rw [ec]<;>rfl))
      have hlen:l.length+(jY t).length+(kS v.length).length+v.length<=1000000000000:=by have h:=HB.out;rw [<-hl.out,E.out]at h;simp only [List.length_append]at h;omega
      have hg9:=zi v.length
      have htb:(jY t).length=2:=by unfold jY;rw [iT hb255]<;>rfl
      rw [htb]at hlen
      have T:=iH (show jY t= [ofI (t / 256),ofI t]by unfold jY;rw [iT hb255])
      have d255:decide (t>255)=true:=decide_eq_true hb255
      clear ec htb hb255
      have H1:=iH (yK Hown.out Hbel.out H4x.out (.cells #[.int .i64 t,.slice xa v.length xc,.slice ka k.len kc] 66))
      have z1:=H1.out.size;have q1:=H1.out.tagc
      go_wp2_with(first
       |(go_at_call 179;refine(Hc.out _).mono ?_;rintro e w' ⟨rfl,rfl⟩)
       |(at_builtin;(with_reducible refine jw rfl (.tmp 24) (.tmp 29) rfl w.heap.size (.slice oa l.length oc) l rfl H1.out.own (ofI (t / 256)) _ (wr.heap.size+1) rfl (by simp) (by omega) z1 ?_);intro v2 w2 hgr;obtain⟨l2,E2,k2⟩:=xi (l++ [ofI (t / 256)]) (l.length+1) (by simp);rw [E2.out]at hgr;have H2:=iH (H1.out.grew hgr);obtain⟨a2,c2,rfl⟩:=H2.out.form;have z2:=H2.out.size;have q2:=H2.out.tagc;clear hgr)
       |(at_builtin;(with_reducible refine jw rfl (.tmp 31) (.tmp 35) rfl w.heap.size (.slice a2 l2.length c2) l2 rfl H2.out.own (ofI t) _ w2.heap.size rfl rfl (by omega) z2 ?_);intro v3 w3 hgr;obtain⟨l3,E3,k3⟩:=xi (l2++ [ofI t]) (l2.length+1) (by simp);rw [E3.out]at hgr;have H3:=iH (H2.out.grew hgr);obtain⟨a3,c3,rfl⟩:=H3.out.form;have z3:=H3.out.size;have q3:=H3.out.tagc;clear hgr)
       |(go_at_call 181;refine(qz v.length (by omega) _).mono ?_;rintro e w4 ⟨lv,rfl,hlv,hb4⟩;obtain⟨la,lc,rfl⟩:=hlv.form2;have H4:=iH (H3.out.call hb4);have Hlv:=iH hlv;have z4:=H4.out.size;have q4:=H4.out.tagc;clear hlv hb4)
       |(at_builtin;(with_reducible refine j9 rfl (.tmp 37) (.tmp 40) rfl w.heap.size (.slice a3 l3.length c3) l3 rfl H4.out.own la (kS v.length).length lc (kS v.length) _ rfl Hlv.out (by omega) z4 ?_);intro v5 w5 hgr;obtain⟨l5,E5,k5⟩:=xi (l3++kS v.length) (l3.length+(kS v.length).length) (by simp);rw [E5.out]at hgr;have H5:=iH (H4.out.grew hgr);obtain⟨a5,c5,rfl⟩:=H5.out.form;have z5:=H5.out.size;have q5:=H5.out.tagc;clear hgr)
       |(at_builtin;(with_reducible refine j9 rfl (.tmp 42) (.tmp 43) rfl w.heap.size (.slice a5 l5.length c5) l5 rfl H5.out.own xa v.length xc v _ rfl H5.out.bes (by omega) z5 ?_);intro v6 w6 hgr;obtain⟨l6,E6,k6⟩:=xi (l5++v) (l5.length+v.length) (by simp);rw [E6.out]at hgr;have H6:=iH (H5.out.grew hgr);clear hgr))
      go_roundg r.len
      case measure=>simp [Ns.len]
      case rel=>
       obtain⟨g1,g2,g3,_,_⟩:=H6.out
       refine⟨r,j+1,_,rfl,by omega,by go_num,?_,by omega,?_,g1,g3⟩
       ·have e:=hl.out
        rw [E.out,T.out]at e
        show _=_
        rw [<-e,<-E6.out,<-E5.out,<-E3.out,<-E2.out]
        simp only [List.append_assoc,List.cons_append,List.nil_append]
       ·rw [Nat.add_mul,<-Nat.add_assoc]
        exact H10.out w6 g3
     ·skip
      have E:=iH (kL t v k r v (by rw [ec]<;>rfl))
      have hlen:l.length+(jY t).length+(kS v.length).length+v.length<=1000000000000:=by have h:=HB.out;rw [<-hl.out,E.out]at h;simp only [List.length_append]at h;omega
      have hg9:=zi v.length
      have htb:(jY t).length=1:=by unfold jY;rw [iF hb255]<;>rfl
      rw [htb]at hlen
      have T:=iH (show jY t= [ofI t]by unfold jY;rw [iF hb255])
      have d255:decide (t>255)=false:=decide_eq_false hb255
      clear ec htb hb255
      have H1:=iH (yK Hown.out Hbel.out H4x.out (.cells #[.int .i64 t,.slice xa v.length xc,.slice ka k.len kc] 66))
      have z1:=H1.out.size;have q1:=H1.out.tagc
      go_wp2_with(first
       |(go_at_call 179;refine(Hc.out _).mono ?_;rintro e w' ⟨rfl,rfl⟩)
       |(at_builtin;(with_reducible refine jw rfl (.tmp 31) (.tmp 35) rfl w.heap.size (.slice oa l.length oc) l rfl H1.out.own (ofI t) _ (wr.heap.size+1) rfl (by simp) (by omega) z1 ?_);intro v3 w3 hgr;obtain⟨l3,E3,k3⟩:=xi (l++ [ofI t]) (l.length+1) (by simp);rw [E3.out]at hgr;have H3:=iH (H1.out.grew hgr);obtain⟨a3,c3,rfl⟩:=H3.out.form;have z3:=H3.out.size;have q3:=H3.out.tagc;clear hgr)
       |(go_at_call 181;refine(qz v.length (by omega) _).mono ?_;rintro e w4 ⟨lv,rfl,hlv,hb4⟩;obtain⟨la,lc,rfl⟩:=hlv.form2;have H4:=iH (H3.out.call hb4);have Hlv:=iH hlv;have z4:=H4.out.size;have q4:=H4.out.tagc;clear hlv hb4)
       |(at_builtin;(with_reducible refine j9 rfl (.tmp 37) (.tmp 40) rfl w.heap.size (.slice a3 l3.length c3) l3 rfl H4.out.own la (kS v.length).length lc (kS v.length) _ rfl Hlv.out (by omega) z4 ?_);intro v5 w5 hgr;obtain⟨l5,E5,k5⟩:=xi (l3++kS v.length) (l3.length+(kS v.length).length) (by simp);rw [E5.out]at hgr;have H5:=iH (H4.out.grew hgr);obtain⟨a5,c5,rfl⟩:=H5.out.form;have z5:=H5.out.size;have q5:=H5.out.tagc;clear hgr)
       |(at_builtin;(with_reducible refine j9 rfl (.tmp 42) (.tmp 43) rfl w.heap.size (.slice a5 l5.length c5) l5 rfl H5.out.own xa v.length xc v _ rfl H5.out.bes (by omega) z5 ?_);intro v6 w6 hgr;obtain⟨l6,E6,k6⟩:=xi (l5++v) (l5.length+v.length) (by simp);rw [E6.out]at hgr;have H6:=iH (H5.out.grew hgr);clear hgr))
      go_roundg r.len
      case measure=>simp [Ns.len]
      case rel=>
       obtain⟨g1,g2,g3,_,_⟩:=H6.out
       refine⟨r,j+1,_,rfl,by omega,by go_num,?_,by omega,?_,g1,g3⟩
       ·have e:=hl.out
        rw [E.out,T.out]at e
        show _=_
        rw [<-e,<-E6.out,<-E5.out,<-E3.out]
        simp only [List.append_assoc,List.cons_append,List.nil_append]
       ·rw [Nat.add_mul,<-Nat.add_assoc]
        exact H10.out w6 g3
def Vs{α:Type}:Except Int α->Int
 |.error e=>e
 |.ok _=>0
def bytesOf:Except Int (List UInt8)->List UInt8
 |.error _=>[]
 |.ok l=>l
def BytesOut(r:Except Int (List UInt8))(w:World)(e:Ending)(w':World):Prop:=
 ∃v',e=.returned (.tuple #[v',.int .i64 (Vs r)])/\BsS w' (New w w') v' (bytesOf r)/\Below w.heap.size w w'
theorem BytesOut.no{w w':World}{r:Except Int (List UInt8)}{e:Int}(hr:r=.error e)(hb:Below w.heap.size w w'):BytesOut r w (.returned (.tuple #[.slice none 0 0,.int .i64 e])) w':=by
 subst hr
 exact⟨_,rfl,⟨none,0,rfl,by simp [bytesOf],by simp,by simp [bytesOf],by simp [bytesOf]⟩,hb⟩
theorem BytesOut.yes{w w':World}{r:Except Int (List UInt8)}{l:List UInt8}{v:Value}(hr:r=.ok l)(hv:BsS w' (New w w') v l)(hb:Below w.heap.size w w'):BytesOut r w (.returned (.tuple #[v,.int .i64 0])) w':=by
 subst hr
 exact⟨_,rfl,hv,hb⟩
theorem yt(L:Ns)(v:Value)(w:World)(hv:NsS w (·<w.heap.size) v L)(ha:L.all<=100000000000)(hl:L.enc.length<=1000000000000):
 Calls Tryz.prog 134 #[v] w (BytesOut (Ky L) w):=by
 have hv2:NsS (w.alloc (.cells #[.int .i64 0] 3)) (fun b=>b<(w.alloc (.cells #[.int .i64 0] 3)).heap.size/\b≠w.heap.size) v L:=
  hv.keep fun b hs hl=>⟨Below.heap_alloc _ _ _ hl,by simp;omega,by omega⟩
 have hc:=Zo L.all L v 1 0 w.heap.size (w.alloc (.cells #[.int .i64 0] 3)) iL hv2 (by omega) (by omega) (by omega) (iN)
 by_cases h1:L.chk 1=0
 ·rw [h1]at hc
  have Hc:=iH hc;have Hv:=iH hv
  obtain⟨a,c,rfl,hx⟩:=hv
  have Hw:∀w',(w.alloc (.cells #[.int .i64 0] 3)).grownBy w' (some w.heap.size)->Hid (Calls Tryz.prog 166 #[.slice a L.len c] w' fun e w''=>∃v',e=.returned v'/\BsS w'' (New w' w'') v' L.enc/\Below w'.heap.size w' w''):=fun w' hg=>
   YK L.all L (.slice a L.len c) w' iL (Hv.out.keep fun b hs hl=>⟨(hg.block b (by simp;omega) (by intro e;injection e;omega)).trans (Below.heap_alloc _ _ _ hl),by have:=hg.size;simp at this;omega⟩) hl
  have hB:∀w',(w.alloc (.cells #[.int .i64 0] 3)).grownBy w' (some w.heap.size)->Below w.heap.size w w':=fun w' hg=>
   (iA).trans (j6 hg (by simp) iL)
  have HB:=iH hB
  clear hc hv2 hx hB
  by_cases h2:256<L.all
  ·have E:Hid (Ky L=.error 2):=by unfold Ky;rw [iF (by simpa using h1),iT h2]<;>rfl
   clear h1 Hw
   go_enter Tryz.func134,Tryz.ntmps134
   go_wp2_with(go_at_call 165;refine Hc.out.mono ?_;rintro e w1 ⟨rfl,⟨⟨cc,hb,hcc⟩,hg⟩⟩;have hcd:=hcc rfl;clear hcc;obtain rfl:cc=(L.all:Int):=(by omega);clear hcd;have Hg:=iH hg;have c1:=hb.cell;clear hg hb)
   go_ret2
   exact BytesOut.no E.out (HB.out _ Hg.out)
  ·by_cases h3:4096<L.enc.length
   ·have E:Hid (Ky L=.error 2):=by unfold Ky;rw [iF (by simpa using h1),iF h2,iT h3]<;>rfl
    clear h1
    go_enter Tryz.func134,Tryz.ntmps134
    go_wp2_with(first|(go_at_call 165;refine Hc.out.mono ?_;rintro e w1 ⟨rfl,⟨⟨cc,hb,hcc⟩,hg⟩⟩;have hcd:=hcc rfl;clear hcc;obtain rfl:cc=(L.all:Int):=(by omega);clear hcd;have Hg:=iH hg;have c1:=hb.cell;clear hg hb)|(go_at_call 166;refine(Hw _ Hg.out).out.mono ?_;rintro e w2 ⟨v2,rfl,hv2,hb2⟩;obtain⟨a2,c2,rfl⟩:=hv2.form2;have Hv2:=iH hv2;have Hb2:=iH hb2;clear hv2 hb2))
    go_ret2
    exact BytesOut.no E.out ((HB.out _ Hg.out).trans (Hb2.out.mono (HB.out _ Hg.out).size))
   ·have E:Hid (Ky L=.ok L.enc):=by unfold Ky;rw [iF (by simpa using h1),iF h2,iF h3]<;>rfl
    clear h1
    go_enter Tryz.func134,Tryz.ntmps134
    go_wp2_with(first|(go_at_call 165;refine Hc.out.mono ?_;rintro e w1 ⟨rfl,⟨⟨cc,hb,hcc⟩,hg⟩⟩;have hcd:=hcc rfl;clear hcc;obtain rfl:cc=(L.all:Int):=(by omega);clear hcd;have Hg:=iH hg;have c1:=hb.cell;clear hg hb)|(go_at_call 166;refine(Hw _ Hg.out).out.mono ?_;rintro e w2 ⟨v2,rfl,hv2,hb2⟩;obtain⟨a2,c2,rfl⟩:=hv2.form2;have Hv2:=iH hv2;have Hb2:=iH hb2;clear hv2 hb2))
    go_ret2
    exact BytesOut.yes E.out (Hv2.out.keep fun b hs _=>⟨rfl,Nat.le_trans (HB.out _ Hg.out).size hs.1,hs.2⟩) ((HB.out _ Hg.out).trans (Hb2.out.mono (HB.out _ Hg.out).size))
 ·have Hc:=iH hc
  have E:Hid (Ky L=.error (L.chk 1)):=by unfold Ky;rw [iT h1]<;>rfl
  have n0:((L.chk 1) != 0)=true:=by simp [h1]
  obtain⟨a,c,rfl,hx⟩:=hv
  clear hx hv2 hc h1
  go_enter Tryz.func134,Tryz.ntmps134
  go_wp2_with(go_at_call 165;refine Hc.out.mono ?_;rintro e w1 ⟨rfl,⟨_,hg⟩⟩;have Hg:=iH hg;clear hg)
  go_ret2
  exact BytesOut.no E.out ((iA).trans (j6 Hg.out (by simp) iL))
theorem Y5(n b:Nat)(hn:n<1099511627776)(hb:b<256):bits .or .i64 ((n:Int)*256) (b:Int)=(n:Int)*256+b:=by
 have h1:(BitVec.ofInt 64 ((n*256:Nat):Int)).toNat=n*256:=by
  rw [BitVec.ofInt_natCast,BitVec.toNat_ofNat];exact Nat.mod_eq_of_lt (by omega)
 have h2:(BitVec.ofInt 64 (b:Int)).toNat=b:=by
  rw [BitVec.ofInt_natCast,BitVec.toNat_ofNat];exact Nat.mod_eq_of_lt (by omega)
 have h3:n*256 ||| b=n*256+b:=by
  have:=Nat.two_pow_add_eq_or_of_lt (i:=8) (b:=b) (by omega) n
  rw [Nat.mul_comm]at this
  exact this.symm
 have e:(n:Int)*256=((n*256:Nat):Int):=by omega
 rw [e]
 show IntKind.i64.wrap ((BitVec.ofInt 64 ((n*256:Nat):Int) ||| BitVec.ofInt 64 (b:Int)).toNat:Int)=_
 rw [BitVec.toNat_or,h1,h2,h3,IntKind.wrap_i64]
 omega
def rst(B:List UInt8)(a e:Nat):List UInt8:=(B.take e).drop a
theorem jd{B:List UInt8}{a e:Nat}(h:e<=B.length):(rst B a e).length=e - a:=by simp [rst];omega
theorem xQ{B:List UInt8}{a e j:Nat}(h:e<=B.length)(hj:a+j<e):gb (rst B a e) j=gb B (a+j):=by
 have h1:a+j<B.length:=by omega
 unfold gb rst
 rw [List.getD_eq_getElem?_getD,List.getD_eq_getElem?_getD,List.getElem?_drop,List.getElem?_take,iT hj]
theorem jo(B:List UInt8)(a e k:Nat):(rst B a e).drop k=rst B (a+k) e:=by simp [rst,List.drop_drop]
theorem xu(B:List UInt8)(a e n:Nat)(h:a+n<=e):(rst B a e).take n=rst B a (a+n):=by
 unfold rst
 rw [List.take_drop,List.take_take,Nat.min_eq_left h]
abbrev Rd(w:World)(p:Nat)(bv:Value)(at_:Nat)(st:Bool)(cnt:Nat):Prop:=w.heap[p]?=some (.cells #[bv,.int .i64 at_,.bool st,.int .i64 cnt] 173 (0,0))
theorem Rd.lt{w:World}{p:Nat}{bv:Value}{a:Nat}{st:Bool}{c:Nat}(h:Rd w p bv a st c):p<w.heap.size:=(iG h)
theorem Rd.c0{w:World}{p:Nat}{bv:Value}{a:Nat}{st:Bool}{c:Nat}(h:Rd w p bv a st c):w.cell? ⟨p,0,none⟩=some bv:=by rw [cell_of_row _ _ _ _ _ _ h]<;>rfl
theorem Rd.c1{w:World}{p:Nat}{bv:Value}{a:Nat}{st:Bool}{c:Nat}(h:Rd w p bv a st c):w.cell? ⟨p,1,none⟩=some (.int .i64 a):=by rw [cell_of_row _ _ _ _ _ _ h]<;>rfl
theorem Rd.c2{w:World}{p:Nat}{bv:Value}{a:Nat}{st:Bool}{c:Nat}(h:Rd w p bv a st c):w.cell? ⟨p,2,none⟩=some (.bool st):=by rw [cell_of_row _ _ _ _ _ _ h]<;>rfl
theorem Rd.c3{w:World}{p:Nat}{bv:Value}{a:Nat}{st:Bool}{c:Nat}(h:Rd w p bv a st c):w.cell? ⟨p,3,none⟩=some (.int .i64 c):=by rw [cell_of_row _ _ _ _ _ _ h]<;>rfl
theorem Rd.fr{w:World}{p:Nat}{bv:Value}{a:Nat}{st:Bool}{c:Nat}(h:Rd w p bv a st c)(o:Nat):w.frozen? ⟨p,o,none⟩=false:=by simp [World.frozen?,h]
theorem qp{w:World}{g i:Nat}{cs:Array Value}{t:TypeId}(h:w.heap[g]?=some (.cells cs t (0,0))) (v:Value):(w.setCell ⟨g,i,none⟩ v).heap[g]?=some (.cells (cs.setIfInBounds i v) t (0,0)):=by
 have hlt:g<w.heap.size:=(iG h)
 have h':w.heap[g]=.cells cs t (0,0):=by simpa [Array.getElem?_eq_getElem hlt]using h
 show(w.heap.modify g _)[g]?=_
 rw [Array.getElem?_eq_getElem (by simpa using hlt),Array.getElem_modify_self,h']
 rfl
theorem Rd.at_{w:World}{p:Nat}{bv:Value}{a:Nat}{st:Bool}{c:Nat}(h:Rd w p bv a st c)(n:Nat)(z:Int)(hz:z=n):Rd (w.setCell ⟨p,1,none⟩ (.int .i64 z)) p bv n st c:=by
 subst hz;exact qp h _
theorem Rd.cnt{w:World}{p:Nat}{bv:Value}{a:Nat}{st:Bool}{c:Nat}(h:Rd w p bv a st c)(n:Nat)(z:Int)(hz:z=n):Rd (w.setCell ⟨p,3,none⟩ (.int .i64 z)) p bv a st n:=by
 subst hz;exact qp h _
theorem Rd.drewN{w:World}{p:Nat}{bv:Value}{a:Nat}{st:Bool}{c:Nat}(h:Rd w p bv a st c)(n:Nat):Rd (w.drewN n) p bv a st c:=h
def j1x:Except Int (Int×Nat)->Int
 |.error _=>0
 |.ok x=>x.1
def NumOut(r:Except Int (Int×Nat))(w:World)(p:Nat)(bv:Value)(a:Nat)(st:Bool)(c:Nat)(e:Ending)(w':World):Prop:=
 e=.returned (.tuple #[.int .i64 (j1x r),.int .i64 (Vs r)])/\(∃a',Rd w' p bv a' st c/\∀x,r=.ok x->a'=a+x.2)/\w.grownBy w' (some p)
theorem NumOut.no{w w':World}{p:Nat}{bv:Value}{a:Nat}{st:Bool}{c:Nat}{r:Except Int (Int×Nat)}{er:Int}(hr:r=.error er)(a':Nat)(h:Rd w' p bv a' st c)(hg:w.grownBy w' (some p)):
 NumOut r w p bv a st c (.returned (.tuple #[.int .i64 0,.int .i64 er])) w':=by
 subst hr;exact⟨rfl,⟨a',h,fun x hx=>by cases hx⟩,hg⟩
theorem NumOut.yes{w w':World}{p:Nat}{bv:Value}{a:Nat}{st:Bool}{c:Nat}{r:Except Int (Int×Nat)}{n:Int}{k:Nat}(hr:r=.ok (n,k))(h:Rd w' p bv (a+k) st c)(hg:w.grownBy w' (some p)):
 NumOut r w p bv a st c (.returned (.tuple #[.int .i64 n,.int .i64 0])) w':=by
 subst hr;exact⟨rfl,⟨_,h,fun x hx=>by injection hx with hx;subst hx;rfl⟩,hg⟩
theorem BsS.cellAt{w:World}{S:Nat->Prop}{A:Option Addr}{n k:Nat}{l:List UInt8}(h:BsS w S (.slice A n k) l){b off:Nat}(hA:A=some ⟨b,off,none⟩){j:Nat}(hj:j<l.length):w.cell? ⟨b,off+j,none⟩=some (U8 (gb l j)):=by
 obtain⟨a,c,hv,_,_,_,h4⟩:=h
 injection hv with e _ _
 obtain⟨b',off',e',_,hc⟩:=h4 (by omega)
 rw [<-e,hA]at e'
 injection e' with e'
 injection e' with e1 e2 _
 rw [e1,e2]
 exact hc j hj
theorem Jv(B:List UInt8)(bb bo bc p a e cnt:Nat)(st:Bool)(w:World)(hB:BsS w (·≠p) (.slice (some ⟨bb,bo,none⟩) B.length bc) B)(he:e<=B.length)(hr:Rd w p (.slice (some ⟨bb,bo,none⟩) B.length bc) a st cnt)(ha:a<=e):
 Calls Tryz.prog 187 #[.pointer (some ⟨p,0,none⟩),.int .i64 e] w (NumOut (qI (rst B a e)) w p (.slice (some ⟨bb,bo,none⟩) B.length bc) a st cnt):=by
 have c0:=hr.c0;have c1:=hr.c1
 have hfz:=hr.fr 1
 have hlen:=hB.len
 have HR:=iH hr;have HB:=iH hB
 clear hr hB
 by_cases h0:a=e
 ·subst h0
  have E:Hid (qI (rst B a a)=.error 6):=by unfold qI;rw [iT (by rw [jd he];omega)]<;>rfl
  go_enter Tryz.func187,Tryz.ntmps187
  go_wp2_with fail
  go_ret2
  exact NumOut.no E.out _ HR.out (World.grownBy.refl w _)
 ·have hlt:a<e:=by omega
  have d0:decide ((a:Int)>=e)=false:=by simp;omega
  have hl:a<B.length:=by omega
  have q1:=HB.out.cellAt rfl hl
  have b1:(0:Int)<=a:=by omega
  have b2:(a:Int)<B.length:=by omega
  have g0:gb (rst B a e) 0=gb B a:=xQ he (by omega)
  have L:=iH (fun w=>J9 (bv (gb B a)) (jz _) (by have:=jC (gb B a);omega) w)
  have V:=iH (fun t ht w=>zV t ht w)
  by_cases h1:bv (gb B a) % 32=31
  ·have h1':(bv (gb B a) % 32==31)=true:=by simpa using h1
   rw [h1']at L
   by_cases h2:a+1=e
   ·have E:Hid (qI (rst B a e)=.error 6):=by unfold qI;rw [iF (by rw [jd he];omega),g0,iT h1,iT (by rw [jd he];omega)]<;>rfl
    have h2:e=a+1:=h2.symm
    subst h2
    clear h0 h1 h1' g0
    go_enter Tryz.func187,Tryz.ntmps187
    go_wp2_with fail
    go_quiet (fail)
    go_wp2_with(go_at_call 193;refine(L.out _).mono ?_;rintro e w' ⟨rfl,rfl⟩)
    go_ret2
    exact NumOut.no E.out _ ((HR.out.drewN nq).at_ (a+1) _ (by omega)) (j5 (jf (World.grownBy.refl w _) nq) (.inl rfl) _)
   ·have hlt2:a+1<e:=by omega
    have hl2:a+1<B.length:=by omega
    have q2:=HB.out.cellAt rfl hl2
    have hbp:bb≠p:=by
     obtain⟨_,_,hv,_,_,_,h4⟩:=HB.out
     obtain⟨_,_,e1,e2,_⟩:=h4 (by omega)
     injection hv with e3 _ _
     rw [<-e3]at e1
     injection e1 with e1
     injection e1 with e1 _ _
     rw [e1];exact e2
    have g1:gb (rst B a e) 1=gb B (a+1):=xQ he (by omega)
    obtain⟨x,hx⟩:∃x:Nat,x=(gb B a).toNat:=⟨_,rfl⟩
    obtain⟨y,hy⟩:∃y:Nat,y=(gb B (a+1)).toNat:=⟨_,rfl⟩
    have ex:bv (gb B a)=x:=by rw [hx]<;>rfl
    have ey:bv (gb B (a+1))=y:=by rw [hy]<;>rfl
    have hxl:x<256:=by rw [hx];exact UInt8.toNat_lt _
    have hyl:y<256:=by rw [hy];exact UInt8.toNat_lt _
    have o1:=Y5 x y (by omega) hyl
    have E:Hid (qI (rst B a e)=if xy ((x:Int)*256+y)=true then .ok ((x:Int)*256+y,2)else .error 4):=by
     unfold qI;rw [iF (by rw [jd he];omega),g0,g1,iT h1,iF (by rw [jd he];omega),ex,ey,Int.mul_comm]<;>rfl
    change w.cell? _=some (.int .u8 (bv (gb B a)))at q1
    change w.cell? _=some (.int .u8 (bv (gb B (a+1))))at q2
    rw [ex]at L q1
    rw [ey]at q2
    clear h0 h1 h1' g0 hx hy h2 ex ey g1
    go_enter Tryz.func187,Tryz.ntmps187
    go_wp2_with fail
    go_quiet (fail)
    go_wp2_with(go_at_call 193;refine(L.out _).mono ?_;rintro e w' ⟨rfl,rfl⟩)
    have HR1:=iH ((HR.out.drewN nq).at_ (a+1) ((a:Int)+1) (by omega))
    have HG1:=iH (j5 (jf (World.grownBy.refl w (some p)) nq) (.inl rfl) (p:=⟨p,1,none⟩) (.int .i64 ((a:Int)+1)))
    have q3:((w.drewN nq).setCell ⟨p,1,none⟩ (.int .i64 ((a:Int)+1))).cell? ⟨bb,bo+(a+1),none⟩=some (.int .u8 y):=(World.cell?_of_block (w:=w) (by rw [iO hbp]<;>rfl)).trans q2
    obtain⟨w1,hw1⟩:∃w1,w1=(w.drewN nq).setCell ⟨p,1,none⟩ (.int .i64 ((a:Int)+1)):=⟨_,rfl⟩
    rw [<-hw1]at HR1 HG1 q3 |-
    clear q2 c0 c1 hfz q1 hw1 L
    have c0:=HR1.out.c0
    have c1:=HR1.out.c1
    have hfz:=HR1.out.fr 1
    have b3:(0:Int)<=(a:Int)+1:=by omega
    have b4:(a:Int)+1<B.length:=by omega
    have V:=iH (fun w=>V.out ((x:Int)*256+y) ⟨by omega,by omega⟩ w)
    cases et:xy ((x:Int)*256+y)with
    |false=>
     have E:Hid (qI (rst B a e)=.error 4):=by rw [E.out,iF (by rw [et];decide)]<;>rfl
     rw [et]at V
     clear et
     go_quiet (fail)
     go_wp2_with(go_at_call 180;refine(V.out _).mono ?_;rintro e w' ⟨rfl,rfl⟩)
     go_ret2
     exact NumOut.no E.out _ ((HR1.out.drewN nq).at_ (a+1+1) _ (by omega)) (j5 (jf HG1.out nq) (.inl rfl) _)
    |true=>
     have E:Hid (qI (rst B a e)=.ok ((x:Int)*256+y,2)):=by rw [E.out,iT et]<;>rfl
     rw [et]at V
     clear et
     go_quiet (fail)
     go_wp2_with(go_at_call 180;refine(V.out _).mono ?_;rintro e w' ⟨rfl,rfl⟩)
     go_ret2
     exact NumOut.yes E.out ((HR1.out.drewN nq).at_ (a+2) _ (by omega)) (j5 (jf HG1.out nq) (.inl rfl) _)
  ·have h1':(bv (gb B a) % 32==31)=false:=by simpa using h1
   rw [h1']at L
   have V:=iH (fun w=>V.out (bv (gb B a)) ⟨by have:=jz (gb B a);omega,by have:=jC (gb B a);omega⟩ w)
   cases et:xy (bv (gb B a))with
   |false=>
    have E:Hid (qI (rst B a e)=.error 4):=by unfold qI;rw [iF (by rw [jd he];omega),g0,iF h1,iF (by rw [et];decide)]<;>rfl
    rw [et]at V
    clear h0 h1 h1' g0 et
    go_enter Tryz.func187,Tryz.ntmps187
    go_wp2_with fail
    go_quiet (fail)
    go_wp2_with(first|(go_at_call 193;refine(L.out _).mono ?_;rintro e w' ⟨rfl,rfl⟩)|(go_at_call 180;refine(V.out _).mono ?_;rintro e w' ⟨rfl,rfl⟩))
    go_ret2
    exact NumOut.no E.out _ ((HR.out.drewN nq).at_ (a+1) _ (by omega)) (j5 (jf (World.grownBy.refl w _) nq) (.inl rfl) _)
   |true=>
    have E:Hid (qI (rst B a e)=.ok (bv (gb B a),1)):=by unfold qI;rw [iF (by rw [jd he];omega),g0,iF h1,iT et]<;>rfl
    rw [et]at V
    clear h0 h1 h1' g0 et
    go_enter Tryz.func187,Tryz.ntmps187
    go_wp2_with fail
    go_quiet (fail)
    go_wp2_with(first|(go_at_call 193;refine(L.out _).mono ?_;rintro e w' ⟨rfl,rfl⟩)|(go_at_call 180;refine(V.out _).mono ?_;rintro e w' ⟨rfl,rfl⟩))
    go_ret2
    exact NumOut.yes E.out ((HR.out.drewN nq).at_ (a+1) _ (by omega)) (j5 (jf (World.grownBy.refl w _) nq) (.inl rfl) _)
end Go.Proofs.YtalmmiojbmpmiaaGreatDoor
