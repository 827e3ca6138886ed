/- Layer 2: the walks of the reference's check and Count; Layer 2: the walk of the reference's Count; Layer 2: the walk of the reference's raw; Layer 2: the ref... -/
import Derived.Test.YtalmmiojbmpmiaaGreatDoorPBm
set_option linter.all false
set_option maxRecDepth 100000
set_option maxHeartbeats 4000000
namespace Go.Proofs.YtalmmiojbmpmiaaGreatDoor
open Go.RowKit Go.Deep
theorem NsAt.below{w w':World}{S:Nat->Prop}{l:Ns}{b off:Nat}(h:NsAt w S l b off)(hs:S b)(hl:b<w.heap.size)(hb:Below w.heap.size w w'):NsAt w' S l b off:=
 NsAt.keep (fun i hi hl=>⟨hb.block i hl,hi⟩) l b off hs hl h
theorem NsS.below{w w':World}{S:Nat->Prop}{v:Value}{l:Ns}(h:NsS w S v l)(hb:Below w.heap.size w w'):NsS w' S v l:=
 h.keep fun b hs hl=>⟨hb.block b hl,hs⟩
theorem UC(w:World)(x y z:Value)(t:TypeId):(w.alloc (.cells #[x,y,z] t)).cell? ⟨w.heap.size,0,none⟩=some x/\(w.alloc (.cells #[x,y,z] t)).cell? ⟨w.heap.size,1,none⟩=some y/\(w.alloc (.cells #[x,y,z] t)).cell? ⟨w.heap.size,2,none⟩=some z:=by
 refine⟨?_,?_,?_⟩<;>(rw [cell_of_row _ _ _ _ _ _ (iN)]<;>rfl)
theorem UP(n:Nat):∀(L:Ns) (v:Value) (d:Nat) (S:Nat->Prop) (w:World),L.all<=n->NsS w S v L->d<=9->
 Calls Tryz.prog 184 #[v,.int .i64 d] w fun e w'=>e=.returned (.int .i64 (L.chk d))/\Below w.heap.size w w':=by
 induction n using Nat.strongRecOn with
 |ind n ih=>
  intro L v d S w hn hv hd
  obtain⟨a,cap,rfl,hlc,hcap,hlen,hcells⟩:=hv
  have hcap':cap<=9223372036854775807:=hcap
  obtain⟨b,off,hb⟩:∃b off,Hid (0<L.len->a=some ⟨b,off,none⟩/\(S b/\b<w.heap.size)/\NsAt w S L b off):=by
   rcases Nat.eq_zero_or_pos L.len with h0|h0
   ·exact⟨0,0,fun h=>by omega⟩
   ·obtain⟨b,off,h1,h2,h3,h4⟩:=hcells h0
    exact⟨b,off,fun _=>⟨h1,⟨h2,h3⟩,h4⟩⟩
  clear hcells hcap
  go_enter Tryz.func184,Tryz.ntmps184
  go_wp2_with fail
  go_loopg [5] L.len (fun m i wr=>∃(R:Ns) (j:Nat),R.len=m/\j+R.len=L.len/\i=.int .i64 j/\Hid (R.chk d=L.chk d)/\R.all<=n/\
   NsAt wr S R b (off+j*3)/\Below w.heap.size w wr)
  case atStart=>
   exact⟨L,0,rfl,by omega,rfl,rfl,hn,by rw [Nat.zero_mul,Nat.add_zero];exact NsAt.zero hb.out,Below.refl _ _⟩
  case round=>
   obtain⟨R,j,rfl,hj,rfl,hchk,hRn,hat,hg⟩:=hrel
   cases R with
   |nil=>
    simp only [Ns.len,Nat.add_zero]at hj
    subst hj
    have e:Hid (L.chk d=0):=hchk.out.symm
    have Hg:=iH hg
    clear hchk hat hg
    go_wp2_with fail
    go_ret
    exact⟨by rw [e.out]<;>rfl,Hg.out⟩
   |cons t v k r=>
    obtain⟨h1,h2,⟨x,h3,h4⟩,⟨ka,kc,h5,h6,h7,h8x,h9⟩,h10⟩:=hat
    simp only [Ns.len]at hj
    simp only [Ns.all]at hRn
    have hlt:(j:Int)<L.len:=by omega
    obtain⟨rfl,⟨hbS,hbl⟩,_⟩:=hb.out (by omega)
    have hbl':b<wr.heap.size:=iZ hbl hg.size
    obtain⟨xa,xc,rfl⟩:=h4.form2
    have hA:Below w.heap.size w (wr.alloc (.cells #[.int .i64 t,.slice xa v.length xc,.slice ka k.len kc] 66)):=hg.alloc hg.size _
    have hB:Below wr.heap.size wr (wr.alloc (.cells #[.int .i64 t,.slice xa v.length xc,.slice ka k.len kc] 66)):=iA
    obtain⟨n0,n1,n2⟩:=UC wr (.int .i64 t) (.slice xa v.length xc) (.slice ka k.len kc) 66
    have hK:=ih k.all (by omega) k (.slice ka k.len kc) (d+1) S _ iL (NsS.below (w:=wr) ⟨ka,kc,rfl,h6,h7,h8x,h9⟩ hB)
    rw [show((d+1:Nat):Int)=(d:Int)+1 from rfl]at hK
    have H10:Hid (∀w2,Below (wr.alloc (.cells #[.int .i64 t,.slice xa v.length xc,.slice ka k.len kc] 66)).heap.size (wr.alloc (.cells #[.int .i64 t,.slice xa v.length xc,.slice ka k.len kc] 66)) w2->NsAt w2 S r b (off+j*3+3)/\Below w.heap.size w w2):=
     fun w2 h=>⟨(h10.below hbS hbl' hB).below hbS (by simp;omega) h,hA.trans (h.mono hA.size)⟩
    have HA:=iH hA;have HK:=iH hK
    have Hv:=fun w=>iH (yC t h2 w)
    have Hc:=fun w=>iH (y4 t h2 w)
    clear h4 h9 h10 hg hA hB hK ih
    cases et:xu t with
    |false=>
     rw [et]at Hv
     have E:Hid (L.chk d=4):=by rw [<-hchk.out,Ns.chk,iT et]<;>rfl
     clear et hchk
     go_wp2_with(first|(go_at_call 169;refine(Hv _).out.mono ?_;rintro e w' ⟨rfl,rfl⟩)|(go_at_call 143;refine(Hc _).out.mono ?_;rintro e w' ⟨rfl,rfl⟩))
     go_ret
     exact⟨by rw [E.out]<;>rfl,HA.out⟩
    |true=>
     rw [et]at Hv
     by_cases hf:(kr t=false/\0<k.len)\/(kr t=true/\0<v.length)
     ·have E:Hid (L.chk d=1):=by rw [<-hchk.out,Ns.chk,iF (by rw [et];decide),iT hf]<;>rfl
      clear et hchk
      rcases hf with ⟨ec,hk⟩|⟨ec,hk⟩
      ·rw [ec]at Hc
       have hk':decide ((k.len:Int)>0)=true:=by simpa using hk
       clear ec
       go_wp2_with(first|(go_at_call 169;refine(Hv _).out.mono ?_;rintro e w' ⟨rfl,rfl⟩)|(go_at_call 143;refine(Hc _).out.mono ?_;rintro e w' ⟨rfl,rfl⟩))
       go_ret
       exact⟨by rw [E.out]<;>rfl,HA.out⟩
      ·rw [ec]at Hc
       have hk':decide ((v.length:Int)>0)=true:=by simpa using hk
       clear ec
       go_wp2_with(first|(go_at_call 169;refine(Hv _).out.mono ?_;rintro e w' ⟨rfl,rfl⟩)|(go_at_call 143;refine(Hc _).out.mono ?_;rintro e w' ⟨rfl,rfl⟩))
       go_ret
       exact⟨by rw [E.out]<;>rfl,HA.out⟩
     ·have B:=zN t v k r d et hf
      rw [hchk.out]at B
      by_cases h8:8<d
      ·have E:Hid (L.chk d=7):=by rw [B,iT h8]<;>rfl
       clear B et hchk
       cases ec:kr t with
       |false=>
        rw [ec]at Hc
        have hk:¬0<k.len:=fun h=>hf (.inl ⟨ec,h⟩)
        clear ec hf
        go_wp2_with(first|(go_at_call 169;refine(Hv _).out.mono ?_;rintro e w' ⟨rfl,rfl⟩)|(go_at_call 143;refine(Hc _).out.mono ?_;rintro e w' ⟨rfl,rfl⟩))
        go_ret
        exact⟨by rw [E.out]<;>rfl,HA.out⟩
       |true=>
        rw [ec]at Hc
        have hk:¬0<v.length:=fun h=>hf (.inr ⟨ec,h⟩)
        clear ec hf
        go_wp2_with(first|(go_at_call 169;refine(Hv _).out.mono ?_;rintro e w' ⟨rfl,rfl⟩)|(go_at_call 143;refine(Hc _).out.mono ?_;rintro e w' ⟨rfl,rfl⟩))
        go_ret
        exact⟨by rw [E.out]<;>rfl,HA.out⟩
      ·rw [iF h8]at B
       by_cases hk0:k.chk (d+1)=0
       ·rw [iT hk0]at B
        rw [hk0]at HK
        have B:=iH B
        clear et hchk hk0
        cases ec:kr t with
        |false=>
         rw [ec]at Hc
         have hk:¬0<k.len:=fun h=>hf (.inl ⟨ec,h⟩)
         clear ec hf
         go_wp2_with(first|(go_at_call 169;refine(Hv _).out.mono ?_;rintro e w' ⟨rfl,rfl⟩)|(go_at_call 143;refine(Hc _).out.mono ?_;rintro e w' ⟨rfl,rfl⟩)|(go_at_call 184;refine(HK.out (by omega)).mono ?_;rintro e w2 ⟨rfl,hbw⟩;have HW:=iH hbw;clear hbw))
         go_roundg r.len
         case measure=>simp [Ns.len]
         case rel=>
          obtain⟨g1,g2⟩:=H10.out _ HW.out
          exact⟨r,j+1,rfl,by omega,by go_num,B.out.symm,by omega,by rw [Nat.add_mul,<-Nat.add_assoc];exact g1,g2⟩
        |true=>
         rw [ec]at Hc
         have hk:¬0<v.length:=fun h=>hf (.inr ⟨ec,h⟩)
         clear ec hf
         go_wp2_with(first|(go_at_call 169;refine(Hv _).out.mono ?_;rintro e w' ⟨rfl,rfl⟩)|(go_at_call 143;refine(Hc _).out.mono ?_;rintro e w' ⟨rfl,rfl⟩)|(go_at_call 184;refine(HK.out (by omega)).mono ?_;rintro e w2 ⟨rfl,hbw⟩;have HW:=iH hbw;clear hbw))
         go_roundg r.len
         case measure=>simp [Ns.len]
         case rel=>
          obtain⟨g1,g2⟩:=H10.out _ HW.out
          exact⟨r,j+1,rfl,by omega,by go_num,B.out.symm,by omega,by rw [Nat.add_mul,<-Nat.add_assoc];exact g1,g2⟩
       ·rw [iF hk0]at B
        have e0:((k.chk (d+1)) != 0)=true:=by simp [hk0]
        have B:=iH B
        clear et hchk hk0
        cases ec:kr t with
        |false=>
         rw [ec]at Hc
         have hk:¬0<k.len:=fun h=>hf (.inl ⟨ec,h⟩)
         clear ec hf
         go_wp2_with(first|(go_at_call 169;refine(Hv _).out.mono ?_;rintro e w' ⟨rfl,rfl⟩)|(go_at_call 143;refine(Hc _).out.mono ?_;rintro e w' ⟨rfl,rfl⟩)|(go_at_call 184;refine(HK.out (by omega)).mono ?_;rintro e w2 ⟨rfl,hbw⟩;have HW:=iH hbw;clear hbw))
         go_ret
         exact⟨by rw [B.out]<;>rfl,(H10.out _ HW.out).2⟩
        |true=>
         rw [ec]at Hc
         have hk:¬0<v.length:=fun h=>hf (.inr ⟨ec,h⟩)
         clear ec hf
         go_wp2_with(first|(go_at_call 169;refine(Hv _).out.mono ?_;rintro e w' ⟨rfl,rfl⟩)|(go_at_call 143;refine(Hc _).out.mono ?_;rintro e w' ⟨rfl,rfl⟩)|(go_at_call 184;refine(HK.out (by omega)).mono ?_;rintro e w2 ⟨rfl,hbw⟩;have HW:=iH hbw;clear hbw))
         go_ret
         exact⟨by rw [B.out]<;>rfl,(H10.out _ HW.out).2⟩
def Ns.cnt:Ns->Nat->Nat
 |.nil,n=>n
 |.cons _ _ k r,n=>if n<=256 then r.cnt (n+(1+k.cnt 0))else n
theorem Ns.cnt_le(l:Ns):∀n,l.cnt n<=n+l.all:=by
 induction l with
 |nil=>intro n;simp [Ns.cnt,Ns.all]
 |cons t v k r ihk ihr=>
  intro n
  simp only [Ns.cnt,Ns.all]
  split
  ·have h1:=ihr (n+(1+k.cnt 0));have h2:=ihk 0;omega
  ·omega
theorem Ns.cnt_ge(l:Ns):∀n,n<=l.cnt n:=by
 induction l with
 |nil=>intro n;simp [Ns.cnt]
 |cons t v k r ihk ihr=>
  intro n
  simp only [Ns.cnt]
  split
  ·have h1:=ihr (n+(1+k.cnt 0));omega
  ·omega
theorem Ns.cnt_all(l:Ns):∀n,(n+l.all<=256->l.cnt n=n+l.all)/\(256<n+l.all->256<l.cnt n):=by
 induction l with
 |nil=>intro n;simp [Ns.cnt,Ns.all]
 |cons t v k r ihk ihr=>
  intro n
  simp only [Ns.cnt,Ns.all]
  obtain⟨a1,a2⟩:=ihk 0
  obtain⟨b1,b2⟩:=ihr (n+(1+k.cnt 0))
  have c1:=r.cnt_ge (n+(1+k.cnt 0))
  split
  ·refine⟨fun h=> ?_,fun h=> ?_⟩
   ·have:=a1 (by omega);rw [b1 (by omega)];omega
   ·rcases Nat.lt_or_ge 256 (0+k.all)with h'|h'
    ·have:=a2 h';omega
    ·have:=a1 h';exact b2 (by omega)
  ·exact⟨fun h=>by omega,fun h=>by omega⟩
theorem VA(n:Nat):∀(L:Ns) (v:Value) (S:Nat->Prop) (w:World),L.all<=n->n<=100000000000->NsS w S v L->
 Calls Tryz.prog 185 #[v,.int .i64 256] w fun e w'=>e=.returned (.int .i64 (L.cnt 0))/\w'=w:=by
 induction n using Nat.strongRecOn with
 |ind n ih=>
  intro L v S w hn hn2 hv
  obtain⟨a,cap,rfl,hlc,hcap,hlen,hcells⟩:=hv
  have hcap':cap<=9223372036854775807:=hcap
  obtain⟨b,off,hb⟩:∃b off,Hid (0<L.len->a=some ⟨b,off,none⟩/\(S b/\b<w.heap.size)/\NsAt w S L b off):=by
   rcases Nat.eq_zero_or_pos L.len with h0|h0
   ·exact⟨0,0,fun h=>by omega⟩
   ·obtain⟨b,off,h1,h2,h3,h4⟩:=hcells h0
    exact⟨b,off,fun _=>⟨h1,⟨h2,h3⟩,h4⟩⟩
  clear hcells hcap
  go_enter Tryz.func185,Tryz.ntmps185
  go_wp2_with fail
  go_loopg [5,6] L.len (fun m c i wr=>∃(R:Ns) (j q:Nat),R.len=m/\j+R.len=L.len/\i=.int .i64 j/\c=.int .i64 q/\Hid (R.cnt q=L.cnt 0)/\q+R.all<=L.all/\NsAt w S R b (off+j*3)/\wr=w)
  case atStart=>
   exact⟨L,0,0,rfl,by omega,rfl,rfl,rfl,by omega,by rw [Nat.zero_mul,Nat.add_zero];exact NsAt.zero hb.out,rfl⟩
  case round=>
   obtain⟨R,j,q,rfl,hj,rfl,rfl,hcnt,hRn,hat,rfl⟩:=hrel
   cases R with
   |nil=>
    simp only [Ns.len,Nat.add_zero]at hj
    subst hj
    have e:Hid (L.cnt 0=q):=hcnt.out.symm
    clear hcnt hat ih
    go_wp2_with fail
    go_ret
    exact⟨by rw [e.out]<;>rfl,rfl⟩
   |cons t v k r=>
    obtain⟨h1,h2,⟨x,h3,h4⟩,⟨ka,kc,h5,h6,h7,h8x,h9⟩,h10⟩:=hat
    simp only [Ns.len]at hj
    simp only [Ns.all]at hRn
    have hlt:(j:Int)<L.len:=by omega
    obtain⟨rfl,⟨hbS,hbl⟩,_⟩:=hb.out (by omega)
    have hK:=ih k.all (by omega) k (.slice ka k.len kc) S wr iL (by omega) ⟨ka,kc,rfl,h6,h7,h8x,h9⟩
    have hkc:=k.cnt_le 0
    have H10:=iH h10;have HK:=iH hK
    clear h4 h9 h10 hK ih
    by_cases hq:q<=256
    ·have B:Hid (r.cnt (q+(1+k.cnt 0))=L.cnt 0):=by show _=_;rw [<-hcnt.out,Ns.cnt,iT hq]
     clear hcnt
     go_wp2_with(go_at_call 185;refine HK.out.mono ?_;rintro e w2 ⟨rfl,rfl⟩)
     go_roundg r.len
     case measure=>simp [Ns.len]
     case rel=>
      exact⟨r,j+1,q+(1+k.cnt 0),rfl,by omega,by go_num,by go_num,B.out,by omega,by rw [Nat.add_mul,<-Nat.add_assoc];exact H10.out,rfl⟩
    ·have B:Hid (L.cnt 0=q):=by show _=_;rw [<-hcnt.out,Ns.cnt,iF hq]
     clear hcnt
     go_wp2_with fail
     go_ret
     exact⟨by rw [B.out]<;>rfl,rfl⟩
def j42(c:List UInt8):List UInt8:=if 4096<c.length then c.take 4097 else c
theorem zQ{c:List UInt8}(h:4096<c.length):j42 c=c.take 4097:=iT h
theorem Jz{c:List UInt8}(h:¬4096<c.length):j42 c=c:=iF h
def Ns.raw:Ns->List UInt8->List UInt8
 |.nil,o=>o
 |.cons t v k r,o=>if o.length<=4096 then r.raw (o++ki t++qM (j42 (if kr t then k.raw []else v)).length++j42 (if kr t then k.raw []else v))else o
theorem qC(t:Int)(v:List UInt8)(k r:Ns)(o c d:List UInt8)(h:o.length<=4096)(hc:(if kr t then k.raw []else v)=c)(hd:j42 c=d):(Ns.cons t v k r).raw o=r.raw (o++ki t++qM d.length++d):=by
 subst hd;subst hc;rw [Ns.raw,iT h]
theorem YQ(t:Int)(v:List UInt8)(k r:Ns)(o:List UInt8)(h:¬o.length<=4096):(Ns.cons t v k r).raw o=o:=by
 rw [Ns.raw,iF h]
theorem qP(n:Nat):(qM n).length<=3:=by
 unfold qM;split
 ·simp
 ·split<;>simp
section
variable{w:World}{S:Nat->Prop}{A:Option Addr}{n c:Nat}{l:List UInt8}(h:BsS w S (.slice A n c) l)
include w S A n c l h
theorem BsS.head(k:Nat)(hk:k<=l.length):BsS w S (.slice A k c) (l.take k):=by
 obtain⟨a,c',hv,h1,h2,h3,h4⟩:=h
 injection hv with e1 e2 e3
 subst e1 e2 e3
 have hl:(l.take k).length=k:=by simp;omega
 refine⟨A,c,by rw [hl],by omega,h2,by omega,fun hp=> ?_⟩
 rw [hl]at hp
 obtain⟨b,off,ha,hb,hcell⟩:=h4 (by omega)
 refine⟨b,off,ha,hb,fun j hj=> ?_⟩
 rw [hl]at hj
 rw [hcell j (by omega)]
 congr 2
 unfold gb
 rw [List.getD_eq_getElem?_getD,List.getD_eq_getElem?_getD,List.getElem?_take,iT hj]
theorem BsS.capLe:l.length<=c/\c<=9223372036854775807:=by
 obtain⟨a,c',hv,h1,h2,h3,h4⟩:=h
 injection hv with e1 e2 e3
 subst e1 e2 e3
 exact⟨h1,h2⟩
end
theorem Ji{w wr:World}{oa xa:Option Addr}{oc xc:Nat}{l v:List UInt8}{b:Nat}{x:Obj}(ho:OwnB wr w.heap.size (.slice oa l.length oc) l)(hb:Below w.heap.size w wr)(hx:BsS w (·<w.heap.size) (.slice xa v.length xc) v)(hbl:b<w.heap.size)(hbx:w.heap[b]?=some x):WSt w wr (.slice oa l.length oc) l (.slice xa v.length xc) v b x:=
 ⟨ho,Beside.old (Bs.below hx hb) ho,hb,(hb.block _ hbl).trans hbx,fun e=>by have:=(ho.lt _ e).1;omega⟩
theorem Jh{w wr w1:World}{oa ca:Option Addr}{oc cc:Nat}{l c:List UInt8}{b:Nat}{x:Obj}(ho:OwnB wr w.heap.size (.slice oa l.length oc) l)(hb:Below w.heap.size w wr)(hc:BsS w1 (New wr w1) (.slice ca c.length cc) c)(hbw:Below wr.heap.size wr w1)(hbl:b<w.heap.size)(hbx:w.heap[b]?=some x):WSt w w1 (.slice oa l.length oc) l (.slice ca c.length cc) c b x:=
 ⟨kT ho hbw,Beside.new hc ho,hb.trans (hbw.mono hb.size),((hbw.mono hb.size).block _ hbl).trans ((hb.block _ hbl).trans hbx),fun e=>by have:=(ho.lt _ e).1;omega⟩
theorem WSt.cut{w wi:World}{o:Value}{ca:Option Addr}{cc:Nat}{l c:List UInt8}{X:Nat}{x:Obj}(h:WSt w wi o l (.slice ca c.length cc) c X x)(hc:4096<c.length):WSt w wi o l (.slice ca 4097 cc) (c.take 4097) X x:=
 ⟨h.1,BsS.head h.2.1 4097 (by omega),h.2.2⟩
theorem WSt.old{w wi:World}{o cv:Value}{l c:List UInt8}{X:Nat}{x:Obj}(h:WSt w wi o l cv c X x){p:Addr}{u:Value}(hp:p.block<w.heap.size)(hu:w.cell? p=some u):wi.cell? p=some u:=(h.2.2.1.cell hp).trans hu
theorem j5k(n:Nat):∀(L:Ns) (v:Value) (w:World),L.all<=n->NsS w (·<w.heap.size) v L->
 Calls Tryz.prog 186 #[v] w fun e w'=>∃v',e=.returned v'/\BsS w' (New w w') v' (L.raw [])/\Below w.heap.size w w':=by
 induction n using Nat.strongRecOn with
 |ind n ih=>
  intro L v w hn hv
  obtain⟨a,cap,rfl,hlc,hcap,hlen,hcells⟩:=hv
  have hcap':cap<=9223372036854775807:=hcap
  obtain⟨b,off,hb⟩:∃b off,Hid (0<L.len->a=some ⟨b,off,none⟩/\b<w.heap.size/\NsAt w (·<w.heap.size) L b off):=by
   rcases Nat.eq_zero_or_pos L.len with h0|h0
   ·exact⟨0,0,fun h=>by omega⟩
   ·obtain⟨b,off,h1,h2,h3,h4⟩:=hcells h0
    exact⟨b,off,fun _=>⟨h1,h2,h4⟩⟩
  clear hcells hcap
  go_enter Tryz.func186,Tryz.ntmps186
  go_wp2_with fail
  go_loopg [3,4] L.len (fun m o i wr=>∃(R:Ns) (j:Nat) (l:List UInt8),R.len=m/\j+R.len=L.len/\i=.int .i64 j/\Hid (R.raw l=L.raw [])/\R.all<=n/\
   NsAt w (·<w.heap.size) R b (off+j*3)/\OwnB wr w.heap.size o l/\l.length<=10000/\Below w.heap.size w wr)
  case atStart=>
   exact⟨L,0,[],rfl,by omega,rfl,rfl,hn,by rw [Nat.zero_mul,Nat.add_zero];exact NsAt.zero hb.out,OwnB.nil _ _,by simp,Below.refl _ _⟩
  case round=>
   obtain⟨R,j,l,rfl,hj,rfl,hl,hRn,hat,hown,hl5,hbel⟩:=hrel
   obtain⟨oa,oc,rfl⟩:=hown.form
   cases R with
   |nil=>
    simp only [Ns.len,Nat.add_zero]at hj
    subst hj
    have hl:Hid (L.raw []=l):=hl.out.symm
    have Hown:=iH hown;have Hbel:=iH hbel;clear hown hbel hat ih
    go_wp2_with fail
    go_ret
    rw [hl.out]
    exact⟨_,rfl,Hown.out.out (by omega) w iL,Hbel.out⟩
   |cons t v k r=>
    obtain⟨h1,h2,⟨x,h3,h4⟩,⟨ka,kc,h5,h6,h7,h8x,h9⟩,h10⟩:=hat
    simp only [Ns.len]at hj
    simp only [Ns.all]at hRn
    have hlt:(j:Int)<L.len:=by omega
    obtain⟨rfl,hbl,_⟩:=hb.out (by omega)
    by_cases hl4:l.length<=4096
    ·obtain⟨xa,xc,rfl⟩:=h4.form2
     have hz:=hbel.size
     have hkid:NsS wr (·<wr.heap.size) (.slice ka k.len kc) k:=
      NsS.keep (w:=w) (S:=(·<w.heap.size)) ⟨ka,kc,rfl,h6,h7,h8x,h9⟩ (fun b hs hl=>⟨hbel.block b hl,by omega⟩)
     obtain⟨bx,hbx⟩:∃x,w.heap[b]?=some x:=⟨_,Array.getElem?_eq_getElem hbl⟩
     have q0:wr.cell? ⟨b,off+j*3,none⟩=some (.int .i64 t):=(hbel.cell hbl).trans h1
     have q1:wr.cell? ⟨b,off+j*3+1,none⟩=some (.slice xa v.length xc):=(hbel.cell hbl).trans h3
     have q2:wr.cell? ⟨b,off+j*3+2,none⟩=some (.slice ka k.len kc):=(hbel.cell hbl).trans h5
     have Hc:=iH (y4 t h2)
     have HK:=iH (ih k.all (by omega) k (.slice ka k.len kc) wr iL hkid)
     have H4x:=iH h4;have Hown:=iH hown;have Hbel:=iH hbel;have H10:=iH h10;have HX:=iH hbx
     have C1:=iH h1
     clear hkid h4 h9 h10 hown hbel hbx ih h1 h3 h5
     cases ec:kr t with
     |true=>
      rw [ec]at Hc
      by_cases hb255:255<t
      ·by_cases hcut:4096<(k.raw []).length
       ·skip
        obtain⟨c,HC⟩:∃c,Hid (k.raw []=c):=⟨_,rfl⟩
        rw [HC.out]at hcut HK
        have E:=qC t v k r l c _ hl4 (by rw [ec];exact HC.out) rfl
        rw [hl.out]at E
        rw [zQ hcut,show(c.take 4097).length=4097 by rw [List.length_take];omega]at E
        obtain⟨d,HD⟩:∃d,Hid (c.take 4097=d):=⟨_,rfl⟩
        rw [HD.out]at E
        have hd:d.length=4097:=by rw [<-HD.out,List.length_take];omega
        have hcut2:(4096:Int)<(c.length:Int):=by omega
        have E:=iH E
        have hg3:=qP 4097
        have T:=iH (show ki t= [ofI (t / 256),ofI t]by unfold ki;rw [iT hb255])
        have d255:decide (t>255)=true:=decide_eq_true hb255
        clear ec hb255 hl
        go_wp2_with(first
         |(go_at_call 143;refine(Hc.out _).mono ?_;rintro e w9 ⟨rfl,hw9⟩;rw [hw9];clear hw9 w9)
         |(go_at_call 186;refine HK.out.mono ?_;rintro e w1 ⟨cv,rfl,hcv,hbw⟩;obtain⟨ca,cc,rfl⟩:=hcv.form2;obtain⟨hcc1,hcc2⟩:=BsS.capLe hcv;have H1:Hid (WSt w w1 (.slice oa l.length oc) l (.slice ca 4097 cc) d b bx):=(by rw [<-HD.out];exact(Jh Hown.out Hbel.out hcv hbw hbl HX.out).cut hcut);have z1:=H1.out.size;have p1:=H1.out.old (p:=⟨b,off+j*3,none⟩) hbl C1.out;clear hcv hbw)
         |(at_builtin;(with_reducible refine ji rfl (.tmp 40) (.tmp 48) rfl w.heap.size (.slice oa l.length oc) l rfl H1.out.own (ofI (t / 256)) _ w1.heap.size rfl rfl (by omega) z1 ?_);intro v2 w2 hgr;obtain⟨l2,E2,k2⟩:=k7 (l++ [ofI (t / 256)]) (l.length+1) (by simp);rw [E2.out]at hgr;have H2:=iH (H1.out.grew hgr);obtain⟨a2,c2,rfl⟩:=H2.out.form;have z2:=H2.out.size;have p2:=H2.out.old (p:=⟨b,off+j*3,none⟩) hbl C1.out;clear hgr)
         |(at_builtin;(with_reducible refine ji rfl (.tmp 50) (.tmp 57) rfl w.heap.size (.slice a2 l2.length c2) l2 rfl H2.out.own (ofI t) _ w2.heap.size rfl rfl (by omega) z2 ?_);intro v3 w3 hgr;obtain⟨l3,E3,k3⟩:=k7 (l2++ [ofI t]) (l2.length+1) (by simp);rw [E3.out]at hgr;have H3:=iH (H2.out.grew hgr);obtain⟨a3,c3,rfl⟩:=H3.out.form;have z3:=H3.out.size;have p3:=H3.out.old (p:=⟨b,off+j*3,none⟩) hbl C1.out;clear hgr)
         |(go_at_call 195;refine(kJ 4097 (by omega) _).mono ?_;rintro e w4 ⟨lv,rfl,hlv,hb4⟩;obtain⟨la,lc,rfl⟩:=hlv.form2;have H4:=iH (H3.out.call hb4);have Hlv:=iH hlv;have z4:=H4.out.size;clear hlv hb4)
         |(at_builtin;(with_reducible refine j5 rfl (.tmp 64) (.tmp 67) rfl w.heap.size (.slice a3 l3.length c3) l3 rfl H4.out.own la (qM 4097).length lc (qM 4097) _ rfl Hlv.out (by omega) z4 ?_);intro v5 w5 hgr;obtain⟨l5,E5,k5⟩:=k7 (l3++qM 4097) (l3.length+(qM 4097).length) (by simp);rw [E5.out]at hgr;have H5:=iH (H4.out.grew hgr);obtain⟨a5,c5,rfl⟩:=H5.out.form;have z5:=H5.out.size;clear hgr)
         |(at_builtin;(with_reducible refine j5 rfl (.tmp 69) (.tmp 70) rfl w.heap.size (.slice a5 l5.length c5) l5 rfl H5.out.own ca 4097 cc d _ rfl H5.out.bes (by omega) z5 ?_);intro v6 w6 hgr;obtain⟨l6,E6,k6⟩:=k7 (l5++d) (l5.length+d.length) (by simp);rw [E6.out]at hgr;have H6:=iH (H5.out.grew hgr);clear hgr))
        go_roundg r.len
        case measure=>simp [Ns.len]
        case rel=>
         obtain⟨g1,g2,g3,_,_⟩:=H6.out
         refine⟨r,j+1,_,rfl,by omega,by go_num,?_,by omega,by rw [Nat.add_mul,<-Nat.add_assoc];exact H10.out,g1,by omega,g3⟩
         have e:=E.out
         rw [T.out]at e
         show _=_
         rw [e,<-E6.out,<-E5.out,<-E3.out,<-E2.out]
         try simp only [List.append_assoc,List.cons_append,List.nil_append]
       ·skip
        obtain⟨c,HC⟩:∃c,Hid (k.raw []=c):=⟨_,rfl⟩
        rw [HC.out]at hcut HK
        have E:=qC t v k r l c _ hl4 (by rw [ec];exact HC.out) rfl
        rw [hl.out]at E
        rw [Jz hcut]at E
        have E:=iH E
        have hg3:=qP c.length
        have T:=iH (show ki t= [ofI (t / 256),ofI t]by unfold ki;rw [iT hb255])
        have d255:decide (t>255)=true:=decide_eq_true hb255
        clear ec hb255 hl
        go_wp2_with(first
         |(go_at_call 143;refine(Hc.out _).mono ?_;rintro e w9 ⟨rfl,hw9⟩;rw [hw9];clear hw9 w9)
         |(go_at_call 186;refine HK.out.mono ?_;rintro e w1 ⟨cv,rfl,hcv,hbw⟩;obtain⟨ca,cc,rfl⟩:=hcv.form2;obtain⟨hcc1,hcc2⟩:=BsS.capLe hcv;have H1:=iH (Jh Hown.out Hbel.out hcv hbw hbl HX.out);have z1:=H1.out.size;have p1:=H1.out.old (p:=⟨b,off+j*3,none⟩) hbl C1.out;clear hcv hbw)
         |(at_builtin;(with_reducible refine ji rfl (.tmp 40) (.tmp 48) rfl w.heap.size (.slice oa l.length oc) l rfl H1.out.own (ofI (t / 256)) _ w1.heap.size rfl rfl (by omega) z1 ?_);intro v2 w2 hgr;obtain⟨l2,E2,k2⟩:=k7 (l++ [ofI (t / 256)]) (l.length+1) (by simp);rw [E2.out]at hgr;have H2:=iH (H1.out.grew hgr);obtain⟨a2,c2,rfl⟩:=H2.out.form;have z2:=H2.out.size;have p2:=H2.out.old (p:=⟨b,off+j*3,none⟩) hbl C1.out;clear hgr)
         |(at_builtin;(with_reducible refine ji rfl (.tmp 50) (.tmp 57) rfl w.heap.size (.slice a2 l2.length c2) l2 rfl H2.out.own (ofI t) _ w2.heap.size rfl rfl (by omega) z2 ?_);intro v3 w3 hgr;obtain⟨l3,E3,k3⟩:=k7 (l2++ [ofI t]) (l2.length+1) (by simp);rw [E3.out]at hgr;have H3:=iH (H2.out.grew hgr);obtain⟨a3,c3,rfl⟩:=H3.out.form;have z3:=H3.out.size;have p3:=H3.out.old (p:=⟨b,off+j*3,none⟩) hbl C1.out;clear hgr)
         |(go_at_call 195;refine(kJ c.length (by omega) _).mono ?_;rintro e w4 ⟨lv,rfl,hlv,hb4⟩;obtain⟨la,lc,rfl⟩:=hlv.form2;have H4:=iH (H3.out.call hb4);have Hlv:=iH hlv;have z4:=H4.out.size;clear hlv hb4)
         |(at_builtin;(with_reducible refine j5 rfl (.tmp 64) (.tmp 67) rfl w.heap.size (.slice a3 l3.length c3) l3 rfl H4.out.own la (qM c.length).length lc (qM c.length) _ rfl Hlv.out (by omega) z4 ?_);intro v5 w5 hgr;obtain⟨l5,E5,k5⟩:=k7 (l3++qM c.length) (l3.length+(qM c.length).length) (by simp);rw [E5.out]at hgr;have H5:=iH (H4.out.grew hgr);obtain⟨a5,c5,rfl⟩:=H5.out.form;have z5:=H5.out.size;clear hgr)
         |(at_builtin;(with_reducible refine j5 rfl (.tmp 69) (.tmp 70) rfl w.heap.size (.slice a5 l5.length c5) l5 rfl H5.out.own ca c.length cc c _ rfl H5.out.bes (by omega) z5 ?_);intro v6 w6 hgr;obtain⟨l6,E6,k6⟩:=k7 (l5++c) (l5.length+c.length) (by simp);rw [E6.out]at hgr;have H6:=iH (H5.out.grew hgr);clear hgr))
        go_roundg r.len
        case measure=>simp [Ns.len]
        case rel=>
         obtain⟨g1,g2,g3,_,_⟩:=H6.out
         refine⟨r,j+1,_,rfl,by omega,by go_num,?_,by omega,by rw [Nat.add_mul,<-Nat.add_assoc];exact H10.out,g1,by omega,g3⟩
         have e:=E.out
         rw [T.out]at e
         show _=_
         rw [e,<-E6.out,<-E5.out,<-E3.out,<-E2.out]
         try simp only [List.append_assoc,List.cons_append,List.nil_append]
      ·by_cases hcut:4096<(k.raw []).length
       ·skip
        obtain⟨c,HC⟩:∃c,Hid (k.raw []=c):=⟨_,rfl⟩
        rw [HC.out]at hcut HK
        have E:=qC t v k r l c _ hl4 (by rw [ec];exact HC.out) rfl
        rw [hl.out]at E
        rw [zQ hcut,show(c.take 4097).length=4097 by rw [List.length_take];omega]at E
        obtain⟨d,HD⟩:∃d,Hid (c.take 4097=d):=⟨_,rfl⟩
        rw [HD.out]at E
        have hd:d.length=4097:=by rw [<-HD.out,List.length_take];omega
        have hcut2:(4096:Int)<(c.length:Int):=by omega
        have E:=iH E
        have hg3:=qP 4097
        have T:=iH (show ki t= [ofI t]by unfold ki;rw [iF hb255])
        have d255:decide (t>255)=false:=decide_eq_false hb255
        clear ec hb255 hl
        go_wp2_with(first
         |(go_at_call 143;refine(Hc.out _).mono ?_;rintro e w9 ⟨rfl,hw9⟩;rw [hw9];clear hw9 w9)
         |(go_at_call 186;refine HK.out.mono ?_;rintro e w1 ⟨cv,rfl,hcv,hbw⟩;obtain⟨ca,cc,rfl⟩:=hcv.form2;obtain⟨hcc1,hcc2⟩:=BsS.capLe hcv;have H1:Hid (WSt w w1 (.slice oa l.length oc) l (.slice ca 4097 cc) d b bx):=(by rw [<-HD.out];exact(Jh Hown.out Hbel.out hcv hbw hbl HX.out).cut hcut);have z1:=H1.out.size;have p1:=H1.out.old (p:=⟨b,off+j*3,none⟩) hbl C1.out;clear hcv hbw)
         |(at_builtin;(with_reducible refine ji rfl (.tmp 50) (.tmp 57) rfl w.heap.size (.slice oa l.length oc) l rfl H1.out.own (ofI t) _ w1.heap.size rfl rfl (by omega) z1 ?_);intro v3 w3 hgr;obtain⟨l3,E3,k3⟩:=k7 (l++ [ofI t]) (l.length+1) (by simp);rw [E3.out]at hgr;have H3:=iH (H1.out.grew hgr);obtain⟨a3,c3,rfl⟩:=H3.out.form;have z3:=H3.out.size;have p3:=H3.out.old (p:=⟨b,off+j*3,none⟩) hbl C1.out;clear hgr)
         |(go_at_call 195;refine(kJ 4097 (by omega) _).mono ?_;rintro e w4 ⟨lv,rfl,hlv,hb4⟩;obtain⟨la,lc,rfl⟩:=hlv.form2;have H4:=iH (H3.out.call hb4);have Hlv:=iH hlv;have z4:=H4.out.size;clear hlv hb4)
         |(at_builtin;(with_reducible refine j5 rfl (.tmp 64) (.tmp 67) rfl w.heap.size (.slice a3 l3.length c3) l3 rfl H4.out.own la (qM 4097).length lc (qM 4097) _ rfl Hlv.out (by omega) z4 ?_);intro v5 w5 hgr;obtain⟨l5,E5,k5⟩:=k7 (l3++qM 4097) (l3.length+(qM 4097).length) (by simp);rw [E5.out]at hgr;have H5:=iH (H4.out.grew hgr);obtain⟨a5,c5,rfl⟩:=H5.out.form;have z5:=H5.out.size;clear hgr)
         |(at_builtin;(with_reducible refine j5 rfl (.tmp 69) (.tmp 70) rfl w.heap.size (.slice a5 l5.length c5) l5 rfl H5.out.own ca 4097 cc d _ rfl H5.out.bes (by omega) z5 ?_);intro v6 w6 hgr;obtain⟨l6,E6,k6⟩:=k7 (l5++d) (l5.length+d.length) (by simp);rw [E6.out]at hgr;have H6:=iH (H5.out.grew hgr);clear hgr))
        go_roundg r.len
        case measure=>simp [Ns.len]
        case rel=>
         obtain⟨g1,g2,g3,_,_⟩:=H6.out
         refine⟨r,j+1,_,rfl,by omega,by go_num,?_,by omega,by rw [Nat.add_mul,<-Nat.add_assoc];exact H10.out,g1,by omega,g3⟩
         have e:=E.out
         rw [T.out]at e
         show _=_
         rw [e,<-E6.out,<-E5.out,<-E3.out]
         try simp only [List.append_assoc,List.cons_append,List.nil_append]
       ·skip
        obtain⟨c,HC⟩:∃c,Hid (k.raw []=c):=⟨_,rfl⟩
        rw [HC.out]at hcut HK
        have E:=qC t v k r l c _ hl4 (by rw [ec];exact HC.out) rfl
        rw [hl.out]at E
        rw [Jz hcut]at E
        have E:=iH E
        have hg3:=qP c.length
        have T:=iH (show ki t= [ofI t]by unfold ki;rw [iF hb255])
        have d255:decide (t>255)=false:=decide_eq_false hb255
        clear ec hb255 hl
        go_wp2_with(first
         |(go_at_call 143;refine(Hc.out _).mono ?_;rintro e w9 ⟨rfl,hw9⟩;rw [hw9];clear hw9 w9)
         |(go_at_call 186;refine HK.out.mono ?_;rintro e w1 ⟨cv,rfl,hcv,hbw⟩;obtain⟨ca,cc,rfl⟩:=hcv.form2;obtain⟨hcc1,hcc2⟩:=BsS.capLe hcv;have H1:=iH (Jh Hown.out Hbel.out hcv hbw hbl HX.out);have z1:=H1.out.size;have p1:=H1.out.old (p:=⟨b,off+j*3,none⟩) hbl C1.out;clear hcv hbw)
         |(at_builtin;(with_reducible refine ji rfl (.tmp 50) (.tmp 57) rfl w.heap.size (.slice oa l.length oc) l rfl H1.out.own (ofI t) _ w1.heap.size rfl rfl (by omega) z1 ?_);intro v3 w3 hgr;obtain⟨l3,E3,k3⟩:=k7 (l++ [ofI t]) (l.length+1) (by simp);rw [E3.out]at hgr;have H3:=iH (H1.out.grew hgr);obtain⟨a3,c3,rfl⟩:=H3.out.form;have z3:=H3.out.size;have p3:=H3.out.old (p:=⟨b,off+j*3,none⟩) hbl C1.out;clear hgr)
         |(go_at_call 195;refine(kJ c.length (by omega) _).mono ?_;rintro e w4 ⟨lv,rfl,hlv,hb4⟩;obtain⟨la,lc,rfl⟩:=hlv.form2;have H4:=iH (H3.out.call hb4);have Hlv:=iH hlv;have z4:=H4.out.size;clear hlv hb4)
         |(at_builtin;(with_reducible refine j5 rfl (.tmp 64) (.tmp 67) rfl w.heap.size (.slice a3 l3.length c3) l3 rfl H4.out.own la (qM c.length).length lc (qM c.length) _ rfl Hlv.out (by omega) z4 ?_);intro v5 w5 hgr;obtain⟨l5,E5,k5⟩:=k7 (l3++qM c.length) (l3.length+(qM c.length).length) (by simp);rw [E5.out]at hgr;have H5:=iH (H4.out.grew hgr);obtain⟨a5,c5,rfl⟩:=H5.out.form;have z5:=H5.out.size;clear hgr)
         |(at_builtin;(with_reducible refine j5 rfl (.tmp 69) (.tmp 70) rfl w.heap.size (.slice a5 l5.length c5) l5 rfl H5.out.own ca c.length cc c _ rfl H5.out.bes (by omega) z5 ?_);intro v6 w6 hgr;obtain⟨l6,E6,k6⟩:=k7 (l5++c) (l5.length+c.length) (by simp);rw [E6.out]at hgr;have H6:=iH (H5.out.grew hgr);clear hgr))
        go_roundg r.len
        case measure=>simp [Ns.len]
        case rel=>
         obtain⟨g1,g2,g3,_,_⟩:=H6.out
         refine⟨r,j+1,_,rfl,by omega,by go_num,?_,by omega,by rw [Nat.add_mul,<-Nat.add_assoc];exact H10.out,g1,by omega,g3⟩
         have e:=E.out
         rw [T.out]at e
         show _=_
         rw [e,<-E6.out,<-E5.out,<-E3.out]
         try simp only [List.append_assoc,List.cons_append,List.nil_append]
     |false=>
      rw [ec]at Hc
      by_cases hb255:255<t
      ·by_cases hcut:4096<v.length
       ·skip
        have E:=qC t v k r l v _ hl4 (by rw [ec]<;>rfl) rfl
        rw [hl.out]at E
        rw [zQ hcut,show(v.take 4097).length=4097 by rw [List.length_take];omega]at E
        obtain⟨d,HD⟩:∃d,Hid (v.take 4097=d):=⟨_,rfl⟩
        rw [HD.out]at E
        have hd:d.length=4097:=by rw [<-HD.out,List.length_take];omega
        have hcut2:(4096:Int)<(v.length:Int):=by omega
        have E:=iH E
        have hg3:=qP 4097
        have T:=iH (show ki t= [ofI (t / 256),ofI t]by unfold ki;rw [iT hb255])
        have d255:decide (t>255)=true:=decide_eq_true hb255
        clear ec hb255 hl
        have H0:=iH (Ji Hown.out Hbel.out H4x.out hbl HX.out)
        obtain⟨hcc1,hcc2⟩:=BsS.capLe H4x.out
        have H1:Hid (WSt w wr (.slice oa l.length oc) l (.slice xa 4097 xc) d b bx):=by rw [<-HD.out];exact H0.out.cut hcut
        clear H0
        have z1:=H1.out.size
        go_wp2_with(first
         |(go_at_call 143;refine(Hc.out _).mono ?_;rintro e w9 ⟨rfl,hw9⟩;rw [hw9];clear hw9 w9)
         |(at_builtin;(with_reducible refine ji rfl (.tmp 40) (.tmp 48) rfl w.heap.size (.slice oa l.length oc) l rfl H1.out.own (ofI (t / 256)) _ wr.heap.size rfl rfl (by omega) z1 ?_);intro v2 w2 hgr;obtain⟨l2,E2,k2⟩:=k7 (l++ [ofI (t / 256)]) (l.length+1) (by simp);rw [E2.out]at hgr;have H2:=iH (H1.out.grew hgr);obtain⟨a2,c2,rfl⟩:=H2.out.form;have z2:=H2.out.size;have p2:=H2.out.old (p:=⟨b,off+j*3,none⟩) hbl C1.out;clear hgr)
         |(at_builtin;(with_reducible refine ji rfl (.tmp 50) (.tmp 57) rfl w.heap.size (.slice a2 l2.length c2) l2 rfl H2.out.own (ofI t) _ w2.heap.size rfl rfl (by omega) z2 ?_);intro v3 w3 hgr;obtain⟨l3,E3,k3⟩:=k7 (l2++ [ofI t]) (l2.length+1) (by simp);rw [E3.out]at hgr;have H3:=iH (H2.out.grew hgr);obtain⟨a3,c3,rfl⟩:=H3.out.form;have z3:=H3.out.size;have p3:=H3.out.old (p:=⟨b,off+j*3,none⟩) hbl C1.out;clear hgr)
         |(go_at_call 195;refine(kJ 4097 (by omega) _).mono ?_;rintro e w4 ⟨lv,rfl,hlv,hb4⟩;obtain⟨la,lc,rfl⟩:=hlv.form2;have H4:=iH (H3.out.call hb4);have Hlv:=iH hlv;have z4:=H4.out.size;clear hlv hb4)
         |(at_builtin;(with_reducible refine j5 rfl (.tmp 64) (.tmp 67) rfl w.heap.size (.slice a3 l3.length c3) l3 rfl H4.out.own la (qM 4097).length lc (qM 4097) _ rfl Hlv.out (by omega) z4 ?_);intro v5 w5 hgr;obtain⟨l5,E5,k5⟩:=k7 (l3++qM 4097) (l3.length+(qM 4097).length) (by simp);rw [E5.out]at hgr;have H5:=iH (H4.out.grew hgr);obtain⟨a5,c5,rfl⟩:=H5.out.form;have z5:=H5.out.size;clear hgr)
         |(at_builtin;(with_reducible refine j5 rfl (.tmp 69) (.tmp 70) rfl w.heap.size (.slice a5 l5.length c5) l5 rfl H5.out.own xa 4097 xc d _ rfl H5.out.bes (by omega) z5 ?_);intro v6 w6 hgr;obtain⟨l6,E6,k6⟩:=k7 (l5++d) (l5.length+d.length) (by simp);rw [E6.out]at hgr;have H6:=iH (H5.out.grew hgr);clear hgr))
        go_roundg r.len
        case measure=>simp [Ns.len]
        case rel=>
         obtain⟨g1,g2,g3,_,_⟩:=H6.out
         refine⟨r,j+1,_,rfl,by omega,by go_num,?_,by omega,by rw [Nat.add_mul,<-Nat.add_assoc];exact H10.out,g1,by omega,g3⟩
         have e:=E.out
         rw [T.out]at e
         show _=_
         rw [e,<-E6.out,<-E5.out,<-E3.out,<-E2.out]
         try simp only [List.append_assoc,List.cons_append,List.nil_append]
       ·skip
        have E:=qC t v k r l v _ hl4 (by rw [ec]<;>rfl) rfl
        rw [hl.out]at E
        rw [Jz hcut]at E
        have E:=iH E
        have hg3:=qP v.length
        have T:=iH (show ki t= [ofI (t / 256),ofI t]by unfold ki;rw [iT hb255])
        have d255:decide (t>255)=true:=decide_eq_true hb255
        clear ec hb255 hl
        have H0:=iH (Ji Hown.out Hbel.out H4x.out hbl HX.out)
        obtain⟨hcc1,hcc2⟩:=BsS.capLe H4x.out
        have H1:=H0;clear H0
        have z1:=H1.out.size
        go_wp2_with(first
         |(go_at_call 143;refine(Hc.out _).mono ?_;rintro e w9 ⟨rfl,hw9⟩;rw [hw9];clear hw9 w9)
         |(at_builtin;(with_reducible refine ji rfl (.tmp 40) (.tmp 48) rfl w.heap.size (.slice oa l.length oc) l rfl H1.out.own (ofI (t / 256)) _ wr.heap.size rfl rfl (by omega) z1 ?_);intro v2 w2 hgr;obtain⟨l2,E2,k2⟩:=k7 (l++ [ofI (t / 256)]) (l.length+1) (by simp);rw [E2.out]at hgr;have H2:=iH (H1.out.grew hgr);obtain⟨a2,c2,rfl⟩:=H2.out.form;have z2:=H2.out.size;have p2:=H2.out.old (p:=⟨b,off+j*3,none⟩) hbl C1.out;clear hgr)
         |(at_builtin;(with_reducible refine ji rfl (.tmp 50) (.tmp 57) rfl w.heap.size (.slice a2 l2.length c2) l2 rfl H2.out.own (ofI t) _ w2.heap.size rfl rfl (by omega) z2 ?_);intro v3 w3 hgr;obtain⟨l3,E3,k3⟩:=k7 (l2++ [ofI t]) (l2.length+1) (by simp);rw [E3.out]at hgr;have H3:=iH (H2.out.grew hgr);obtain⟨a3,c3,rfl⟩:=H3.out.form;have z3:=H3.out.size;have p3:=H3.out.old (p:=⟨b,off+j*3,none⟩) hbl C1.out;clear hgr)
         |(go_at_call 195;refine(kJ v.length (by omega) _).mono ?_;rintro e w4 ⟨lv,rfl,hlv,hb4⟩;obtain⟨la,lc,rfl⟩:=hlv.form2;have H4:=iH (H3.out.call hb4);have Hlv:=iH hlv;have z4:=H4.out.size;clear hlv hb4)
         |(at_builtin;(with_reducible refine j5 rfl (.tmp 64) (.tmp 67) rfl w.heap.size (.slice a3 l3.length c3) l3 rfl H4.out.own la (qM v.length).length lc (qM v.length) _ rfl Hlv.out (by omega) z4 ?_);intro v5 w5 hgr;obtain⟨l5,E5,k5⟩:=k7 (l3++qM v.length) (l3.length+(qM v.length).length) (by simp);rw [E5.out]at hgr;have H5:=iH (H4.out.grew hgr);obtain⟨a5,c5,rfl⟩:=H5.out.form;have z5:=H5.out.size;clear hgr)
         |(at_builtin;(with_reducible refine j5 rfl (.tmp 69) (.tmp 70) rfl w.heap.size (.slice a5 l5.length c5) l5 rfl H5.out.own xa v.length xc v _ rfl H5.out.bes (by omega) z5 ?_);intro v6 w6 hgr;obtain⟨l6,E6,k6⟩:=k7 (l5++v) (l5.length+v.length) (by simp);rw [E6.out]at hgr;have H6:=iH (H5.out.grew hgr);clear hgr))
        go_roundg r.len
        case measure=>simp [Ns.len]
        case rel=>
         obtain⟨g1,g2,g3,_,_⟩:=H6.out
         refine⟨r,j+1,_,rfl,by omega,by go_num,?_,by omega,by rw [Nat.add_mul,<-Nat.add_assoc];exact H10.out,g1,by omega,g3⟩
         have e:=E.out
         rw [T.out]at e
         show _=_
         rw [e,<-E6.out,<-E5.out,<-E3.out,<-E2.out]
         try simp only [List.append_assoc,List.cons_append,List.nil_append]
      ·by_cases hcut:4096<v.length
       ·skip
        have E:=qC t v k r l v _ hl4 (by rw [ec]<;>rfl) rfl
        rw [hl.out]at E
        rw [zQ hcut,show(v.take 4097).length=4097 by rw [List.length_take];omega]at E
        obtain⟨d,HD⟩:∃d,Hid (v.take 4097=d):=⟨_,rfl⟩
        rw [HD.out]at E
        have hd:d.length=4097:=by rw [<-HD.out,List.length_take];omega
        have hcut2:(4096:Int)<(v.length:Int):=by omega
        have E:=iH E
        have hg3:=qP 4097
        have T:=iH (show ki t= [ofI t]by unfold ki;rw [iF hb255])
        have d255:decide (t>255)=false:=decide_eq_false hb255
        clear ec hb255 hl
        have H0:=iH (Ji Hown.out Hbel.out H4x.out hbl HX.out)
        obtain⟨hcc1,hcc2⟩:=BsS.capLe H4x.out
        have H1:Hid (WSt w wr (.slice oa l.length oc) l (.slice xa 4097 xc) d b bx):=by rw [<-HD.out];exact H0.out.cut hcut
        clear H0
        have z1:=H1.out.size
        go_wp2_with(first
         |(go_at_call 143;refine(Hc.out _).mono ?_;rintro e w9 ⟨rfl,hw9⟩;rw [hw9];clear hw9 w9)
         |(at_builtin;(with_reducible refine ji rfl (.tmp 50) (.tmp 57) rfl w.heap.size (.slice oa l.length oc) l rfl H1.out.own (ofI t) _ wr.heap.size rfl rfl (by omega) z1 ?_);intro v3 w3 hgr;obtain⟨l3,E3,k3⟩:=k7 (l++ [ofI t]) (l.length+1) (by simp);rw [E3.out]at hgr;have H3:=iH (H1.out.grew hgr);obtain⟨a3,c3,rfl⟩:=H3.out.form;have z3:=H3.out.size;have p3:=H3.out.old (p:=⟨b,off+j*3,none⟩) hbl C1.out;clear hgr)
         |(go_at_call 195;refine(kJ 4097 (by omega) _).mono ?_;rintro e w4 ⟨lv,rfl,hlv,hb4⟩;obtain⟨la,lc,rfl⟩:=hlv.form2;have H4:=iH (H3.out.call hb4);have Hlv:=iH hlv;have z4:=H4.out.size;clear hlv hb4)
         |(at_builtin;(with_reducible refine j5 rfl (.tmp 64) (.tmp 67) rfl w.heap.size (.slice a3 l3.length c3) l3 rfl H4.out.own la (qM 4097).length lc (qM 4097) _ rfl Hlv.out (by omega) z4 ?_);intro v5 w5 hgr;obtain⟨l5,E5,k5⟩:=k7 (l3++qM 4097) (l3.length+(qM 4097).length) (by simp);rw [E5.out]at hgr;have H5:=iH (H4.out.grew hgr);obtain⟨a5,c5,rfl⟩:=H5.out.form;have z5:=H5.out.size;clear hgr)
         |(at_builtin;(with_reducible refine j5 rfl (.tmp 69) (.tmp 70) rfl w.heap.size (.slice a5 l5.length c5) l5 rfl H5.out.own xa 4097 xc d _ rfl H5.out.bes (by omega) z5 ?_);intro v6 w6 hgr;obtain⟨l6,E6,k6⟩:=k7 (l5++d) (l5.length+d.length) (by simp);rw [E6.out]at hgr;have H6:=iH (H5.out.grew hgr);clear hgr))
        go_roundg r.len
        case measure=>simp [Ns.len]
        case rel=>
         obtain⟨g1,g2,g3,_,_⟩:=H6.out
         refine⟨r,j+1,_,rfl,by omega,by go_num,?_,by omega,by rw [Nat.add_mul,<-Nat.add_assoc];exact H10.out,g1,by omega,g3⟩
         have e:=E.out
         rw [T.out]at e
         show _=_
         rw [e,<-E6.out,<-E5.out,<-E3.out]
         try simp only [List.append_assoc,List.cons_append,List.nil_append]
       ·skip
        have E:=qC t v k r l v _ hl4 (by rw [ec]<;>rfl) rfl
        rw [hl.out]at E
        rw [Jz hcut]at E
        have E:=iH E
        have hg3:=qP v.length
        have T:=iH (show ki t= [ofI t]by unfold ki;rw [iF hb255])
        have d255:decide (t>255)=false:=decide_eq_false hb255
        clear ec hb255 hl
        have H0:=iH (Ji Hown.out Hbel.out H4x.out hbl HX.out)
        obtain⟨hcc1,hcc2⟩:=BsS.capLe H4x.out
        have H1:=H0;clear H0
        have z1:=H1.out.size
        go_wp2_with(first
         |(go_at_call 143;refine(Hc.out _).mono ?_;rintro e w9 ⟨rfl,hw9⟩;rw [hw9];clear hw9 w9)
         |(at_builtin;(with_reducible refine ji rfl (.tmp 50) (.tmp 57) rfl w.heap.size (.slice oa l.length oc) l rfl H1.out.own (ofI t) _ wr.heap.size rfl rfl (by omega) z1 ?_);intro v3 w3 hgr;obtain⟨l3,E3,k3⟩:=k7 (l++ [ofI t]) (l.length+1) (by simp);rw [E3.out]at hgr;have H3:=iH (H1.out.grew hgr);obtain⟨a3,c3,rfl⟩:=H3.out.form;have z3:=H3.out.size;have p3:=H3.out.old (p:=⟨b,off+j*3,none⟩) hbl C1.out;clear hgr)
         |(go_at_call 195;refine(kJ v.length (by omega) _).mono ?_;rintro e w4 ⟨lv,rfl,hlv,hb4⟩;obtain⟨la,lc,rfl⟩:=hlv.form2;have H4:=iH (H3.out.call hb4);have Hlv:=iH hlv;have z4:=H4.out.size;clear hlv hb4)
         |(at_builtin;(with_reducible refine j5 rfl (.tmp 64) (.tmp 67) rfl w.heap.size (.slice a3 l3.length c3) l3 rfl H4.out.own la (qM v.length).length lc (qM v.length) _ rfl Hlv.out (by omega) z4 ?_);intro v5 w5 hgr;obtain⟨l5,E5,k5⟩:=k7 (l3++qM v.length) (l3.length+(qM v.length).length) (by simp);rw [E5.out]at hgr;have H5:=iH (H4.out.grew hgr);obtain⟨a5,c5,rfl⟩:=H5.out.form;have z5:=H5.out.size;clear hgr)
         |(at_builtin;(with_reducible refine j5 rfl (.tmp 69) (.tmp 70) rfl w.heap.size (.slice a5 l5.length c5) l5 rfl H5.out.own xa v.length xc v _ rfl H5.out.bes (by omega) z5 ?_);intro v6 w6 hgr;obtain⟨l6,E6,k6⟩:=k7 (l5++v) (l5.length+v.length) (by simp);rw [E6.out]at hgr;have H6:=iH (H5.out.grew hgr);clear hgr))
        go_roundg r.len
        case measure=>simp [Ns.len]
        case rel=>
         obtain⟨g1,g2,g3,_,_⟩:=H6.out
         refine⟨r,j+1,_,rfl,by omega,by go_num,?_,by omega,by rw [Nat.add_mul,<-Nat.add_assoc];exact H10.out,g1,by omega,g3⟩
         have e:=E.out
         rw [T.out]at e
         show _=_
         rw [e,<-E6.out,<-E5.out,<-E3.out]
         try simp only [List.append_assoc,List.cons_append,List.nil_append]
    ·have B:Hid (L.raw []=l):=by show _=_;rw [<-hl.out,YQ t v k r l hl4]
     have Hown:=iH hown;have Hbel:=iH hbel
     clear hown hbel ih h1 h2 h3 h4 h5 h9 h10 hl
     go_wp2_with fail
     go_ret
     rw [B.out]
     exact⟨_,rfl,Hown.out.out (by omega) w iL,Hbel.out⟩
theorem VW{n:Nat}(h:n<=65535):qM n=qL n:=by
 unfold qM qL
 by_cases h1:n<=127
 ·rw [iT h1,iT (by omega)]
 ·rw [iF h1,iF (show ¬n<128 by omega)]
  by_cases h2:n<=255
  ·rw [iT h2]
   have e:leN 8 n= [ofI n]:=by
    rw [show(8:Nat)=7+1 from rfl,leN,iF (by omega),show n / 256=0 by omega,zT]
   rw [e]<;>rfl
  ·rw [iF h2]
   have e:leN 8 n= [ofI n,ofI ((n:Int) / 256)]:=by
    rw [show(8:Nat)=7+1 from rfl,leN,iF (by omega),show(7:Nat)=6+1 from rfl,leN,iF (by omega),show n / 256 / 256=0 by omega,zT]
    rfl
   rw [e]<;>rfl
theorem j5l(L:Ns):∀o:List UInt8,(o.length+L.enc.length<=4096->L.raw o=o++L.enc)/\(4096<o.length+L.enc.length->4096<(L.raw o).length):=by
 induction L with
 |nil=>intro o;simp [Ns.raw,Ns.enc]
 |cons t v k r ihk ihr=>
  intro o
  by_cases ho:o.length<=4096
  ·obtain⟨c,hc⟩:∃c,(if kr t then k.enc else v)=c:=⟨_,rfl⟩
   obtain⟨c',hc'⟩:∃c',(if kr t then k.raw []else v)=c':=⟨_,rfl⟩
   rw [qz t v k r c hc.symm,qC t v k r o c' _ ho hc' rfl]
   simp only [List.length_append]
   by_cases h:c.length<=4096
   ·have e:c'=c:=by
     rw [<-hc,<-hc']
     split
     ·rename_i ht
      rw [iT ht]at hc
      have:=(ihk []).1 (by rw [hc];simpa using h)
      simpa using this
     ·rfl
    rw [e,Jz (by omega),VW (by omega)]
    obtain⟨h1,h2⟩:=ihr (o++ki t++qL c.length++c)
    simp only [List.length_append]at h1 h2
    refine⟨fun hh=> ?_,fun hh=>h2 (by omega)⟩
    rw [h1 (by omega)]
    simp [List.append_assoc]
   ·refine⟨fun hh=>by omega,fun _=> ?_⟩
    have h3:4096<c'.length:=by
     rw [<-hc']
     split
     ·rename_i ht
      rw [iT ht]at hc
      exact(ihk []).2 (by rw [hc];simp;omega)
     ·rename_i ht
      rw [iF ht]at hc
      rw [hc];omega
    obtain⟨h1,h2⟩:=ihr (o++ki t++qM (j42 c').length++j42 c')
    have h4:(j42 c').length=4097:=by rw [zQ h3,List.length_take];omega
    simp only [List.length_append]at h1 h2
    exact h2 (by omega)
  ·rw [YQ t v k r o ho]
   exact⟨fun h=>by omega,fun _=>by omega⟩
theorem ZV(L:Ns)(v:Value)(w:World)(hv:NsS w (·<w.heap.size) v L)(ha:L.all<=100000000000):
 Calls Tryz.prog 168 #[v] w (BytesOut (yi L) w):=by
 obtain⟨a,c,rfl⟩:=hv.form2
 have HC:=iH (UP L.all L _ 1 _ w iL hv (by omega))
 have HN:=iH (fun(w1:World) (h:Below w.heap.size w w1)=>VA L.all L _ _ w1 iL ha (hv.keep fun b hs hl=>⟨h.block b hl,hs⟩))
 have HR:=iH (fun(w1:World) (h:Below w.heap.size w w1)=>j5k L.all L (.slice a L.len c) w1 iL (hv.keep fun b hs hl=>⟨h.block b hl,iZ hs h.size⟩))
 clear hv
 by_cases h1:L.chk 1=0
 ·by_cases h2:256<L.all
  ·have E:Hid (yi L=.error 2):=by unfold yi;rw [iF (by simpa using h1),iT h2]<;>rfl
   have hc:=(Ns.cnt_all L 0).2 (by omega)
   rw [h1]at HC
   clear h1
   go_enter Tryz.func168,Tryz.ntmps168
   go_wp2_with(first|(go_at_call 184;refine HC.out.mono ?_;rintro e w1 ⟨rfl,hb⟩;have HB:=iH hb;clear hb)|(go_at_call 185;refine(HN.out _ HB.out).mono ?_;rintro e w2 ⟨rfl,rfl⟩))
   go_ret2
   exact BytesOut.no E.out HB.out
  ·have hc:=(Ns.cnt_all L 0).1 (by omega)
   rw [Nat.zero_add]at hc
   rw [h1]at HC
   rw [hc]at HN
   clear hc
   obtain⟨r1,r2⟩:=j5l L []
   rw [List.length_nil,Nat.zero_add]at r1 r2
   by_cases h3:4096<L.enc.length
   ·have E:Hid (yi L=.error 2):=by unfold yi;rw [iF (by simpa using h1),iF h2,iT h3]<;>rfl
    have h4:=r2 h3
    clear h1 r1 r2
    go_enter Tryz.func168,Tryz.ntmps168
    go_wp2_with(first|(go_at_call 184;refine HC.out.mono ?_;rintro e w1 ⟨rfl,hb⟩;have HB:=iH hb;clear hb)|(go_at_call 185;refine(HN.out _ HB.out).mono ?_;rintro e w2 ⟨rfl,rfl⟩)|(go_at_call 186;refine(HR.out _ HB.out).mono ?_;rintro e w3 ⟨v3,rfl,hv3,hb3⟩;obtain⟨a3,c3,rfl⟩:=hv3.form2;have Hv3:=iH hv3;have Hb3:=iH hb3;clear hv3 hb3))
    go_ret2
    exact BytesOut.no E.out (HB.out.trans (Hb3.out.mono HB.out.size))
   ·have E:Hid (yi L=.ok L.enc):=by unfold yi;rw [iF (by simpa using h1),iF h2,iF h3]<;>rfl
    have r3:=r1 (by omega)
    rw [List.nil_append]at r3
    rw [r3]at HR
    clear h1 r1 r2 r3
    go_enter Tryz.func168,Tryz.ntmps168
    go_wp2_with(first|(go_at_call 184;refine HC.out.mono ?_;rintro e w1 ⟨rfl,hb⟩;have HB:=iH hb;clear hb)|(go_at_call 185;refine(HN.out _ HB.out).mono ?_;rintro e w2 ⟨rfl,rfl⟩)|(go_at_call 186;refine(HR.out _ HB.out).mono ?_;rintro e w3 ⟨v3,rfl,hv3,hb3⟩;obtain⟨a3,c3,rfl⟩:=hv3.form2;have Hv3:=iH hv3;have Hb3:=iH hb3;clear hv3 hb3))
    go_ret2
    exact BytesOut.yes E.out (Hv3.out.keep fun b hs _=>⟨rfl,Nat.le_trans HB.out.size hs.1,hs.2⟩) (HB.out.trans (Hb3.out.mono HB.out.size))
 ·have E:Hid (yi L=.error (L.chk 1)):=by unfold yi;rw [iT h1]<;>rfl
  have n0:((L.chk 1) != 0)=true:=by simp [h1]
  clear h1
  go_enter Tryz.func168,Tryz.ntmps168
  go_wp2_with(first|(go_at_call 184;refine HC.out.mono ?_;rintro e w1 ⟨rfl,hb⟩;have HB:=iH hb;clear hb))
  go_ret2
  exact BytesOut.no E.out HB.out
end Go.Proofs.YtalmmiojbmpmiaaGreatDoor
