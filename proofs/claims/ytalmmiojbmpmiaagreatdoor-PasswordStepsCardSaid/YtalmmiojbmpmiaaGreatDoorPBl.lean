/- Layer 2: the walk of Size; Layer 2: the walks of the reference's tag and size; Layer 2: words for the reference's list -/
import Derived.Test.YtalmmiojbmpmiaaGreatDoorPBg
set_option linter.all false
set_option maxRecDepth 100000
set_option maxHeartbeats 1000000
namespace Go.Proofs.YtalmmiojbmpmiaaGreatDoor
open Go.RowKit Go.Deep
theorem Q7{w:World}{S:Nat->Prop}{a:Option Addr}{n c:Nat}{l:List UInt8}(h:BsS w S (.slice a n c) l)(hl:0<l.length):∃b off,a=some ⟨b,off,none⟩:=by
 obtain⟨_,_,hv,_,_,_,h4⟩:=h
 injection hv with ha _ _
 obtain⟨b,off,e,_⟩:=h4 hl
 exact⟨b,off,ha.trans e⟩
def KY:Except Int (Int×Nat)->Value
 |.error e=>.tuple #[.int .i64 0,.int .i64 0,.int .i64 e]
 |.ok x=>.tuple #[.int .i64 x.1,.int .i64 (x.2:Int),.int .i64 0]
theorem zq{r:Except Int (Int×Nat)}{e:Int}(h:r=.error e):Ending.returned (.tuple #[.int .i64 0,.int .i64 0,.int .i64 e])=.returned (KY r):=by subst h;rfl
theorem zH{r:Except Int (Int×Nat)}{n m:Int}{k:Nat}(h:r=.ok (n,k))(hm:m=k):Ending.returned (.tuple #[.int .i64 n,.int .i64 m,.int .i64 0])=.returned (KY r):=by subst h hm;rfl
theorem YA{w:World}{S:Nat->Prop}{b off n c:Nat}{l:List UInt8}(h:BsS w S (.slice (some ⟨b,off,none⟩) n c) l)(hl:0<l.length):w.cell? ⟨b,off,none⟩=some (.int .u8 ((gb l 0).toNat:Int)):=h.cellAt rfl (j:=0) hl
theorem QP(l:List UInt8)(v:Value)(S:Nat->Prop)(w:World)(hv:BsS w S v l):Calls Tryz.prog 141 #[v] w fun e w'=>e=.returned (KY (qj l))/\∃n,w'=w.drewN n:=by
 have hlen:=hv.len
 obtain⟨a,c,rfl⟩:=hv.form2
 by_cases h0:l.length=0
 ·have E:Hid (qj l=.error 6):=by show qj l=_;unfold qj;rw [iT h0]
  have d0:((l.length:Int)==0)=true:=by simp [h0]
  clear hv
  go_enter Tryz.func141,Tryz.ntmps141
  go_wp2_with fail
  go_ret3
  exact⟨zq E.out,0,rfl⟩
 ·obtain⟨bb,bo,rfl⟩:=Q7 hv (by omega)
  have d0:((l.length:Int)==0)=false:=by rw [beq_eq_false_iff_ne];omega
  have q0:=YA hv (by omega)
  obtain⟨x,hx⟩:∃x:Nat,x=(gb l 0).toNat:=⟨_,rfl⟩
  have hxl:x<256:=by rw [hx];exact UInt8.toNat_lt _
  have ex:bv (gb l 0)=x:=by rw [hx]<;>rfl
  rw [<-hx]at q0
  have b0:(0:Int)<l.length:=by omega
  by_cases h1:x % 32=31
  ·have d1:((x:Int) % 32 != 31)=false:=by simp;omega
   by_cases h2:l.length<2
   ·have E:Hid (qj l=.error 6):=by show qj l=_;unfold qj;rw [iF h0,ex,iT (by omega),iT h2]
    clear hv hx ex h0
    go_enter Tryz.func141,Tryz.ntmps141
    go_wp2_with fail
    go_ret3
    exact⟨zq E.out,0,rfl⟩
   ·have q1:w.cell? ⟨bb,bo+1,none⟩=some (.int .u8 ((gb l 1).toNat:Int)):=hv.cellAt rfl (j:=1) (by omega)
    obtain⟨y,hy⟩:∃y:Nat,y=(gb l 1).toNat:=⟨_,rfl⟩
    have hyl:y<256:=by rw [hy];exact UInt8.toNat_lt _
    have ey:bv (gb l 1)=y:=by rw [hy]<;>rfl
    rw [<-hy]at q1
    have b1:(1:Int)<l.length:=by omega
    have V:=iH (fun w=>yC (256*(x:Int)+y) ⟨by omega,by omega⟩ w)
    cases et:xu (256*(x:Int)+y)with
    |false=>
     have E:Hid (qj l=.error 4):=by show qj l=_;unfold qj;rw [iF h0,ex,ey,iT (by omega),iF h2,iF (by rw [et];decide)]
     rw [et]at V
     clear hv hx ex h0 hy ey et
     go_enter Tryz.func141,Tryz.ntmps141
     go_wp2_with fail
     go_quiet (fail)
     go_wp2_with(go_at_call 169;refine(V.out _).mono ?_;rintro e w' ⟨rfl,rfl⟩)
     go_ret3
     exact⟨zq E.out,nq,rfl⟩
    |true=>
     have E:Hid (qj l=.ok (256*(x:Int)+y,2)):=by show qj l=_;unfold qj;rw [iF h0,ex,ey,iT (by omega),iF h2,iT et]
     rw [et]at V
     clear hv hx ex h0 hy ey et
     go_enter Tryz.func141,Tryz.ntmps141
     go_wp2_with fail
     go_quiet (fail)
     go_wp2_with(go_at_call 169;refine(V.out _).mono ?_;rintro e w' ⟨rfl,rfl⟩)
     go_ret3
     exact⟨zH E.out rfl,nq,rfl⟩
  ·have d1:((x:Int) % 32 != 31)=true:=by simp;omega
   by_cases hx0:x=0
   ·subst hx0
    have E:Hid (qj l=.error 4):=by show qj l=_;unfold qj;rw [iF h0,ex,iF (by omega),iF (by decide)]
    clear hv hx ex h0
    go_enter Tryz.func141,Tryz.ntmps141
    go_wp2_with fail
    go_ret3
    exact⟨zq E.out,0,rfl⟩
   ·have E:Hid (qj l=.ok ((x:Int),1)):=by show qj l=_;unfold qj;rw [iF h0,ex,iF (by omega),iT (by apply decide_eq_true;omega)]
    have x0:((x:Int)==0)=false:=by simp;omega
    clear hv hx ex h0
    go_enter Tryz.func141,Tryz.ntmps141
    go_wp2_with fail
    go_ret3
    exact⟨zH E.out rfl,0,rfl⟩
theorem Z6(l:List UInt8)(v:Value)(S:Nat->Prop)(cn st:Bool)(w:World)(hv:BsS w S v l):Calls Tryz.prog 142 #[v,.bool cn,.bool st] w fun e w'=>e=.returned (KY (jz l (cn&& !st) st))/\∃n,w'=w.drewN n:=by
 obtain⟨op,hop⟩:∃op,op=(cn&& !st):=⟨_,rfl⟩
 rw [<-hop]
 have HOP:=iH hop
 clear hop
 have hlen:=hv.len
 obtain⟨a,c,rfl⟩:=hv.form2
 by_cases h0:l.length=0
 ·have E:Hid (jz l op st=.error 6):=by show jz l _ _=_;unfold jz;rw [iT h0]
  have d0:((l.length:Int)==0)=true:=by simp [h0]
  clear hv
  go_enter Tryz.func142,Tryz.ntmps142
  go_wp2_with fail
  go_ret3
  exact⟨zq E.out,0,rfl⟩
 ·obtain⟨bb,bo,rfl⟩:=Q7 hv (by omega)
  have d0:((l.length:Int)==0)=false:=by rw [beq_eq_false_iff_ne];omega
  have q0:=YA hv (by omega)
  obtain⟨x,hx⟩:∃x:Nat,x=(gb l 0).toNat:=⟨_,rfl⟩
  have hxl:x<256:=by rw [hx];exact UInt8.toNat_lt _
  have E0:=iH (YX l (gb l 0) x op st h0 rfl hx)
  rw [<-hx]at q0
  have b0:(0:Int)<l.length:=by omega
  have HV:=iH hv
  clear hx hv h0
  by_cases h1:x<128
  ·have E:Hid (jz l op st=.ok ((x:Int),1)):=by rw [E0.out,iT (by omega)]<;>rfl
   go_enter Tryz.func142,Tryz.ntmps142
   go_wp2_with fail
   go_ret3
   exact⟨zH E.out rfl,0,rfl⟩
  ·by_cases h2:132<x
   ·have E:Hid (jz l op st=.error 5):=by rw [E0.out,iF (by omega),iT (by omega)]<;>rfl
    go_enter Tryz.func142,Tryz.ntmps142
    go_wp2_with fail
    go_ret3
    exact⟨zq E.out,0,rfl⟩
   ·by_cases h3:x=128
    ·subst h3
     cases cn<;>cases st
     case true.false=>
      have E:Hid (jz l op false=.ok (-1,1)):=by rw [E0.out,iF (by omega),iF (by omega),iT (by omega),iT (by rw [HOP.out]<;>rfl)]<;>rfl
      go_enter Tryz.func142,Tryz.ntmps142
      go_wp2_with fail
      go_ret3
      exact⟨zH E.out rfl,0,rfl⟩
     all_goals
      have E:=iH (show jz l op _=.error 5 by rw [E0.out,iF (by omega),iF (by omega),iT (by omega),iF (by rw [HOP.out];decide)])
      go_enter Tryz.func142,Tryz.ntmps142
      go_wp2_with fail
      go_ret3
      exact⟨zq E.out,0,rfl⟩
    ·obtain⟨s,rfl,hs1,hs4⟩:∃s:Nat,x=128+s/\1<=s/\s<=4:=⟨x - 128,by omega,by omega,by omega⟩
     have E1:=E0.out
     rw [iF (by omega),iF (by omega),iF (by omega),show 128+s - 128=s by omega]at E1
     clear E0 h1 h2 h3
     by_cases h4:l.length<1+s
     ·have E:Hid (jz l op st=.error 6):=by rw [E1,iT h4]<;>rfl
      clear E1
      go_enter Tryz.func142,Tryz.ntmps142
      go_wp2_with fail
      go_ret3
      exact⟨zq E.out,0,rfl⟩
     ·rw [iF h4]at E1
      have E9:=iH E1
      clear E1
      have h5:1+s<=l.length:=by omega
      clear h4
      go_enter Tryz.func142,Tryz.ntmps142
      go_wp2_with fail
      go_loopg [11,12] s (fun m n i wr=>∃k:Nat,k+m=s/\i=.int .i64 ((k:Int)+1)/\n=.int .i64 (beV l k)/\wr=w)
      case atStart=>exact⟨0,by omega,rfl,rfl,rfl⟩
      case round=>
       obtain⟨k,hk,rfl,rfl,rfl⟩:=hrel
       by_cases hlt:k<s
       ·have q2:=HV.out.cellAt rfl (j:=k+1) (by omega)
        obtain⟨z,hz⟩:=Int.eq_ofNat_of_zero_le (Xg l k)
        obtain⟨y,hy⟩:∃y:Nat,y=(gb l (k+1)).toNat:=⟨_,rfl⟩
        have ey:bv (gb l (k+1))=y:=by rw [hy]<;>rfl
        have hyl:y<256:=by rw [hy];exact UInt8.toNat_lt _
        have hzl:z<16777216:=by
         have h:=Xf l k
         have:(256:Int) ^ k<=256 ^ 3:=by
          obtain h|h|h|h:k=0\/k=1\/k=2\/k=3:=by omega
          all_goals subst h;decide
         omega
        have E2:Hid (beV l (k+1)=256*(z:Int)+y):=by rw [beV,ey,hz]<;>rfl
        change wr.cell? _=some (.int .u8 (bv (gb l (k+1))))at q2
        rw [ey]at q2
        rw [hz]
        have b3:(0:Int)<=(k:Int)+1:=by omega
        have b4:(k:Int)+1<l.length:=by omega
        clear hy ey hz
        go_wp2_with fail
        go_roundg (s - (k+1))
        case measure=>omega
        case rel=>exact⟨k+1,by omega,by go_num,by rw [E2.out],rfl⟩
       ·obtain rfl:k=s:=by omega
        obtain⟨z,hz⟩:=Int.eq_ofNat_of_zero_le (Xg l k)
        rw [hz]at E9 |-
        have hzb:z<4294967296:=by
         have h:=Xf l k
         have:(256:Int) ^ k<=256 ^ 4:=by
          obtain h|h|h|h:k=1\/k=2\/k=3\/k=4:=by omega
          all_goals subst h;decide
         omega
        clear hz
        cases st with
        |false=>
         have E:Hid (jz l op false=.ok ((z:Int),1+k)):=by rw [E9.out,iF (by simp)]<;>rfl
         go_wp2_with fail
         go_ret3
         exact⟨zH E.out (by omega),0,rfl⟩
        |true=>
         by_cases h6:z<128
         ·have E:Hid (jz l op true=.error 5):=by rw [E9.out,iT ⟨rfl,.inl (by omega)⟩]<;>rfl
          have d6:decide ((z:Int)<=127)=true:=by simp;omega
          go_wp2_with fail
          go_ret3
          exact⟨zq E.out,0,rfl⟩
         ·have d6:decide ((z:Int)<=127)=false:=by simp;omega
          by_cases h7:1<k
          ·have d7:decide ((k:Int)>1)=true:=by simp;omega
           have q1:wr.cell? ⟨bb,bo+1,none⟩=some (.int .u8 ((gb l 1).toNat:Int)):=HV.out.cellAt rfl (j:=1) (by omega)
           have ez:gb l 1=0↔(gb l 1).toNat=0:=⟨fun h=>by rw [h]<;>rfl,fun h=>UInt8.toNat_inj.1 h⟩
           obtain⟨y,hy⟩:∃y:Nat,y=(gb l 1).toNat:=⟨_,rfl⟩
           rw [<-hy]at q1 ez
           have b1:(1:Int)<l.length:=by omega
           by_cases h8:y=0
           ·have E:Hid (jz l op true=.error 5):=by rw [E9.out,iT ⟨rfl,.inr ⟨h7,ez.2 h8⟩⟩]<;>rfl
            have d8:((y:Int)==0)=true:=by simp [h8]
            clear ez hy h8
            go_wp2_with fail
            go_ret3
            exact⟨zq E.out,0,rfl⟩
           ·have E:Hid (jz l op true=.ok ((z:Int),1+k)):=by rw [E9.out,iF (fun h=>h.2.elim (by omega) fun h=>h8 (ez.1 h.2))]<;>rfl
            have d8:((y:Int)==0)=false:=by simp;omega
            clear ez hy h8
            go_wp2_with fail
            go_ret3
            exact⟨zH E.out (by omega),0,rfl⟩
          ·have d7:decide ((k:Int)>1)=false:=by simp;omega
           have E:Hid (jz l op true=.ok ((z:Int),1+k)):=by rw [E9.out,iF (fun h=>h.2.elim (by omega) fun h=>h7 h.1)]<;>rfl
           go_wp2_with fail
           go_ret3
           exact⟨zH E.out (by omega),0,rfl⟩
def RListOut(r:Except Int Lst)(w:World)(e:Ending)(w':World):Prop:=
 match r with
 |.error er=>er≠0/\e=.returned (.tuple #[.slice none 0 0,.int .i64 0,.int .i64 0,.int .i64 er])/\Below w.heap.size w w'
 |.ok o=>∃v,e=.returned (.tuple #[v,.int .i64 (o.used:Int),.int .i64 (o.count:Int),.int .i64 0])/\NsS w' (New w w') v o.list/\Below w.heap.size w w'/\OwnN w' w.heap.size v o.list
def yH(n:Nat)(op:Bool):Prop:=∀(l:List UInt8) (v:Value) (d c:Nat) (st:Bool) (w:World),Bs w w.heap.size v l->l.length<=4096->l.length<=n->d<=9->c<=256->
 Calls Tryz.prog 94 #[v,.int .i64 d,.int .i64 c,.bool st,.bool op] w (RListOut (jf st n l d c op) w)
section
variable{w:World}{S:Nat->Prop}{bb bo n bc:Nat}{l:List UInt8}(h:BsS w S (.slice (some ⟨bb,bo,none⟩) n bc) l)
include w S bb bo n bc l h
theorem yo(g:Nat)(hg:g<=l.length){A:Option Addr}(hA:(if bc=g then some (⟨bb,bo,none⟩:Addr)else some ⟨bb,bo+g,none⟩)=A):
 BsS w S (.slice A (l.length - g) (bc - g)) (l.drop g):=by
 subst hA
 obtain⟨a,c,hv,h1,h2,h3,h4⟩:=h
 injection hv with ha hn hc
 subst ha hc hn
 refine⟨_,bc - g,by rw [List.length_drop],by rw [List.length_drop];omega,by omega,by rw [List.length_drop];omega,fun hp=> ?_⟩
 rw [List.length_drop]at hp
 obtain⟨b',off',e,hb,hcell⟩:=h4 (by omega)
 injection e with e
 injection e with e1 e2
 subst e1 e2
 rw [iF (by omega)]
 refine⟨bb,bo+g,rfl,hb,fun j hj=> ?_⟩
 rw [List.length_drop]at hj
 rw [Nat.add_assoc,hcell (g+j) (by omega)]
 congr 2
 unfold gb
 rw [List.getD_eq_getElem?_getD,List.getD_eq_getElem?_getD,List.getElem?_drop]
theorem ZE(g u:Nat)(hg:g+u<=l.length){A:Option Addr}(hA:(if bc=g then some (⟨bb,bo,none⟩:Addr)else some ⟨bb,bo+g,none⟩)=A):
 BsS w S (.slice A u (bc - g)) ((l.drop g).take u):=by
 have:=j43 h g u hg
 rw [hA,Nat.add_sub_cancel_left]at this
 have e:rst l g (g+u)=(l.drop g).take u:=by unfold rst;rw [List.take_drop]
 rwa [e]at this
theorem Yv(g:Nat)(hg:g<=l.length){A:Option Addr}{N C:Nat}(hA:g<l.length->A=some ⟨bb,bo+g,none⟩)(hN:N=l.length - g)(hC:N<=C/\C<=9223372036854775807):
 BsS w S (.slice A N C) (l.drop g):=by
 have h0:=yo h g hg rfl
 obtain⟨a,c,hv,h1,h2,h3,h4⟩:=h0
 refine⟨A,C,by rw [hN,List.length_drop],by rw [List.length_drop];omega,hC.2,h3,fun hp=> ?_⟩
 obtain⟨b,off,ha,hs,hc⟩:=h4 hp
 rw [List.length_drop]at hp
 have hbc:=h.capOf
 have hlen:=Bs.lenEq h
 rw [iF (by omega)]at hv
 injection hv with e1 _ _
 exact⟨b,off,by rw [hA (by omega),e1,ha],hs,hc⟩
theorem Ql(g u:Nat)(hg:g+u<=l.length){A:Option Addr}{N C:Nat}(hA:0<u->A=some ⟨bb,bo+g,none⟩)(hN:N=u)(hC:N<=C/\C<=9223372036854775807):
 BsS w S (.slice A N C) ((l.drop g).take u):=by
 have h0:=ZE h g u hg rfl
 have hl:((l.drop g).take u).length=u:=by rw [List.length_take,List.length_drop];omega
 obtain⟨a,c,hv,h1,h2,h3,h4⟩:=h0
 refine⟨A,C,by rw [hN,hl],by rw [hl];omega,hC.2,h3,fun hp=> ?_⟩
 obtain⟨b,off,ha,hs,hc⟩:=h4 hp
 rw [hl]at hp
 have hbc:=h.capOf
 have hlen:=Bs.lenEq h
 rw [iF (by omega)]at hv
 injection hv with e1 _ _
 exact⟨b,off,by rw [hA hp,e1,ha],hs,hc⟩
end
theorem j6{P:Program}{f:FuncId}{args:Array Value}{w:World}{n:Nat}{v:Value}(h:Calls P f args (w.drewN n) fun e w'=>e=.returned v/\∃m,w'=(w.drewN n).drewN m):Calls P f args (w.drewN n) fun e w''=>e=.returned v/\∃m,w''=w.drewN m:=
 h.mono fun _ _ ⟨he,m,hm⟩=>⟨he,n+m,by rw [hm,World.drewN_drewN]⟩
theorem j1e{er:Int}:KY (.error er)=.tuple #[.int .i64 0,.int .i64 0,.int .i64 er]:=rfl
theorem j3p{n:Int}{k:Nat}:KY (.ok (n,k))=.tuple #[.int .i64 n,.int .i64 (k:Int),.int .i64 0]:=rfl
theorem RListOut.no{r:Except Int Lst}{w w':World}{er:Int}(hr:r=.error er)(ne:er≠0)(hb:Below w.heap.size w w'):RListOut r w (.returned (.tuple #[.slice none 0 0,.int .i64 0,.int .i64 0,.int .i64 er])) w':=by subst hr;exact⟨ne,rfl,hb⟩
theorem RListOut.yes{r:Except Int Lst}{w w':World}{L:Ns}{u c:Nat}{o:Value}{un cn:Int}(hr:r=.ok ⟨L,u,c⟩)(hu:un=u)(hc:cn=c)(ho:OwnN w' w.heap.size o L)(hl:L.len<=2513169434843)(hb:Below w.heap.size w w'):
 RListOut r w (.returned (.tuple #[o,.int .i64 un,.int .i64 cn,.int .i64 0])) w':=by subst hr hu hc;exact⟨_,rfl,ho.nss hl,hb,ho⟩
theorem Ky{l:List UInt8}{u:Nat}(h:l.length<=u):(l.drop u).length=0:=by rw [List.length_drop];omega
theorem ZH(l:List UInt8)(u j:Nat):gb (l.drop u) j=gb l (u+j):=by unfold gb;rw [List.getD_eq_getElem?_getD,List.getD_eq_getElem?_getD,List.getElem?_drop]
theorem jq(w:World)(n:Nat):Below w.heap.size w (w.drewN n):=j3 iB n
theorem Je{wr w3 w4:World}{base X:Nat}{o:Value}{L k:Ns}(ho:OwnN wr base o L)(_:Below w3.heap.size w3 w4)(_:Below wr.heap.size wr w3)(hX:X<w3.heap.size)(hXr:wr.heap.size<=X)(hb:base<=wr.heap.size)(v:Value)(h:NsS w4 (New w3 w4) v k):
 NsS (w4.setCell ⟨X,2,none⟩ v) (j3x base (w4.setCell ⟨X,2,none⟩ v) o) v k:=
 h.keep fun b hs hl=>⟨iO (by have:=hs.1;show b≠X;omega),by simpa [World.setCell]using hl,fun e=>by have:=(ho.lt e).2;have:=hs.1;omega,by have:=hs.1;omega⟩
theorem zL{wr w3 w4:World}{base X:Nat}{o:Value}{L:Ns}{k:List UInt8}(ho:OwnN wr base o L)(_:Below w3.heap.size w3 w4)(_:Below wr.heap.size wr w3)(hX:X<w3.heap.size)(hXr:wr.heap.size<=X)(hb:base<=wr.heap.size)(v:Value)(h:BsS w4 (fun b=>w3.heap.size<=b/\b<w4.heap.size) v k):
 BsS (w4.setCell ⟨X,1,none⟩ v) (j3x base (w4.setCell ⟨X,1,none⟩ v) o) v k:=
 h.keep fun b hs hl=>⟨iO (by have:=hs.1;show b≠X;omega),by simpa [World.setCell]using hl,fun e=>by have:=(ho.lt e).2;have:=hs.1;omega,by have:=hs.1;omega⟩
end Go.Proofs.YtalmmiojbmpmiaaGreatDoor
