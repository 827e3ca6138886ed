/- Layer 14, plain: what is written for infos and read from objects. No program is named here; Layer 21, plain: what both sides of a password connection compute... -/
import Derived.Deep.CutBlock
import Derived.Test.YtalmmiojbmpmiaaGreatDoorPBa
import Derived.Test.YtalmmiojbmpmiaaGreatDoorPBe
import Derived.Test.YtalmmiojbmpmiaaGreatDoorPBj
import Derived.Test.YtalmmiojbmpmiaaGreatDoorPt
set_option linter.all false
set_option maxRecDepth 100000
set_option maxHeartbeats 4000000
namespace Go.Proofs.YtalmmiojbmpmiaaGreatDoor
open Go.RowKit Go.Deep
def zn(v:List UInt8):Int:=v.foldl (fun n b=>256*n+bv b) 0
structure Exg where
 kd:Int
 sec:List UInt8
 pr:Int
 st:Int
 non:List UInt8
 x:Int
 g:Int
 own:Int
 oth:Int
 k1:List UInt8
 k2:List UInt8
 ct:Int
def zX:Exg:=⟨0,[],0,0,[],0,0,0,0,[],[],0⟩
def vPw(kd:Int)(sec:List UInt8):Bool:=decide (1<=kd/\kd<=4/\1<=sec.length/\sec.length<=64)
def kX(kd:Int)(sec:List UInt8):List UInt8:=xG (if kd=1 then xw sec else sec) 3
def qr(kd:Int)(sec n:List UInt8):Int×List UInt8:=if vPw kd sec=false then(14,[])else if ¬n.length=16 then(2,[])else(0,qg (kX kd sec) Z16 n)
def QL(kd:Int)(sec n:List UInt8):Int×List UInt8:=if vPw kd sec=false then(14,[])else if ¬n.length=16 then(2,[])else(0,zp (kX kd sec) Z16 n)
def jM(x k:Int):Int:=(gpw 64 1 x.toNat k.toNat:Nat)
def j29(n:List UInt8)(k other:Int):Int:=jM 4 (zn (n.take 7) % 1073741789)*jM other k % 2147483579
def qT(n:List UInt8)(k other:Int):Int×Int:=
 if ¬n.length=16 then(2,0)else if okS k=false then(3,0)else if jk other=false then(10,0)else if j29 n k other=1 then(10,0)else(0,j29 n k other)
def j61(n r:List UInt8):Int:=2+zn ((xw (n++r)).take 7) % 2147483576
def yj(n r:List UInt8):Int×Int:=if ¬(n.length=16/\r.length=16)then(2,0)else(0,j61 n r*j61 n r % 2147483579)
def jt(s:List UInt8)(n:Nat):List UInt8:=(xw (s++ [1,0,0,0,0])).take n
def sdW(s:List UInt8):List UInt8:=xw (s++ [0])
def jX(s:List UInt8):Int:=1+zn ((jt s 8).take 7) % 1073741788
def jc(v:List UInt8):Int×Int:=if ¬v.length=4 then(2,0)else if jk (zn v)=false then(10,0)else(0,zn v)
def kj(e:Exg):Bool:=vPw e.kd e.sec&&decide (e.pr=2\/e.pr=3)
def qe(e:Exg):Bool:=jk e.own&&jk e.oth&&vS e.k1 e.k2 e.ct
def usC(e:Exg):Bool:=kj e&&(decide (e.st<1)||decide (e.non.length=16))&&(decide (e.st<2)||jk e.g)&&(decide (e.st<3)||qe e)
def usT(e:Exg):Bool:=kj e&&(if e.st=2 then decide (e.non.length=16)&&(if e.pr=2 then okS e.x else jk e.g)
 else if e.st=3 then decide (e.non.length=16)&&jk e.g&&jk e.own&&okS e.x else if e.st=4 then qe e else true)
def kR(tag:Int)(v:List UInt8):Ns:=.cons 124 [] (if tag=0 then .nil else .cons tag v .nil .nil) .nil
def jB(tag:Int)(v:List UInt8):List UInt8:=bytesOf (yi (kR tag v))
def K9(tag:Int)(size:Nat):Ns->Option (List UInt8)
 |.cons t _ k .nil=>if ¬t=124 then none else if tag=0 then(if k.len=0 then some []else none)else
  match k with
  |.cons u v _ .nil=>if u=tag/\v.length=size then some v else none
  |_=>none
 |_=>none
def kB(b:List UInt8)(tag:Int)(size:Nat):Option (List UInt8):=match kl b true with
 |.error _=>none
 |.ok L=>K9 tag size L
def kf(e:Exg)(o:Int):Int×Exg:=if o=e.own then(10,e)else
 (0,{e with oth:=o,k1:=xG (jd (jM o e.x)) 1,k2:=xG (jd (jM o e.x)) 2,ct:=0})
def tkW(e:Exg)(p:Int):List UInt8:=(qS e.k2 (jd p)).take 8
def jA(er:Int):Int×Exg×List UInt8×List UInt8:=(er,zX,[],[])
def yl(st:Int):Int:=if st=0 then 0 else 127+2*st
def Xc(e:Exg):Nat:=if e.st=1 then(if e.pr=3 then 16 else 4)else if e.st=3 then 8 else 4
def jv(e:Exg)(b s:List UInt8):Int×Exg×List UInt8×List UInt8:=
 if e.st<0\/3<e.st then jA 23 else if usC e=false then jA 14 else
 match kB b (yl e.st) (Xc e)with
 |none=>jA 1
 |some v=>
  if e.st=0 then(0,{e with st:=1,non:=jt s 16},jB 128 (qr e.kd e.sec (jt s 16)).2,sdW s)
  else if e.st=1 then
   if e.pr=3 then(0,{e with st:=2,g:=(yj e.non v).2},jB 130 [],s)
   else if ¬(jc v).1=0 then jA (jc v).1
   else if ¬(qT e.non (jX s) (jc v).2).1=0 then jA (qT e.non (jX s) (jc v).2).1
   else(0,{e with st:=2,g:=(qT e.non (jX s) (jc v).2).2},jB 130 (jd (jM 4 (jX s))),sdW s)
  else if e.st=2 then
   if ¬(jc v).1=0 then jA (jc v).1
   else if(jc v).2=jM e.g (jX s)then jA 10
   else(0,{(kf {e with x:=jX s,own:=jM e.g (jX s)} (jc v).2).2 with st:=3},jB 132 (jd (jM e.g (jX s))),sdW s)
  else if ¬v=tkW e e.own then jA 21
  else(0,{e with st:=4},jB 134 (tkW e e.oth),s)
def YW(e:Exg):Nat:=if e.st=1 then 16 else if e.st=2 then(if e.pr=3 then 0 else 4)else if e.st=4 then 8 else 4
def jl(e:Exg)(b s:List UInt8):Int×Exg×List UInt8×List UInt8:=
 if e.st<0\/4<e.st then jA 23 else if usT e=false then jA 14 else
 if e.st=0 then(if ¬b.length=0 then jA 1 else(0,{e with st:=1},jB 0 [],s))else
 match kB b (126+2*e.st) (YW e)with
 |none=>jA 1
 |some v=>
  if e.st=1 then
   if e.pr=3 then(0,{e with st:=2,non:=(QL e.kd e.sec v).2,g:=(yj (QL e.kd e.sec v).2 (jt s 16)).2},jB 129 (jt s 16),sdW s)
   else(0,{e with st:=2,non:=(QL e.kd e.sec v).2,x:=jX s},jB 129 (jd (jM 4 (jX s))),sdW s)
  else if e.st=2 then
   if e.pr=2/\¬(jc v).1=0 then jA (jc v).1
   else if e.pr=2/\¬(qT e.non e.x (jc v).2).1=0 then jA (qT e.non e.x (jc v).2).1
   else
    let g:=if e.pr=2 then(qT e.non e.x (jc v).2).2 else e.g
    (0,{e with st:=3,g:=g,x:=jX s,own:=jM g (jX s)},jB 131 (jd (jM g (jX s))),sdW s)
  else if e.st=3 then
   if ¬(jc v).1=0 then jA (jc v).1
   else if(jc v).2=e.own then jA 10
   else(0,{(kf e (jc v).2).2 with st:=4},jB 133 (tkW (kf e (jc v).2).2 (jc v).2),s)
  else if ¬v=tkW e e.own then jA 21
  else(0,{e with st:=5},[],s)
theorem j4{w:World}{p:Nat}{a b c d e f g h i j k l:Value}{t:TypeId}(hh:w.heap[p]?=some (.cells #[a,b,c,d,e,f,g,h,i,j,k,l] t (0,0))):
 w.cell? ⟨p,0,none⟩=some a/\w.cell? ⟨p,1,none⟩=some b/\w.cell? ⟨p,2,none⟩=some c/\w.cell? ⟨p,3,none⟩=some d/\w.cell? ⟨p,4,none⟩=some e/\w.cell? ⟨p,5,none⟩=some f/\w.cell? ⟨p,6,none⟩=some g/\w.cell? ⟨p,7,none⟩=some h/\w.cell? ⟨p,8,none⟩=some i/\w.cell? ⟨p,9,none⟩=some j/\w.cell? ⟨p,10,none⟩=some k/\w.cell? ⟨p,11,none⟩=some l/\∀o,w.frozen? ⟨p,o,none⟩=false:=by
 have key:∀o v,#[a,b,c,d,e,f,g,h,i,j,k,l][o]?=some v->w.cell? ⟨p,o,none⟩=some v:=fun o v e=>by rw [cell_of_row _ _ _ _ _ _ hh];exact e
 exact⟨key 0 _ rfl,key 1 _ rfl,key 2 _ rfl,key 3 _ rfl,key 4 _ rfl,key 5 _ rfl,key 6 _ rfl,key 7 _ rfl,key 8 _ rfl,key 9 _ rfl,key 10 _ rfl,key 11 _ rfl,fun o=>by simp [World.frozen?,hh]⟩
def ExL(w:World)(S:Nat->Prop)(v:Value)(e:Exg):Prop:=
 ∃s n a b,v=.agg #[.int .i64 e.kd,s,.int .i64 e.pr,.int .i64 e.st,n,.int .i64 e.x,.int .i64 e.g,.int .i64 e.own,.int .i64 e.oth,a,b,.int .i64 e.ct]/\BsS w S s e.sec/\BsS w S n e.non/\BsS w S a e.k1/\BsS w S b e.k2
abbrev exX(X:Exg)(sA nA aA bA:Option Addr)(sc nc ac bc:Nat):Array Value:=#[.int .i64 X.kd,.slice sA X.sec.length sc,.int .i64 X.pr,.int .i64 X.st,.slice nA X.non.length nc,.int .i64 X.x,.int .i64 X.g,.int .i64 X.own,.int .i64 X.oth,.slice aA X.k1.length ac,.slice bA X.k2.length bc,.int .i64 X.ct]
theorem j34(n b:Nat)(hn:n<36028797018963968)(hb:b<256):bits .or .i64 ((n:Int)*256) (b:Int)=(n:Int)*256+b:=by
 have h1:(BitVec.ofInt 64 ((n*256:Nat):Int)).toNat=n*256:=by
  rw [BitVec.ofInt_natCast,BitVec.toNat_ofNat];exact Nat.mod_eq_of_lt (by omega)
 have h2:(BitVec.ofInt 64 (b:Int)).toNat=b:=by
  rw [BitVec.ofInt_natCast,BitVec.toNat_ofNat];exact Nat.mod_eq_of_lt (by omega)
 have h3:n*256 ||| b=n*256+b:=by
  have:=Nat.two_pow_add_eq_or_of_lt (i:=8) (b:=b) (by omega) n
  rw [Nat.mul_comm]at this
  exact this.symm
 have e:(n:Int)*256=((n*256:Nat):Int):=by omega
 rw [e]
 show IntKind.i64.wrap ((BitVec.ofInt 64 ((n*256:Nat):Int) ||| BitVec.ofInt 64 (b:Int)).toNat:Int)=_
 rw [BitVec.toNat_or,h1,h2,h3,IntKind.wrap_i64]
 omega
theorem JI{l:List UInt8}{j:Nat}(h:j<l.length):zn (l.take (j+1))=zn (l.take j)*256+bv (gb l j):=by
 unfold zn
 rw [List.take_succ_eq_append_getElem h,List.foldl_append]
 simp [gb,h]
 omega
theorem Qw(l:List UInt8):∀j,j<=l.length->0<=zn (l.take j)/\zn (l.take j)<256 ^ j:=by
 intro j
 induction j with
 |zero=>intro _;exact⟨Int.le_refl _,show(0:Int)<1 by decide⟩
 |succ j ih=>
  intro h
  have:=ih (by omega)
  have b0:=jP (gb l j);have b1:=jT (gb l j)
  rw [JI (by omega),Int.pow_succ]
  omega
def zm(l:List UInt8):Int×Int:=if 7<l.length then(0,2)else(zn l,0)
section
variable(l:List UInt8)(v:Value)(S:Nat->Prop)(w:World)(hv:BsS w S v l)
include l v S w hv
theorem x6:Calls Tryz.prog 118 #[v] w fun e w'=>e=.returned (.tuple #[.int .i64 (zm l).1,.int .i64 (zm l).2])/\w'=w:=by
 obtain⟨a,c,rfl⟩:=hv.form2
 have hll:=hv.len
 have HV:=iH hv
 clear hv
 by_cases h7:7<l.length
 ·have E:Hid (zm l=(0,2)):=by show _=_;unfold zm;rw [iT h7]
  rw [E.out]
  go_enter Tryz.func118,Tryz.ntmps118
  go_wp2_with fail
  go_ret2
  exact⟨rfl,rfl⟩
 ·have E:Hid (zm l=(zn l,0)):=by show _=_;unfold zm;rw [iF h7]
  rw [E.out]
  clear E
  go_enter Tryz.func118,Tryz.ntmps118
  go_wp2_with fail
  go_loopg [12,4] l.length (fun m i n wr=>∃j X r:Nat,r=m/\j+r=l.length/\i=.int .i64 j/\n=.int .i64 X/\Hid ((X:Int)=zn (l.take j))/\wr=w)
  case atStart=>exact⟨0,0,l.length,rfl,by omega,rfl,rfl,iH rfl,rfl⟩
  case round=>
   obtain⟨j,X,m,rfl,hj,rfl,rfl,hX,rfl⟩:=hrel
   rcases Nat.eq_zero_or_pos m with h0|h0
   ·subst h0
    have hj':j=l.length:=by omega
    have HXE:Hid ((X:Int)=zn l):=iH (by have:=hX.out;rwa [hj',List.take_length]at this)
    subst hj'
    clear hX
    go_wp2_with fail
    go_ret2
    rw [HXE.out]
    exact⟨rfl,rfl⟩
   ·obtain⟨m,rfl⟩:∃k,m=k+1:=⟨m - 1,by omega⟩
    have hlt:j<l.length:=by omega
    have hin:=Qw l j (by omega)
    have hxb:(X:Int)<256 ^ j:=by rw [hX.out];exact hin.2
    have hp:(256:Int) ^ j<=256 ^ 6:=by exact_mod_cast Nat.pow_le_pow_right (by decide) (show j<=6 by omega)
    have hx6:X<281474976710656:=by have:(256:Int) ^ 6=281474976710656:=by decide
                                   omega
    obtain⟨y,hy⟩:∃y:Nat,y=(gb l j).toNat:=⟨_,rfl⟩
    have hyl:y<256:=by rw [hy];exact UInt8.toNat_lt _
    have q1:∃b off,a=some ⟨b,off,none⟩/\wr.cell? ⟨b,off+j,none⟩=some (.int .u8 (y:Int)):=by
     obtain⟨a',c',e,_,_,_,h4⟩:=HV.out
     injection e with e1 e2 e3
     subst e1
     obtain⟨b,off,e2,_,hc⟩:=h4 (by omega)
     exact⟨b,off,e2,by rw [hy];exact hc j hlt⟩
    obtain⟨b,off,rfl,q2⟩:=q1
    have o1:=j34 X y (by omega) hyl
    have HN:Hid (((X*256+y:Nat):Int)=zn (l.take (j+1))):=iH (by rw [JI hlt,<-hX.out];show _=_+((gb l j).toNat:Int);rw [<-hy];omega)
    clear hX hin hxb hp hy
    go_wp2_with fail
    go_roundg m
    case measure=>omega
    case rel=>exact⟨j+1,X*256+y,m,rfl,by omega,by go_num,by first|rfl|(congr 1),HN,rfl⟩
theorem zC:Calls Tryz.prog 120 #[v] w fun e w'=>e=.returned (.tuple #[.int .i64 (zm l).1,.int .i64 (zm l).2])/\w'=w:=by
 obtain⟨a,c,rfl⟩:=hv.form2
 have hll:=hv.len
 have HV:=iH hv
 clear hv
 by_cases h7:7<l.length
 ·have E:Hid (zm l=(0,2)):=by show _=_;unfold zm;rw [iT h7]
  rw [E.out]
  go_enter Tryz.func120,Tryz.ntmps120
  go_wp2_with fail
  go_ret2
  exact⟨rfl,rfl⟩
 ·have E:Hid (zm l=(zn l,0)):=by show _=_;unfold zm;rw [iF h7]
  rw [E.out]
  clear E
  go_enter Tryz.func120,Tryz.ntmps120
  go_wp2_with fail
  go_loopg [5,4] l.length (fun m i n wr=>∃j X r:Nat,r=m/\j+r=l.length/\i=.int .i64 j/\n=.int .i64 X/\Hid ((X:Int)=zn (l.take j))/\wr=w)
  case atStart=>exact⟨0,0,l.length,rfl,by omega,rfl,rfl,iH rfl,rfl⟩
  case round=>
   obtain⟨j,X,m,rfl,hj,rfl,rfl,hX,rfl⟩:=hrel
   rcases Nat.eq_zero_or_pos m with h0|h0
   ·subst h0
    have hj':j=l.length:=by omega
    have HXE:Hid ((X:Int)=zn l):=iH (by have:=hX.out;rwa [hj',List.take_length]at this)
    subst hj'
    clear hX
    go_wp2_with fail
    go_ret2
    rw [HXE.out]
    exact⟨rfl,rfl⟩
   ·obtain⟨m,rfl⟩:∃k,m=k+1:=⟨m - 1,by omega⟩
    have hlt:j<l.length:=by omega
    have hin:=Qw l j (by omega)
    have hxb:(X:Int)<256 ^ j:=by rw [hX.out];exact hin.2
    have hp:(256:Int) ^ j<=256 ^ 6:=by exact_mod_cast Nat.pow_le_pow_right (by decide) (show j<=6 by omega)
    have hx6:X<281474976710656:=by have:(256:Int) ^ 6=281474976710656:=by decide
                                   omega
    obtain⟨y,hy⟩:∃y:Nat,y=(gb l j).toNat:=⟨_,rfl⟩
    have hyl:y<256:=by rw [hy];exact UInt8.toNat_lt _
    have q1:∃b off,a=some ⟨b,off,none⟩/\wr.cell? ⟨b,off+j,none⟩=some (.int .u8 (y:Int)):=by
     obtain⟨a',c',e,_,_,_,h4⟩:=HV.out
     injection e with e1 e2 e3
     subst e1
     obtain⟨b,off,e2,_,hc⟩:=h4 (by omega)
     exact⟨b,off,e2,by rw [hy];exact hc j hlt⟩
    obtain⟨b,off,rfl,q2⟩:=q1
    have HN:Hid (((X*256+y:Nat):Int)=zn (l.take (j+1))):=iH (by rw [JI hlt,<-hX.out];show _=_+((gb l j).toNat:Int);rw [<-hy];omega)
    clear hX hin hxb hp hy
    go_wp2_with fail
    go_roundg m
    case measure=>omega
    case rel=>exact⟨j+1,X*256+y,m,rfl,by omega,by go_num,by congr 1;omega,HN,rfl⟩
end
theorem j55(w:World)(x:UInt8){base:Nat}(h:base<=w.heap.size):OwnB (w.alloc (.cells #[U8 x] 5)) base (.slice (some ⟨w.heap.size,0,none⟩) 1 1) [x]:=
 ⟨rfl,.inr ⟨w.heap.size,1,#[U8 x],rfl,h,iN,Nat.le_refl _,by decide,rfl,rfl⟩⟩
theorem jo(w:World)(o:Obj):Below w.heap.size w (w.alloc o):=iA
theorem j7e(w:World){base:Nat}(h:base<=w.heap.size):OwnB (w.alloc (.cells #[.int .u8 1] 5)) base (.slice (some ⟨w.heap.size,0,none⟩) 1 1) [1]:=j55 w 1 h
theorem j7f{w:World}{b:Nat}{base:Nat}(h:w.heap[b]?=some (.cells #[.int .u8 1] 5 (0,0)))(hb:base<=b):OwnB w base (.slice (some ⟨b,0,none⟩) 1 1) [1]:=
 ⟨rfl,.inr ⟨b,1,#[U8 1],rfl,hb,h,Nat.le_refl _,by decide,rfl,rfl⟩⟩
def Vf(n:Nat)(a b:List UInt8)(w:World)(e:Ending)(w':World):Prop:=∃A c B d,e=.returned (.tuple #[.slice A n c,.slice B 32 d,.int .i64 0])/\BsS w' (New w w') (.slice A n c) a/\BsS w' (New w w') (.slice B 32 d) b/\Below w.heap.size w w'
section
variable(n:Nat)(h1:1<=n)(h2:n<=32)(v:Value)(s:List UInt8)(w:World)
include n h1 h2 v s w
theorem Qm(hK:KD w)(hv:Bs w w.heap.size v s)(hl:s.length<=140737488354000):
 Calls Tryz.prog 125 #[v,.int .i64 n] w (Vf n (jt s n) (sdW s) w):=by
 obtain⟨A,c,rfl⟩:=Bs.formL hv
 have HV:=iH hv;have HK:=iH hK;have HL:=iH hl
 clear hv hK hl
 have g1:decide ((n:Int)<0)=false:=decide_eq_false (by omega)
 have g2:decide ((n:Int)>1024)=false:=decide_eq_false (by omega)
 go_enter Tryz.func125,Tryz.ntmps125
 go_wp2_with fail
 go_loopg [4,7] 1 (fun m ov iv wr=>∃(A:Option Addr) (k i c:Nat),ov=.slice A k c/\iv=.int .i64 i/\((m=1/\i=0/\k=0/\A=none/\c=0/\w=wr)\/(m=0/\i=1/\k=32/\32<=c/\c<=9223372036854775807/\Hid (BsS wr (New w wr) (.slice A 32 c) (xw (s++ [1,0,0,0,0])))/\Hid (Below w.heap.size w wr))))
 case atStart=>exact⟨none,0,0,0,rfl,rfl,.inl ⟨rfl,rfl,rfl,rfl,rfl,rfl⟩⟩
 case round=>
  obtain⟨A2,k,i,c2,rfl,rfl,⟨rfl,rfl,rfl,rfl,rfl,rfl⟩|⟨rfl,rfl,rfl,hc,hc9,hs,hb⟩⟩:=hrel
  ·have e0:decide (((0:Nat):Int)<(n:Int))=true:=decide_eq_true (by omega)
   go_wp2_with(first
    |(go_at_call 102;refine(Xa _ _ s [1,0,0,0,0] w2 (HK.out.below HB2.out HK.out.lt) (HV.out.lift HB2.out) HS2.out (by have:=HL.out;simp only [List.length_cons,List.length_nil];omega)).mono ?_;rintro e w3 ⟨v3,rfl,hs3,hb3⟩;obtain⟨A3,c3,hv3⟩:=Bs.formL hs3;rw [je]at hv3;subst hv3;have HS3:Hid (Bs w3 w3.heap.size (.slice A3 32 c3) (xw (s++ [1,0,0,0,0]))):=iH (BsS.keep hs3 fun g hg _=>⟨rfl,hg.2⟩);have HB3:=iH (HB2.out.trans (hb3.mono HB2.out.size));clear hs3 hb3)
    |(go_at_call 101;refine(YI 0 w (by omega) (by omega)).mono ?_;rintro e w1 ⟨v1,rfl,hs1,hb1⟩;obtain⟨A1,c1,hv1⟩:=Bs.formL hs1;have hv1:v1=.slice A1 4 c1:=hv1;subst hv1;have HS1:Hid (Bs w1 w1.heap.size (.slice A1 4 c1) (jd 0)):=iH (BsS.keep hs1 fun g hg _=>⟨rfl,hg.2⟩);have HB1:=iH hb1;have HL1:Hid (Below w1.heap.size w1 (w1.alloc (.cells #[.int .u8 1] 5))):=iH (jo _ _);clear hs1 hb1)
    |(at_builtin;(with_reducible refine j5 rfl (.tmp 29) (.tmp 30) rfl w.heap.size (.slice (some ⟨w1.heap.size,0,none⟩) 1 1) [1] rfl (j7e w1 HB1.out.size) A1 4 c1 (jd 0) (·<(w1.alloc (.cells #[.int .u8 1] 5)).heap.size) rfl (HS1.out.lift HL1.out) (by simp [jd]) (Nat.le_trans HB1.out.size HL1.out.size) ?_);intro v2 w2 hgr;obtain⟨A2,c2,hv2⟩:=hgr.1.form;rw [show([1]++jd 0)= [1,0,0,0,0]by decide]at hgr hv2;subst hv2;have HB2:=iH ((HB1.out.trans (HL1.out.mono HB1.out.size)).trans hgr.2.1);have HS2:Hid (Bs w2 w2.heap.size (.slice A2 5 c2) [1,0,0,0,0]):=iH ((hgr.1.out (by decide) w iL).keep fun g hg _=>⟨rfl,hg.2⟩);clear hgr)
    |(at_builtin;(with_reducible refine j5 rfl (.tmp 27) (.tmp 32) rfl w.heap.size (.slice none 0 0) [] rfl (OwnB.nil _ _) A3 32 c3 (xw (s++ [1,0,0,0,0])) (·<w3.heap.size) rfl HS3.out (by rw [je];simp) HB3.out.size ?_);intro v4 w4 hgr;rw [List.nil_append]at hgr;obtain⟨A4,c4,hv4⟩:=hgr.1.form;rw [je]at hv4;subst hv4;have hs4:=hgr.1.out (by rw [je];omega) w iL;have HS4:=iH hs4;have HC4:Hid (32<=c4/\c4<=9223372036854775807):=iH (by obtain⟨a,c',e,q1,q2,_⟩:=hs4;rw [je]at e q1;obtain⟨_,_,hc⟩:=Value.slice.inj e;omega);have HB4:=iH (HB3.out.trans hgr.2.1);clear hgr hs4))
   go_roundg 0
   case measure=>omega
   case rel=>exact⟨_,32,1,_,rfl,rfl,.inr ⟨rfl,rfl,rfl,HC4.out.1,HC4.out.2,HS4,HB4⟩⟩
  ·obtain⟨wa,rfl⟩:∃wa:World,wa=wr:=⟨_,rfl⟩
   have e0:decide (((32:Nat):Int)<(n:Int))=false:=decide_eq_false (by omega)
   go_upto_region 8 with fail
   have HVW:=iH (fun(W:World) (h:Below wa.heap.size wa W)=>HV.out.lift (hb.out.trans (h.mono hb.out.size)))
   have HSW:=iH (fun(W:World) (h:Below wa.heap.size wa W)=>(BsS.keep hs.out (w':=W) (S':=New w W) fun g hg hl=>⟨h.block g hl,hg.1,iZ hl h.size⟩))
   have HKW:=iH (fun(W:World) (h:Below wa.heap.size wa W)=>HK.out.below (hb.out.trans (h.mono hb.out.size)) HK.out.lt)
   have HCUT:=iH (fun(W:World) (h:BsS W (New w W) (.slice A2 32 c2) (xw (s++ [1,0,0,0,0])))=>(BsS.cut h (k:=n) (d:=n) (by rw [je];omega) (by omega) (by omega):BsS W (New w W) (.slice A2 n n) (jt s n)))
   clear hs
   refine ja 7 [some 34,some 35,some 36,some 37,some 38,some 39,some 40] [[],[],[],[0,1,2],[],[],[4,5]]
    (fun _ _ w1=>Below wa.heap.size wa w1) (fun w1 w2=>Below w1.heap.size w1 w2)
    [.v (.slice A2 32 c2),
     .v (.int .i64 n),
     .v (.int .i64 n),
     .v (.slice A2 n n),
     .v (.slice A s.length c),
     .p (fun v w1=>∃g,v 5=.slice (some ⟨g,0,none⟩) 1 1/\Bs w1 w1.heap.size (.slice (some ⟨g,0,none⟩) 1 1) [0]) (fun _ _ _ _ _ hr ⟨g,h1,h2⟩=>⟨g,h1,h2.lift hr⟩),
     .p (fun v w1=>∃B d,v 6=.slice B 32 d/\BsS w1 (New w w1) (.slice B 32 d) (sdW s)/\True) (fun _ _ _ _ _ hr ⟨B,d,h1,h2,h3⟩=>⟨B,d,h1,h2.keep fun g hg hl=>⟨hr.block g hl,hg.1,iZ hl hr.size⟩,h3⟩)]
    (by kernel_rfl) (by kernel_rfl) rfl (fun _=>iB.drew) ?steps ?tail
   case steps=>
    simp only [List.take_succ_cons,List.take_zero]
    repeat' (with_reducible first|exact StepsRG.nil|refine StepsRG.cons ?_ ?_)
    all_goals(intro L v w1 hJ hL hF hD K hK;simp only [jb,Act.put,Nat.zero_add,Nat.reduceAdd,List.setIfInBounds_toArray,List.set_cons_zero,List.set_cons_succ,↓jZ,List.getD_cons_zero,List.getD_cons_succ,Nat.reduceEqDiff,↓reduceIte]at hD hK |-)
    all_goals try((try simp only [hD]at hK |-);go_simp;refine hK _ _ hJ iB ?_;first|exact rfl|exact jh _)
    ·simp only [hD]at hK |-
     go_simp
     try rw [iT (show n<=c2 by omega)]
     exact hK _ _ hJ iB rfl
    ·go_simp
     refine hK _ _ (hJ.alloc hJ.size _) (jo _ _) ⟨_,rfl,?_⟩
     exact((j55 w1 0 iL).out (by decide) w1 iL).keep fun g hg _=>⟨rfl,hg.2⟩
    ·simp only [hD]at hK |-
     obtain⟨g,e5,hz⟩:∃g,v 5=_/\_:=hF 5 (by simp)
     simp only [e5]at hK |-
     go_simp
     refine(Xa _ _ s [0] w1 (HKW.out _ hJ) (HVW.out _ hJ) hz (by have:=HL.out;simp only [List.length_cons,List.length_nil];omega)).mono ?_
     rintro e w3 ⟨v3,rfl,hs3,hb3⟩
     obtain⟨A3,c3,hv3⟩:=Bs.formL hs3
     rw [je]at hv3
     subst hv3
     refine hK _ _ (hJ.trans (hb3.mono hJ.size)) hb3 ⟨_,_,rfl,?_,trivial⟩
     exact hs3.keep fun g hg _=>⟨rfl,Nat.le_trans hb.out.size (Nat.le_trans hJ.size hg.1),hg.2⟩
   case tail=>
    intro v w1 hJ hF hD
    simp only [kE]at hD
    obtain⟨e0,e1,e2,e3,e4, -⟩:=hD
    simp only [List.drop_succ_cons,List.drop_zero,jb,Act.put,Nat.zero_add,Nat.reduceAdd,List.setIfInBounds_toArray,List.set_cons_zero,List.set_cons_succ]
    obtain⟨B,d,e9,hs9,hb9⟩:∃B d,v 6=.slice B 32 d/\BsS w1 (New w w1) (.slice B 32 d) (sdW s)/\True:=hF 6 (by simp)
    simp only [e0,e1,e2,e3,e4,e9]
    have HB9:=iH hb9;have HS9:=iH hs9;have HJ:=iH hJ
    clear hJ hF hb9 hs9 e9 e0 e1 e2 e3 e4
    go_wp2_with fail
    go_ret3
    exact⟨_,_,_,_,rfl,HCUT.out _ (HSW.out _ HJ.out),HS9.out,hb.out.trans (HJ.out.mono hb.out.size)⟩
theorem XW(hK:KR w)(hv:Bs w w.heap.size v s)(hl:s.length<=140737488354000):
 Calls Tryz.prog 80 #[v,.int .i64 n] w (Vf n (jt s n) (sdW s) w):=by
 obtain⟨A,c,rfl⟩:=Bs.formL hv
 have HV:=iH hv;have HK:=iH hK;have HL:=iH hl
 clear hv hK hl
 have g1:decide ((n:Int)<0)=false:=decide_eq_false (by omega)
 have g2:decide ((n:Int)>1024)=false:=decide_eq_false (by omega)
 go_enter Tryz.func80,Tryz.ntmps80
 go_wp2_with fail
 go_loopg [7,8] 1 (fun m ov iv wr=>∃(A:Option Addr) (k i c:Nat),ov=.slice A k c/\iv=.int .i64 i/\((m=1/\i=0/\k=0/\A=none/\c=0/\w=wr)\/(m=0/\i=1/\k=32/\32<=c/\c<=9223372036854775807/\Hid (BsS wr (New w wr) (.slice A 32 c) (xw (s++ [1,0,0,0,0])))/\Hid (Below w.heap.size w wr))))
 case atStart=>exact⟨none,0,0,0,rfl,rfl,.inl ⟨rfl,rfl,rfl,rfl,rfl,rfl⟩⟩
 case round=>
  obtain⟨A2,k,i,c2,rfl,rfl,⟨rfl,rfl,rfl,rfl,rfl,rfl⟩|⟨rfl,rfl,rfl,hc,hc9,hs,hb⟩⟩:=hrel
  ·have e0:decide (((0:Nat):Int)<(n:Int))=true:=decide_eq_true (by omega)
   go_wp2_with(first
    |(go_at_call 49;refine(y9 _ (s++ [1,0,0,0,0]) (by have:=HL.out;rw [List.length_append];simp only [List.length_cons,List.length_nil];omega) w5 (HK.out.below HB5.out HK.out.lt) HS5.out).mono ?_;rintro e w3 ⟨v3,rfl,hs3,hb3⟩;obtain⟨A3,c3,hv3⟩:=Bs.formL hs3;rw [je]at hv3;subst hv3;have HS3:Hid (Bs w3 w3.heap.size (.slice A3 32 c3) (xw (s++ [1,0,0,0,0]))):=iH (BsS.keep hs3 fun g hg _=>⟨rfl,hg.2⟩);have HB3:=iH (HB5.out.trans (hb3.mono HB5.out.size));clear hs3 hb3)
    |(go_at_call 64;refine(Jd _ _ s [1,0,0,0,0] _ _ w2 (HV.out.lift HB2.out) HS2.out (by have:=HL.out;simp only [List.length_cons,List.length_nil];omega)).mono ?_;rintro e w5 ⟨v5,rfl,ho,hb5⟩;have HS5:Hid (Bs w5 w5.heap.size v5 (s++ [1,0,0,0,0])):=iH (ho.bs (by have:=HL.out;rw [List.length_append];simp only [List.length_cons,List.length_nil];omega));have HB5:=iH (HB2.out.trans (hb5.mono HB2.out.size));clear ho hb5)
    |(go_at_call 83;refine(VJ 0 _ (by omega) (by omega)).mono ?_;rintro e w1 ⟨v1,rfl,hs1,hb1⟩;obtain⟨A1,c1,hv1⟩:=Bs.formL hs1;have hv1:v1=.slice A1 4 c1:=hv1;subst hv1;have HS1:Hid (Bs w1 w1.heap.size (.slice A1 4 c1) (jd 0)):=iH (BsS.keep hs1 fun g hg _=>⟨rfl,hg.2⟩);have HB1:=iH ((jo _ _).trans (hb1.mono (jo _ _).size));have HR1:=iH ((hb1.block w.heap.size (by simp)).trans (iN));clear hs1 hb1)
    |(at_builtin;(with_reducible refine j5 rfl (.tmp 23) (.tmp 25) rfl w.heap.size (.slice (some ⟨w.heap.size,0,none⟩) 1 1) [1] rfl (j7f HR1.out iL) A1 4 c1 (jd 0) (·<w1.heap.size) rfl HS1.out (by simp [jd]) HB1.out.size ?_);intro v2 w2 hgr;obtain⟨A2,c2,hv2⟩:=hgr.1.form;rw [show([1]++jd 0)= [1,0,0,0,0]by decide]at hgr hv2;subst hv2;have HB2:=iH (HB1.out.trans hgr.2.1);have HS2:Hid (Bs w2 w2.heap.size (.slice A2 5 c2) [1,0,0,0,0]):=iH ((hgr.1.out (by decide) w iL).keep fun g hg _=>⟨rfl,hg.2⟩);clear hgr)
    |(at_builtin;(with_reducible refine j5 rfl (.tmp 21) (.tmp 28) rfl w.heap.size (.slice none 0 0) [] rfl (OwnB.nil _ _) A3 32 c3 (xw (s++ [1,0,0,0,0])) (·<w3.heap.size) rfl HS3.out (by rw [je];simp) HB3.out.size ?_);intro v4 w4 hgr;rw [List.nil_append]at hgr;obtain⟨A4,c4,hv4⟩:=hgr.1.form;rw [je]at hv4;subst hv4;have hs4:=hgr.1.out (by rw [je];omega) w iL;have HS4:=iH hs4;have HC4:Hid (32<=c4/\c4<=9223372036854775807):=iH (by obtain⟨a,c',e,q1,q2,_⟩:=hs4;rw [je]at e q1;obtain⟨_,_,hc⟩:=Value.slice.inj e;omega);have HB4:=iH (HB3.out.trans hgr.2.1);clear hgr hs4))
   go_roundg 0
   case measure=>omega
   case rel=>exact⟨_,32,1,_,rfl,rfl,.inr ⟨rfl,rfl,rfl,HC4.out.1,HC4.out.2,HS4,HB4⟩⟩
  ·obtain⟨wa,rfl⟩:∃wa:World,wa=wr:=⟨_,rfl⟩
   have e0:decide (((32:Nat):Int)<(n:Int))=false:=decide_eq_false (by omega)
   go_upto_region 8 with fail
   have HVW:=iH (fun(W:World) (h:Below wa.heap.size wa W)=>HV.out.lift (hb.out.trans (h.mono hb.out.size)))
   have HSW:=iH (fun(W:World) (h:Below wa.heap.size wa W)=>(BsS.keep hs.out (w':=W) (S':=New w W) fun g hg hl=>⟨h.block g hl,hg.1,iZ hl h.size⟩))
   have HKW:=iH (fun(W:World) (h:Below wa.heap.size wa W)=>HK.out.below (hb.out.trans (h.mono hb.out.size)) HK.out.lt)
   have HCUT:=iH (fun(W:World) (h:BsS W (New w W) (.slice A2 32 c2) (xw (s++ [1,0,0,0,0])))=>(BsS.cut h (k:=n) (d:=c2) (by rw [je];omega) (by omega) (by omega):BsS W (New w W) (.slice A2 n c2) (jt s n)))
   clear hs
   refine ja 7 [some 30,some 31,some 32,some 33,some 34,some 35,some 36] [[],[],[0,1],[],[],[3,4],[3,4,5]]
    (fun _ _ w1=>Below wa.heap.size wa w1) (fun w1 w2=>Below w1.heap.size w1 w2)
    [.v (.slice A2 32 c2),
     .v (.int .i64 n),
     .v (.slice A2 n c2),
     .v (.slice A s.length c),
     .p (fun v w1=>∃g,v 4=.slice (some ⟨g,0,none⟩) 1 1/\Bs w1 w1.heap.size (.slice (some ⟨g,0,none⟩) 1 1) [0]) (fun _ _ _ _ _ hr ⟨g,h1,h2⟩=>⟨g,h1,h2.lift hr⟩),
     .p (fun v w1=>∃u,v 5=u/\Bs w1 w1.heap.size u (s++ [0])) (fun _ _ _ _ _ hr ⟨u,h1,h2⟩=>⟨u,h1,h2.lift hr⟩),
     .p (fun v w1=>∃B d,v 6=.slice B 32 d/\BsS w1 (New w w1) (.slice B 32 d) (sdW s)/\True) (fun _ _ _ _ _ hr ⟨B,d,h1,h2,h3⟩=>⟨B,d,h1,h2.keep fun g hg hl=>⟨hr.block g hl,hg.1,iZ hl hr.size⟩,h3⟩)]
    (by kernel_rfl) (by kernel_rfl) rfl (fun _=>iB.drew) ?steps ?tail
   case steps=>
    simp only [List.take_succ_cons,List.take_zero]
    repeat' (with_reducible first|exact StepsRG.nil|refine StepsRG.cons ?_ ?_)
    all_goals(intro L v w1 hJ hL hF hD K hK;simp only [jb,Act.put,Nat.zero_add,Nat.reduceAdd,List.setIfInBounds_toArray,List.set_cons_zero,List.set_cons_succ,↓jZ,List.getD_cons_zero,List.getD_cons_succ,Nat.reduceEqDiff,↓reduceIte]at hD hK |-)
    all_goals try((try simp only [hD]at hK |-);go_simp;refine hK _ _ hJ iB ?_;first|exact rfl|exact jh _)
    ·simp only [hD]at hK |-
     go_simp
     try rw [iT (show n<=c2 by omega)]
     exact hK _ _ hJ iB rfl
    ·go_simp
     refine hK _ _ (hJ.alloc hJ.size _) (jo _ _) ⟨_,rfl,?_⟩
     exact((j55 w1 0 iL).out (by decide) w1 iL).keep fun g hg _=>⟨rfl,hg.2⟩
    ·simp only [hD]at hK |-
     obtain⟨g,e4,hz⟩:∃g,v 4=_/\_:=hF 4 (by simp)
     simp only [e4]at hK |-
     go_simp
     refine(Jd _ _ s [0] _ _ w1 (HVW.out _ hJ) hz (by have:=HL.out;simp only [List.length_cons,List.length_nil];omega)).mono ?_
     rintro e w3 ⟨v3,rfl,ho,hb3⟩
     refine hK _ _ (hJ.trans (hb3.mono hJ.size)) hb3 ⟨_,rfl,?_⟩
     exact ho.bs (by have:=HL.out;rw [List.length_append];simp only [List.length_cons,List.length_nil];omega)
    ·simp only [hD]at hK |-
     obtain⟨u,e5,hz⟩:∃u,v 5=_/\_:=hF 5 (by simp)
     simp only [e5]at hK |-
     go_simp
     refine(y9 _ (s++ [0]) (by have:=HL.out;rw [List.length_append];simp only [List.length_cons,List.length_nil];omega) w1 (HKW.out _ hJ) hz).mono ?_
     rintro e w3 ⟨v3,rfl,hs3,hb3⟩
     obtain⟨A3,c3,hv3⟩:=Bs.formL hs3
     rw [je]at hv3
     subst hv3
     refine hK _ _ (hJ.trans (hb3.mono hJ.size)) hb3 ⟨_,_,rfl,?_,trivial⟩
     exact hs3.keep fun g hg _=>⟨rfl,Nat.le_trans hb.out.size (Nat.le_trans hJ.size hg.1),hg.2⟩
   case tail=>
    intro v w1 hJ hF hD
    simp only [kE]at hD
    obtain⟨e0,e1,e2,e3, -⟩:=hD
    simp only [List.drop_succ_cons,List.drop_zero,jb,Act.put,Nat.zero_add,Nat.reduceAdd,List.setIfInBounds_toArray,List.set_cons_zero,List.set_cons_succ]
    obtain⟨B,d,e9,hs9,hb9⟩:∃B d,v 6=.slice B 32 d/\BsS w1 (New w w1) (.slice B 32 d) (sdW s)/\True:=hF 6 (by simp)
    simp only [e0,e1,e2,e3,e9]
    have HB9:=iH hb9;have HS9:=iH hs9;have HJ:=iH hJ
    clear hJ hF hb9 hs9 e9 e0 e1 e2 e3
    go_wp2_with fail
    go_ret3
    exact⟨_,_,_,_,rfl,HCUT.out _ (HSW.out _ HJ.out),HS9.out,hb.out.trans (HJ.out.mono hb.out.size)⟩
end
theorem j58(l:List UInt8)(h:7<=l.length):∃z:Nat,zn (l.take 7)=z/\z<72057594037927936/\zm (l.take 7)=((z:Int),0):=by
 have hn:=Qw l 7 h
 refine⟨(zn (l.take 7)).toNat,by omega,by omega,?_⟩
 unfold zm
 rw [iF (by rw [List.length_take];omega)]
 congr 1
 omega
theorem QK(z m:Nat):(z:Int).tmod m=((z % m:Nat):Int):=by rw [Int.tmod_eq_emod_of_nonneg (by omega)]<;>rfl
def Ko(s:List UInt8)(w:World)(e:Ending)(w':World):Prop:=∃B d,e=.returned (.tuple #[.int .i64 (jX s),.slice B 32 d])/\BsS w' (New w w') (.slice B 32 d) (sdW s)/\Below w.heap.size w w'
theorem y7(l:List UInt8)(h:7<=l.length)(m:Nat)(hm:0<m)(hm2:m<=9223372036854775807)(v:Value)(w:World)(hv:Bs w w.heap.size v l):
 Calls Tryz.prog 62 #[v,.int .i64 m] w fun e w'=>e=.returned (.int .i64 (zn (l.take 7) % m))/\w'=w:=by
 obtain⟨A,c,rfl⟩:=Bs.formL hv
 have hc:=(show l.length<=c by obtain⟨a,c',e,q1,_⟩:=hv;obtain⟨_,_,hc⟩:=Value.slice.inj e;omega)
 have hc9:=(show c<=9223372036854775807 by obtain⟨a,c',e,_,q2,_⟩:=hv;obtain⟨_,_,hc⟩:=Value.slice.inj e;omega)
 obtain⟨z,hz,hz9,hq⟩:=j58 l h
 have HC:=iH (BsS.cut hv (k:=7) (d:=c) h (by omega) hc9)
 have e1:=QK z m
 have HZ:=iH hz;have HQ:=iH hq
 clear hv hz hq
 go_enter Tryz.func62,Tryz.ntmps62
 go_wp2_with(go_at_call 120;refine iR (zC _ _ _ w HC.out) ?_;rw [HQ.out])
 go_ret
 refine⟨?_,rfl⟩
 rw [HZ.out]
 first|rfl|(congr 2;omega)
theorem xd(v:Value)(s:List UInt8)(w:World)(hK:KD w)(hv:Bs w w.heap.size v s)(hl:s.length<=140737488354000):
 Calls Tryz.prog 127 #[v] w (Ko s w):=by
 have H:=iH (Qm 8 (by omega) (by omega) v s w hK hv hl)
 obtain⟨A,c,rfl⟩:=Bs.formL hv
 obtain⟨z,hz,hz9,hq⟩:=j58 (jt s 8) (by unfold jt;rw [List.length_take,je];omega)
 have hl8:(jt s 8).length=8:=by unfold jt;rw [List.length_take,je]<;>rfl
 have e1:=QK z 1073741788
 have HZ:=iH hz;have HQ:=iH hq;have HL:=iH hl8
 have hx:z % 1073741788<1073741788:=Nat.mod_lt _ (by decide)
 clear hv hz hq hK hl hl8
 go_enter Tryz.func127,Tryz.ntmps127
 go_wp2_with(first
  |(go_at_call 118;refine iR (x6 _ _ _ w1 HC.out) ?_;rw [HQ.out])
  |(go_at_call 125;refine H.out.mono ?_;rintro e w1 ⟨A1,c1,B1,d1,rfl,ha,hb,hbw⟩;obtain⟨hc1,hc9⟩:8<=c1/\c1<=9223372036854775807:=(by obtain⟨a,c',e,q1,q2,_⟩:=ha;obtain⟨_,_,hc⟩:=Value.slice.inj e;have:=HL.out;omega);have HC:=iH (BsS.cut ha (k:=7) (d:=c1) (by rw [HL.out];omega) (by omega) hc9);have HS:=iH hb;have HB:=iH hbw;clear ha hb hbw))
 go_ret2
 refine⟨_,_,?_,HS.out,HB.out⟩
 unfold jX
 rw [HZ.out]
 rfl
theorem XX(v:Value)(s:List UInt8)(w:World)(hK:KR w)(hv:Bs w w.heap.size v s)(hl:s.length<=140737488354000):
 Calls Tryz.prog 82 #[v] w (Ko s w):=by
 have H:=iH (XW 8 (by omega) (by omega) v s w hK hv hl)
 obtain⟨A,c,rfl⟩:=Bs.formL hv
 have hl8:(jt s 8).length=8:=by unfold jt;rw [List.length_take,je]<;>rfl
 obtain⟨z,hz⟩:∃z:Nat,zn ((jt s 8).take 7) % 1073741788=z:=⟨(zn ((jt s 8).take 7) % 1073741788).toNat,by omega⟩
 have hz9:(z:Int)<1073741788:=by omega
 have HN:=iH (fun(v:Value) (w:World) (h:Bs w w.heap.size v (jt s 8))=>y7 (jt s 8) (by omega) 1073741788 (by omega) (by omega) v w h)
 rw [show((1073741788:Nat):Int)=1073741788 from rfl,hz]at HN
 have HZ:=iH hz
 clear hv hz hK hl hl8
 go_enter Tryz.func82,Tryz.ntmps82
 go_wp2_with(first
  |(go_at_call 62;refine iR (HN.out _ w1 HC.out) ?_)
  |(go_at_call 80;refine H.out.mono ?_;rintro e w1 ⟨A1,c1,B1,d1,rfl,ha,hb,hbw⟩;have HC:Hid (Bs w1 w1.heap.size (.slice A1 8 c1) (jt s 8)):=iH (BsS.keep ha fun g hg _=>⟨rfl,hg.2⟩);have HS:=iH hb;have HB:=iH hbw;clear ha hb hbw))
 go_ret2
 refine⟨_,_,?_,HS.out,HB.out⟩
 unfold jX
 rw [HZ.out]
 rfl
theorem VI{l:List UInt8}(h:l.length=4):∃z:Nat,zn l=z/\z<4294967296/\zm l=((z:Int),0):=by
 have hn:=Qw l 4 (by omega)
 rw [List.take_of_length_le (by omega)]at hn
 refine⟨(zn l).toNat,by omega,by omega,?_⟩
 unfold zm
 rw [iF (by omega)]
 congr 1
 omega
section
variable(l:List UInt8)(v:Value)(S:Nat->Prop)(w:World)(hv:BsS w S v l)
include l v S w hv
theorem jW:Calls Tryz.prog 126 #[v] w fun e w'=>e=.returned (.tuple #[.int .i64 (jc l).2,.int .i64 (jc l).1])/\w'=w:=by
 obtain⟨A,c,rfl⟩:=Bs.formL hv
 have HV:=iH hv
 clear hv
 by_cases h4:l.length=4
 ·obtain⟨z,hz,hz9,hq⟩:=VI h4
  have HQ:=iH hq
  have t4:((l.length:Int) != 4)=false:=by simp;omega
  clear hq
  rcases hb:jk z with _|_
  ·have E:Hid (jc l=(10,0)):=iH (by unfold jc;rw [iF (by omega),hz,iT hb])
   have HE:=iH hb
   clear hb hz h4
   go_enter Tryz.func126,Tryz.ntmps126
   go_wp2_with(first
    |(go_at_call 115;refine iR (km (z:Int) w) ?_;rw [HE.out])
    |(go_at_call 118;refine iR (x6 l _ _ w HV.out) ?_;rw [HQ.out]))
   go_ret2
   rw [E.out]
   exact⟨rfl,rfl⟩
  ·have E:Hid (jc l=(0,(z:Int))):=iH (by unfold jc;rw [iF (by omega),hz,iF (by rw [hb];simp)])
   have HE:=iH hb
   clear hb hz h4
   go_enter Tryz.func126,Tryz.ntmps126
   go_wp2_with(first
    |(go_at_call 115;refine iR (km (z:Int) w) ?_;rw [HE.out])
    |(go_at_call 118;refine iR (x6 l _ _ w HV.out) ?_;rw [HQ.out]))
   go_ret2
   rw [E.out]
   exact⟨rfl,rfl⟩
 ·have E:Hid (jc l=(2,0)):=iH (by unfold jc;rw [iT h4])
  have t4:((l.length:Int) != 4)=true:=by simp;omega
  clear h4
  go_enter Tryz.func126,Tryz.ntmps126
  go_wp2_with fail
  go_ret2
  rw [E.out]
  exact⟨rfl,rfl⟩
theorem jO:Calls Tryz.prog 81 #[v] w fun e w'=>e=.returned (.tuple #[.int .i64 (jc l).2,.int .i64 (jc l).1])/\w'=w:=by
 obtain⟨A,c,rfl⟩:=Bs.formL hv
 have HV:=iH hv
 clear hv
 by_cases h4:l.length=4
 ·obtain⟨z,hz,hz9,hq⟩:=VI h4
  have HQ:=iH hq
  have t4:((l.length:Int) != 4)=false:=by simp;omega
  clear hq
  rcases hb:jk z with _|_
  ·have E:Hid (jc l=(10,0)):=iH (by unfold jc;rw [iF (by omega),hz,iT hb])
   have HE:=iH hb
   clear hb hz h4
   go_enter Tryz.func81,Tryz.ntmps81
   go_wp2_with(first
    |(go_at_call 29;refine iR (jL (z:Int) w) ?_;rw [HE.out])
    |(go_at_call 120;refine iR (zC l _ _ w HV.out) ?_;rw [HQ.out]))
   go_ret2
   rw [E.out]
   exact⟨rfl,rfl⟩
  ·have E:Hid (jc l=(0,(z:Int))):=iH (by unfold jc;rw [iF (by omega),hz,iF (by rw [hb];simp)])
   have HE:=iH hb
   clear hb hz h4
   go_enter Tryz.func81,Tryz.ntmps81
   go_wp2_with(first
    |(go_at_call 29;refine iR (jL (z:Int) w) ?_;rw [HE.out])
    |(go_at_call 120;refine iR (zC l _ _ w HV.out) ?_;rw [HQ.out]))
   go_ret2
   rw [E.out]
   exact⟨rfl,rfl⟩
 ·have E:Hid (jc l=(2,0)):=iH (by unfold jc;rw [iT h4])
  have t4:((l.length:Int) != 4)=true:=by simp;omega
  clear h4
  go_enter Tryz.func81,Tryz.ntmps81
  go_wp2_with fail
  go_ret2
  rw [E.out]
  exact⟨rfl,rfl⟩
end
theorem KE(x k:Nat)(h0:0<x)(h1:x<2147483579)(hk:k<=1073741789)(w:World):Calls Tryz.prog 57 #[.int .i64 x,.int .i64 k] w fun e w'=>e=.returned (.tuple #[.int .i64 (gpw 64 1 x k),.int .i64 0])/\w'=w:=by
 have HR:=iH (y6 (x:Int) w)
 rw [decide_eq_true (show 0<(x:Int)/\(x:Int)<2147483579 by omega)]at HR
 have HP:=iH (zZ x k w h1 (by omega))
 have g1:decide ((k:Int)<0)=false:=decide_eq_false (by omega)
 have g2:decide ((k:Int)>1073741789)=false:=decide_eq_false (by omega)
 go_enter Tryz.func57,Tryz.ntmps57
 go_wp2_with(first
  |(go_at_call 116;refine iR HP.out ?_)
  |(go_at_call 117;refine iR HR.out ?_))
 go_ret2
 exact⟨rfl,rfl⟩
theorem YB(a b:Nat)(ha:0<a)(ha1:a<2147483579)(hb:0<b)(hb1:b<2147483579)(w:World):Calls Tryz.prog 59 #[.int .i64 a,.int .i64 b] w fun e w'=>e=.returned (.tuple #[.int .i64 (a*b % 2147483579:Nat),.int .i64 0])/\w'=w:=by
 have HA:=iH (y6 (a:Int) w)
 have HB:=iH (y6 (b:Int) w)
 rw [decide_eq_true (show 0<(a:Int)/\(a:Int)<2147483579 by omega)]at HA
 rw [decide_eq_true (show 0<(b:Int)/\(b:Int)<2147483579 by omega)]at HB
 have HM:=iH (JG ha1 hb1)
 go_enter Tryz.func59,Tryz.ntmps59
 go_wp2_with(go_at_call 117;first|(refine iR HA.out ?_)|(refine iR HB.out ?_))
 go_ret2
 refine⟨?_,rfl⟩
 rw [HM.out]
 rfl
theorem yb(s:List UInt8):okS (jX s)=true:=by unfold jX okS;exact decide_eq_true (by omega)
theorem Yz(x k:Int):∃n:Nat,jM x k=n:=⟨_,rfl⟩
theorem kg(x k:Int)(hx:jk x=true)(hk:okS k=true):jk (jM x k)=true:=by
 have hi:=jF hx
 have hk:=yP hk
 obtain⟨a,rfl⟩:∃a:Nat,x=a:=⟨x.toNat,by omega⟩
 obtain⟨b,rfl⟩:∃b:Nat,k=b:=⟨k.toNat,by omega⟩
 exact V1 a b hx (by omega) (by omega)
theorem xE:jk 4=true:=by
 have:=UK 1 (by omega) (by omega)
 rw [show gpw 64 1 4 1=4 by decide]at this
 exact this
theorem zy(x k:Int):0<=jM x k/\jM x k<2147483579:=⟨by unfold jM;omega,by have:=XE 64 1 x.toNat k.toNat (by decide);unfold jM;omega⟩
theorem j2a(n:List UInt8)(k other:Int)(hk:okS k=true)(ho:jk other=true)(h1:j29 n k other≠1):jk (j29 n k other)=true:=by
 have hs:=kg other k ho hk
 obtain⟨b,hb⟩:=Yz other k
 obtain⟨a,ha⟩:=Yz 4 (zn (n.take 7) % 1073741789)
 unfold j29 at h1 |-
 rw [hb]at h1 hs |-
 rw [ha]at h1 |-
 have e:((a:Int)*b % 2147483579)=((a*b % 2147483579:Nat):Int):=by omega
 rw [e]at h1 |-
 by_cases hk0:zn (n.take 7) % 1073741789=0
 ·have ha1:a=1:=by
   rw [hk0]at ha
   have:jM 4 0=1:=by unfold jM;rw [show(0:Int).toNat=0 from rfl,xW]<;>rfl
   omega
  subst ha1
  have hi:=jF hs
  rw [Nat.one_mul,Nat.mod_eq_of_lt (by omega)]
  exact hs
 ·refine j2s a b ?_ hs (by omega)
  rw [<-ha]
  exact kg 4 _ xE (by unfold okS;exact decide_eq_true (by omega))
def EB(r:Int×List UInt8)(w:World)(e:Ending)(w':World):Prop:=∃v',e=.returned (.tuple #[v',.int .i64 r.1])/\BsS w' (New w w') v' r.2/\Below w.heap.size w w'
theorem EB.no0{w w':World}{er:Int}{r:Int×List UInt8}(hr:r=(er,[]))(hb:Below w.heap.size w w'):EB r w (.returned (.tuple #[.slice none 0 0,.int .i64 er])) w':=by
 subst hr
 exact⟨_,rfl,⟨none,0,rfl,by simp,by omega,by simp,fun h=>by simp at h⟩,hb⟩
def pkW(kd:Int)(sec:List UInt8):Int×List UInt8:=if vPw kd sec=false then(14,[])else(0,kX kd sec)
section
variable(kd:Int)(sec:List UInt8)(A:Option Addr)(c:Nat)(w:World)
include kd sec A c w
theorem kY:
 Calls Tryz.prog 45 #[.agg #[.int .i64 kd,.slice A sec.length c]] w fun e w'=>e=.returned (.bool (vPw kd sec))/\Below w.heap.size w w':=by
 have HB:Hid (Below w.heap.size w (w.alloc (.cells #[.int .i64 kd,.slice A sec.length c] 24))):=iH (jo _ _)
 have hcases:¬1<=kd\/(1<=kd/\¬kd<=4)\/(1<=kd/\kd<=4/\¬1<=sec.length)\/(1<=kd/\kd<=4/\1<=sec.length/\¬sec.length<=64)\/(1<=kd/\kd<=4/\1<=sec.length/\sec.length<=64):=by omega
 rcases hcases with h1|⟨h1,h2⟩|⟨h1,h2,h3⟩|⟨h1,h2,h3,h4⟩|⟨h1,h2,h3,h4⟩
 iterate 4 (have R:Hid (vPw kd sec=false):=iH (decide_eq_false (by omega));go_enter Tryz.func45,Tryz.ntmps45;go_wp2_with fail;go_ret;rw [R.out];refine⟨?_,HB.out⟩;first|rfl|(simp;omega))
 ·have R:Hid (vPw kd sec=true):=iH (decide_eq_true (by omega))
  go_enter Tryz.func45,Tryz.ntmps45;go_wp2_with fail;go_ret;rw [R.out];refine⟨?_,HB.out⟩;first|rfl|(simp;omega)
theorem jY:
 Calls Tryz.prog 48 #[.agg #[.int .i64 kd,.slice A sec.length c]] w fun e w'=>e=.returned (.bool (vPw kd sec))/\Below w.heap.size w w':=by
 have HB:Hid (Below w.heap.size w (w.alloc (.cells #[.int .i64 kd,.slice A sec.length c] 24))):=iH (jo _ _)
 have hcases:¬1<=kd\/(1<=kd/\¬kd<=4)\/(1<=kd/\kd<=4/\¬1<=sec.length)\/(1<=kd/\kd<=4/\1<=sec.length/\¬sec.length<=64)\/(1<=kd/\kd<=4/\1<=sec.length/\sec.length<=64):=by omega
 rcases hcases with h1|⟨h1,h2⟩|⟨h1,h2,h3⟩|⟨h1,h2,h3,h4⟩|⟨h1,h2,h3,h4⟩
 iterate 4 (have R:Hid (vPw kd sec=false):=iH (decide_eq_false (by omega));go_enter Tryz.func48,Tryz.ntmps48;go_wp2_with fail;go_ret;rw [R.out];refine⟨?_,HB.out⟩;first|rfl|(simp;omega))
 ·have R:Hid (vPw kd sec=true):=iH (decide_eq_true (by omega))
  go_enter Tryz.func48,Tryz.ntmps48;go_wp2_with fail;go_ret;rw [R.out];refine⟨?_,HB.out⟩;first|rfl|(simp;omega)
theorem z8(hK:KD w)(hv:Bs w w.heap.size (.slice A sec.length c) sec):
 Calls Tryz.prog 16 #[.agg #[.int .i64 kd,.slice A sec.length c]] w (EB (pkW kd sec) w):=by
 obtain⟨w0,hw0⟩:∃w0,w0=w.alloc (.cells #[.int .i64 kd,.slice A sec.length c] 24):=⟨_,rfl⟩
 have HB0:Hid (Below w.heap.size w w0):=iH (by rw [hw0];exact jo _ _)
 have HH0:Hid (w0.heap[w.heap.size]?=some (.cells #[.int .i64 kd,.slice A sec.length c] 24 (0,0))):=iH (by rw [hw0];exact iN)
 have HLT:Hid (w.heap.size<w0.heap.size):=iH (by rw [hw0];simp)
 have HW0:=iH hw0;have HV:=iH hv;have HK:=iH hK
 obtain⟨f0,f1,_⟩:=two HH0.out
 clear hw0 hv hK
 rcases hp:vPw kd sec with _|_
 ·have HVP:=iH hp
  have R:Hid (pkW kd sec=(14,[])):=iH (by unfold pkW;rw [iT hp])
  clear hp
  go_enter Tryz.func16,Tryz.ntmps16
  go_upto_region 1 with fail
  rw [<-HW0.out]
  go_wp2_with(go_at_call 45;refine(kY kd sec A c w0).mono ?_;rw [HVP.out];rintro e w1 ⟨rfl,hb⟩;have HB1:=iH hb;obtain⟨y0,y1,_⟩:=two ((hb.block w.heap.size HLT.out).trans HH0.out);clear hb)
  go_ret2
  exact EB.no0 R.out (HB0.out.trans (HB1.out.mono HB0.out.size))
 ·have HVP:=iH hp
  have HLS:Hid (sec.length<=64):=iH (by have:=of_decide_eq_true hp;omega)
  by_cases hk:kd=1
  ·have R:Hid (pkW kd sec=(0,xG (xw sec) 3)):=iH (by unfold pkW kX;rw [hp,iF (by simp),iT hk])
   have t1:(kd==1)=true:=by simpa using hk
   clear hp hk
   go_enter Tryz.func16,Tryz.ntmps16
   go_upto_region 1 with fail
   rw [<-HW0.out]
   go_wp2_with(first
    |(go_at_call 47;refine(Ja 3 (by omega) (by omega) _ (xw sec) w2 (HK.out.below HB2.out HK.out.lt) HS2.out (by have:=HLS.out;first|omega|(rw [je];omega))).mono ?_;rintro e w3 ⟨v3,rfl,hs,hb⟩;have HS3:=iH hs;have HB3:=iH hb;clear hs hb)
    |(go_at_call 46;refine(Yb _ sec (by have:=HLS.out;omega) w1 (HK.out.below (HB0.out.trans (HB1.out.mono HB0.out.size)) HK.out.lt) ((HV.out.lift HB0.out).lift HB1.out)).mono ?_;rintro e w2 ⟨v2,rfl,hs,hb⟩;have HS2:Hid (Bs w2 w2.heap.size v2 (xw sec)):=iH (BsS.keep hs fun g hg _=>⟨rfl,hg.2⟩);have HB2:Hid (Below w.heap.size w w2):=iH ((HB0.out.trans (HB1.out.mono HB0.out.size)).trans (hb.mono (HB0.out.trans (HB1.out.mono HB0.out.size)).size));clear hs hb)
    |(go_at_call 45;refine(kY kd sec A c w0).mono ?_;rw [HVP.out];rintro e w1 ⟨rfl,hb⟩;have HB1:=iH hb;obtain⟨y0,y1,_⟩:=two ((hb.block w.heap.size HLT.out).trans HH0.out);clear hb))
   go_ret2
   refine⟨_,by rw [R.out]<;>rfl,?_,HB2.out.trans (HB3.out.mono HB2.out.size)⟩
   rw [R.out]
   exact HS3.out.keep fun g hg _=>⟨rfl,Nat.le_trans HB2.out.size hg.1,hg.2⟩
  ·have R:Hid (pkW kd sec=(0,xG sec 3)):=iH (by unfold pkW kX;rw [hp,iF (by simp),iF hk])
   have t1:(kd==1)=false:=by simpa using hk
   clear hp hk
   go_enter Tryz.func16,Tryz.ntmps16
   go_upto_region 1 with fail
   rw [<-HW0.out]
   go_wp2_with(first
    |(go_at_call 47;refine(Ja 3 (by omega) (by omega) _ (sec) w1 (HK.out.below HB2.out HK.out.lt) ((HV.out.lift HB0.out).lift HB1.out) (by have:=HLS.out;first|omega|(rw [je];omega))).mono ?_;rintro e w3 ⟨v3,rfl,hs,hb⟩;have HS3:=iH hs;have HB3:=iH hb;clear hs hb)
    |(go_at_call 45;refine(kY kd sec A c w0).mono ?_;rw [HVP.out];rintro e w1 ⟨rfl,hb⟩;have HB1:=iH hb;obtain⟨y0,y1,_⟩:=two ((hb.block w.heap.size HLT.out).trans HH0.out);clear hb;have HB2:Hid (Below w.heap.size w w1):=iH (HB0.out.trans (HB1.out.mono HB0.out.size))))
   go_ret2
   refine⟨_,by rw [R.out]<;>rfl,?_,HB2.out.trans (HB3.out.mono HB2.out.size)⟩
   rw [R.out]
   exact HS3.out.keep fun g hg _=>⟨rfl,Nat.le_trans HB2.out.size hg.1,hg.2⟩
theorem qY(hK:KR w)(hv:Bs w w.heap.size (.slice A sec.length c) sec):
 Calls Tryz.prog 17 #[.agg #[.int .i64 kd,.slice A sec.length c]] w (EB (pkW kd sec) w):=by
 obtain⟨w0,hw0⟩:∃w0,w0=w.alloc (.cells #[.int .i64 kd,.slice A sec.length c] 24):=⟨_,rfl⟩
 have HB0:Hid (Below w.heap.size w w0):=iH (by rw [hw0];exact jo _ _)
 have HH0:Hid (w0.heap[w.heap.size]?=some (.cells #[.int .i64 kd,.slice A sec.length c] 24 (0,0))):=iH (by rw [hw0];exact iN)
 have HLT:Hid (w.heap.size<w0.heap.size):=iH (by rw [hw0];simp)
 have HW0:=iH hw0;have HV:=iH hv;have HK:=iH hK
 obtain⟨f0,f1,_⟩:=two HH0.out
 clear hw0 hv hK
 rcases hp:vPw kd sec with _|_
 ·have HVP:=iH hp
  have R:Hid (pkW kd sec=(14,[])):=iH (by unfold pkW;rw [iT hp])
  clear hp
  go_enter Tryz.func17,Tryz.ntmps17
  go_upto_region 1 with fail
  rw [<-HW0.out]
  go_wp2_with(go_at_call 48;refine(jY kd sec A c w0).mono ?_;rw [HVP.out];rintro e w1 ⟨rfl,hb⟩;have HB1:=iH hb;obtain⟨y0,y1,_⟩:=two ((hb.block w.heap.size HLT.out).trans HH0.out);clear hb)
  go_ret2
  exact EB.no0 R.out (HB0.out.trans (HB1.out.mono HB0.out.size))
 ·have HVP:=iH hp
  have HLS:Hid (sec.length<=64):=iH (by have:=of_decide_eq_true hp;omega)
  by_cases hk:kd=1
  ·have R:Hid (pkW kd sec=(0,xG (xw sec) 3)):=iH (by unfold pkW kX;rw [hp,iF (by simp),iT hk])
   have t1:(kd==1)=true:=by simpa using hk
   clear hp hk
   go_enter Tryz.func17,Tryz.ntmps17
   go_upto_region 1 with fail
   rw [<-HW0.out]
   go_wp2_with(first
    |(go_at_call 50;refine(y5 3 (by omega) (by omega) _ (xw sec) w2 (HK.out.below HB2.out HK.out.lt) HS2.out (by have:=HLS.out;first|omega|(rw [je];omega))).mono ?_;rintro e w3 ⟨v3,rfl,hs,hb⟩;have HS3:=iH hs;have HB3:=iH hb;clear hs hb)
    |(go_at_call 49;refine(y9 _ sec (by have:=HLS.out;omega) w1 (HK.out.below (HB0.out.trans (HB1.out.mono HB0.out.size)) HK.out.lt) ((HV.out.lift HB0.out).lift HB1.out)).mono ?_;rintro e w2 ⟨v2,rfl,hs,hb⟩;have HS2:Hid (Bs w2 w2.heap.size v2 (xw sec)):=iH (BsS.keep hs fun g hg _=>⟨rfl,hg.2⟩);have HB2:Hid (Below w.heap.size w w2):=iH ((HB0.out.trans (HB1.out.mono HB0.out.size)).trans (hb.mono (HB0.out.trans (HB1.out.mono HB0.out.size)).size));clear hs hb)
    |(go_at_call 48;refine(jY kd sec A c w0).mono ?_;rw [HVP.out];rintro e w1 ⟨rfl,hb⟩;have HB1:=iH hb;obtain⟨y0,y1,_⟩:=two ((hb.block w.heap.size HLT.out).trans HH0.out);clear hb))
   go_ret2
   refine⟨_,by rw [R.out]<;>rfl,?_,HB2.out.trans (HB3.out.mono HB2.out.size)⟩
   rw [R.out]
   exact HS3.out.keep fun g hg _=>⟨rfl,Nat.le_trans HB2.out.size hg.1,hg.2⟩
  ·have R:Hid (pkW kd sec=(0,xG sec 3)):=iH (by unfold pkW kX;rw [hp,iF (by simp),iF hk])
   have t1:(kd==1)=false:=by simpa using hk
   clear hp hk
   go_enter Tryz.func17,Tryz.ntmps17
   go_upto_region 1 with fail
   rw [<-HW0.out]
   go_wp2_with(first
    |(go_at_call 50;refine(y5 3 (by omega) (by omega) _ (sec) w1 (HK.out.below HB2.out HK.out.lt) ((HV.out.lift HB0.out).lift HB1.out) (by have:=HLS.out;first|omega|(rw [je];omega))).mono ?_;rintro e w3 ⟨v3,rfl,hs,hb⟩;have HS3:=iH hs;have HB3:=iH hb;clear hs hb)
    |(go_at_call 48;refine(jY kd sec A c w0).mono ?_;rw [HVP.out];rintro e w1 ⟨rfl,hb⟩;have HB1:=iH hb;obtain⟨y0,y1,_⟩:=two ((hb.block w.heap.size HLT.out).trans HH0.out);clear hb;have HB2:Hid (Below w.heap.size w w1):=iH (HB0.out.trans (HB1.out.mono HB0.out.size))))
   go_ret2
   refine⟨_,by rw [R.out]<;>rfl,?_,HB2.out.trans (HB3.out.mono HB2.out.size)⟩
   rw [R.out]
   exact HS3.out.keep fun g hg _=>⟨rfl,Nat.le_trans HB2.out.size hg.1,hg.2⟩
end
def Kd(out:List UInt8->List UInt8->List UInt8)(kd:Int)(sec b:List UInt8):Int×List UInt8:=if vPw kd sec=false then(14,[])else if ¬b.length=16 then(2,[])else(0,out (kX kd sec) b)
section
variable(out:List UInt8->List UInt8->List UInt8)
include out
theorem Vm(hf:∀(vk vi vb:Value) (k b:List UInt8),k.length=16->b.length=16->∀(w:World),Bs w w.heap.size vk k->Bs w w.heap.size vi Z16->Bs w w.heap.size vb b->Calls Tryz.prog 52 #[vk,vi,vb] w fun e w'=>∃v',e=.returned (.tuple #[v',.int .i64 0])/\BsS w' (New w w') v' (out k b)/\Below w.heap.size w w')(kd:Int)(sec:List UInt8)(A:Option Addr)(c:Nat)(b:List UInt8)(B:Option Addr)(d:Nat)(w:World)(hK:KD w)(hv:Bs w w.heap.size (.slice A sec.length c) sec)(hb:Bs w w.heap.size (.slice B b.length d) b):
 Calls Tryz.prog 51 #[.agg #[.int .i64 kd,.slice A sec.length c],.slice B b.length d,.func (.func 52) #[] #[]] w (EB (Kd out kd sec b) w):=by
 have HF:=iH hf
 clear hf
 obtain⟨w0,hw0⟩:∃w0,w0=w.alloc (.cells #[.int .i64 kd,.slice A sec.length c] 24):=⟨_,rfl⟩
 have HB0:Hid (Below w.heap.size w w0):=iH (by rw [hw0];exact jo _ _)
 have HW0:=iH hw0
 obtain⟨f0,f1,_⟩:=two (show w0.heap[w.heap.size]?=some (.cells #[.int .i64 kd,.slice A sec.length c] 24 (0,0))by rw [hw0];exact iN)
 have HVA:=iH (hv.lift HB0.out);have HKA:=iH (hK.below HB0.out hK.lt);have HVB:=iH (hb.lift HB0.out)
 clear hw0 hv hK hb
 rcases hp:vPw kd sec with _|_
 ·have R0:Hid (pkW kd sec=(14,[])):=iH (by unfold pkW;rw [iT hp])
  have R:Hid (Kd out kd sec b=(14,[])):=iH (iT hp)
  clear hp
  go_enter Tryz.func51,Tryz.ntmps51
  go_upto_region 1 with fail
  rw [<-HW0.out]
  go_wp2_with(go_at_call 16;refine(z8 kd sec A c w0 HKA.out HVA.out).mono ?_;rw [R0.out];rintro e w1 ⟨v1,rfl,hs,hb⟩;obtain⟨A1,c1,hv1⟩:=Bs.formL hs;subst hv1;have HS1:=iH hs;have HB1:=iH hb;clear hs hb)
  go_ret2
  exact EB.no0 R.out (HB0.out.trans (HB1.out.mono HB0.out.size))
 have R0:Hid (pkW kd sec=(0,kX kd sec)):=iH (by unfold pkW;rw [iF (by rw [hp];simp)])
 by_cases hl:b.length=16
 ·have R:Hid (Kd out kd sec b=(0,out (kX kd sec) b)):=iH ((iF (by rw [hp];simp)).trans (iF (fun h=>h hl)))
  have t1:((b.length:Int) != 16)=false:=by simp;omega
  have HL:=iH hl
  clear hp hl
  have Hm:=yN
  go_enter Tryz.func51,Tryz.ntmps51
  go_upto_region 1 with fail
  rw [<-HW0.out]
  go_wp2_with(first
   |(go_at_call 52;refine(HF.out _ _ _ (kX kd sec) b (jG _ _) HL.out (wz w1) (HS1.out.keep fun g hg hl=>⟨(jm w1).block g hl,iZ hl (jm w1).size⟩) (BsS.keep (yh w1) fun g hg _=>⟨rfl,hg.2⟩) ((HVB.out.lift HB1.out).lift (jm w1))).mono ?_;rintro e w2 ⟨v2,rfl,hs,hb⟩;have HS2:=iH hs;have HB2:=iH ((jm w1).trans (hb.mono (jm w1).size));clear hs hb)
   |(go_at_call 16;refine(z8 kd sec A c w0 HKA.out HVA.out).mono ?_;rw [R0.out];rintro e w1 ⟨v1,rfl,hs,hb⟩;obtain⟨A1,c1,hv1⟩:=Bs.formL hs;subst hv1;have HS1:=iH hs;have HB1:=iH hb;clear hs hb))
  go_ret2
  refine⟨_,by rw [R.out]<;>rfl,?_,(HB0.out.trans (HB1.out.mono HB0.out.size)).trans (HB2.out.mono (HB0.out.trans (HB1.out.mono HB0.out.size)).size)⟩
  rw [R.out]
  exact HS2.out.keep fun g hg _=>⟨rfl,Nat.le_trans (HB0.out.trans (HB1.out.mono HB0.out.size)).size (Nat.le_trans (jm w1).size hg.1),hg.2⟩
 ·have R:Hid (Kd out kd sec b=(2,[])):=iH ((iF (by rw [hp];simp)).trans (iT hl))
  have t1:((b.length:Int) != 16)=true:=by simp;omega
  clear hp hl
  go_enter Tryz.func51,Tryz.ntmps51
  go_upto_region 1 with fail
  rw [<-HW0.out]
  go_wp2_with(go_at_call 16;refine(z8 kd sec A c w0 HKA.out HVA.out).mono ?_;rw [R0.out];rintro e w1 ⟨v1,rfl,hs,hb⟩;obtain⟨A1,c1,hv1⟩:=Bs.formL hs;subst hv1;have HS1:=iH hs;have HB1:=iH hb;clear hs hb)
  go_ret2
  exact EB.no0 R.out (HB0.out.trans (HB1.out.mono HB0.out.size))
theorem Vk(hf:∀(vk vi vb:Value) (k b:List UInt8),k.length=16->b.length=16->∀(w:World),Bs w w.heap.size vk k->Bs w w.heap.size vi Z16->Bs w w.heap.size vb b->Calls Tryz.prog 54 #[vk,vi,vb] w fun e w'=>∃v',e=.returned (.tuple #[v',.int .i64 0])/\BsS w' (New w w') v' (out k b)/\Below w.heap.size w w')(kd:Int)(sec:List UInt8)(A:Option Addr)(c:Nat)(b:List UInt8)(B:Option Addr)(d:Nat)(w:World)(hK:KD w)(hv:Bs w w.heap.size (.slice A sec.length c) sec)(hb:Bs w w.heap.size (.slice B b.length d) b):
 Calls Tryz.prog 51 #[.agg #[.int .i64 kd,.slice A sec.length c],.slice B b.length d,.func (.func 54) #[] #[]] w (EB (Kd out kd sec b) w):=by
 have HF:=iH hf
 clear hf
 obtain⟨w0,hw0⟩:∃w0,w0=w.alloc (.cells #[.int .i64 kd,.slice A sec.length c] 24):=⟨_,rfl⟩
 have HB0:Hid (Below w.heap.size w w0):=iH (by rw [hw0];exact jo _ _)
 have HW0:=iH hw0
 obtain⟨f0,f1,_⟩:=two (show w0.heap[w.heap.size]?=some (.cells #[.int .i64 kd,.slice A sec.length c] 24 (0,0))by rw [hw0];exact iN)
 have HVA:=iH (hv.lift HB0.out);have HKA:=iH (hK.below HB0.out hK.lt);have HVB:=iH (hb.lift HB0.out)
 clear hw0 hv hK hb
 rcases hp:vPw kd sec with _|_
 ·have R0:Hid (pkW kd sec=(14,[])):=iH (by unfold pkW;rw [iT hp])
  have R:Hid (Kd out kd sec b=(14,[])):=iH (iT hp)
  clear hp
  go_enter Tryz.func51,Tryz.ntmps51
  go_upto_region 1 with fail
  rw [<-HW0.out]
  go_wp2_with(go_at_call 16;refine(z8 kd sec A c w0 HKA.out HVA.out).mono ?_;rw [R0.out];rintro e w1 ⟨v1,rfl,hs,hb⟩;obtain⟨A1,c1,hv1⟩:=Bs.formL hs;subst hv1;have HS1:=iH hs;have HB1:=iH hb;clear hs hb)
  go_ret2
  exact EB.no0 R.out (HB0.out.trans (HB1.out.mono HB0.out.size))
 have R0:Hid (pkW kd sec=(0,kX kd sec)):=iH (by unfold pkW;rw [iF (by rw [hp];simp)])
 by_cases hl:b.length=16
 ·have R:Hid (Kd out kd sec b=(0,out (kX kd sec) b)):=iH ((iF (by rw [hp];simp)).trans (iF (fun h=>h hl)))
  have t1:((b.length:Int) != 16)=false:=by simp;omega
  have HL:=iH hl
  clear hp hl
  have Hm:=yN
  go_enter Tryz.func51,Tryz.ntmps51
  go_upto_region 1 with fail
  rw [<-HW0.out]
  go_wp2_with(first
   |(go_at_call 54;refine(HF.out _ _ _ (kX kd sec) b (jG _ _) HL.out (wz w1) (HS1.out.keep fun g hg hl=>⟨(jm w1).block g hl,iZ hl (jm w1).size⟩) (BsS.keep (yh w1) fun g hg _=>⟨rfl,hg.2⟩) ((HVB.out.lift HB1.out).lift (jm w1))).mono ?_;rintro e w2 ⟨v2,rfl,hs,hb⟩;have HS2:=iH hs;have HB2:=iH ((jm w1).trans (hb.mono (jm w1).size));clear hs hb)
   |(go_at_call 16;refine(z8 kd sec A c w0 HKA.out HVA.out).mono ?_;rw [R0.out];rintro e w1 ⟨v1,rfl,hs,hb⟩;obtain⟨A1,c1,hv1⟩:=Bs.formL hs;subst hv1;have HS1:=iH hs;have HB1:=iH hb;clear hs hb))
  go_ret2
  refine⟨_,by rw [R.out]<;>rfl,?_,(HB0.out.trans (HB1.out.mono HB0.out.size)).trans (HB2.out.mono (HB0.out.trans (HB1.out.mono HB0.out.size)).size)⟩
  rw [R.out]
  exact HS2.out.keep fun g hg _=>⟨rfl,Nat.le_trans (HB0.out.trans (HB1.out.mono HB0.out.size)).size (Nat.le_trans (jm w1).size hg.1),hg.2⟩
 ·have R:Hid (Kd out kd sec b=(2,[])):=iH ((iF (by rw [hp];simp)).trans (iT hl))
  have t1:((b.length:Int) != 16)=true:=by simp;omega
  clear hp hl
  go_enter Tryz.func51,Tryz.ntmps51
  go_upto_region 1 with fail
  rw [<-HW0.out]
  go_wp2_with(go_at_call 16;refine(z8 kd sec A c w0 HKA.out HVA.out).mono ?_;rw [R0.out];rintro e w1 ⟨v1,rfl,hs,hb⟩;obtain⟨A1,c1,hv1⟩:=Bs.formL hs;subst hv1;have HS1:=iH hs;have HB1:=iH hb;clear hs hb)
  go_ret2
  exact EB.no0 R.out (HB0.out.trans (HB1.out.mono HB0.out.size))
end
section
variable(kd:Int)(sec:List UInt8)(A:Option Addr)(c:Nat)(b:List UInt8)(B:Option Addr)(d:Nat)(w:World)
include kd sec A c b B d w
section
variable(hK:KD w)(hv:Bs w w.heap.size (.slice A sec.length c) sec)(hb:Bs w w.heap.size (.slice B b.length d) b)
include hK hv hb
theorem j2j:
 Calls Tryz.prog 18 #[.agg #[.int .i64 kd,.slice A sec.length c],.slice B b.length d] w (EB (qr kd sec b) w):=by
 obtain⟨w0,hw0⟩:∃w0,w0=w.alloc (.cells #[.int .i64 kd,.slice A sec.length c] 24):=⟨_,rfl⟩
 have HB0:Hid (Below w.heap.size w w0):=iH (by rw [hw0];exact jo _ _)
 obtain⟨out,hout⟩:∃out:List UInt8->List UInt8->List UInt8,out=fun k b=>qg k Z16 b:=⟨_,rfl⟩
 rw [show qr kd sec b=Kd out kd sec b by simp only [qr,QL,Kd,hout]]
 have H:=iH (Vm out (by rw [hout];exact fun vk vi vb k b hk hb w h1 h2 h3=>Z7 vk vi vb k Z16 b 1 hk xx (by omega) w h1 h2 h3) kd sec A c b B d w0 (hK.below HB0.out hK.lt) (hv.lift HB0.out) (hb.lift HB0.out))
 have HW0:=iH hw0
 obtain⟨f0,f1,_⟩:=two (show w0.heap[w.heap.size]?=some (.cells #[.int .i64 kd,.slice A sec.length c] 24 (0,0))by rw [hw0];exact iN)
 clear hw0 hv hK hb hout
 go_enter Tryz.func18,Tryz.ntmps18
 go_upto_region 1 with fail
 rw [<-HW0.out]
 go_wp2_with(go_at_call 51;refine H.out.mono ?_;rintro e w1 ⟨v1,rfl,hs,hb⟩;have HS1:=iH hs;have HB1:=iH hb;clear hs hb)
 go_ret2
 exact⟨_,rfl,HS1.out.keep fun g hg _=>⟨rfl,Nat.le_trans HB0.out.size hg.1,hg.2⟩,HB0.out.trans (HB1.out.mono HB0.out.size)⟩
theorem KP:
 Calls Tryz.prog 20 #[.agg #[.int .i64 kd,.slice A sec.length c],.slice B b.length d] w (EB (QL kd sec b) w):=by
 obtain⟨w0,hw0⟩:∃w0,w0=w.alloc (.cells #[.int .i64 kd,.slice A sec.length c] 24):=⟨_,rfl⟩
 have HB0:Hid (Below w.heap.size w w0):=iH (by rw [hw0];exact jo _ _)
 obtain⟨out,hout⟩:∃out:List UInt8->List UInt8->List UInt8,out=fun k b=>zp k Z16 b:=⟨_,rfl⟩
 rw [show QL kd sec b=Kd out kd sec b by simp only [qr,QL,Kd,hout]]
 have H:=iH (Vk out (by rw [hout];exact fun vk vi vb k b hk hb w h1 h2 h3=>j0a vk vi vb k Z16 b 1 hk xx (by omega) w h1 h2 h3) kd sec A c b B d w0 (hK.below HB0.out hK.lt) (hv.lift HB0.out) (hb.lift HB0.out))
 have HW0:=iH hw0
 obtain⟨f0,f1,_⟩:=two (show w0.heap[w.heap.size]?=some (.cells #[.int .i64 kd,.slice A sec.length c] 24 (0,0))by rw [hw0];exact iN)
 clear hw0 hv hK hb hout
 go_enter Tryz.func20,Tryz.ntmps20
 go_upto_region 1 with fail
 rw [<-HW0.out]
 go_wp2_with(go_at_call 51;refine H.out.mono ?_;rintro e w1 ⟨v1,rfl,hs,hb⟩;have HS1:=iH hs;have HB1:=iH hb;clear hs hb)
 go_ret2
 exact⟨_,rfl,HS1.out.keep fun g hg _=>⟨rfl,Nat.le_trans HB0.out.size hg.1,hg.2⟩,HB0.out.trans (HB1.out.mono HB0.out.size)⟩
end
section
variable(hK:KR w)(hv:Bs w w.heap.size (.slice A sec.length c) sec)(hb:Bs w w.heap.size (.slice B b.length d) b)
include hK hv hb
theorem j0p:
 Calls Tryz.prog 19 #[.agg #[.int .i64 kd,.slice A sec.length c],.slice B b.length d] w (EB (qr kd sec b) w):=by
 obtain⟨out,hout⟩:∃out:List UInt8->List UInt8->List UInt8,out=fun k b=>qg k Z16 b:=⟨_,rfl⟩
 have hf:∀(vk vi vb:Value) (k b:List UInt8),k.length=16->b.length=16->∀(w:World),Bs w w.heap.size vk k->Bs w w.heap.size vi Z16->Bs w w.heap.size vb b->Calls Tryz.prog 53 #[vk,vi,vb] w fun e w'=>∃v',e=.returned (.tuple #[v',.int .i64 0])/\BsS w' (New w w') v' (out k b)/\Below w.heap.size w w':=by
  rw [hout]
  exact fun vk vi vb k b hk hb w h1 h2 h3=>yR vk vi vb k Z16 b 1 hk xx (by omega) w h1 h2 h3
 have HF:=iH hf
 rw [show qr kd sec b=Kd out kd sec b by simp only [qr,QL,Kd,hout]]
 clear hf hout
 obtain⟨w0,hw0⟩:∃w0,w0=w.alloc (.cells #[.int .i64 kd,.slice A sec.length c] 24):=⟨_,rfl⟩
 have HB0:Hid (Below w.heap.size w w0):=iH (by rw [hw0];exact jo _ _)
 have HW0:=iH hw0
 obtain⟨f0,f1,_⟩:=two (show w0.heap[w.heap.size]?=some (.cells #[.int .i64 kd,.slice A sec.length c] 24 (0,0))by rw [hw0];exact iN)
 have HVA:=iH (hv.lift HB0.out);have HKA:=iH (hK.below HB0.out hK.lt);have HVB:=iH (hb.lift HB0.out)
 clear hw0 hv hK hb
 rcases hp:vPw kd sec with _|_
 ·have R0:Hid (pkW kd sec=(14,[])):=iH (by unfold pkW;rw [iT hp])
  have R:Hid (Kd out kd sec b=(14,[])):=iH (iT hp)
  clear hp
  go_enter Tryz.func19,Tryz.ntmps19
  go_upto_region 1 with fail
  rw [<-HW0.out]
  go_wp2_with(go_at_call 17;refine(qY kd sec A c w0 HKA.out HVA.out).mono ?_;rw [R0.out];rintro e w1 ⟨v1,rfl,hs,hb⟩;obtain⟨A1,c1,hv1⟩:=Bs.formL hs;subst hv1;have HS1:=iH hs;have HB1:=iH hb;clear hs hb)
  go_ret2
  exact EB.no0 R.out (HB0.out.trans (HB1.out.mono HB0.out.size))
 have R0:Hid (pkW kd sec=(0,kX kd sec)):=iH (by unfold pkW;rw [iF (by rw [hp];simp)])
 by_cases hl:b.length=16
 ·have R:Hid (Kd out kd sec b=(0,out (kX kd sec) b)):=iH ((iF (by rw [hp];simp)).trans (iF (fun h=>h hl)))
  have t1:((b.length:Int) != 16)=false:=by simp;omega
  have HL:=iH hl
  clear hp hl
  have Hm:=yN
  go_enter Tryz.func19,Tryz.ntmps19
  go_upto_region 1 with fail
  rw [<-HW0.out]
  go_wp2_with(first
   |(go_at_call 53;refine(HF.out _ _ _ (kX kd sec) b (jG _ _) HL.out (wz w1) (HS1.out.keep fun g hg hl=>⟨(jm w1).block g hl,iZ hl (jm w1).size⟩) (BsS.keep (yh w1) fun g hg _=>⟨rfl,hg.2⟩) ((HVB.out.lift HB1.out).lift (jm w1))).mono ?_;rintro e w2 ⟨v2,rfl,hs,hb⟩;have HS2:=iH hs;have HB2:=iH ((jm w1).trans (hb.mono (jm w1).size));clear hs hb)
   |(go_at_call 17;refine(qY kd sec A c w0 HKA.out HVA.out).mono ?_;rw [R0.out];rintro e w1 ⟨v1,rfl,hs,hb⟩;obtain⟨A1,c1,hv1⟩:=Bs.formL hs;subst hv1;have HS1:=iH hs;have HB1:=iH hb;clear hs hb))
  go_ret2
  refine⟨_,by rw [R.out]<;>rfl,?_,(HB0.out.trans (HB1.out.mono HB0.out.size)).trans (HB2.out.mono (HB0.out.trans (HB1.out.mono HB0.out.size)).size)⟩
  rw [R.out]
  exact HS2.out.keep fun g hg _=>⟨rfl,Nat.le_trans (HB0.out.trans (HB1.out.mono HB0.out.size)).size (Nat.le_trans (jm w1).size hg.1),hg.2⟩
 ·have R:Hid (Kd out kd sec b=(2,[])):=iH ((iF (by rw [hp];simp)).trans (iT hl))
  have t1:((b.length:Int) != 16)=true:=by simp;omega
  clear hp hl
  go_enter Tryz.func19,Tryz.ntmps19
  go_upto_region 1 with fail
  rw [<-HW0.out]
  go_wp2_with(go_at_call 17;refine(qY kd sec A c w0 HKA.out HVA.out).mono ?_;rw [R0.out];rintro e w1 ⟨v1,rfl,hs,hb⟩;obtain⟨A1,c1,hv1⟩:=Bs.formL hs;subst hv1;have HS1:=iH hs;have HB1:=iH hb;clear hs hb)
  go_ret2
  exact EB.no0 R.out (HB0.out.trans (HB1.out.mono HB0.out.size))
theorem ZZ:
 Calls Tryz.prog 21 #[.agg #[.int .i64 kd,.slice A sec.length c],.slice B b.length d] w (EB (QL kd sec b) w):=by
 obtain⟨out,hout⟩:∃out:List UInt8->List UInt8->List UInt8,out=fun k b=>zp k Z16 b:=⟨_,rfl⟩
 have hf:∀(vk vi vb:Value) (k b:List UInt8),k.length=16->b.length=16->∀(w:World),Bs w w.heap.size vk k->Bs w w.heap.size vi Z16->Bs w w.heap.size vb b->Calls Tryz.prog 55 #[vk,vi,vb] w fun e w'=>∃v',e=.returned (.tuple #[v',.int .i64 0])/\BsS w' (New w w') v' (out k b)/\Below w.heap.size w w':=by
  rw [hout]
  exact fun vk vi vb k b hk hb w h1 h2 h3=>XY vk vi vb k Z16 b 1 hk xx (by omega) w h1 h2 h3
 have HF:=iH hf
 rw [show QL kd sec b=Kd out kd sec b by simp only [qr,QL,Kd,hout]]
 clear hf hout
 obtain⟨w0,hw0⟩:∃w0,w0=w.alloc (.cells #[.int .i64 kd,.slice A sec.length c] 24):=⟨_,rfl⟩
 have HB0:Hid (Below w.heap.size w w0):=iH (by rw [hw0];exact jo _ _)
 have HW0:=iH hw0
 obtain⟨f0,f1,_⟩:=two (show w0.heap[w.heap.size]?=some (.cells #[.int .i64 kd,.slice A sec.length c] 24 (0,0))by rw [hw0];exact iN)
 have HVA:=iH (hv.lift HB0.out);have HKA:=iH (hK.below HB0.out hK.lt);have HVB:=iH (hb.lift HB0.out)
 clear hw0 hv hK hb
 rcases hp:vPw kd sec with _|_
 ·have R0:Hid (pkW kd sec=(14,[])):=iH (by unfold pkW;rw [iT hp])
  have R:Hid (Kd out kd sec b=(14,[])):=iH (iT hp)
  clear hp
  go_enter Tryz.func21,Tryz.ntmps21
  go_upto_region 1 with fail
  rw [<-HW0.out]
  go_wp2_with(go_at_call 17;refine(qY kd sec A c w0 HKA.out HVA.out).mono ?_;rw [R0.out];rintro e w1 ⟨v1,rfl,hs,hb⟩;obtain⟨A1,c1,hv1⟩:=Bs.formL hs;subst hv1;have HS1:=iH hs;have HB1:=iH hb;clear hs hb)
  go_ret2
  exact EB.no0 R.out (HB0.out.trans (HB1.out.mono HB0.out.size))
 have R0:Hid (pkW kd sec=(0,kX kd sec)):=iH (by unfold pkW;rw [iF (by rw [hp];simp)])
 by_cases hl:b.length=16
 ·have R:Hid (Kd out kd sec b=(0,out (kX kd sec) b)):=iH ((iF (by rw [hp];simp)).trans (iF (fun h=>h hl)))
  have t1:((b.length:Int) != 16)=false:=by simp;omega
  have HL:=iH hl
  clear hp hl
  have Hm:=yN
  go_enter Tryz.func21,Tryz.ntmps21
  go_upto_region 1 with fail
  rw [<-HW0.out]
  go_wp2_with(first
   |(go_at_call 55;refine(HF.out _ _ _ (kX kd sec) b (jG _ _) HL.out (wz w1) (HS1.out.keep fun g hg hl=>⟨(jm w1).block g hl,iZ hl (jm w1).size⟩) (BsS.keep (yh w1) fun g hg _=>⟨rfl,hg.2⟩) ((HVB.out.lift HB1.out).lift (jm w1))).mono ?_;rintro e w2 ⟨v2,rfl,hs,hb⟩;have HS2:=iH hs;have HB2:=iH ((jm w1).trans (hb.mono (jm w1).size));clear hs hb)
   |(go_at_call 17;refine(qY kd sec A c w0 HKA.out HVA.out).mono ?_;rw [R0.out];rintro e w1 ⟨v1,rfl,hs,hb⟩;obtain⟨A1,c1,hv1⟩:=Bs.formL hs;subst hv1;have HS1:=iH hs;have HB1:=iH hb;clear hs hb))
  go_ret2
  refine⟨_,by rw [R.out]<;>rfl,?_,(HB0.out.trans (HB1.out.mono HB0.out.size)).trans (HB2.out.mono (HB0.out.trans (HB1.out.mono HB0.out.size)).size)⟩
  rw [R.out]
  exact HS2.out.keep fun g hg _=>⟨rfl,Nat.le_trans (HB0.out.trans (HB1.out.mono HB0.out.size)).size (Nat.le_trans (jm w1).size hg.1),hg.2⟩
 ·have R:Hid (Kd out kd sec b=(2,[])):=iH ((iF (by rw [hp];simp)).trans (iT hl))
  have t1:((b.length:Int) != 16)=true:=by simp;omega
  clear hp hl
  go_enter Tryz.func21,Tryz.ntmps21
  go_upto_region 1 with fail
  rw [<-HW0.out]
  go_wp2_with(go_at_call 17;refine(qY kd sec A c w0 HKA.out HVA.out).mono ?_;rw [R0.out];rintro e w1 ⟨v1,rfl,hs,hb⟩;obtain⟨A1,c1,hv1⟩:=Bs.formL hs;subst hv1;have HS1:=iH hs;have HB1:=iH hb;clear hs hb)
  go_ret2
  exact EB.no0 R.out (HB0.out.trans (HB1.out.mono HB0.out.size))
end
end
def j68(w:World)(S:Nat->Prop)(v:Value)(k1 k2:List UInt8)(n:Int):Prop:=∃A c B d,v=.agg #[.slice A 16 c,.slice B 16 d,.int .i64 n]/\BsS w S (.slice A 16 c) k1/\BsS w S (.slice B 16 d) k2
theorem Yc(A B:Option Addr)(c d:Nat)(n:Int)(w:World)(h0:0<=n)(h1:n<=1099511627776):Calls Tryz.prog 177 #[.agg #[.slice A 16 c,.slice B 16 d,.int .i64 n]] w fun e w'=>e=.returned (.bool true)/\Below w.heap.size w w':=by
 go_enter Tryz.func177,Tryz.ntmps177
 go_wp2_with fail
 go_ret
 exact⟨rfl,iA⟩
section
variable(va vb:Value)(k1 k2:List UInt8)(n:Int)(w:World)(ha:Bs w w.heap.size va k1)(hb:Bs w w.heap.size vb k2)(h1:k1.length=16)(h2:k2.length=16)(h0:0<=n)(hn:n<=1099511627776)
include va vb k1 k2 n w ha hb h1 h2 h0 hn
theorem KW:
 Calls Tryz.prog 163 #[va,vb,.int .i64 n] w fun e w'=>∃v,e=.returned (.tuple #[v,.int .i64 0])/\j68 w' (New w w') v k1 k2 n/\Below w.heap.size w w':=by
 obtain⟨w0,hw0⟩:∃w0,w0=w.alloc (.cells #[.slice none 0 0,.slice none 0 0,.int .i64 0] 46):=⟨_,rfl⟩
 have hB0:Below w.heap.size w w0:=by rw [hw0];exact iA
 have hh0:w0.heap[w.heap.size]?=some (.cells #[.slice none 0 0,.slice none 0 0,.int .i64 0] 46 (0,0)):=by rw [hw0];exact iN
 have HA:=iH ha;have HB:=iH hb;have H1:=iH h1;have H2:=iH h2
 obtain⟨A,na,ca,rfl⟩:=ha.form
 obtain⟨B,nb,cb,rfl⟩:=hb.form
 obtain rfl:na=16:=by rw [Bs.lenEq ha];exact h1
 obtain rfl:nb=16:=by rw [Bs.lenEq hb];exact h2
 have HW0:=iH hw0;have HB0:=iH hB0;have HH0:=iH hh0
 clear ha hb h1 h2 hw0 hB0 hh0
 go_enter Tryz.func163,Tryz.ntmps163
 go_upto_region 1 with fail
 rw [<-HW0.out]
 clear HW0
 go_upto_region 2 with (first
  |(go_at_call 67;refine(js _ k2 w1 (HB.out.lift (HB0.out.trans (HB1.out.mono HB0.out.size)))).mono ?_;rintro e w2 ⟨v2,rfl,ho,hb⟩;obtain⟨A2,c2,hv2⟩:=OwnB.form ho;rw [H2.out]at hv2;subst hv2;have HO2:=iH (OwnB.out ho (by rw [H2.out];omega) w1 iL);have HB2:=iH hb;clear ho hb)
  |(go_at_call 67;refine(js _ k1 w0 (HA.out.lift HB0.out)).mono ?_;rintro e w1 ⟨v1,rfl,ho,hb⟩;obtain⟨A1,c1,hv1⟩:=OwnB.form ho;rw [H1.out]at hv1;subst hv1;have HO1:=iH (OwnB.out ho (by rw [H1.out];omega) w0 iL);have HB1:=iH hb;clear ho hb))
 obtain⟨w3,hw3⟩:∃w3,w3=w2.alloc (.cells #[.slice A1 16 c1,.slice A2 16 c2,.int .i64 n] 46):=⟨_,rfl⟩
 rw [<-hw3]
 have hh3:w3.heap[w2.heap.size]?=some (.cells #[.slice A1 16 c1,.slice A2 16 c2,.int .i64 n] 46 (0,0)):=by rw [hw3];exact iN
 have HB3:Hid (Below w2.heap.size w2 w3):=iH (by rw [hw3];exact iA)
 obtain⟨p0,p1,p2,_⟩:=xt hh3
 have HH3:=iH hh3
 have HV:=iH (Yc A1 A2 c1 c2 n w3 h0 hn)
 clear hw3 hh3
 go_upto_region 6 with (go_at_call 177;refine HV.out.mono ?_;rintro e w4 ⟨rfl,hb⟩;have HB4:=iH hb;clear hb)
 have s0:=HB0.out.size;have s1:=HB1.out.size;have s2:=HB2.out.size;have s3:=HB3.out.size
 have hlt0:=(iG HH0.out)
 have hh4:=(HB4.out.block w2.heap.size (iG HH3.out)).trans HH3.out
 have hz4:=(HB4.out.block w.heap.size (by omega)).trans ((HB3.out.block w.heap.size (by omega)).trans ((HB2.out.block w.heap.size (by omega)).trans ((HB1.out.block w.heap.size hlt0).trans HH0.out)))
 have HZ4:=iH hz4
 obtain⟨q0,q1,q2,_⟩:=xt hh4
 obtain⟨z0,z1,z2,zf⟩:=xt hz4
 have zf0:=zf 0;have zf1:=zf 1;have zf2:=zf 2
 obtain⟨y0,y1,y2,_⟩:=xt (zi (.slice A1 16 c1) (.slice A2 16 c2) (.int .i64 n) HZ4.out)
 clear p0 p1 p2 zf hh4 hz4
 go_wp2_with fail
 refine bodyPost_ret (v:=.tuple #[.agg #[.slice A1 16 c1,.slice A2 16 c2,.int .i64 n],.int .i64 0]) (by simp only [QS]at y0 y1 y2;simp [results,Tryz.results163,go_sem,y0,y1,y2]) rfl ?_
 have s4:=HB4.out.size
 have hb04:Below w.heap.size w w4:=HB0.out.trans ((HB1.out.trans ((HB2.out.trans ((HB3.out.trans (HB4.out.mono s3)).mono s2)).mono s1)).mono s0)
 have hsz:(QS w4 w.heap.size (.slice A1 16 c1) (.slice A2 16 c2) (.int .i64 n)).heap.size=w4.heap.size:=by simp [QS]
 have hb24:Below w2.heap.size w2 w4:=HB3.out.trans (HB4.out.mono s3)
 refine⟨_,rfl,⟨A1,c1,A2,c2,rfl,?_,?_⟩,qm hb04 iL⟩
 ·refine BsS.keep HO1.out fun g hg hl=>⟨(qZ (by have:=hg.1;omega)).trans ((hb24.block g (by have:=hg.2;omega)).trans (HB2.out.block g hg.2)),by have:=hg.1;omega,?_⟩
  show g<(QS w4 w.heap.size (.slice A1 16 c1) (.slice A2 16 c2) (.int .i64 n)).heap.size
  rw [hsz];have:=hg.2;omega
 ·refine BsS.keep HO2.out fun g hg hl=>⟨(qZ (by have:=hg.1;omega)).trans (hb24.block g hg.2),by have:=hg.1;omega,?_⟩
  show g<(QS w4 w.heap.size (.slice A1 16 c1) (.slice A2 16 c2) (.int .i64 n)).heap.size
  rw [hsz];have:=hg.2;omega
theorem Y3:
 Calls Tryz.prog 136 #[va,vb,.int .i64 n] w fun e w'=>∃v,e=.returned (.tuple #[v,.int .i64 0])/\j68 w' (New w w') v k1 k2 n/\Below w.heap.size w w':=by
 obtain⟨w0,hw0⟩:∃w0,w0=w.alloc (.cells #[.slice none 0 0,.slice none 0 0,.int .i64 0] 46):=⟨_,rfl⟩
 have hB0:Below w.heap.size w w0:=by rw [hw0];exact iA
 have hh0:w0.heap[w.heap.size]?=some (.cells #[.slice none 0 0,.slice none 0 0,.int .i64 0] 46 (0,0)):=by rw [hw0];exact iN
 have HA:=iH ha;have HB:=iH hb;have H1:=iH h1;have H2:=iH h2
 obtain⟨A,na,ca,rfl⟩:=ha.form
 obtain⟨B,nb,cb,rfl⟩:=hb.form
 obtain rfl:na=16:=by rw [Bs.lenEq ha];exact h1
 obtain rfl:nb=16:=by rw [Bs.lenEq hb];exact h2
 have HW0:=iH hw0;have HB0:=iH hB0;have HH0:=iH hh0
 have HA0:=iH (HA.out.lift hB0);have HBB0:=iH (HB.out.lift hB0)
 have g1:decide (n<0)=false:=decide_eq_false (by omega)
 have g2:decide (n>1099511627776)=false:=decide_eq_false (by omega)
 clear ha hb h1 h2 hw0 hB0 hh0
 go_enter Tryz.func136,Tryz.ntmps136
 go_upto_region 1 with fail
 rw [<-HW0.out]
 clear HW0
 go_upto_region 5 with fail
 have s0:=HB0.out.size
 have hlt0:=(iG HH0.out)
 go_wp2_with(first
  |(at_builtin;(with_reducible refine j5 rfl (.const (.slice none 0 0)) (.tmp 26) rfl w1.heap.size (.slice none 0 0) [] rfl (OwnB.nil _ _) B 16 cb k2 (fun g=>g<w1.heap.size) rfl HK2.out (by simp only [List.length_nil];rw [H2.out];omega) iL ?_);intro v2 w2 hG;rw [List.nil_append]at hG;obtain⟨A2,c2,hv2⟩:=hG.1.form;rw [H2.out]at hv2;subst hv2;have HO2:=iH (OwnB.out hG.1 (by rw [H2.out];omega) w1 iL);have HB2:=iH hG.2.1;have hz2:=(HB2.out.block w.heap.size (iZ hlt0 HB1.out.size)).trans ((HB1.out.block w.heap.size hlt0).trans HH0.out);have HZ2:=iH hz2;obtain⟨z0,z1,z2,zf⟩:=xt hz2;have zf0:=zf 0;have zf1:=zf 1;have zf2:=zf 2;clear hG hz2 zf)
  |(at_builtin;(with_reducible refine j5 rfl (.const (.slice none 0 0)) (.tmp 24) rfl w0.heap.size (.slice none 0 0) [] rfl (OwnB.nil _ _) A 16 ca k1 (fun g=>g<w0.heap.size) rfl HA0.out (by simp only [List.length_nil];rw [H1.out];omega) iL ?_);intro v1 w1 hG;rw [List.nil_append]at hG;obtain⟨A1,c1,hv1⟩:=hG.1.form;rw [H1.out]at hv1;subst hv1;have HO1:=iH (OwnB.out hG.1 (by rw [H1.out];omega) w0 iL);have HB1:=iH hG.2.1;have HK2:=iH (HBB0.out.lift hG.2.1);clear hG))
 obtain⟨y0,y1,y2,_⟩:=xt (zi (.slice A1 16 c1) (.slice A2 16 c2) (.int .i64 n) HZ2.out)
 refine bodyPost_ret (v:=.tuple #[.agg #[.slice A1 16 c1,.slice A2 16 c2,.int .i64 n],.int .i64 0]) (by simp only [QS]at y0 y1 y2;simp [results,Tryz.results136,go_sem,y0,y1,y2]) rfl ?_
 have s1:=HB1.out.size;have s2:=HB2.out.size
 have hb02:Below w.heap.size w w2:=HB0.out.trans ((HB1.out.trans (HB2.out.mono s1)).mono s0)
 have hsz:(QS w2 w.heap.size (.slice A1 16 c1) (.slice A2 16 c2) (.int .i64 n)).heap.size=w2.heap.size:=by simp [QS]
 refine⟨_,rfl,⟨A1,c1,A2,c2,rfl,?_,?_⟩,qm hb02 iL⟩
 ·refine BsS.keep HO1.out fun g hg hl=>⟨(qZ (by have:=hg.1;omega)).trans (HB2.out.block g hg.2),by have:=hg.1;omega,?_⟩
  show g<(QS w2 w.heap.size (.slice A1 16 c1) (.slice A2 16 c2) (.int .i64 n)).heap.size
  rw [hsz];have:=hg.2;omega
 ·refine BsS.keep HO2.out fun g hg hl=>⟨qZ (by have:=hg.1;omega),by have:=hg.1;omega,?_⟩
  show g<(QS w2 w.heap.size (.slice A1 16 c1) (.slice A2 16 c2) (.int .i64 n)).heap.size
  rw [hsz];exact hg.2
end
def QT(k1 k2:List UInt8)(n:Int):Int×List UInt8×List UInt8×Int:=
 if ¬(k1.length=16/\k2.length=16)then(2,[],[],0)else if ¬(0<=n/\n<=1099511627776)then(3,[],[],0)else(0,k1,k2,n)
def j1r(r:Int×List UInt8×List UInt8×Int)(w:World)(e:Ending)(w':World):Prop:=
 ∃v,e=.returned (.tuple #[v,.int .i64 r.1])/\Vi w' (·<w'.heap.size) v r.2.1 r.2.2.1 r.2.2.2/\Below w.heap.size w w'
section
variable(va vb:Value)(k1 k2:List UInt8)(n:Int)(w:World)(ha:Bs w w.heap.size va k1)(hb:Bs w w.heap.size vb k2)(l1:k1.length<=140737488351232)(l2:k2.length<=140737488351232)
include va vb k1 k2 n w ha hb l1 l2
theorem Y8(h1:¬k1.length=16):
 Calls Tryz.prog 163 #[va,vb,.int .i64 n] w fun e w'=>e=.returned (.tuple #[.agg #[.slice none 0 0,.slice none 0 0,.int .i64 0],.int .i64 2])/\Below w.heap.size w w':=by
 obtain⟨w0,hw0⟩:∃w0,w0=w.alloc (.cells #[.slice none 0 0,.slice none 0 0,.int .i64 0] 46):=⟨_,rfl⟩
 have HB0:Hid (Below w.heap.size w w0):=iH (by rw [hw0];exact iA)
 have HH0:Hid (w0.heap[w.heap.size]?=some (.cells #[.slice none 0 0,.slice none 0 0,.int .i64 0] 46 (0,0))):=iH (by rw [hw0];exact iN)
 have HA:=iH ha;have HB:=iH hb
 obtain⟨A,ca,rfl⟩:=Bs.formL ha
 obtain⟨B,cb,rfl⟩:=Bs.formL hb
 have HW0:=iH hw0
 clear ha hb hw0
 have t1:((k1.length:Int) != 16)=true:=by simp;omega
 clear h1
 go_enter Tryz.func163,Tryz.ntmps163
 go_upto_region 1 with fail
 rw [<-HW0.out]
 clear HW0
 go_upto_block 0 with (first
  |(go_at_call 67;refine(js _ k2 w1 (HB.out.lift (HB0.out.trans (HB1.out.mono HB0.out.size)))).mono ?_;rintro e w2 ⟨v2,rfl,ho,hb⟩;obtain⟨A2,c2,hv2⟩:=OwnB.form ho;subst hv2;have HO2:=iH (OwnB.rd ho (by omega));have HB2:=iH hb;clear ho hb)
  |(go_at_call 67;refine(js _ k1 w0 (HA.out.lift HB0.out)).mono ?_;rintro e w1 ⟨v1,rfl,ho,hb⟩;obtain⟨A1,c1,hv1⟩:=OwnB.form ho;subst hv1;have HO1:=iH (OwnB.rd ho (by omega));have HB1:=iH hb;clear ho hb))
 obtain⟨w3,hw3⟩:∃w3,w3=w2.alloc (.cells #[.slice A1 k1.length c1,.slice A2 k2.length c2,.int .i64 n] 46):=⟨_,rfl⟩
 rw [<-hw3]
 have HB3:Hid (Below w2.heap.size w2 w3):=iH (by rw [hw3];exact iA)
 have HH3:Hid (w3.heap[w2.heap.size]?=some (.cells #[.slice A1 k1.length c1,.slice A2 k2.length c2,.int .i64 n] 46 (0,0))):=iH (by rw [hw3];exact iN)
 have HB03:Hid (Below w0.heap.size w0 w3):=iH (HB1.out.trans ((HB2.out.trans (HB3.out.mono HB2.out.size)).mono HB1.out.size))
 clear hw3
 have hz:=((HB03.out).block w.heap.size (iG HH0.out)).trans HH0.out
 obtain⟨z0,z1,z2,zf⟩:=xt hz
 have zf0:=zf 0;have zf1:=zf 1;have zf2:=zf 2
 obtain⟨y0,y1,y2,_⟩:=xt (zi (.slice none 0 0) (.slice none 0 0) (.int .i64 0) hz)
 clear zf hz
 go_wp2_with fail
 refine bodyPost_ret (v:=.tuple #[.agg #[.slice none 0 0,.slice none 0 0,.int .i64 0],.int .i64 2]) (by simp only [QS]at y0 y1 y2;simp [results,Tryz.results163,go_sem,y0,y1,y2]) rfl ?_
 exact⟨rfl,qm (HB0.out.trans ((HB03.out).mono HB0.out.size)) iL⟩
theorem Y9(h1:k1.length=16)(h2:¬k2.length=16):
 Calls Tryz.prog 163 #[va,vb,.int .i64 n] w fun e w'=>e=.returned (.tuple #[.agg #[.slice none 0 0,.slice none 0 0,.int .i64 0],.int .i64 2])/\Below w.heap.size w w':=by
 obtain⟨w0,hw0⟩:∃w0,w0=w.alloc (.cells #[.slice none 0 0,.slice none 0 0,.int .i64 0] 46):=⟨_,rfl⟩
 have HB0:Hid (Below w.heap.size w w0):=iH (by rw [hw0];exact iA)
 have HH0:Hid (w0.heap[w.heap.size]?=some (.cells #[.slice none 0 0,.slice none 0 0,.int .i64 0] 46 (0,0))):=iH (by rw [hw0];exact iN)
 have HA:=iH ha;have HB:=iH hb
 obtain⟨A,ca,rfl⟩:=Bs.formL ha
 obtain⟨B,cb,rfl⟩:=Bs.formL hb
 have HW0:=iH hw0
 clear ha hb hw0
 have t1:((k1.length:Int) != 16)=false:=by simp;omega
 have t2:((k2.length:Int) != 16)=true:=by simp;omega
 clear h1 h2
 go_enter Tryz.func163,Tryz.ntmps163
 go_upto_region 1 with fail
 rw [<-HW0.out]
 clear HW0
 go_upto_block 0 with (first
  |(go_at_call 67;refine(js _ k2 w1 (HB.out.lift (HB0.out.trans (HB1.out.mono HB0.out.size)))).mono ?_;rintro e w2 ⟨v2,rfl,ho,hb⟩;obtain⟨A2,c2,hv2⟩:=OwnB.form ho;subst hv2;have HO2:=iH (OwnB.rd ho (by omega));have HB2:=iH hb;clear ho hb)
  |(go_at_call 67;refine(js _ k1 w0 (HA.out.lift HB0.out)).mono ?_;rintro e w1 ⟨v1,rfl,ho,hb⟩;obtain⟨A1,c1,hv1⟩:=OwnB.form ho;subst hv1;have HO1:=iH (OwnB.rd ho (by omega));have HB1:=iH hb;clear ho hb))
 obtain⟨w3,hw3⟩:∃w3,w3=w2.alloc (.cells #[.slice A1 k1.length c1,.slice A2 k2.length c2,.int .i64 n] 46):=⟨_,rfl⟩
 rw [<-hw3]
 have HB3:Hid (Below w2.heap.size w2 w3):=iH (by rw [hw3];exact iA)
 have HH3:Hid (w3.heap[w2.heap.size]?=some (.cells #[.slice A1 k1.length c1,.slice A2 k2.length c2,.int .i64 n] 46 (0,0))):=iH (by rw [hw3];exact iN)
 have HB03:Hid (Below w0.heap.size w0 w3):=iH (HB1.out.trans ((HB2.out.trans (HB3.out.mono HB2.out.size)).mono HB1.out.size))
 clear hw3
 have hz:=((HB03.out).block w.heap.size (iG HH0.out)).trans HH0.out
 obtain⟨z0,z1,z2,zf⟩:=xt hz
 have zf0:=zf 0;have zf1:=zf 1;have zf2:=zf 2
 obtain⟨y0,y1,y2,_⟩:=xt (zi (.slice none 0 0) (.slice none 0 0) (.int .i64 0) hz)
 clear zf hz
 go_wp2_with fail
 refine bodyPost_ret (v:=.tuple #[.agg #[.slice none 0 0,.slice none 0 0,.int .i64 0],.int .i64 2]) (by simp only [QS]at y0 y1 y2;simp [results,Tryz.results163,go_sem,y0,y1,y2]) rfl ?_
 exact⟨rfl,qm (HB0.out.trans ((HB03.out).mono HB0.out.size)) iL⟩
theorem Y7(h1:k1.length=16)(h2:k2.length=16)(hn:¬(0<=n/\n<=1099511627776)):
 Calls Tryz.prog 163 #[va,vb,.int .i64 n] w fun e w'=>e=.returned (.tuple #[.agg #[.slice none 0 0,.slice none 0 0,.int .i64 0],.int .i64 3])/\Below w.heap.size w w':=by
 obtain⟨w0,hw0⟩:∃w0,w0=w.alloc (.cells #[.slice none 0 0,.slice none 0 0,.int .i64 0] 46):=⟨_,rfl⟩
 have HB0:Hid (Below w.heap.size w w0):=iH (by rw [hw0];exact iA)
 have HH0:Hid (w0.heap[w.heap.size]?=some (.cells #[.slice none 0 0,.slice none 0 0,.int .i64 0] 46 (0,0))):=iH (by rw [hw0];exact iN)
 have HA:=iH ha;have HB:=iH hb
 obtain⟨A,ca,rfl⟩:=Bs.formL ha
 obtain⟨B,cb,rfl⟩:=Bs.formL hb
 have HW0:=iH hw0
 clear ha hb hw0
 have t1:((k1.length:Int) != 16)=false:=by simp;omega
 have t2:((k2.length:Int) != 16)=false:=by simp;omega
 have HV:Hid (vS k1 k2 n=false):=iH (decide_eq_false fun h=>hn ⟨h.2.2.1,h.2.2.2⟩)
 clear h1 h2 hn
 go_enter Tryz.func163,Tryz.ntmps163
 go_upto_region 1 with fail
 rw [<-HW0.out]
 clear HW0
 go_upto_block 0 with (first
  |(go_at_call 67;refine(js _ k2 w1 (HB.out.lift (HB0.out.trans (HB1.out.mono HB0.out.size)))).mono ?_;rintro e w2 ⟨v2,rfl,ho,hb⟩;obtain⟨A2,c2,hv2⟩:=OwnB.form ho;subst hv2;have HO2:=iH (OwnB.rd ho (by omega));have HB2:=iH hb;clear ho hb)
  |(go_at_call 67;refine(js _ k1 w0 (HA.out.lift HB0.out)).mono ?_;rintro e w1 ⟨v1,rfl,ho,hb⟩;obtain⟨A1,c1,hv1⟩:=OwnB.form ho;subst hv1;have HO1:=iH (OwnB.rd ho (by omega));have HB1:=iH hb;clear ho hb))
 obtain⟨w3,hw3⟩:∃w3,w3=w2.alloc (.cells #[.slice A1 k1.length c1,.slice A2 k2.length c2,.int .i64 n] 46):=⟨_,rfl⟩
 rw [<-hw3]
 have HB3:Hid (Below w2.heap.size w2 w3):=iH (by rw [hw3];exact iA)
 have HH3:Hid (w3.heap[w2.heap.size]?=some (.cells #[.slice A1 k1.length c1,.slice A2 k2.length c2,.int .i64 n] 46 (0,0))):=iH (by rw [hw3];exact iN)
 have HB03:Hid (Below w0.heap.size w0 w3):=iH (HB1.out.trans ((HB2.out.trans (HB3.out.mono HB2.out.size)).mono HB1.out.size))
 clear hw3
 obtain⟨p0,p1,p2,_⟩:=xt HH3.out
 go_upto_region 5 with (go_at_call 177;refine(ZN _ k1 k2 n (·<w3.heap.size) w3 ⟨_,_,rfl,HO1.out.lift (HB2.out.trans (HB3.out.mono HB2.out.size)),HO2.out.lift HB3.out⟩).mono ?_;rw [HV.out];rintro e w4 ⟨rfl,hb⟩;have HB04:=iH (HB03.out.trans (hb.mono HB03.out.size));clear hb)
 clear p0 p1 p2
 have hz:=((HB04.out).block w.heap.size (iG HH0.out)).trans HH0.out
 obtain⟨z0,z1,z2,zf⟩:=xt hz
 have zf0:=zf 0;have zf1:=zf 1;have zf2:=zf 2
 obtain⟨y0,y1,y2,_⟩:=xt (zi (.slice none 0 0) (.slice none 0 0) (.int .i64 0) hz)
 clear zf hz
 go_wp2_with fail
 refine bodyPost_ret (v:=.tuple #[.agg #[.slice none 0 0,.slice none 0 0,.int .i64 0],.int .i64 3]) (by simp only [QS]at y0 y1 y2;simp [results,Tryz.results163,go_sem,y0,y1,y2]) rfl ?_
 exact⟨rfl,qm (HB0.out.trans ((HB04.out).mono HB0.out.size)) iL⟩
theorem j11:Calls Tryz.prog 163 #[va,vb,.int .i64 n] w (j1r (QT k1 k2 n) w):=by
 by_cases h:k1.length=16/\k2.length=16
 ·by_cases hn:0<=n/\n<=1099511627776
  ·refine(KW va vb k1 k2 n w ha hb h.1 h.2 hn.1 hn.2).mono ?_
   rintro e w' ⟨v,rfl,⟨A1,c1,B1,d1,rfl,h1,h2⟩,hb⟩
   rw [show QT k1 k2 n=(0,k1,k2,n) from by unfold QT;rw [iF (fun g=>g h),iF (fun g=>g hn)]]
   exact⟨_,rfl,⟨_,_,rfl,h1.keep fun _ hs _=>⟨rfl,hs.2⟩,h2.keep fun _ hs _=>⟨rfl,hs.2⟩⟩,hb⟩
  ·refine(Y7 va vb k1 k2 n w ha hb l1 l2 h.1 h.2 hn).mono ?_
   rintro e w' ⟨rfl,hb⟩
   rw [show QT k1 k2 n=(3,[],[],0) from by unfold QT;rw [iF (fun g=>g h),iT hn]]
   exact⟨_,rfl,⟨_,_,rfl,BsS.nil0 _ _,BsS.nil0 _ _⟩,hb⟩
 ·rw [show QT k1 k2 n=(2,[],[],0) from by unfold QT;rw [iT h]]
  have key:Calls Tryz.prog 163 #[va,vb,.int .i64 n] w fun e w'=>e=.returned (.tuple #[.agg #[.slice none 0 0,.slice none 0 0,.int .i64 0],.int .i64 2])/\Below w.heap.size w w':=by
   by_cases h1:k1.length=16
   ·exact Y9 va vb k1 k2 n w ha hb l1 l2 h1 (fun h2=>h ⟨h1,h2⟩)
   ·exact Y8 va vb k1 k2 n w ha hb l1 l2 h1
  refine key.mono ?_
  rintro e w' ⟨rfl,hb⟩
  exact⟨_,rfl,⟨_,_,rfl,BsS.nil0 _ _,BsS.nil0 _ _⟩,hb⟩
end
theorem zz(p:Int)(w:World):Calls Tryz.prog 66 #[.int .i64 p] w fun e w'=>e=.returned (.bool (decide (p=2\/p=3)))/\w'=w:=by
 go_enter Tryz.func66,Tryz.ntmps66
 by_cases h:p=2<;>by_cases h2:p=3<;>(first|(have t1:(p==2)=true:=by simp [h])|(have t1:(p==2)=false:=by simp [h]))<;>(first|(have t2:(p==3)=true:=by simp [h2])|(have t2:(p==3)=false:=by simp [h2]))<;>(have R:Hid (decide (p=2\/p=3)=decide (p=2)||decide (p=3)):=iH (by simp [h,h2]);clear R)<;>(have h':=iH h;have h2':=iH h2;clear h h2;go_wp2_with fail;go_ret;exact⟨by simp [h'.out,h2'.out],rfl⟩)
theorem YO(k:Int)(w:World):Calls Tryz.prog 140 #[.int .i64 k] w fun e w'=>e=.returned (.bool (okS k))/\w'=w:=by
 rw [j07]
 go_enter Tryz.func140,Tryz.ntmps140
 by_cases h:0<k<;>by_cases h2:k<1073741789<;>(go_wp2_with fail;go_ret;exact⟨by simp [h,h2],rfl⟩)
theorem j0g(k1 k2:List UInt8)(n:Int)(aA bA:Option Addr)(ac bc:Nat)(w:World)(h1:Bs w w.heap.size (.slice aA k1.length ac) k1)(h2:Bs w w.heap.size (.slice bA k2.length bc) k2)(l1:k1.length<=140737488351232)(l2:k2.length<=140737488351232):
 Calls Tryz.prog 160 #[.agg #[.slice aA k1.length ac,.slice bA k2.length bc,.int .i64 n]] w fun e w'=>e=.returned (.bool (vS k1 k2 n))/\Below w.heap.size w w':=by
 obtain⟨w0,hw0⟩:∃w0,w0=w.alloc (.cells #[.slice aA k1.length ac,.slice bA k2.length bc,.int .i64 n] 46):=⟨_,rfl⟩
 have HB0:Hid (Below w.heap.size w w0):=iH (by rw [hw0];exact jo _ _)
 obtain⟨f0,f1,f2,_⟩:=xt (show w0.heap[w.heap.size]?=some (.cells #[.slice aA k1.length ac,.slice bA k2.length bc,.int .i64 n] 46 (0,0))by rw [hw0];exact iN)
 have HW0:=iH hw0
 have HS:=iH (j11 _ _ k1 k2 n w0 (h1.lift HB0.out) (h2.lift HB0.out) l1 l2)
 obtain⟨⟨er,q1,q2,q3⟩,hr⟩:∃r,QT k1 k2 n=r:=⟨_,rfl⟩
 have R:Hid (vS k1 k2 n=(er==0)):=iH (by
  unfold QT at hr
  unfold vS
  split at hr
  ·rename_i h
   obtain⟨rfl,_⟩:=Prod.mk.inj hr
   exact decide_eq_false (fun x=>h ⟨x.1,x.2.1⟩)
  ·split at hr
   ·rename_i h
    obtain⟨rfl,_⟩:=Prod.mk.inj hr
    exact decide_eq_false (fun x=>h x.2.2)
   ·rename_i h1 h2
    obtain⟨rfl,_⟩:=Prod.mk.inj hr
    exact decide_eq_true ⟨(Decidable.not_not.1 h1).1,(Decidable.not_not.1 h1).2,Decidable.not_not.1 h2⟩)
 rw [hr]at HS
 clear hw0 h1 h2 hr l1 l2
 go_enter Tryz.func160,Tryz.ntmps160
 go_upto_region 1 with fail
 rw [<-HW0.out]
 go_wp2_with(go_at_call 163;refine HS.out.mono ?_;rintro e w1 ⟨v1,rfl,⟨x1,y1,rfl,hx,hy⟩,hb⟩;obtain⟨xA,xc,hp⟩:=Bs.formL hx;subst hp;obtain⟨yA,yc,hp⟩:=Bs.formL hy;subst hp;have HB1:=iH hb;clear hb hx hy)
 go_ret
 rw [R.out]
 exact⟨rfl,HB0.out.trans (Below.mono (by first|exact HB1.out|exact HB1.out.alloc HB1.out.size _|exact qm (HB1.out.alloc HB1.out.size _) HB1.out.size) HB0.out.size)⟩
theorem Xh(X:Exg)(sA nA aA bA:Option Addr)(sc nc ac bc:Nat)(w:World):Calls Tryz.prog 122 #[.agg #[.int .i64 X.kd,.slice sA X.sec.length sc,.int .i64 X.pr,.int .i64 X.st,.slice nA X.non.length nc,.int .i64 X.x,.int .i64 X.g,.int .i64 X.own,.int .i64 X.oth,.slice aA X.k1.length ac,.slice bA X.k2.length bc,.int .i64 X.ct]] w fun e w'=>e=.returned (.bool (kj X))/\Below w.heap.size w w':=by
 obtain⟨w0,hw0⟩:∃w0,w0=w.alloc (.cells (exX X sA nA aA bA sc nc ac bc) 48):=⟨_,rfl⟩
 have HB0:Hid (Below w.heap.size w w0):=iH (by rw [hw0];exact jo _ _)
 have FR:Hid (∀W,Below w0.heap.size w0 W->W.heap[w.heap.size]?=some (.cells (exX X sA nA aA bA sc nc ac bc) 48 (0,0))):=iH (fun W h=>(h.block w.heap.size (by rw [hw0];simp)).trans (by rw [hw0];exact iN))
 have HW0:=iH hw0
 have HP:=iH (kY X.kd X.sec sA sc w0)
 have HM:=iH (zz X.pr)
 obtain⟨f0,f1,f2,f3,f4,f5,f6,f7,f8,f9,f10,f11,ff⟩:=j4 (FR.out w0 iB)
 clear hw0
 rcases hv:vPw X.kd X.sec with _|_
 ·have R:Hid (kj X=false):=iH (by unfold kj;rw [hv]<;>rfl)
  rw [hv]at HP
  clear hv
  go_enter Tryz.func122,Tryz.ntmps122
  go_upto_region 1 with fail
  rw [<-HW0.out]
  go_wp2_with(go_at_call 45;refine HP.out.mono ?_;rintro e w1 ⟨rfl,hb⟩;have HB1:=iH hb;have g:=j4 (FR.out w1 hb);clear hb)
  go_ret
  rw [R.out]
  exact⟨rfl,HB0.out.trans (HB1.out.mono HB0.out.size)⟩
 ·have R:Hid (kj X=(decide (X.pr=2)||decide (X.pr=3))):=iH (by unfold kj;rw [hv,Bool.true_and,Bool.decide_or])
  rw [hv]at HP
  clear hv
  go_enter Tryz.func122,Tryz.ntmps122
  go_upto_region 1 with fail
  rw [<-HW0.out]
  go_wp2_with(first
   |(go_at_call 45;refine HP.out.mono ?_;rintro e w1 ⟨rfl,hb⟩;have HB1:=iH hb;have g:=j4 (FR.out w1 hb);clear hb)
   |(go_at_call 66;refine iR (HM.out _) ?_))
  go_ret
  rw [R.out]
  exact⟨rfl,HB0.out.trans (HB1.out.mono HB0.out.size)⟩
theorem Kq(X:Exg)(sA nA aA bA:Option Addr)(sc nc ac bc:Nat)(w:World)(h1:Bs w w.heap.size (.slice aA X.k1.length ac) X.k1)(h2:Bs w w.heap.size (.slice bA X.k2.length bc) X.k2)(l1:X.k1.length<=140737488351232)(l2:X.k2.length<=140737488351232):Calls Tryz.prog 123 #[.agg #[.int .i64 X.kd,.slice sA X.sec.length sc,.int .i64 X.pr,.int .i64 X.st,.slice nA X.non.length nc,.int .i64 X.x,.int .i64 X.g,.int .i64 X.own,.int .i64 X.oth,.slice aA X.k1.length ac,.slice bA X.k2.length bc,.int .i64 X.ct]] w fun e w'=>e=.returned (.bool (qe X))/\Below w.heap.size w w':=by
 obtain⟨w0,hw0⟩:∃w0,w0=w.alloc (.cells (exX X sA nA aA bA sc nc ac bc) 48):=⟨_,rfl⟩
 have HB0:Hid (Below w.heap.size w w0):=iH (by rw [hw0];exact jo _ _)
 have FR:Hid (∀W,Below w0.heap.size w0 W->W.heap[w.heap.size]?=some (.cells (exX X sA nA aA bA sc nc ac bc) 48 (0,0))):=iH (fun W h=>(h.block w.heap.size (by rw [hw0];simp)).trans (by rw [hw0];exact iN))
 have HW0:=iH hw0
 have HS:=iH (j0g X.k1 X.k2 X.ct aA bA ac bc w0 (h1.lift HB0.out) (h2.lift HB0.out) l1 l2)
 obtain⟨f0,f1,f2,f3,f4,f5,f6,f7,f8,f9,f10,f11,ff⟩:=j4 (FR.out w0 iB)
 clear hw0 h1 h2 l1 l2
 rcases ho:jk X.own with _|_
 ·have R:Hid (qe X=false):=iH (by unfold qe;rw [ho]<;>rfl)
  have HO:=iH ho
  clear ho
  go_enter Tryz.func123,Tryz.ntmps123
  go_upto_region 1 with fail
  rw [<-HW0.out]
  go_wp2_with(go_at_call 115;refine iR (km _ _) ?_;try(first|rw [HO.out]|rw [HT.out]|rw [HG.out]))
  go_ret
  rw [R.out]
  exact⟨rfl,HB0.out⟩
 have HO:=iH ho
 rcases ht:jk X.oth with _|_
 ·have R:Hid (qe X=false):=iH (by unfold qe;rw [ho,ht]<;>rfl)
  have HT:=iH ht
  clear ho ht
  go_enter Tryz.func123,Tryz.ntmps123
  go_upto_region 1 with fail
  rw [<-HW0.out]
  go_wp2_with(go_at_call 115;refine iR (km _ _) ?_;try(first|rw [HO.out]|rw [HT.out]|rw [HG.out]))
  go_ret
  rw [R.out]
  exact⟨rfl,HB0.out⟩
 ·have R:Hid (qe X=vS X.k1 X.k2 X.ct):=iH (by unfold qe;rw [ho,ht]<;>rfl)
  have HT:=iH ht
  clear ho ht
  go_enter Tryz.func123,Tryz.ntmps123
  go_upto_region 1 with fail
  rw [<-HW0.out]
  go_wp2_with(first|(go_at_call 115;refine iR (km _ _) ?_;try(first|rw [HO.out]|rw [HT.out]|rw [HG.out]))|(go_at_call 160;refine HS.out.mono ?_;rintro e w1 ⟨rfl,hb⟩;have HB1:=iH hb;clear hb))
  go_ret
  rw [R.out]
  exact⟨rfl,HB0.out.trans (HB1.out.mono HB0.out.size)⟩
end Go.Proofs.YtalmmiojbmpmiaaGreatDoor
