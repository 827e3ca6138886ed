/- Plain law: Decrypt and Encrypt lead back to the block, in both orders; Plain law of chained blocks: Open undoes Seal, Seal undoes Open; what a change of one ... -/
import Derived.Test.YtadndhgebgjlaaaGreatPBa
import Derived.Test.YtadndhgebgjlaaaGreatPz
namespace Go.Proofs.YtadndhgebgjlaaaGreat
theorem YV(a:UInt8):dbl a=a <<< 1 ^^^ (a >>> 7)*27:=by
 refine kh (p:=fun a=>dbl a=a <<< 1 ^^^ (a >>> 7)*27) ?_ a
 decide+kernel
theorem UV(a:UInt8):a >>> 7=0\/a >>> 7=1:=by
 refine kh (p:=fun a=>a >>> 7=0\/a >>> 7=1) ?_ a
 decide+kernel
theorem j68(a b c d:UInt8):(a ^^^ b) ^^^ (c ^^^ d)=(a ^^^ c) ^^^ (b ^^^ d):=by ac_rfl
theorem U3(a b:UInt8):dbl (a ^^^ b)=dbl a ^^^ dbl b:=by
 rw [YV,YV,YV,UInt8.shiftLeft_xor,UInt8.shiftRight_xor,j68]
 congr 1
 rcases UV a with e|e<;>rcases UV b with e2|e2<;>rw [e,e2]<;>decide
theorem Uf(n:Nat):∀(a a' b o o':UInt8),zm n (a ^^^ a') b (o ^^^ o')=zm n a b o ^^^ zm n a' b o':=by
 induction n with
 |zero=>intro a a' b o o';rfl
 |succ n ih=>
  intro a a' b o o'
  by_cases hb:(b != 0)=true
  ·by_cases h1:(b &&& 1==1)=true
   ·rw [xr _ _ _ _ hb h1,xr _ _ _ _ hb h1,xr _ _ _ _ hb h1,U3,j68,ih]
   ·have h1:(b &&& 1==1)=false:=by simpa using h1
    rw [qO _ _ _ _ hb h1,qO _ _ _ _ hb h1,qO _ _ _ _ hb h1,U3,ih]
  ·have hb:(b != 0)=false:=by simpa using hb
   rw [xC _ _ _ _ hb,xC _ _ _ _ hb,xC _ _ _ _ hb]
theorem KR(a a' b:UInt8):zR (a ^^^ a') b=zR a b ^^^ zR a' b:=by
 have:=Uf 8 a a' b 0 0
 rwa [show(0:UInt8) ^^^ 0=0 from rfl]at this
theorem zI(a b c d e:UInt8):zR (a ^^^ b ^^^ c ^^^ d) e=zR a e ^^^ zR b e ^^^ zR c e ^^^ zR d e:=by
 rw [KR,KR,KR]
theorem qy(row f:Nat->UInt8)(c r:Nat)(hr:r<4):
 JV row f (4*c+r)=zR (f (4*c)) (row ((0+4 - r) % 4)) ^^^ zR (f (4*c+1)) (row ((1+4 - r) % 4)) ^^^ zR (f (4*c+2)) (row ((2+4 - r) % 4)) ^^^ zR (f (4*c+3)) (row ((3+4 - r) % 4)):=by
 unfold JV
 rw [qZ,qZ,qZ,qZ]
 rw [show(4*c+r) / 4*4=4*c by omega,show(4*c+r) % 4=r by omega]
 show 0 ^^^ _ ^^^ _ ^^^ _ ^^^ _=_
 rw [UInt8.zero_xor,Nat.add_zero]
def x9(D E:Nat->UInt8)(m r:Nat)(x:UInt8):UInt8:=
 zR (zR x (E ((m+4 - 0) % 4))) (D ((0+4 - r) % 4)) ^^^ zR (zR x (E ((m+4 - 1) % 4))) (D ((1+4 - r) % 4)) ^^^ zR (zR x (E ((m+4 - 2) % 4))) (D ((2+4 - r) % 4)) ^^^ zR (zR x (E ((m+4 - 3) % 4))) (D ((3+4 - r) % 4))
theorem j3v(D E f:Nat->UInt8)(c r:Nat)(hr:r<4):
 JV D (JV E f) (4*c+r)=x9 D E 0 r (f (4*c)) ^^^ x9 D E 1 r (f (4*c+1)) ^^^ x9 D E 2 r (f (4*c+2)) ^^^ x9 D E 3 r (f (4*c+3)):=by
 rw [qy D (JV E f) c r hr]
 have h0:=qy E f c 0 (by omega)
 have h1:=qy E f c 1 (by omega)
 have h2:=qy E f c 2 (by omega)
 have h3:=qy E f c 3 (by omega)
 rw [Nat.add_zero]at h0
 rw [h0,h1,h2,h3,zI,zI,zI,zI]
 unfold x9
 simp only [Nat.zero_add,Nat.sub_zero]
 generalize D (_ % 4)=d0
 ac_rfl
def idC(m r:Nat)(x:UInt8):UInt8:=if m=r then x else 0
theorem Z5:∀m,m<4->∀r,r<4->∀n,n<256->x9 YO U5 m r (UInt8.ofNat n)=idC m r (UInt8.ofNat n):=by
 decide+kernel
theorem j3u(m r:Nat)(hm:m<4)(hr:r<4)(x:UInt8):x9 YO U5 m r x=idC m r x:=
 kh (p:=fun x=>x9 YO U5 m r x=idC m r x) (fun n hn=>Z5 m hm r hr n hn) x
theorem j1b(D E f:Nat->UInt8)(h:∀m r,m<4->r<4->∀x,x9 D E m r x=idC m r x)(i:Nat):JV D (JV E f) i=f i:=by
 obtain⟨c,r,hr,rfl⟩:∃c r,r<4/\i=4*c+r:=⟨i / 4,i % 4,by omega,by omega⟩
 rw [j3v D E f c r hr,h 0 r (by omega) hr,h 1 r (by omega) hr,h 2 r (by omega) hr,h 3 r (by omega) hr]
 unfold idC
 rcases r with _|_|_|_|r
 ·simp
 ·simp
 ·simp
 ·simp
 ·omega
theorem Us(f:Nat->UInt8):JV YO (JV U5 f)=f:=by
 funext i
 exact j1b YO U5 f (fun m r hm hr x=>j3u m r hm hr x) i
theorem Yp(row:Nat->UInt8){f g:Nat->UInt8}(h:∀j,j<16->f j=g j)(j:Nat)(hj:j<16):JV row f j=JV row g j:=by
 obtain⟨c,r,hr,rfl⟩:∃c r,r<4/\j=4*c+r:=⟨j / 4,j % 4,by omega,by omega⟩
 rw [qy row f c r hr,qy row g c r hr,h _ (by omega),h _ (by omega),h _ (by omega),h _ (by omega)]
theorem j61(f:Nat->UInt8)(i:Nat)(hi:i<16):yI 3 (yI 1 f) i=f i:=by
 unfold yI;congr 1;omega
theorem ZJ(s:Nat){f g:Nat->UInt8}(h:∀j,j<16->f j=g j)(i:Nat):yI s f i=yI s g i:=by
 unfold yI;exact h _ (by omega)
theorem j38(b:UInt8):bck (fwd b.toNat).toNat=b:=by rw [j26,j2c]
theorem Q9(a b:UInt8):a ^^^ b ^^^ b=a:=by rw [UInt8.xor_assoc,UInt8.xor_self,UInt8.xor_zero]
theorem j35(key f g:Nat->UInt8)(hg:∀j,j<16->g j=j3a key f j)(n:Nat)(hn:n<=10):∀j,j<16->j00 key g n j=VY key f (10 - n) j:=by
 induction n with
 |zero=>intro j hj;exact hg j hj
 |succ n ih=>
  have ih:=ih (by omega)
  obtain⟨m,hm⟩:∃m,10 - n=m+1:=⟨9 - n,by omega⟩
  have hm2:10 - (n+1)=m:=by omega
  intro j hj
  rw [hm2]
  show bck (yI 3 _ j).toNat=_
  have hstep:∀i,i<16->(if 10 - n<10 then JV YO (fun j=>j00 key g n j ^^^ qh fwd key (10 - n) j)else fun j=>j00 key g n j ^^^ qh fwd key (10 - n) j) i=yI 1 (fun j=>fwd (VY key f m j).toNat) i:=by
   rw [hm]at ih |-
   have hs:∀i,i<16->j00 key g n i ^^^ qh fwd key (m+1) i=(if m+1<10 then JV U5 (yI 1 fun j=>fwd (VY key f m j).toNat) i else yI 1 (fun j=>fwd (VY key f m j).toNat) i):=fun i hi=>by
    rw [ih i hi]
    exact Q9 _ _
   intro i hi
   by_cases h:m+1<10
   ·rw [if_pos h]
    rw [Yp YO hs i hi]
    simp only [if_pos h]
    exact congrFun (Us _) i
   ·rw [if_neg h]
    rw [hs i hi,if_neg h]
  rw [ZJ 3 hstep,j61 _ _ hj]
  exact j38 _
theorem U2(key f g:Nat->UInt8)(hg:∀j,j<16->g j=j3a key f j)(j:Nat)(hj:j<16):j49 key g j=f j:=by
 unfold j49
 rw [j35 key f g hg 10 (by omega) j hj]
 exact Q9 _ _
theorem QW(k l:List UInt8)(hl:l.length=16):jz 16 (j49 (gb k) (gb (jz 16 (j3a (gb k) (gb l)))))=l:=by
 rw [<-zT l 16 hl]
 exact qz fun j hj=>by
  rw [zT l 16 hl]
  exact U2 (gb k) (gb l) _ (fun j hj=>jW _ _ _ hj) j hj
theorem UY(k l:List UInt8)(hl:l.length=16):K0 k (qw k l)=l:=by
 unfold K0 qw;exact QW k l hl
theorem VA(a c:List UInt8)(ha:a.length=16):qD (qD a c) c=a:=by
 rw [<-zT a 16 ha]
 unfold qD
 refine qz fun j hj=> ?_
 rw [jW 16 _ j hj,zT a 16 ha,Q9]
theorem j16(b:List UInt8)(n:Nat):b.take (16*(n+1))=b.take (16*n)++blk b n:=by
 unfold blk
 rw [show 16*(n+1)=16*n+16 by omega,List.take_add]
theorem Y8{a c r:List UInt8}{n:Nat}(ha:a.length=16*n)(hc:c.length=16):blk (a++c++r) n=c:=by
 unfold blk
 rw [List.append_assoc,<-ha,List.drop_left,List.take_left' hc]
theorem XV{P:Nat->List UInt8}{c:Nat->List UInt8}(hP:∀n,P (n+1)=P n++c n)(n d:Nat):∃r,P (n+d)=P n++r:=by
 induction d with
 |zero=>exact⟨[],by simp⟩
 |succ d ih=>
  obtain⟨r,h⟩:=ih
  exact⟨r++c (n+d),by rw [<-Nat.add_assoc,hP,h,List.append_assoc]⟩
theorem ZF{P:Nat->List UInt8}{c:Nat->List UInt8}(h0:P 0= [])(hP:∀n,P (n+1)=P n++c n){m:Nat}(hc:∀n,n<m->(c n).length=16)(n:Nat)(hn:n<=m):(P n).length=16*n:=by
 induction n with
 |zero=>rw [h0];rfl
 |succ n ih=>rw [hP,List.length_append,ih (by omega),hc n (by omega)];omega
theorem j0p{P:Nat->List UInt8}{c:Nat->List UInt8}(h0:P 0= [])(hP:∀n,P (n+1)=P n++c n){m:Nat}(hc:∀n,n<m->(c n).length=16)(n:Nat)(hn:n<m):blk (P m) n=c n:=by
 obtain⟨r,hr⟩:=XV hP (n+1) (m - (n+1))
 rw [show n+1+(m - (n+1))=m by omega,hP]at hr
 rw [hr]
 exact Y8 (ZF h0 hP hc n (by omega)) (hc n hn)
theorem j03(k iv b:List UInt8):(xn k iv b (List.range 0)).1=iv:=rfl
theorem j0j(k iv b:List UInt8):(xm k iv b (List.range 0)).1=iv:=rfl
section
variable (k iv b:List UInt8)
def sC(n:Nat):List UInt8:=(xm k iv b (List.range n)).1
def sP(n:Nat):List UInt8:=(xm k iv b (List.range n)).2
def oC(n:Nat):List UInt8:=(xn k iv b (List.range n)).1
def oP(n:Nat):List UInt8:=(xn k iv b (List.range n)).2
theorem j2x:sC k iv b 0=iv:=j0j k iv b
theorem j39:oC k iv b 0=iv:=j03 k iv b
theorem KG(n:Nat):sC k iv b (n+1)=qw k (qD (blk b n) (sC k iv b n)):=by unfold sC;rw [List.range_succ,qr];rfl
theorem Ug(n:Nat):sP k iv b (n+1)=sP k iv b n++sC k iv b (n+1):=by rw [KG];unfold sP sC;rw [List.range_succ,qr];rfl
theorem j4a(n:Nat):oC k iv b (n+1)=blk b n:=by unfold oC;rw [List.range_succ,qt];rfl
theorem j46(n:Nat):oP k iv b (n+1)=oP k iv b n++qD (K0 k (blk b n)) (oC k iv b n):=by unfold oP oC;rw [List.range_succ,qt];rfl
theorem qj{m:Nat}(hb:b.length=16*m):kK k iv b=sP k iv b m:=by unfold kK sP;rw [hb,Nat.mul_div_cancel_left _ (by omega)]
theorem j1m{m:Nat}(hb:b.length=16*m):zM k iv b=oP k iv b m:=by unfold zM oP;rw [hb,Nat.mul_div_cancel_left _ (by omega)]
theorem zK(m:Nat):(sP k iv b m).length=16*m:=ZF (P:=sP k iv b) (c:=fun n=>sC k iv b (n+1)) rfl (Ug k iv b) (m:=m) (fun _ _=>by rw [KG];exact ke _ _) m iL
theorem j2e(m n:Nat)(hn:n<m):blk (sP k iv b m) n=sC k iv b (n+1):=j0p (P:=sP k iv b) (c:=fun n=>sC k iv b (n+1)) rfl (Ug k iv b) (fun n _=>by rw [KG];exact ke _ _) n hn
end
theorem UN(k iv b:List UInt8)(m:Nat)(hb:b.length=16*m):zM k iv (kK k iv b)=b:=by
 rw [qj k iv b hb,j1m k iv _ (zK k iv b m)]
 have hc:∀n,n<=m->oC k iv (sP k iv b m) n=sC k iv b n:=fun n hn=>by
  cases n with
  |zero=>rw [j39,j2x]
  |succ n=>rw [j4a,j2e k iv b m n (by omega)]
 have hp:∀n,n<=m->oP k iv (sP k iv b m) n=b.take (16*n):=fun n=>by
  induction n with
  |zero=>intro _;rfl
  |succ n ih=>
   intro hn
   rw [j46,ih (by omega),hc n (by omega),j2e k iv b m n (by omega),j16,KG,UY _ _ (jN _ _),VA _ _ (xu hb (by omega))]
 rw [hp m iL,<-hb,List.take_length]
end Go.Proofs.YtadndhgebgjlaaaGreat
