/- Plain law: Decrypt and Encrypt lead back to the block, in both orders; Plain law of chained blocks: Open undoes Seal, Seal undoes Open; what a change of one ... -/
import Derived.Test.YtadndhgebgjlaaaGreatPw
import Derived.Test.YtadndhgebgjlaaaGreatPv
set_option linter.all false
namespace Go.Proofs.YtadndhgebgjlaaaGreat
theorem UD(a:UInt8):dbl a=a <<< 1 ^^^ (a >>> 7)*27:=by
 refine kh (p:=fun a=>dbl a=a <<< 1 ^^^ (a >>> 7)*27) ?_ a
 decide+kernel
theorem j00(a:UInt8):a >>> 7=0\/a >>> 7=1:=by
 refine kh (p:=fun a=>a >>> 7=0\/a >>> 7=1) ?_ a
 decide+kernel
theorem j6p(a b c d:UInt8):(a ^^^ b) ^^^ (c ^^^ d)=(a ^^^ c) ^^^ (b ^^^ d):=by ac_rfl
theorem UE(a b:UInt8):dbl (a ^^^ b)=dbl a ^^^ dbl b:=by
 rw [UD,UD,UD,UInt8.shiftLeft_xor,UInt8.shiftRight_xor,j6p]
 congr 1
 rcases j00 a with e|e<;>rcases j00 b with e2|e2<;>rw [e,e2]<;>decide
theorem UL(n:Nat):∀(a a' b o o':UInt8),zD n (a ^^^ a') b (o ^^^ o')=zD n a b o ^^^ zD n a' b o':=by
 induction n with
 |zero=>intro a a' b o o';rfl
 |succ n ih=>
  intro a a' b o o'
  by_cases hb:(b != 0)=true
  ·by_cases h1:(b &&& 1==1)=true
   ·rw [xK _ _ _ _ hb h1,xK _ _ _ _ hb h1,xK _ _ _ _ hb h1,UE,j6p,ih]
   ·have h1:(b &&& 1==1)=false:=by simpa using h1
    rw [qX _ _ _ _ hb h1,qX _ _ _ _ hb h1,qX _ _ _ _ hb h1,UE,ih]
  ·have hb:(b != 0)=false:=by simpa using hb
   rw [xJ _ _ _ _ hb,xJ _ _ _ _ hb,xJ _ _ _ _ hb]
theorem Q8(a a' b:UInt8):zW (a ^^^ a') b=zW a b ^^^ zW a' b:=by
 have:=UL 8 a a' b 0 0
 rwa [show(0:UInt8) ^^^ 0=0 from rfl]at this
theorem zX(a b c d e:UInt8):zW (a ^^^ b ^^^ c ^^^ d) e=zW a e ^^^ zW b e ^^^ zW c e ^^^ zW d e:=by
 rw [Q8,Q8,Q8]
theorem qG(row f:Nat->UInt8)(c r:Nat)(hr:r<4):
 Kj row f (4*c+r)=zW (f (4*c)) (row ((0+4 - r) % 4)) ^^^ zW (f (4*c+1)) (row ((1+4 - r) % 4)) ^^^ zW (f (4*c+2)) (row ((2+4 - r) % 4)) ^^^ zW (f (4*c+3)) (row ((3+4 - r) % 4)):=by
 unfold Kj
 rw [x7,x7,x7,x7]
 rw [show(4*c+r) / 4*4=4*c by omega,show(4*c+r) % 4=r by omega]
 show 0 ^^^ _ ^^^ _ ^^^ _ ^^^ _=_
 rw [UInt8.zero_xor,Nat.add_zero]
def xy(D E:Nat->UInt8)(m r:Nat)(x:UInt8):UInt8:=
 zW (zW x (E ((m+4 - 0) % 4))) (D ((0+4 - r) % 4)) ^^^ zW (zW x (E ((m+4 - 1) % 4))) (D ((1+4 - r) % 4)) ^^^ zW (zW x (E ((m+4 - 2) % 4))) (D ((2+4 - r) % 4)) ^^^ zW (zW x (E ((m+4 - 3) % 4))) (D ((3+4 - r) % 4))
theorem j3w(D E f:Nat->UInt8)(c r:Nat)(hr:r<4):
 Kj D (Kj E f) (4*c+r)=xy D E 0 r (f (4*c)) ^^^ xy D E 1 r (f (4*c+1)) ^^^ xy D E 2 r (f (4*c+2)) ^^^ xy D E 3 r (f (4*c+3)):=by
 rw [qG D (Kj E f) c r hr]
 have h0:=qG E f c 0 (by omega)
 have h1:=qG E f c 1 (by omega)
 have h2:=qG E f c 2 (by omega)
 have h3:=qG E f c 3 (by omega)
 rw [Nat.add_zero]at h0
 rw [h0,h1,h2,h3,zX,zX,zX,zX]
 unfold xy
 simp only [Nat.zero_add,Nat.sub_zero]
 generalize D (_ % 4)=d0
 ac_rfl
def idC(m r:Nat)(x:UInt8):UInt8:=if m=r then x else 0
theorem Zq:∀m,m<4->∀r,r<4->∀n,n<256->xy Uh V8 m r (UInt8.ofNat n)=idC m r (UInt8.ofNat n):=by
 decide+kernel
theorem j4m(m r:Nat)(hm:m<4)(hr:r<4)(x:UInt8):xy Uh V8 m r x=idC m r x:=
 kh (p:=fun x=>xy Uh V8 m r x=idC m r x) (fun n hn=>Zq m hm r hr n hn) x
theorem j1j(D E f:Nat->UInt8)(h:∀m r,m<4->r<4->∀x,xy D E m r x=idC m r x)(i:Nat):Kj D (Kj E f) i=f i:=by
 obtain⟨c,r,hr,rfl⟩:∃c r,r<4/\i=4*c+r:=⟨i / 4,i % 4,by omega,by omega⟩
 rw [j3w D E f c r hr,h 0 r (by omega) hr,h 1 r (by omega) hr,h 2 r (by omega) hr,h 3 r (by omega) hr]
 unfold idC
 rcases r with _|_|_|_|r
 ·simp
 ·simp
 ·simp
 ·simp
 ·omega
theorem V7(f:Nat->UInt8):Kj Uh (Kj V8 f)=f:=by
 funext i
 exact j1j Uh V8 f (fun m r hm hr x=>j4m m r hm hr x) i
theorem YL(row:Nat->UInt8){f g:Nat->UInt8}(h:∀j,j<16->f j=g j)(j:Nat)(hj:j<16):Kj row f j=Kj row g j:=by
 obtain⟨c,r,hr,rfl⟩:∃c r,r<4/\j=4*c+r:=⟨j / 4,j % 4,by omega,by omega⟩
 rw [qG row f c r hr,qG row g c r hr,h _ (by omega),h _ (by omega),h _ (by omega),h _ (by omega)]
theorem j69(f:Nat->UInt8)(i:Nat)(hi:i<16):J5 3 (J5 1 f) i=f i:=by
 unfold J5;congr 1;omega
theorem U4(s:Nat){f g:Nat->UInt8}(h:∀j,j<16->f j=g j)(i:Nat):J5 s f i=J5 s g i:=by
 unfold J5;exact h _ (by omega)
theorem j38(b:UInt8):bck (fwd b.toNat).toNat=b:=by rw [j2v,j2n]
theorem QF(a b:UInt8):a ^^^ b ^^^ b=a:=by rw [UInt8.xor_assoc,UInt8.xor_self,UInt8.xor_zero]
theorem j3i(key f g:Nat->UInt8)(hg:∀j,j<16->g j=j3j key f j)(n:Nat)(hn:n<=10):∀j,j<16->j0j key g n j=j0k key f (10 - n) j:=by
 induction n with
 |zero=>intro j hj;exact hg j hj
 |succ n ih=>
  have ih:=ih (by omega)
  obtain⟨m,hm⟩:∃m,10 - n=m+1:=⟨9 - n,by omega⟩
  have hm2:10 - (n+1)=m:=by omega
  intro j hj
  rw [hm2]
  show bck (J5 3 _ j).toNat=_
  have hstep:∀i,i<16->(if 10 - n<10 then Kj Uh (fun j=>j0j key g n j ^^^ ql fwd key (10 - n) j)else fun j=>j0j key g n j ^^^ ql fwd key (10 - n) j) i=J5 1 (fun j=>fwd (j0k key f m j).toNat) i:=by
   rw [hm]at ih |-
   have hs:∀i,i<16->j0j key g n i ^^^ ql fwd key (m+1) i=(if m+1<10 then Kj V8 (J5 1 fun j=>fwd (j0k key f m j).toNat) i else J5 1 (fun j=>fwd (j0k key f m j).toNat) i):=fun i hi=>by
    rw [ih i hi]
    exact QF _ _
   intro i hi
   by_cases h:m+1<10
   ·rw [iT h]
    rw [YL Uh hs i hi]
    simp only [iT h]
    exact congrFun (V7 _) i
   ·rw [iF h]
    rw [hs i hi,iF h]
  rw [U4 3 hstep,j69 _ _ hj]
  exact j38 _
theorem UF(key f g:Nat->UInt8)(hg:∀j,j<16->g j=j3j key f j)(j:Nat)(hj:j<16):j3f key g j=f j:=by
 unfold j3f
 rw [j3i key f g hg 10 (by omega) j hj]
 exact QF _ _
theorem QS(k l:List UInt8)(hl:l.length=16):jC 16 (j3f (gb k) (gb (jC 16 (j3j (gb k) (gb l)))))=l:=by
 rw [<-zO l 16 hl]
 exact qD fun j hj=>by
  rw [zO l 16 hl]
  exact UF (gb k) (gb l) _ (fun j hj=>jX _ _ _ hj) j hj
theorem UG(k l:List UInt8)(hl:l.length=16):Kl k (qK k l)=l:=by
 unfold Kl qK;exact QS k l hl
theorem j0h(a c:List UInt8)(ha:a.length=16):qR (qR a c) c=a:=by
 rw [<-zO a 16 ha]
 unfold qR
 refine qD fun j hj=> ?_
 rw [jX 16 _ j hj,zO a 16 ha,QF]
theorem j2c(b:List UInt8)(n:Nat):b.take (16*(n+1))=b.take (16*n)++blk b n:=by
 unfold blk
 rw [show 16*(n+1)=16*n+16 by omega,List.take_add]
theorem Yq{a c r:List UInt8}{n:Nat}(ha:a.length=16*n)(hc:c.length=16):blk (a++c++r) n=c:=by
 unfold blk
 rw [List.append_assoc,<-ha,List.drop_left,List.take_left' hc]
theorem Z8{P:Nat->List UInt8}{c:Nat->List UInt8}(hP:∀n,P (n+1)=P n++c n)(n d:Nat):∃r,P (n+d)=P n++r:=by
 induction d with
 |zero=>exact⟨[],by simp⟩
 |succ d ih=>
  obtain⟨r,h⟩:=ih
  exact⟨r++c (n+d),by rw [<-Nat.add_assoc,hP,h,List.append_assoc]⟩
theorem ZN{P:Nat->List UInt8}{c:Nat->List UInt8}(h0:P 0= [])(hP:∀n,P (n+1)=P n++c n){m:Nat}(hc:∀n,n<m->(c n).length=16)(n:Nat)(hn:n<=m):(P n).length=16*n:=by
 induction n with
 |zero=>rw [h0]<;>rfl
 |succ n ih=>rw [hP,List.length_append,ih (by omega),hc n (by omega)];omega
theorem j15{P:Nat->List UInt8}{c:Nat->List UInt8}(h0:P 0= [])(hP:∀n,P (n+1)=P n++c n){m:Nat}(hc:∀n,n<m->(c n).length=16)(n:Nat)(hn:n<m):blk (P m) n=c n:=by
 obtain⟨r,hr⟩:=Z8 hP (n+1) (m - (n+1))
 rw [show n+1+(m - (n+1))=m by omega,hP]at hr
 rw [hr]
 exact Yq (ZN h0 hP hc n (by omega)) (hc n hn)
theorem j1n(k iv b:List UInt8):(xD k iv b (List.range 0)).1=iv:=rfl
theorem j27(k iv b:List UInt8):(xE k iv b (List.range 0)).1=iv:=rfl
section
variable (k iv b:List UInt8)
def sC(n:Nat):List UInt8:=(xE k iv b (List.range n)).1
def sP(n:Nat):List UInt8:=(xE k iv b (List.range n)).2
def oC(n:Nat):List UInt8:=(xD k iv b (List.range n)).1
def oP(n:Nat):List UInt8:=(xD k iv b (List.range n)).2
theorem j4i:sC k iv b 0=iv:=j27 k iv b
theorem j3z:oC k iv b 0=iv:=j1n k iv b
theorem Qu(n:Nat):sC k iv b (n+1)=qK k (qR (blk b n) (sC k iv b n)):=by unfold sC;rw [List.range_succ,qz]<;>rfl
theorem VF(n:Nat):sP k iv b (n+1)=sP k iv b n++sC k iv b (n+1):=by rw [Qu];unfold sP sC;rw [List.range_succ,qz]<;>rfl
theorem j3y(n:Nat):oC k iv b (n+1)=blk b n:=by unfold oC;rw [List.range_succ,qy]<;>rfl
theorem j40(n:Nat):oP k iv b (n+1)=oP k iv b n++qR (Kl k (blk b n)) (oC k iv b n):=by unfold oP oC;rw [List.range_succ,qy]<;>rfl
theorem xw{m:Nat}(hb:b.length=16*m):kY k iv b=sP k iv b m:=by unfold kY sP;rw [hb,Nat.mul_div_cancel_left _ (by omega)]
theorem j1w{m:Nat}(hb:b.length=16*m):yg k iv b=oP k iv b m:=by unfold yg oP;rw [hb,Nat.mul_div_cancel_left _ (by omega)]
theorem K8(m:Nat):(sP k iv b m).length=16*m:=ZN (P:=sP k iv b) (c:=fun n=>sC k iv b (n+1)) rfl (VF k iv b) (m:=m) (fun _ _=>by rw [Qu];exact kx _ _) m iL
theorem j30(m n:Nat)(hn:n<m):blk (sP k iv b m) n=sC k iv b (n+1):=j15 (P:=sP k iv b) (c:=fun n=>sC k iv b (n+1)) rfl (VF k iv b) (fun n _=>by rw [Qu];exact kx _ _) n hn
end
theorem Vk(k iv b:List UInt8)(m:Nat)(hb:b.length=16*m):yg k iv (kY k iv b)=b:=by
 rw [xw k iv b hb,j1w k iv _ (K8 k iv b m)]
 have hc:∀n,n<=m->oC k iv (sP k iv b m) n=sC k iv b n:=fun n hn=>by
  cases n with
  |zero=>rw [j3z,j4i]
  |succ n=>rw [j3y,j30 k iv b m n (by omega)]
 have hp:∀n,n<=m->oP k iv (sP k iv b m) n=b.take (16*n):=fun n=>by
  induction n with
  |zero=>intro _;rfl
  |succ n ih=>
   intro hn
   rw [j40,ih (by omega),hc n (by omega),j30 k iv b m n (by omega),j2c,Qu,UG _ _ (k9 _ _),j0h _ _ (xF hb (by omega))]
 rw [hp m iL,<-hb,List.take_length]
end Go.Proofs.YtadndhgebgjlaaaGreat
