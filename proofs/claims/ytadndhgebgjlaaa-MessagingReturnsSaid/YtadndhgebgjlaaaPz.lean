/- The walks of the reference of layer 5: times, Substitute; The walk of the reference's expand; Plain law: the tables of both sides are one table; Plain law: D... -/
import Derived.Deep.LoopGhost
import Derived.Test.YtadndhgebgjlaaaPx
import Derived.Test.YtadndhgebgjlaaaPy
set_option linter.unusedVariables false
set_option linter.unusedSimpArgs false
namespace Go.Proofs.Ytadndhgebgjlaaa
open Go.RowKit
section
open Go.RowKit
theorem qt{p:UInt8->Prop}(h:∀n,n<256->p (UInt8.ofNat n))(b:UInt8):p b:=by
 have:=h b.toNat b.toNat_lt
 rwa [UInt8.ofNat_toNat]at this
theorem J5(z:Int):bits .and .i64 z 1=z % 2:=by
 unfold bits
 simp only [show BitVec.ofInt IntKind.i64.bits 1=1#64 from rfl]
 have h:(BitVec.ofInt 64 z &&& 1#64).toNat=(z % 2).toNat:=by
  rw [BitVec.toNat_and,BitVec.toNat_ofInt,show(1#64).toNat=1 from rfl,Nat.and_one_is_mod]
  omega
 show IntKind.i64.wrap (((BitVec.ofInt 64 z &&& 1#64).toNat:Nat):Int)=z % 2
 rw [h,IntWalk.i64_in _ (by omega)]
 omega
theorem zS(a b:UInt8):bits .xor .i64 (bv a) (bv b)=bv (a ^^^ b):=by
 unfold bits bv
 show IntKind.i64.wrap (((BitVec.ofInt 64 (a.toNat:Int) ^^^ BitVec.ofInt 64 (b.toNat:Int)).toNat:Nat):Int)=_
 have ha:=a.toNat_lt;have hb:=b.toNat_lt
 rw [BitVec.toNat_xor,BitVec.ofInt_natCast,BitVec.ofInt_natCast,BitVec.toNat_ofNat,BitVec.toNat_ofNat,Nat.mod_eq_of_lt (by omega),Nat.mod_eq_of_lt (by omega),UInt8.toNat_xor]
 have:a.toNat ^^^ b.toNat<2 ^ 8:=Nat.xor_lt_two_pow ha hb
 exact IntWalk.i64_in _ (by omega)
attribute [simp] J5 zS
end
theorem zR{n:Nat}{f g:Nat->UInt8}(h:∀j,j<n->f j=g j):kh n f=kh n g:=by
 unfold kh
 exact List.map_congr_left fun j hj=>h j (by simpa using hj)
def UW:List UInt8:=[99,124,119,123,242,107,111,197,48,1,103,43,254,215,171,118,202,130,201,125,250,89,71,240,173,212,162,175,156,164,114,192,183,253,147,38,54,63,247,204,52,165,229,241,113,216,49,21,4,199,35,195,24,150,5,154,7,18,128,226,235,39,178,117,9,131,44,26,27,110,90,160,82,59,214,179,41,227,47,132,83,209,0,237,32,252,177,91,106,203,190,57,74,76,88,207,208,239,170,251,67,77,51,133,69,249,2,127,80,60,159,168,81,163,64,143,146,157,56,245,188,182,218,33,16,255,243,210,205,12,19,236,95,151,68,23,196,167,126,61,100,93,25,115,96,129,79,220,34,42,144,136,70,238,184,20,222,94,11,219,224,50,58,10,73,6,36,92,194,211,172,98,145,149,228,121,231,200,55,109,141,213,78,169,108,86,244,234,101,122,174,8,186,120,37,46,28,166,180,198,232,221,116,31,75,189,139,138,112,62,181,102,72,3,246,14,97,53,87,185,134,193,29,158,225,248,152,17,105,217,142,148,155,30,135,233,206,85,40,223,140,161,137,13,191,230,66,104,65,153,45,15,176,84,187,22]
def SB(x:UInt8):UInt8:=UW.getD x.toNat 0
def bsF(y:UInt8):UInt8:=UInt8.ofNat (UW.idxOf y)
theorem XG(x:UInt8):bsF (SB x)=x:=by
 refine qt (p:=fun x=>bsF (SB x)=x) ?_ x
 decide+kernel
theorem UF{x y:UInt8}(h:SB x=SB y):x=y:=by rw [<-XG x,h,XG]
def j13:Nat->UInt8->UInt8->Bool
 |0,_,_=>true
 |n+1,x,y=>(sbx y==SB x)&&j13 n (x ^^^ dbl x) (xS y 246)
theorem Yz(m:Nat):∀(n k:Nat),j13 n (Jo k) (Ul k)=true->m<n->sbx (Ul (k+m))=SB (Jo (k+m)):=by
 induction m with
 |zero=>
  intro n k h hn
  obtain⟨q,rfl⟩:∃q,n=q+1:=⟨n - 1,by omega⟩
  unfold j13 at h
  simp only [Bool.and_eq_true,beq_iff_eq]at h
  exact h.1
 |succ m ih=>
  intro n k h hn
  obtain⟨q,rfl⟩:∃q,n=q+1:=⟨n - 1,by omega⟩
  unfold j13 at h
  simp only [Bool.and_eq_true,beq_iff_eq]at h
  have:=ih q (k+1) h.2 (by omega)
  rwa [show k+1+m=k+(m+1)by omega]at this
theorem yi(n:Nat)(hn:n<255):sbx (Ul n)=SB (Jo n):=by
 have:=Yz n 255 0 (by decide+kernel) hn
 rwa [Nat.zero_add]at this
def zj:Nat->UInt8->List UInt8
 |0,_=>[]
 |n+1,x=>x :: zj n (x ^^^ dbl x)
theorem KQ(n:Nat):∀(k:Nat) (b:UInt8),b∈zj n (Jo k)->∃m,m<n/\Jo (k+m)=b:=by
 induction n with
 |zero=>intro k b h;simp [zj]at h
 |succ n ih=>
  intro k b h
  rw [zj,List.mem_cons]at h
  rcases h with h|h
  ·exact⟨0,by omega,h.symm⟩
  ·obtain⟨m,hm,e⟩:=ih (k+1) b h
   exact⟨m+1,by omega,by rw [<-e];congr 1;omega⟩
theorem zz(b:UInt8)(hb:b≠0):∃m,m<255/\Jo m=b:=by
 have h:b∈zj 255 (Jo 0):=by
  revert hb
  refine qt (p:=fun b=>b≠0->b∈zj 255 (Jo 0)) ?_ b
  decide+kernel
 obtain⟨m,hm,e⟩:=KQ 255 0 b h
 exact⟨m,hm,by rwa [Nat.zero_add]at e⟩
theorem Uq(n:Nat)(hn:n<=255)(b:UInt8):(∃m,m<n/\Jo m=b)->VT n b.toNat=SB b:=by
 induction n with
 |zero=>rintro⟨m,h,_⟩;omega
 |succ n ih=>
  rintro⟨m,hm,e⟩
  show Yq (VT n) (Jo n) (Ul n) b.toNat=_
  unfold Yq
  have hlt:=b.toNat_lt
  rw [iF (by omega)]
  by_cases h:b.toNat=(Jo n).toNat
  ·rw [iT h,yi n (by omega),UInt8.toNat_inj.1 h]
  ·rw [iF h]
   refine ih (by omega) ⟨m,?_,e⟩
   rcases Nat.lt_or_ge m n with h1|h1
   ·exact h1
   ·have:m=n:=by omega
    subst this
    exact absurd (by rw [e]) h
theorem Up(n:Nat)(hn:n<=255)(b:UInt8):(∃m,m<n/\Jo m=b)->VT n (256+(SB b).toNat)=b:=by
 induction n with
 |zero=>rintro⟨m,h,_⟩;omega
 |succ n ih=>
  rintro⟨m,hm,e⟩
  show Yq (VT n) (Jo n) (Ul n) _=_
  unfold Yq
  rw [yi n (by omega)]
  have hlt:=(Jo n).toNat_lt
  by_cases h:SB b=SB (Jo n)
  ·rw [iT (by rw [h]),UF h]
  ·rw [iF (by intro e2;exact h (UInt8.toNat_inj.1 (by omega))),iF (by omega)]
   refine ih (by omega) ⟨m,?_,e⟩
   rcases Nat.lt_or_ge m n with h1|h1
   ·exact h1
   ·have:m=n:=by omega
    subst this
    exact absurd (by rw [e]) h
theorem Qy:sbx 0=SB 0:=by decide+kernel
theorem j0h(b:UInt8):fwd b.toNat=SB b:=by
 unfold fwd VU Yq
 have hlt:=b.toNat_lt
 rw [iF (by omega),Qy]
 by_cases h:b=0
 ·subst h;rw [iT rfl]
 ·rw [iF (by intro e;exact h (UInt8.toNat_inj.1 e))]
  exact Uq 255 (by omega) b (zz b h)
theorem j07(b:UInt8):bck (SB b).toNat=b:=by
 unfold bck VU Yq
 rw [Qy]
 by_cases h:b=0
 ·subst h;rw [iT rfl]
 ·rw [iF (by intro e;exact h (UF (UInt8.toNat_inj.1 (by omega)))),iF (by simp)]
  exact Up 255 (by omega) b (zz b h)
theorem Z6(a:UInt8):dbl a=a <<< 1 ^^^ (a >>> 7)*27:=by
 refine qt (p:=fun a=>dbl a=a <<< 1 ^^^ (a >>> 7)*27) ?_ a
 decide+kernel
theorem ZZ(a:UInt8):a >>> 7=0\/a >>> 7=1:=by
 refine qt (p:=fun a=>a >>> 7=0\/a >>> 7=1) ?_ a
 decide+kernel
theorem j1v(a b c d:UInt8):(a ^^^ b) ^^^ (c ^^^ d)=(a ^^^ c) ^^^ (b ^^^ d):=by ac_rfl
theorem Z7(a b:UInt8):dbl (a ^^^ b)=dbl a ^^^ dbl b:=by
 rw [Z6,Z6,Z6,UInt8.shiftLeft_xor,UInt8.shiftRight_xor,j1v]
 congr 1
 rcases ZZ a with e|e<;>rcases ZZ b with e2|e2<;>rw [e,e2]<;>decide
theorem Ze(n:Nat):∀(a a' b o o':UInt8),xu n (a ^^^ a') b (o ^^^ o')=xu n a b o ^^^ xu n a' b o':=by
 induction n with
 |zero=>intro a a' b o o';rfl
 |succ n ih=>
  intro a a' b o o'
  by_cases hb:(b != 0)=true
  ·by_cases h1:(b &&& 1==1)=true
   ·rw [xx _ _ _ _ hb h1,xx _ _ _ _ hb h1,xx _ _ _ _ hb h1,Z7,j1v,ih]
   ·have h1:(b &&& 1==1)=false:=by simpa using h1
    rw [qH _ _ _ _ hb h1,qH _ _ _ _ hb h1,qH _ _ _ _ hb h1,Z7,ih]
  ·have hb:(b != 0)=false:=by simpa using hb
   rw [xw _ _ _ _ hb,xw _ _ _ _ hb,xw _ _ _ _ hb]
theorem Jd(a a' b:UInt8):xS (a ^^^ a') b=xS a b ^^^ xS a' b:=by
 have:=Ze 8 a a' b 0 0
 rwa [show(0:UInt8) ^^^ 0=0 from rfl]at this
theorem xy(a b c d e:UInt8):xS (a ^^^ b ^^^ c ^^^ d) e=xS a e ^^^ xS b e ^^^ xS c e ^^^ xS d e:=by
 rw [Jd,Jd,Jd]
theorem kO(row f:Nat->UInt8)(c r:Nat)(hr:r<4):
 yO row f (4*c+r)=xS (f (4*c)) (row ((0+4 - r) % 4)) ^^^ xS (f (4*c+1)) (row ((1+4 - r) % 4)) ^^^ xS (f (4*c+2)) (row ((2+4 - r) % 4)) ^^^ xS (f (4*c+3)) (row ((3+4 - r) % 4)):=by
 unfold yO
 rw [qx,qx,qx,qx]
 rw [show(4*c+r) / 4*4=4*c by omega,show(4*c+r) % 4=r by omega]
 show 0 ^^^ _ ^^^ _ ^^^ _ ^^^ _=_
 rw [UInt8.zero_xor,Nat.add_zero]
def ql(D E:Nat->UInt8)(m r:Nat)(x:UInt8):UInt8:=
 xS (xS x (E ((m+4 - 0) % 4))) (D ((0+4 - r) % 4)) ^^^ xS (xS x (E ((m+4 - 1) % 4))) (D ((1+4 - r) % 4)) ^^^ xS (xS x (E ((m+4 - 2) % 4))) (D ((2+4 - r) % 4)) ^^^ xS (xS x (E ((m+4 - 3) % 4))) (D ((3+4 - r) % 4))
theorem Vr(D E f:Nat->UInt8)(c r:Nat)(hr:r<4):
 yO D (yO E f) (4*c+r)=ql D E 0 r (f (4*c)) ^^^ ql D E 1 r (f (4*c+1)) ^^^ ql D E 2 r (f (4*c+2)) ^^^ ql D E 3 r (f (4*c+3)):=by
 rw [kO D (yO E f) c r hr]
 have h0:=kO E f c 0 (by omega)
 have h1:=kO E f c 1 (by omega)
 have h2:=kO E f c 2 (by omega)
 have h3:=kO E f c 3 (by omega)
 rw [Nat.add_zero]at h0
 rw [h0,h1,h2,h3,xy,xy,xy,xy]
 unfold ql
 simp only [Nat.zero_add,Nat.sub_zero]
 generalize D (_ % 4)=d0
 ac_rfl
def idC(m r:Nat)(x:UInt8):UInt8:=if m=r then x else 0
theorem Q5:∀m,m<4->∀r,r<4->∀n,n<256->ql YQ UQ m r (UInt8.ofNat n)=idC m r (UInt8.ofNat n):=by
 decide+kernel
theorem VW(m r:Nat)(hm:m<4)(hr:r<4)(x:UInt8):ql YQ UQ m r x=idC m r x:=
 qt (p:=fun x=>ql YQ UQ m r x=idC m r x) (fun n hn=>Q5 m hm r hr n hn) x
theorem YR(D E f:Nat->UInt8)(h:∀m r,m<4->r<4->∀x,ql D E m r x=idC m r x)(i:Nat):yO D (yO E f) i=f i:=by
 obtain⟨c,r,hr,rfl⟩:∃c r,r<4/\i=4*c+r:=⟨i / 4,i % 4,by omega,by omega⟩
 rw [Vr D E f c r hr,h 0 r (by omega) hr,h 1 r (by omega) hr,h 2 r (by omega) hr,h 3 r (by omega) hr]
 unfold idC
 rcases r with _|_|_|_|r
 ·simp
 ·simp
 ·simp
 ·simp
 ·omega
theorem Zm(f:Nat->UInt8):yO YQ (yO UQ f)=f:=by
 funext i
 exact YR YQ UQ f (fun m r hm hr x=>VW m r hm hr x) i
theorem Xb(row:Nat->UInt8){f g:Nat->UInt8}(h:∀j,j<16->f j=g j)(j:Nat)(hj:j<16):yO row f j=yO row g j:=by
 obtain⟨c,r,hr,rfl⟩:∃c r,r<4/\j=4*c+r:=⟨j / 4,j % 4,by omega,by omega⟩
 rw [kO row f c r hr,kO row g c r hr,h _ (by omega),h _ (by omega),h _ (by omega),h _ (by omega)]
theorem j1l(f:Nat->UInt8)(i:Nat)(hi:i<16):yy 3 (yy 1 f) i=f i:=by
 unfold yy;congr 1;omega
theorem Xq(s:Nat){f g:Nat->UInt8}(h:∀j,j<16->f j=g j)(i:Nat):yy s f i=yy s g i:=by
 unfold yy;exact h _ (by omega)
theorem Va(b:UInt8):bck (fwd b.toNat).toNat=b:=by rw [j0h,j07]
theorem JD(a b:UInt8):a ^^^ b ^^^ b=a:=by rw [UInt8.xor_assoc,UInt8.xor_self,UInt8.xor_zero]
theorem Vi(key f g:Nat->UInt8)(hg:∀j,j<16->g j=j00 key f j)(n:Nat)(hn:n<=10):∀j,j<16->UO key g n j=UP key f (10 - n) j:=by
 induction n with
 |zero=>intro j hj;exact hg j hj
 |succ n ih=>
  have ih:=ih (by omega)
  obtain⟨m,hm⟩:∃m,10 - n=m+1:=⟨9 - n,by omega⟩
  have hm2:10 - (n+1)=m:=by omega
  intro j hj
  rw [hm2]
  show bck (yy 3 _ j).toNat=_
  have hstep:∀i,i<16->(if 10 - n<10 then yO YQ (fun j=>UO key g n j ^^^ kU fwd key (10 - n) j)else fun j=>UO key g n j ^^^ kU fwd key (10 - n) j) i=yy 1 (fun j=>fwd (UP key f m j).toNat) i:=by
   rw [hm]at ih |-
   have hs:∀i,i<16->UO key g n i ^^^ kU fwd key (m+1) i=(if m+1<10 then yO UQ (yy 1 fun j=>fwd (UP key f m j).toNat) i else yy 1 (fun j=>fwd (UP key f m j).toNat) i):=fun i hi=>by
    rw [ih i hi]
    exact JD _ _
   intro i hi
   by_cases h:m+1<10
   ·rw [iT h]
    rw [Xb YQ hs i hi]
    simp only [iT h]
    exact congrFun (Zm _) i
   ·rw [iF h]
    rw [hs i hi,iF h]
  rw [Xq 3 hstep,j1l _ _ hj]
  exact Va _
theorem Z8(key f g:Nat->UInt8)(hg:∀j,j<16->g j=j00 key f j)(j:Nat)(hj:j<16):j0e key g j=f j:=by
 unfold j0e
 rw [Vi key f g hg 10 (by omega) j hj]
 exact JD _ _
theorem JM(k l:List UInt8)(hl:l.length=16):kh 16 (j0e (gb k) (gb (kh 16 (j00 (gb k) (gb l)))))=l:=by
 rw [<-zJ l 16 hl]
 exact zR fun j hj=>by
  rw [zJ l 16 hl]
  exact Z8 (gb k) (gb l) _ (fun j hj=>xV _ _ _ hj) j hj
theorem Za(k l:List UInt8)(hl:l.length=16):Z9 k (qZ k l)=l:=by
 unfold Z9 qZ;exact JM k l hl
theorem Yo(a c:List UInt8)(ha:a.length=16):xU (xU a c) c=a:=by
 rw [<-zJ a 16 ha]
 unfold xU
 refine zR fun j hj=> ?_
 rw [xV 16 _ j hj,zJ a 16 ha,JD]
theorem Ur(b:List UInt8)(n:Nat):b.take (16*(n+1))=b.take (16*n)++blk b n:=by
 unfold blk
 rw [show 16*(n+1)=16*n+16 by omega,List.take_add]
theorem QO{a c r:List UInt8}{n:Nat}(ha:a.length=16*n)(hc:c.length=16):blk (a++c++r) n=c:=by
 unfold blk
 rw [List.append_assoc,<-ha,List.drop_left,List.take_left' hc]
theorem KI{P:Nat->List UInt8}{c:Nat->List UInt8}(hP:∀n,P (n+1)=P n++c n)(n d:Nat):∃r,P (n+d)=P n++r:=by
 induction d with
 |zero=>exact⟨[],by simp⟩
 |succ d ih=>
  obtain⟨r,h⟩:=ih
  exact⟨r++c (n+d),by rw [<-Nat.add_assoc,hP,h,List.append_assoc]⟩
theorem Qk{P:Nat->List UInt8}{c:Nat->List UInt8}(h0:P 0= [])(hP:∀n,P (n+1)=P n++c n){m:Nat}(hc:∀n,n<m->(c n).length=16)(n:Nat)(hn:n<=m):(P n).length=16*n:=by
 induction n with
 |zero=>rw [h0]<;>rfl
 |succ n ih=>rw [hP,List.length_append,ih (by omega),hc n (by omega)];omega
theorem YJ{P:Nat->List UInt8}{c:Nat->List UInt8}(h0:P 0= [])(hP:∀n,P (n+1)=P n++c n){m:Nat}(hc:∀n,n<m->(c n).length=16)(n:Nat)(hn:n<m):blk (P m) n=c n:=by
 obtain⟨r,hr⟩:=KI hP (n+1) (m - (n+1))
 rw [show n+1+(m - (n+1))=m by omega,hP]at hr
 rw [hr]
 exact QO (Qk h0 hP hc n (by omega)) (hc n hn)
theorem YW(k iv b:List UInt8):(xH k iv b (List.range 0)).1=iv:=rfl
theorem Um(k iv b:List UInt8):(xM k iv b (List.range 0)).1=iv:=rfl
section
variable (k iv b:List UInt8)
def sC(n:Nat):List UInt8:=(xM k iv b (List.range n)).1
def sP(n:Nat):List UInt8:=(xM k iv b (List.range n)).2
def oC(n:Nat):List UInt8:=(xH k iv b (List.range n)).1
def oP(n:Nat):List UInt8:=(xH k iv b (List.range n)).2
theorem VP:sC k iv b 0=iv:=Um k iv b
theorem Vz:oC k iv b 0=iv:=YW k iv b
theorem Js(n:Nat):sC k iv b (n+1)=qZ k (xU (blk b n) (sC k iv b n)):=by unfold sC;rw [List.range_succ,qR]<;>rfl
theorem ZK(n:Nat):sP k iv b (n+1)=sP k iv b n++sC k iv b (n+1):=by rw [Js];unfold sP sC;rw [List.range_succ,qR]<;>rfl
theorem Vy(n:Nat):oC k iv b (n+1)=blk b n:=by unfold oC;rw [List.range_succ,qL]<;>rfl
theorem VA(n:Nat):oP k iv b (n+1)=oP k iv b n++xU (Z9 k (blk b n)) (oC k iv b n):=by unfold oP oC;rw [List.range_succ,qL]<;>rfl
theorem xL{m:Nat}(hb:b.length=16*m):kR k iv b=sP k iv b m:=by unfold kR sP;rw [hb,Nat.mul_div_cancel_left _ (by omega)]
theorem Ud{m:Nat}(hb:b.length=16*m):yF k iv b=oP k iv b m:=by unfold yF oP;rw [hb,Nat.mul_div_cancel_left _ (by omega)]
theorem Ki(m:Nat):(sP k iv b m).length=16*m:=Qk (P:=sP k iv b) (c:=fun n=>sC k iv b (n+1)) rfl (ZK k iv b) (m:=m) (fun _ _=>by rw [Js];exact kE _ _) m iL
theorem UV(m n:Nat)(hn:n<m):blk (sP k iv b m) n=sC k iv b (n+1):=YJ (P:=sP k iv b) (c:=fun n=>sC k iv b (n+1)) rfl (ZK k iv b) (fun n _=>by rw [Js];exact kE _ _) n hn
end
theorem ZA(k iv b:List UInt8)(m:Nat)(hb:b.length=16*m):yF k iv (kR k iv b)=b:=by
 rw [xL k iv b hb,Ud k iv _ (Ki k iv b m)]
 have hc:∀n,n<=m->oC k iv (sP k iv b m) n=sC k iv b n:=fun n hn=>by
  cases n with
  |zero=>rw [Vz,VP]
  |succ n=>rw [Vy,UV k iv b m n (by omega)]
 have hp:∀n,n<=m->oP k iv (sP k iv b m) n=b.take (16*n):=fun n=>by
  induction n with
  |zero=>intro _;rfl
  |succ n ih=>
   intro hn
   rw [VA,ih (by omega),hc n (by omega),UV k iv b m n (by omega),Ur,Js,Za _ _ (jP _ _),Yo _ _ (xX hb (by omega))]
 rw [hp m iL,<-hb,List.take_length]
end Go.Proofs.Ytadndhgebgjlaaa
