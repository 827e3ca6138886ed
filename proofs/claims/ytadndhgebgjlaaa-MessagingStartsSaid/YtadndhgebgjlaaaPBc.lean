/- The walks of the reference of layer 5: times, Substitute; The walk of the reference's expand; Plain law: the tables of both sides are one table; Plain law: D... -/
import Derived.Deep.LoopGhost
import Derived.Test.YtadndhgebgjlaaaPBb
import Derived.Test.YtadndhgebgjlaaaPu
set_option linter.unusedVariables false
set_option linter.unusedSimpArgs false
namespace Go.Proofs.Ytadndhgebgjlaaa
open Go.RowKit
section
open Go.RowKit
theorem kY{p:UInt8->Prop}(h:∀n,n<256->p (UInt8.ofNat n))(b:UInt8):p b:=by
 have:=h b.toNat b.toNat_lt
 rwa [UInt8.ofNat_toNat]at this
theorem yE(z:Int):bits .and .i64 z 1=z % 2:=by
 unfold bits
 simp only [show BitVec.ofInt IntKind.i64.bits 1=1#64 from rfl]
 have h:(BitVec.ofInt 64 z &&& 1#64).toNat=(z % 2).toNat:=by
  rw [BitVec.toNat_and,BitVec.toNat_ofInt,show(1#64).toNat=1 from rfl,Nat.and_one_is_mod]
  omega
 show IntKind.i64.wrap (((BitVec.ofInt 64 z &&& 1#64).toNat:Nat):Int)=z % 2
 rw [h,IntWalk.i64_in _ (by omega)]
 omega
theorem xV(a b:UInt8):bits .xor .i64 (bv a) (bv b)=bv (a ^^^ b):=by
 unfold bits bv
 show IntKind.i64.wrap (((BitVec.ofInt 64 (a.toNat:Int) ^^^ BitVec.ofInt 64 (b.toNat:Int)).toNat:Nat):Int)=_
 have ha:=a.toNat_lt;have hb:=b.toNat_lt
 rw [BitVec.toNat_xor,BitVec.ofInt_natCast,BitVec.ofInt_natCast,BitVec.toNat_ofNat,BitVec.toNat_ofNat,Nat.mod_eq_of_lt (by omega),Nat.mod_eq_of_lt (by omega),UInt8.toNat_xor]
 have:a.toNat ^^^ b.toNat<2 ^ 8:=Nat.xor_lt_two_pow ha hb
 exact IntWalk.i64_in _ (by omega)
attribute [simp] yE xV
end
theorem zk{n:Nat}{f g:Nat->UInt8}(h:∀j,j<n->f j=g j):jY n f=jY n g:=by
 unfold jY
 exact List.map_congr_left fun j hj=>h j (by simpa using hj)
def Y6:List UInt8:=[99,124,119,123,242,107,111,197,48,1,103,43,254,215,171,118,202,130,201,125,250,89,71,240,173,212,162,175,156,164,114,192,183,253,147,38,54,63,247,204,52,165,229,241,113,216,49,21,4,199,35,195,24,150,5,154,7,18,128,226,235,39,178,117,9,131,44,26,27,110,90,160,82,59,214,179,41,227,47,132,83,209,0,237,32,252,177,91,106,203,190,57,74,76,88,207,208,239,170,251,67,77,51,133,69,249,2,127,80,60,159,168,81,163,64,143,146,157,56,245,188,182,218,33,16,255,243,210,205,12,19,236,95,151,68,23,196,167,126,61,100,93,25,115,96,129,79,220,34,42,144,136,70,238,184,20,222,94,11,219,224,50,58,10,73,6,36,92,194,211,172,98,145,149,228,121,231,200,55,109,141,213,78,169,108,86,244,234,101,122,174,8,186,120,37,46,28,166,180,198,232,221,116,31,75,189,139,138,112,62,181,102,72,3,246,14,97,53,87,185,134,193,29,158,225,248,152,17,105,217,142,148,155,30,135,233,206,85,40,223,140,161,137,13,191,230,66,104,65,153,45,15,176,84,187,22]
def SB(x:UInt8):UInt8:=Y6.getD x.toNat 0
def bsF(y:UInt8):UInt8:=UInt8.ofNat (Y6.idxOf y)
theorem XV(x:UInt8):bsF (SB x)=x:=by
 refine kY (p:=fun x=>bsF (SB x)=x) ?_ x
 decide+kernel
theorem ZY{x y:UInt8}(h:SB x=SB y):x=y:=by rw [<-XV x,h,XV]
def UI:Nat->UInt8->UInt8->Bool
 |0,_,_=>true
 |n+1,x,y=>(sbx y==SB x)&&UI n (x ^^^ dbl x) (xe y 246)
theorem Z3(m:Nat):∀(n k:Nat),UI n (yB k) (Zt k)=true->m<n->sbx (Zt (k+m))=SB (yB (k+m)):=by
 induction m with
 |zero=>
  intro n k h hn
  obtain⟨q,rfl⟩:∃q,n=q+1:=⟨n - 1,by omega⟩
  unfold UI at h
  simp only [Bool.and_eq_true,beq_iff_eq]at h
  exact h.1
 |succ m ih=>
  intro n k h hn
  obtain⟨q,rfl⟩:∃q,n=q+1:=⟨n - 1,by omega⟩
  unfold UI at h
  simp only [Bool.and_eq_true,beq_iff_eq]at h
  have:=ih q (k+1) h.2 (by omega)
  rwa [show k+1+m=k+(m+1)by omega]at this
theorem zw(n:Nat)(hn:n<255):sbx (Zt n)=SB (yB n):=by
 have:=Z3 n 255 0 (by decide+kernel) hn
 rwa [Nat.zero_add]at this
def xh:Nat->UInt8->List UInt8
 |0,_=>[]
 |n+1,x=>x :: xh n (x ^^^ dbl x)
theorem JK(n:Nat):∀(k:Nat) (b:UInt8),b∈xh n (yB k)->∃m,m<n/\yB (k+m)=b:=by
 induction n with
 |zero=>intro k b h;simp [xh]at h
 |succ n ih=>
  intro k b h
  rw [xh,List.mem_cons]at h
  rcases h with h|h
  ·exact⟨0,by omega,h.symm⟩
  ·obtain⟨m,hm,e⟩:=ih (k+1) b h
   exact⟨m+1,by omega,by rw [<-e];congr 1;omega⟩
theorem xG(b:UInt8)(hb:b≠0):∃m,m<255/\yB m=b:=by
 have h:b∈xh 255 (yB 0):=by
  revert hb
  refine kY (p:=fun b=>b≠0->b∈xh 255 (yB 0)) ?_ b
  decide+kernel
 obtain⟨m,hm,e⟩:=JK 255 0 b h
 exact⟨m,hm,by rwa [Nat.zero_add]at e⟩
theorem ZI(n:Nat)(hn:n<=255)(b:UInt8):(∃m,m<n/\yB m=b)->YL n b.toNat=SB b:=by
 induction n with
 |zero=>rintro⟨m,h,_⟩;omega
 |succ n ih=>
  rintro⟨m,hm,e⟩
  show XX (YL n) (yB n) (Zt n) b.toNat=_
  unfold XX
  have hlt:=b.toNat_lt
  rw [if_neg (by omega)]
  by_cases h:b.toNat=(yB n).toNat
  ·rw [if_pos h,zw n (by omega),UInt8.toNat_inj.1 h]
  ·rw [if_neg h]
   refine ih (by omega) ⟨m,?_,e⟩
   rcases Nat.lt_or_ge m n with h1|h1
   ·exact h1
   ·have:m=n:=by omega
    subst this
    exact absurd (by rw [e]) h
theorem Z8(n:Nat)(hn:n<=255)(b:UInt8):(∃m,m<n/\yB m=b)->YL n (256+(SB b).toNat)=b:=by
 induction n with
 |zero=>rintro⟨m,h,_⟩;omega
 |succ n ih=>
  rintro⟨m,hm,e⟩
  show XX (YL n) (yB n) (Zt n) _=_
  unfold XX
  rw [zw n (by omega)]
  have hlt:=(yB n).toNat_lt
  by_cases h:SB b=SB (yB n)
  ·rw [if_pos (by rw [h]),ZY h]
  ·rw [if_neg (by intro e2;exact h (UInt8.toNat_inj.1 (by omega))),if_neg (by omega)]
   refine ih (by omega) ⟨m,?_,e⟩
   rcases Nat.lt_or_ge m n with h1|h1
   ·exact h1
   ·have:m=n:=by omega
    subst this
    exact absurd (by rw [e]) h
theorem KA:sbx 0=SB 0:=by decide+kernel
theorem Uc(b:UInt8):fwd b.toNat=SB b:=by
 unfold fwd YQ XX
 have hlt:=b.toNat_lt
 rw [if_neg (by omega),KA]
 by_cases h:b=0
 ·subst h;rw [if_pos rfl]
 ·rw [if_neg (by intro e;exact h (UInt8.toNat_inj.1 e))]
  exact ZI 255 (by omega) b (xG b h)
theorem Uq(b:UInt8):bck (SB b).toNat=b:=by
 unfold bck YQ XX
 rw [KA]
 by_cases h:b=0
 ·subst h;rw [if_pos rfl]
 ·rw [if_neg (by intro e;exact h (ZY (UInt8.toNat_inj.1 (by omega)))),if_neg (by simp)]
  exact Z8 255 (by omega) b (xG b h)
theorem Qn(a:UInt8):dbl a=a <<< 1 ^^^ (a >>> 7)*27:=by
 refine kY (p:=fun a=>dbl a=a <<< 1 ^^^ (a >>> 7)*27) ?_ a
 decide+kernel
theorem QN(a:UInt8):a >>> 7=0\/a >>> 7=1:=by
 refine kY (p:=fun a=>a >>> 7=0\/a >>> 7=1) ?_ a
 decide+kernel
theorem Vb(a b c d:UInt8):(a ^^^ b) ^^^ (c ^^^ d)=(a ^^^ c) ^^^ (b ^^^ d):=by ac_rfl
theorem Ql(a b:UInt8):dbl (a ^^^ b)=dbl a ^^^ dbl b:=by
 rw [Qn,Qn,Qn,UInt8.shiftLeft_xor,UInt8.shiftRight_xor,Vb]
 congr 1
 rcases QN a with e|e<;>rcases QN b with e2|e2<;>rw [e,e2]<;>decide
theorem QD(n:Nat):∀(a a' b o o':UInt8),qK n (a ^^^ a') b (o ^^^ o')=qK n a b o ^^^ qK n a' b o':=by
 induction n with
 |zero=>intro a a' b o o';rfl
 |succ n ih=>
  intro a a' b o o'
  by_cases hb:(b != 0)=true
  ·by_cases h1:(b &&& 1==1)=true
   ·rw [qZ _ _ _ _ hb h1,qZ _ _ _ _ hb h1,qZ _ _ _ _ hb h1,Ql,Vb,ih]
   ·have h1:(b &&& 1==1)=false:=by simpa using h1
    rw [qo _ _ _ _ hb h1,qo _ _ _ _ hb h1,qo _ _ _ _ hb h1,Ql,ih]
  ·have hb:(b != 0)=false:=by simpa using hb
   rw [x7 _ _ _ _ hb,x7 _ _ _ _ hb,x7 _ _ _ _ hb]
theorem yd(a a' b:UInt8):xe (a ^^^ a') b=xe a b ^^^ xe a' b:=by
 have:=QD 8 a a' b 0 0
 rwa [show(0:UInt8) ^^^ 0=0 from rfl]at this
theorem qH(a b c d e:UInt8):xe (a ^^^ b ^^^ c ^^^ d) e=xe a e ^^^ xe b e ^^^ xe c e ^^^ xe d e:=by
 rw [yd,yd,yd]
theorem kx(row f:Nat->UInt8)(c r:Nat)(hr:r<4):
 zM row f (4*c+r)=xe (f (4*c)) (row ((0+4 - r) % 4)) ^^^ xe (f (4*c+1)) (row ((1+4 - r) % 4)) ^^^ xe (f (4*c+2)) (row ((2+4 - r) % 4)) ^^^ xe (f (4*c+3)) (row ((3+4 - r) % 4)):=by
 unfold zM
 rw [qa,qa,qa,qa]
 rw [show(4*c+r) / 4*4=4*c by omega,show(4*c+r) % 4=r by omega]
 show 0 ^^^ _ ^^^ _ ^^^ _ ^^^ _=_
 rw [UInt8.zero_xor,Nat.add_zero]
def kR(D E:Nat->UInt8)(m r:Nat)(x:UInt8):UInt8:=
 xe (xe x (E ((m+4 - 0) % 4))) (D ((0+4 - r) % 4)) ^^^ xe (xe x (E ((m+4 - 1) % 4))) (D ((1+4 - r) % 4)) ^^^ xe (xe x (E ((m+4 - 2) % 4))) (D ((2+4 - r) % 4)) ^^^ xe (xe x (E ((m+4 - 3) % 4))) (D ((3+4 - r) % 4))
theorem YX(D E f:Nat->UInt8)(c r:Nat)(hr:r<4):
 zM D (zM E f) (4*c+r)=kR D E 0 r (f (4*c)) ^^^ kR D E 1 r (f (4*c+1)) ^^^ kR D E 2 r (f (4*c+2)) ^^^ kR D E 3 r (f (4*c+3)):=by
 rw [kx D (zM E f) c r hr]
 have h0:=kx E f c 0 (by omega)
 have h1:=kx E f c 1 (by omega)
 have h2:=kx E f c 2 (by omega)
 have h3:=kx E f c 3 (by omega)
 rw [Nat.add_zero]at h0
 rw [h0,h1,h2,h3,qH,qH,qH,qH]
 unfold kR
 simp only [Nat.zero_add,Nat.sub_zero]
 generalize D (_ % 4)=d0
 ac_rfl
def idC(m r:Nat)(x:UInt8):UInt8:=if m=r then x else 0
theorem JX:∀m,m<4->∀r,r<4->∀n,n<256->kR Z2 Y9 m r (UInt8.ofNat n)=idC m r (UInt8.ofNat n):=by
 decide+kernel
theorem YH(m r:Nat)(hm:m<4)(hr:r<4)(x:UInt8):kR Z2 Y9 m r x=idC m r x:=
 kY (p:=fun x=>kR Z2 Y9 m r x=idC m r x) (fun n hn=>JX m hm r hr n hn) x
theorem ZR(D E f:Nat->UInt8)(h:∀m r,m<4->r<4->∀x,kR D E m r x=idC m r x)(i:Nat):zM D (zM E f) i=f i:=by
 obtain⟨c,r,hr,rfl⟩:∃c r,r<4/\i=4*c+r:=⟨i / 4,i % 4,by omega,by omega⟩
 rw [YX D E f c r hr,h 0 r (by omega) hr,h 1 r (by omega) hr,h 2 r (by omega) hr,h 3 r (by omega) hr]
 unfold idC
 rcases r with _|_|_|_|r
 ·simp
 ·simp
 ·simp
 ·simp
 ·omega
theorem Xb(f:Nat->UInt8):zM Z2 (zM Y9 f)=f:=by
 funext i
 exact ZR Z2 Y9 f (fun m r hm hr x=>YH m r hm hr x) i
theorem KX(row:Nat->UInt8){f g:Nat->UInt8}(h:∀j,j<16->f j=g j)(j:Nat)(hj:j<16):zM row f j=zM row g j:=by
 obtain⟨c,r,hr,rfl⟩:∃c r,r<4/\j=4*c+r:=⟨j / 4,j % 4,by omega,by omega⟩
 rw [kx row f c r hr,kx row g c r hr,h _ (by omega),h _ (by omega),h _ (by omega),h _ (by omega)]
theorem UN(f:Nat->UInt8)(i:Nat)(hi:i<16):zB 3 (zB 1 f) i=f i:=by
 unfold zB;congr 1;omega
theorem KZ(s:Nat){f g:Nat->UInt8}(h:∀j,j<16->f j=g j)(i:Nat):zB s f i=zB s g i:=by
 unfold zB;exact h _ (by omega)
theorem Yx(b:UInt8):bck (fwd b.toNat).toNat=b:=by rw [Uc,Uq]
theorem yo(a b:UInt8):a ^^^ b ^^^ b=a:=by rw [UInt8.xor_assoc,UInt8.xor_self,UInt8.xor_zero]
theorem YB(key f g:Nat->UInt8)(hg:∀j,j<16->g j=U9 key f j)(n:Nat)(hn:n<=10):∀j,j<16->Yc key g n j=Y3 key f (10 - n) j:=by
 induction n with
 |zero=>intro j hj;exact hg j hj
 |succ n ih=>
  have ih:=ih (by omega)
  obtain⟨m,hm⟩:∃m,10 - n=m+1:=⟨9 - n,by omega⟩
  have hm2:10 - (n+1)=m:=by omega
  intro j hj
  rw [hm2]
  show bck (zB 3 _ j).toNat=_
  have hstep:∀i,i<16->(if 10 - n<10 then zM Z2 (fun j=>Yc key g n j ^^^ kI fwd key (10 - n) j)else fun j=>Yc key g n j ^^^ kI fwd key (10 - n) j) i=zB 1 (fun j=>fwd (Y3 key f m j).toNat) i:=by
   rw [hm]at ih |-
   have hs:∀i,i<16->Yc key g n i ^^^ kI fwd key (m+1) i=(if m+1<10 then zM Y9 (zB 1 fun j=>fwd (Y3 key f m j).toNat) i else zB 1 (fun j=>fwd (Y3 key f m j).toNat) i):=fun i hi=>by
    rw [ih i hi]
    exact yo _ _
   intro i hi
   by_cases h:m+1<10
   ·rw [if_pos h]
    rw [KX Z2 hs i hi]
    simp only [if_pos h]
    exact congrFun (Xb _) i
   ·rw [if_neg h]
    rw [hs i hi,if_neg h]
  rw [KZ 3 hstep,UN _ _ hj]
  exact Yx _
theorem XE(key f g:Nat->UInt8)(hg:∀j,j<16->g j=U9 key f j)(j:Nat)(hj:j<16):Uu key g j=f j:=by
 unfold Uu
 rw [YB key f g hg 10 (by omega) j hj]
 exact yo _ _
theorem Jr(k l:List UInt8)(hl:l.length=16):jY 16 (Uu (gb k) (gb (jY 16 (U9 (gb k) (gb l)))))=l:=by
 rw [<-xU l 16 hl]
 exact zk fun j hj=>by
  rw [xU l 16 hl]
  exact XE (gb k) (gb l) _ (fun j hj=>xw _ _ _ hj) j hj
theorem X6(k l:List UInt8)(hl:l.length=16):XL k (qz k l)=l:=by
 unfold XL qz;exact Jr k l hl
theorem QI(a c:List UInt8)(ha:a.length=16):xd (xd a c) c=a:=by
 rw [<-xU a 16 ha]
 unfold xd
 refine zk fun j hj=> ?_
 rw [xw 16 _ j hj,xU a 16 ha,yo]
theorem ZE(b:List UInt8)(n:Nat):b.take (16*(n+1))=b.take (16*n)++blk b n:=by
 unfold blk
 rw [show 16*(n+1)=16*n+16 by omega,List.take_add]
theorem Q0{a c r:List UInt8}{n:Nat}(ha:a.length=16*n)(hc:c.length=16):blk (a++c++r) n=c:=by
 unfold blk
 rw [List.append_assoc,<-ha,List.drop_left,List.take_left' hc]
theorem JP{P:Nat->List UInt8}{c:Nat->List UInt8}(hP:∀n,P (n+1)=P n++c n)(n d:Nat):∃r,P (n+d)=P n++r:=by
 induction d with
 |zero=>exact⟨[],by simp⟩
 |succ d ih=>
  obtain⟨r,h⟩:=ih
  exact⟨r++c (n+d),by rw [<-Nat.add_assoc,hP,h,List.append_assoc]⟩
theorem Kf{P:Nat->List UInt8}{c:Nat->List UInt8}(h0:P 0= [])(hP:∀n,P (n+1)=P n++c n){m:Nat}(hc:∀n,n<m->(c n).length=16)(n:Nat)(hn:n<=m):(P n).length=16*n:=by
 induction n with
 |zero=>rw [h0];rfl
 |succ n ih=>rw [hP,List.length_append,ih (by omega),hc n (by omega)];omega
theorem ZM{P:Nat->List UInt8}{c:Nat->List UInt8}(h0:P 0= [])(hP:∀n,P (n+1)=P n++c n){m:Nat}(hc:∀n,n<m->(c n).length=16)(n:Nat)(hn:n<m):blk (P m) n=c n:=by
 obtain⟨r,hr⟩:=JP hP (n+1) (m - (n+1))
 rw [show n+1+(m - (n+1))=m by omega,hP]at hr
 rw [hr]
 exact Q0 (Kf h0 hP hc n (by omega)) (hc n hn)
theorem ZL(k iv b:List UInt8):(qT k iv b (List.range 0)).1=iv:=rfl
theorem Zz(k iv b:List UInt8):(x6 k iv b (List.range 0)).1=iv:=rfl
section
variable (k iv b:List UInt8)
def sC(n:Nat):List UInt8:=(x6 k iv b (List.range n)).1
def sP(n:Nat):List UInt8:=(x6 k iv b (List.range n)).2
def oC(n:Nat):List UInt8:=(qT k iv b (List.range n)).1
def oP(n:Nat):List UInt8:=(qT k iv b (List.range n)).2
theorem YV:sC k iv b 0=iv:=Zz k iv b
theorem YE:oC k iv b 0=iv:=ZL k iv b
theorem yn(n:Nat):sC k iv b (n+1)=qz k (xd (blk b n) (sC k iv b n)):=by unfold sC;rw [List.range_succ,qi];rfl
theorem QQ(n:Nat):sP k iv b (n+1)=sP k iv b n++sC k iv b (n+1):=by rw [yn];unfold sP sC;rw [List.range_succ,qi];rfl
theorem Yt(n:Nat):oC k iv b (n+1)=blk b n:=by unfold oC;rw [List.range_succ,qp];rfl
theorem Yq(n:Nat):oP k iv b (n+1)=oP k iv b n++xd (XL k (blk b n)) (oC k iv b n):=by unfold oP oC;rw [List.range_succ,qp];rfl
theorem qV{m:Nat}(hb:b.length=16*m):kE k iv b=sP k iv b m:=by unfold kE sP;rw [hb,Nat.mul_div_cancel_left _ (by omega)]
theorem XY{m:Nat}(hb:b.length=16*m):zI k iv b=oP k iv b m:=by unfold zI oP;rw [hb,Nat.mul_div_cancel_left _ (by omega)]
theorem J3(m:Nat):(sP k iv b m).length=16*m:=Kf (P:=sP k iv b) (c:=fun n=>sC k iv b (n+1)) rfl (QQ k iv b) (m:=m) (fun _ _=>by rw [yn];exact kj _ _) m iL
theorem Yd(m n:Nat)(hn:n<m):blk (sP k iv b m) n=sC k iv b (n+1):=ZM (P:=sP k iv b) (c:=fun n=>sC k iv b (n+1)) rfl (QQ k iv b) (fun n _=>by rw [yn];exact kj _ _) n hn
end
theorem Xw(k iv b:List UInt8)(m:Nat)(hb:b.length=16*m):zI k iv (kE k iv b)=b:=by
 rw [qV k iv b hb,XY k iv _ (J3 k iv b m)]
 have hc:∀n,n<=m->oC k iv (sP k iv b m) n=sC k iv b n:=fun n hn=>by
  cases n with
  |zero=>rw [YE,YV]
  |succ n=>rw [Yt,Yd k iv b m n (by omega)]
 have hp:∀n,n<=m->oP k iv (sP k iv b m) n=b.take (16*n):=fun n=>by
  induction n with
  |zero=>intro _;rfl
  |succ n ih=>
   intro hn
   rw [Yq,ih (by omega),hc n (by omega),Yd k iv b m n (by omega),ZE,yn,X6 _ _ (jJ _ _),QI _ _ (xz hb (by omega))]
 rw [hp m iL,<-hb,List.take_length]
end Go.Proofs.Ytadndhgebgjlaaa
