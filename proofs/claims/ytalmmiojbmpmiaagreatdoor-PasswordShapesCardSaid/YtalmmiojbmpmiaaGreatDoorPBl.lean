/- Layer 21, plain: the group's prime: a power of any number (Fermat), and squares are elements -/
import Derived.Test.YtalmmiojbmpmiaaGreatDoorPu
set_option linter.all false
set_option maxRecDepth 100000
namespace Go.Proofs.YtalmmiojbmpmiaaGreatDoor
def chO:Nat->Nat->Nat
 |_,0=>1
 |0,_+1=>0
 |n+1,k+1=>chO n k+chO n (k+1)
theorem Vk:∀n k,(k+1)*chO (n+1) (k+1)=(n+1)*chO n k:=by
 intro n
 induction n with
 |zero=>intro k;cases k<;>simp [chO]
 |succ n ih=>
  intro k
  cases k with
  |zero=>
   have h:=ih 0
   have e1:chO (n+1+1) (0+1)=chO (n+1) 0+chO (n+1) (0+1):=rfl
   have e2:chO (n+1) 0=1:=rfl
   have e3:chO n 0=1:=by cases n<;>rfl
   rw [e3]at h
   rw [e1,e2]
   omega
  |succ j=>
   have h1:=ih j
   have h2:=ih (j+1)
   have e1:chO (n+1+1) (j+1+1)=chO (n+1) (j+1)+chO (n+1) (j+1+1):=rfl
   have e2:chO (n+1) (j+1)=chO n j+chO n (j+1):=rfl
   rw [e1,Nat.mul_add,h2,Nat.add_mul (j+1) 1,h1,e2]
   simp only [Nat.mul_add,Nat.add_mul,Nat.one_mul]
   omega
def chS(x n:Nat):Nat->Nat
 |0=>0
 |m+1=>chS x n m+chO n m*x ^ m
theorem U1(x n:Nat):∀m,chS x (n+1) (m+1)=x*chS x n m+chS x n (m+1):=by
 intro m
 induction m with
 |zero=>
  have e3:chO n 0=1:=by cases n<;>rfl
  simp [chS,e3,chO]
 |succ m ih=>
  have e:chS x (n+1) (m+1+1)=chS x (n+1) (m+1)+chO (n+1) (m+1)*x ^ (m+1):=rfl
  have e1:chO (n+1) (m+1)=chO n m+chO n (m+1):=rfl
  have e2:chS x n (m+1+1)=chS x n (m+1)+chO n (m+1)*x ^ (m+1):=rfl
  have e4:chS x n (m+1)=chS x n m+chO n m*x ^ m:=rfl
  have e5:chO n m*x ^ (m+1)=x*(chO n m*x ^ m):=by rw [Nat.pow_succ,<-Nat.mul_assoc,Nat.mul_comm]
  rw [e,ih,e1,e2,Nat.add_mul,e5]
  have e6:x*chS x n (m+1)=x*chS x n m+x*(chO n m*x ^ m):=by rw [e4,Nat.mul_add]
  omega
theorem Qx:∀n k,n<k->chO n k=0:=by
 intro n
 induction n with
 |zero=>intro k h;cases k with
  |zero=>omega
  |succ k=>rfl
 |succ n ih=>
  intro k h
  cases k with
  |zero=>omega
  |succ k=>
   have e1:chO (n+1) (k+1)=chO n k+chO n (k+1):=rfl
   rw [e1,ih k (by omega),ih (k+1) (by omega)]
theorem U0(x:Nat):∀n,chS x n (n+1)=(x+1) ^ n:=by
 intro n
 induction n with
 |zero=>simp [chS,chO]
 |succ n ih=>
  have e2:chS x n (n+1+1)=chS x n (n+1)+chO n (n+1)*x ^ (n+1):=rfl
  have e3:(x+1) ^ (n+1)=(x+1) ^ n*(x+1):=Nat.pow_succ _ _
  rw [U1,e2,Qx n (n+1) (by omega),ih,e3,Nat.mul_add,Nat.mul_comm x]
  simp
theorem Vp(p k:Nat)(h0:0<k)(h1:k<p)(hc:Nat.gcd k p=1):p ∣ chO p k:=by
 obtain⟨n,rfl⟩:∃n,p=n+1:=⟨p - 1,by omega⟩
 obtain⟨j,rfl⟩:∃j,k=j+1:=⟨k - 1,by omega⟩
 have h:=Vk n j
 have hd:(n+1) ∣ (j+1)*chO (n+1) (j+1):=h▸Nat.dvd_mul_right _ _
 exact Nat.Coprime.dvd_of_dvd_mul_left (show Nat.Coprime (n+1) (j+1) from(Nat.gcd_comm _ _).trans hc) hd
theorem j1l(p x:Nat)(hp:∀k,0<k->k<p->Nat.gcd k p=1):∀m,m+1<=p->chS x p (m+1) % p=1 % p:=by
 intro m
 induction m with
 |zero=>
  intro _
  have e3:chO p 0=1:=by cases p<;>rfl
  simp [chS,e3]
 |succ m ih=>
  intro h
  have e:chS x p (m+1+1)=chS x p (m+1)+chO p (m+1)*x ^ (m+1):=rfl
  have hd:=Vp p (m+1) (by omega) (by omega) (hp (m+1) (by omega) (by omega))
  obtain⟨c,hc⟩:=hd
  rw [e,hc,Nat.mul_assoc,Nat.add_mul_mod_self_left]
  exact ih (by omega)
theorem Xm(p:Nat)(h2:2<=p)(hp:∀k,0<k->k<p->Nat.gcd k p=1):∀x,x ^ p % p=x % p:=by
 intro x
 induction x with
 |zero=>rw [Nat.zero_pow (by omega)]
 |succ x ih=>
  have e:chS x p (p+1)=chS x p p+chO p p*x ^ p:=rfl
  have h1:chO p p=1:=by
   have:∀n,chO n n=1:=by
    intro n
    induction n with
    |zero=>rfl
    |succ n ih=>
     have e1:chO (n+1) (n+1)=chO n n+chO n (n+1):=rfl
     rw [e1,ih,Qx n (n+1) (by omega)]
   exact this p
  have hf:chS x p p % p=1 % p:=by
   obtain⟨m,hm⟩:∃m,p=m+1:=⟨p - 1,by omega⟩
   have:=j1l p x hp m (by omega)
   rwa [<-hm]at this
  rw [<-U0 x p,e,h1,Nat.one_mul,Nat.add_mod,hf,ih,<-Nat.add_mod,Nat.add_comm]
theorem Xn(p x:Nat)(h2:2<=p)(hp:∀k,0<k->k<p->Nat.gcd k p=1)(hx:0<x)(hxp:x<p):x ^ (p - 1) % p=1:=by
 have h:=Xm p h2 hp x
 obtain⟨q,hq⟩:∃q,p=q+1:=⟨p - 1,by omega⟩
 have hq':p - 1=q:=by omega
 rw [hq']
 have e:x ^ p=x*x ^ q:=by rw [hq,Nat.pow_succ,Nat.mul_comm]
 rw [e]at h
 have h1:1<=x ^ q:=Nat.pow_pos hx
 have hd:p ∣ x*(x ^ q - 1):=by
  have:=(Nat.sub_mod_eq_zero_of_mod_eq h)
  rw [show x*x ^ q - x=x*(x ^ q - 1)by rw [Nat.mul_sub,Nat.mul_one]]at this
  exact Nat.dvd_of_mod_eq_zero this
 obtain⟨c,hc⟩:=Nat.Coprime.dvd_of_dvd_mul_left (show Nat.Coprime p x from(Nat.gcd_comm _ _).trans (hp x hx hxp)) hd
 have e2:x ^ q=1+p*c:=by omega
 rw [e2,Nat.add_mul_mod_self_left,Nat.mod_eq_of_lt (by omega)]
def YU:Nat->Bool
 |0=>true
 |n+1=>decide (¬2147483579 % (n+2)=0)&&YU n
theorem Zh:∀n,YU n=true->∀d,2<=d->d<=n+1->¬2147483579 % d=0:=by
 intro n
 induction n with
 |zero=>intro _ d h1 h2;omega
 |succ n ih=>
  intro h d h1 h2
  simp only [YU,Bool.and_eq_true,decide_eq_true_eq]at h
  by_cases e:d=n+2
  ·subst e;exact h.1
  ·exact ih h.2 d h1 (by omega)
theorem XI:YU 46341=true:=by decide+kernel
theorem Ki(k:Nat)(h1:0<k)(h2:k<2147483579):Nat.gcd k 2147483579=1:=by
 obtain⟨g,hg⟩:∃g,Nat.gcd k 2147483579=g:=⟨_,rfl⟩
 rw [hg]
 have hk:g ∣ k:=hg▸Nat.gcd_dvd_left _ _
 obtain⟨m,hm⟩:g ∣ 2147483579:=hg▸Nat.gcd_dvd_right _ _
 have hgk:=Nat.le_of_dvd (by omega) hk
 rcases Nat.lt_or_ge g 2 with hlt|hge
 ·have:g≠0:=by rintro rfl;simp at hm
  omega
 ·exfalso
  have hm2:2<=m:=by
   rcases Nat.lt_or_ge m 2 with h|h
   ·obtain rfl|rfl:m=0\/m=1:=by omega
    ·simp at hm
    ·omega
   ·exact h
  have A:=Zh 46341 XI
  rcases Nat.lt_or_ge 46342 g with hb|hb
  ·rcases Nat.lt_or_ge 46342 m with hc|hc
   ·have:=Nat.mul_le_mul (show 46343<=g by omega) (show 46343<=m by omega)
    omega
   ·exact A m hm2 (by omega) (by rw [hm,Nat.mul_mod_left])
  ·exact A g hge (by omega) (by rw [hm,Nat.mul_mod_right])
theorem Kj(a b:Nat)(ha:0<a)(ha2:a<2147483579)(hb:0<b)(hb2:b<2147483579):0<a*b % 2147483579:=by
 rcases Nat.eq_zero_or_pos (a*b % 2147483579)with h|h
 ·exfalso
  have hd:=Nat.dvd_of_mod_eq_zero h
  have:=Nat.Coprime.dvd_of_dvd_mul_left (show Nat.Coprime 2147483579 a from(Nat.gcd_comm _ _).trans (Ki a ha ha2)) hd
  have:=Nat.le_of_dvd hb this
  omega
 ·exact h
theorem Qg(x:Nat)(h1:2<=x)(h2:x<2147483578):jx ((x*x % 2147483579:Nat):Int)=true:=by
 have h0:=Kj x x (by omega) (by omega) (by omega) (by omega)
 have hne:x*x % 2147483579≠1:=by
  intro e
  have hd:2147483579 ∣ (x - 1)*(x+1):=by
   obtain⟨y,rfl⟩:∃y,x=y+1:=⟨x - 1,by omega⟩
   have e1:(y+1)*(y+1)=(y+1 - 1)*(y+1+1)+1:=by
    rw [Nat.add_sub_cancel]
    simp only [Nat.mul_add,Nat.add_mul,Nat.mul_one,Nat.one_mul]
    omega
   rw [e1]at e
   exact Nat.dvd_of_mod_eq_zero (by omega)
  have:=Kj (x - 1) (x+1) (by omega) (by omega) (by omega) (by omega)
  have:=Nat.mod_eq_zero_of_dvd hd
  omega
 have hlt:x*x % 2147483579<2147483579:=Nat.mod_lt _ (by decide)
 have hf:(x*x % 2147483579) ^ 1073741789 % 2147483579=1:=by
  have f:=Xn 2147483579 x (by decide) Ki (by omega) (by omega)
  obtain⟨q,hq⟩:∃q:Nat,q=1073741789:=⟨_,rfl⟩
  have e:2147483579 - 1=q+q:=by omega
  rw [e]at f
  rw [<-hq,<-Nat.pow_mod,Nat.mul_pow,<-Nat.pow_add]
  exact f
 obtain⟨y,hy⟩:∃y,x*x % 2147483579=y:=⟨_,rfl⟩
 rw [hy]at h0 hne hlt hf |-
 unfold jx
 rw [Int.toNat_natCast]
 obtain⟨q,hq⟩:∃q:Nat,q=1073741789:=⟨_,rfl⟩
 rw [<-hq]at hf |-
 rw [zJ _ q (by omega)]
 have a1:decide (0<(y:Int)/\(y:Int)<2147483579)=true:=decide_eq_true (by omega)
 have a2:decide ((y:Int)≠1)=true:=decide_eq_true (by omega)
 have a3:decide (y ^ q % 2147483579=1)=true:=decide_eq_true hf
 rw [a1,a2,a3]
 rfl
end Go.Proofs.YtalmmiojbmpmiaaGreatDoor
