/- Layer 14: an element that is made of any number is one; Package group: secrets, elements as bytes, public keys, shares; both sides -/
import Derived.Test.YtalmmiojbmpmiaaGreatDoorPt
import Derived.Test.YtalmmiojbmpmiaaGreatDoorPi
set_option linter.all false
set_option maxRecDepth 100000
namespace Go.Proofs.YtalmmiojbmpmiaaGreatDoor
open Go.RowKit Go.Deep
theorem Vu(n:Nat):∀o x k,k<2 ^ n->o<2147483579->gpw n o x k=o*x ^ k % 2147483579:=by
 induction n with
 |zero=>
  intro o x k hk ho
  have:k=0:=by simpa using hk
  subst this
  simp [gpw,Nat.mod_eq_of_lt ho]
 |succ n ih=>
  intro o x k hk ho
  have hk2:k / 2<2 ^ n:=by rw [Nat.pow_succ]at hk;omega
  have hx:(x*x % 2147483579) ^ (k / 2) % 2147483579=x ^ (2*(k / 2)) % 2147483579:=by
   rw [<-Nat.pow_mod,Nat.pow_mul]
   congr 2
   exact(Nat.pow_two x).symm
  have mm:∀a b:Nat,a*b % 2147483579=a*(b % 2147483579) % 2147483579:=fun a b=>by rw [Nat.mul_mod a b,Nat.mul_mod a (b % _),Nat.mod_mod]
  by_cases h:k % 2=1
  ·rw [KP _ _ _ _ h,ih _ _ _ hk2 (Nat.mod_lt _ (by decide)),mm,hx,<-mm]
   rw [Nat.mul_mod,Nat.mod_mod,<-Nat.mul_mod,Nat.mul_assoc,<-Nat.pow_succ']
   congr 3
   omega
  ·rw [yZ _ _ _ _ h,ih _ _ _ hk2 ho,mm,hx,<-mm]
   congr 3
   omega
theorem zJ(x k:Nat)(h:k<2 ^ 64):gpw 64 1 x k=x ^ k % 2147483579:=by rw [Vu 64 1 x k h (by decide),Nat.one_mul]
def j19:Nat->Bool
 |0=>true
 |n+1=>decide (n+2=1)||(decide (¬1073741789 % (n+2)=0)&&j19 n)
theorem YV:∀n,j19 n=true->∀d,2<=d->d<=n+1->¬1073741789 % d=0:=by
 intro n
 induction n with
 |zero=>intro _ d h1 h2;omega
 |succ n ih=>
  intro h d h1 h2
  simp only [j19,Bool.or_eq_true,Bool.and_eq_true,decide_eq_true_eq]at h
  rcases h with h|h
  ·omega
  ·by_cases e:d=n+2
   ·subst e;exact h.1
   ·exact ih h.2 d h1 (by omega)
theorem XD:j19 32768=true:=by decide+kernel
theorem Kb(k:Nat)(h1:1<=k)(h2:k<1073741789):Nat.gcd k 1073741789=1:=by
 obtain⟨g,hg⟩:∃g,Nat.gcd k 1073741789=g:=⟨_,rfl⟩
 rw [hg]
 have hk:g ∣ k:=hg▸Nat.gcd_dvd_left _ _
 obtain⟨m,hm⟩:g ∣ 1073741789:=hg▸Nat.gcd_dvd_right _ _
 have hgk:=Nat.le_of_dvd (by omega) hk
 rcases Nat.lt_or_ge g 2 with hlt|hge
 ·have:g≠0:=by rintro rfl;simp at hm
  omega
 ·exfalso
  have hm2:2<=m:=by
   rcases Nat.lt_or_ge m 2 with h|h
   ·obtain rfl|rfl:m=0\/m=1:=by omega
    ·simp at hm
    ·omega
   ·exact h
  have A:=YV 32768 XD
  rcases Nat.lt_or_ge 32769 g with hb|hb
  ·rcases Nat.lt_or_ge 32769 m with hc|hc
   ·have:=Nat.mul_le_mul (show 32770<=g by omega) (show 32770<=m by omega)
    omega
   ·exact A m hm2 (by omega) (by rw [hm,Nat.mul_mod_left])
  ·exact A g hge (by omega) (by rw [hm,Nat.mul_mod_right])
theorem Ub(a b:Nat):4 ^ a % 2147483579=1->4 ^ b % 2147483579=1->4 ^ Nat.gcd a b % 2147483579=1:=by
 induction a,b using Nat.gcd.induction with
 |H0 n=>intro _ h;rw [Nat.gcd_zero_left];exact h
 |H1 m n hm ih=>
  intro h1 h2
  rw [Nat.gcd_rec]
  refine ih ?_ h1
  have e:4 ^ n % 2147483579=4 ^ (n % m) % 2147483579:=by
   conv=>lhs;rw [<-Nat.div_add_mod n m]
   rw [Nat.pow_add,Nat.mul_mod,Nat.pow_mul,Nat.pow_mod,h1,Nat.one_pow]
   simp
  rw [<-e];exact h2
theorem XE(q k:Nat)(hq:q<2 ^ 64)(h0q:q≠0)(hk:k<2 ^ 64)(h:gpw 64 1 4 q=1)(hg:Nat.gcd k q=1):gpw 64 1 (gpw 64 1 4 k) q=1/\gpw 64 1 4 k≠1/\gpw 64 1 4 k≠0:=by
 have hp:=zJ 4 k hk
 have h:4 ^ q % 2147483579=1:=by rw [<-zJ 4 q hq];exact h
 have ho:((gpw 64 1 4 k) ^ q) % 2147483579=1:=by
  rw [hp,<-Nat.pow_mod,<-Nat.pow_mul,Nat.mul_comm,Nat.pow_mul,Nat.pow_mod,h,Nat.one_pow]
 refine⟨by rw [zJ _ q hq];exact ho,?_,?_⟩
 ·intro e
  have:=Ub k q (by rw [<-hp];exact e) h
  rw [hg]at this
  exact absurd this (by decide)
 ·intro e
  rw [e,Nat.zero_pow (Nat.pos_of_ne_zero h0q)]at ho
  exact absurd ho (by decide)
theorem XH(k:Nat)(h1:1<=k)(h2:k<1073741789):jx ((gpw 64 1 4 k:Nat):Int)=true:=by
 have hlt:gpw 64 1 4 k<2147483579:=QE 64 1 4 k (by decide)
 obtain⟨ho,hne,h0⟩:=XE 1073741789 k (by decide) (by decide) (by omega) (by decide+kernel) (Kb k h1 h2)
 unfold jx
 rw [Int.toNat_natCast,ho]
 have a1:decide (0<((gpw 64 1 4 k:Nat):Int)/\((gpw 64 1 4 k:Nat):Int)<2147483579)=true:=decide_eq_true (by omega)
 have a2:decide (((gpw 64 1 4 k:Nat):Int)≠1)=true:=decide_eq_true (by omega)
 rw [a1,a2]
 rfl
theorem kO{x:Int}(h:jx x=true):0<x/\x<2147483579:=by
 unfold jx at h
 simp only [Bool.and_eq_true,decide_eq_true_eq]at h
 exact h.1.1
theorem U7{x:Int}(h:jx x=true):x≠1:=by
 unfold jx at h
 simp only [Bool.and_eq_true,decide_eq_true_eq]at h
 exact h.1.2
theorem U9{x:Int}(h:jx x=true):gpw 64 1 x.toNat 1073741789=1:=by
 unfold jx at h
 simp only [Bool.and_eq_true,decide_eq_true_eq]at h
 exact h.2
theorem YW(x a b:Nat):x ^ a % 2147483579=1->x ^ b % 2147483579=1->x ^ Nat.gcd a b % 2147483579=1:=by
 induction a,b using Nat.gcd.induction with
 |H0 n=>intro _ h;rw [Nat.gcd_zero_left];exact h
 |H1 m n hm ih=>
  intro h1 h2
  rw [Nat.gcd_rec]
  refine ih ?_ h1
  have e:x ^ n % 2147483579=x ^ (n % m) % 2147483579:=by
   conv=>lhs;rw [<-Nat.div_add_mod n m]
   rw [Nat.pow_add,Nat.mul_mod,Nat.pow_mul,Nat.pow_mod,h1,Nat.one_pow]
   simp
  rw [<-e];exact h2
theorem UF{g x k q:Nat}(hg:g=x ^ k % 2147483579)(h:x ^ q % 2147483579=1):g ^ q % 2147483579=1:=by
 rw [hg,<-Nat.pow_mod,<-Nat.pow_mul,Nat.mul_comm,Nat.pow_mul,Nat.pow_mod,h,Nat.one_pow]
theorem XV(x k:Nat)(hx:jx (x:Int)=true)(h1:1<=k)(h2:k<1073741789):jx ((gpw 64 1 x k:Nat):Int)=true:=by
 have hlt:gpw 64 1 x k<2147483579:=QE 64 1 x k (by decide)
 have hi:=kO hx
 have hxl:x<2147483579:=by omega
 have hp:=zJ x k (by omega)
 have ho:=U9 hx
 have h1x:=U7 hx
 have hg:=Kb k h1 h2
 unfold jx
 rw [Int.toNat_natCast]at ho |-
 obtain⟨q,hq0⟩:∃q:Nat,q=1073741789:=⟨_,rfl⟩
 rw [<-hq0]at ho hg |-
 have hql:q<2 ^ 64:=by omega
 have hqp:0<q:=by omega
 clear hq0
 rw [zJ x q hql]at ho
 have hq:(gpw 64 1 x k) ^ q % 2147483579=1:=UF hp ho
 have hne:gpw 64 1 x k≠1:=by
  intro e
  have h:=YW x k q (by rw [<-hp];exact e) ho
  rw [hg,Nat.pow_one,Nat.mod_eq_of_lt hxl]at h
  exact h1x (by omega)
 have h0:gpw 64 1 x k≠0:=by
  intro e
  rw [e,Nat.zero_pow hqp]at hq
  exact absurd hq (by decide)
 rw [zJ _ q hql]
 have a1:decide (0<((gpw 64 1 x k:Nat):Int)/\((gpw 64 1 x k:Nat):Int)<2147483579)=true:=decide_eq_true (by omega)
 have a2:decide (((gpw 64 1 x k:Nat):Int)≠1)=true:=decide_eq_true (by omega)
 have a3:decide ((gpw 64 1 x k) ^ q % 2147483579=1)=true:=decide_eq_true hq
 rw [a1,a2,a3]
 rfl
def okS(k:Int):Bool:=decide (1<=k/\k<1073741789)
theorem ZV{k:Int}(h:okS k=true):1<=k/\k<1073741789:=of_decide_eq_true h
theorem ZW(k:Int):okS k=(decide (0<k)&&decide (k<1073741789)):=by
 unfold okS
 rw [<-Bool.decide_and]
 exact decide_eq_decide.2 ⟨fun h=>⟨by omega,h.2⟩,fun h=>⟨by omega,h.2⟩⟩
theorem qR(k:Int)(w:World):Calls Tryz.prog 114 #[.int .i64 k] w fun e w'=>e=.returned (.bool (okS k))/\w'=w:=by
 rw [ZW]
 go_enter Tryz.func114,Tryz.ntmps114
 by_cases h:0<k<;>by_cases h2:k<1073741789<;>(go_wp2_with fail;go_ret;exact⟨by simp [h,h2],rfl⟩)
theorem qn(k:Int)(w:World):Calls Tryz.prog 119 #[.int .i64 k] w fun e w'=>e=.returned (.bool (okS k))/\w'=w:=by
 unfold okS
 go_enter Tryz.func119,Tryz.ntmps119
 by_cases h:1<=k<;>by_cases h2:k<1073741789<;>(go_wp2_with fail;go_ret;exact⟨by simp [h,h2],rfl⟩)
theorem KQ(k x:Nat)(h1:1<=k)(h2:k<1073741789)(hx:jx (x:Int)=true)(w:World):Calls Tryz.prog 56 #[.int .i64 k,.int .i64 x] w fun e w'=>e=.returned (.tuple #[.int .i64 (gpw 64 1 x k),.int .i64 0])/\w'=w:=by
 have HS:=iH (qR (k:Int))
 rw [show okS (k:Int)=true from decide_eq_true (by omega)]at HS
 have HE:=iH (jT (x:Int))
 have hi:=kO hx
 have HP:=iH (zH x k w (by omega) (by omega))
 rw [hx]at HE
 clear h1 h2 hx hi
 go_enter Tryz.func56,Tryz.ntmps56
 go_wp2_with(first
  |(go_at_call 114;refine(HS.out _).mono ?_;rintro e w' ⟨rfl,hw'⟩;rw [hw'];clear hw' w')
  |(go_at_call 115;refine(HE.out _).mono ?_;rintro e w' ⟨rfl,hw'⟩;rw [hw'];clear hw' w')
  |(go_at_call 116;refine HP.out.mono ?_;rintro e w' ⟨rfl,hw'⟩;rw [hw'];clear hw' w'))
 go_ret2
 exact⟨rfl,rfl⟩
theorem Kp(k x:Nat)(h1:1<=k)(h2:k<1073741789)(hx:jx (x:Int)=true)(w:World):Calls Tryz.prog 60 #[.int .i64 k,.int .i64 x] w fun e w'=>e=.returned (.tuple #[.int .i64 (gpw 64 1 x k),.int .i64 0])/\w'=w:=by
 have HS:=iH (qn (k:Int))
 rw [show okS (k:Int)=true from decide_eq_true (by omega)]at HS
 have HE:=iH (zM (x:Int))
 have hi:=kO hx
 have HP:=iH (zk x k w (by omega) (by omega))
 rw [hx]at HE
 clear h1 h2 hx hi
 go_enter Tryz.func60,Tryz.ntmps60
 go_wp2_with(first
  |(go_at_call 119;refine(HS.out _).mono ?_;rintro e w' ⟨rfl,hw'⟩;rw [hw'];clear hw' w')
  |(go_at_call 29;refine(HE.out _).mono ?_;rintro e w' ⟨rfl,hw'⟩;rw [hw'];clear hw' w')
  |(go_at_call 61;refine HP.out.mono ?_;rintro e w' ⟨rfl,hw'⟩;rw [hw'];clear hw' w'))
 go_ret2
 exact⟨rfl,rfl⟩
end Go.Proofs.YtalmmiojbmpmiaaGreatDoor
