/- Layer 14: an element that is made of any number is one; Octets: four bytes as a row of the call's own; Package group: secrets, elements as bytes, public keys... -/
import Derived.Test.YtalmmiojbmpmiaaGreatDoorPr
import Derived.Test.YtalmmiojbmpmiaaGreatDoorPs
set_option linter.all false
set_option maxRecDepth 100000
set_option maxHeartbeats 1000000
namespace Go.Proofs.YtalmmiojbmpmiaaGreatDoor
open Go.RowKit Go.Deep
theorem j4y(n:Nat):∀o x k,k<2 ^ n->o<2147483579->gpw n o x k=o*x ^ k % 2147483579:=by
 induction n with
 |zero=>
  intro o x k hk ho
  have:k=0:=by simpa using hk
  subst this
  simp [gpw,Nat.mod_eq_of_lt ho]
 |succ n ih=>
  intro o x k hk ho
  have hk2:k / 2<2 ^ n:=by rw [Nat.pow_succ]at hk;omega
  have hx:(x*x % 2147483579) ^ (k / 2) % 2147483579=x ^ (2*(k / 2)) % 2147483579:=by
   rw [<-Nat.pow_mod,Nat.pow_mul]
   congr 2
   exact(Nat.pow_two x).symm
  have mm:∀a b:Nat,a*b % 2147483579=a*(b % 2147483579) % 2147483579:=fun a b=>by rw [Nat.mul_mod a b,Nat.mul_mod a (b % _),Nat.mod_mod]
  by_cases h:k % 2=1
  ·rw [ZI _ _ _ _ h,ih _ _ _ hk2 (Nat.mod_lt _ (by decide)),mm,hx,<-mm]
   rw [Nat.mul_mod,Nat.mod_mod,<-Nat.mul_mod,Nat.mul_assoc,<-Nat.pow_succ']
   congr 3
   omega
  ·rw [Qp _ _ _ _ h,ih _ _ _ hk2 ho,mm,hx,<-mm]
   congr 3
   omega
theorem yQ(x k:Nat)(h:k<2 ^ 64):gpw 64 1 x k=x ^ k % 2147483579:=by rw [j4y 64 1 x k h (by decide),Nat.one_mul]
def j73:Nat->Bool
 |0=>true
 |n+1=>decide (n+2=1)||(decide (¬1073741789 % (n+2)=0)&&j73 n)
theorem j1v:∀n,j73 n=true->∀d,2<=d->d<=n+1->¬1073741789 % d=0:=by
 intro n
 induction n with
 |zero=>intro _ d h1 h2;omega
 |succ n ih=>
  intro h d h1 h2
  simp only [j73,Bool.or_eq_true,Bool.and_eq_true,decide_eq_true_eq]at h
  rcases h with h|h
  ·omega
  ·by_cases e:d=n+2
   ·subst e;exact h.1
   ·exact ih h.2 d h1 (by omega)
theorem UH:j73 32768=true:=by decide+kernel
theorem XQ(k:Nat)(h1:1<=k)(h2:k<1073741789):Nat.gcd k 1073741789=1:=by
 obtain⟨g,hg⟩:∃g,Nat.gcd k 1073741789=g:=⟨_,rfl⟩
 rw [hg]
 have hk:g ∣ k:=hg▸Nat.gcd_dvd_left _ _
 obtain⟨m,hm⟩:g ∣ 1073741789:=hg▸Nat.gcd_dvd_right _ _
 have hgk:=Nat.le_of_dvd (by omega) hk
 rcases Nat.lt_or_ge g 2 with hlt|hge
 ·have:g≠0:=by rintro rfl;simp at hm
  omega
 ·exfalso
  have hm2:2<=m:=by
   rcases Nat.lt_or_ge m 2 with h|h
   ·obtain rfl|rfl:m=0\/m=1:=by omega
    ·simp at hm
    ·omega
   ·exact h
  have A:=j1v 32768 UH
  rcases Nat.lt_or_ge 32769 g with hb|hb
  ·rcases Nat.lt_or_ge 32769 m with hc|hc
   ·have:=Nat.mul_le_mul (show 32770<=g by omega) (show 32770<=m by omega)
    omega
   ·exact A m hm2 (by omega) (by rw [hm,Nat.mul_mod_left])
  ·exact A g hge (by omega) (by rw [hm,Nat.mul_mod_right])
theorem j26(a b:Nat):4 ^ a % 2147483579=1->4 ^ b % 2147483579=1->4 ^ Nat.gcd a b % 2147483579=1:=by
 induction a,b using Nat.gcd.induction with
 |H0 n=>intro _ h;rw [Nat.gcd_zero_left];exact h
 |H1 m n hm ih=>
  intro h1 h2
  rw [Nat.gcd_rec]
  refine ih ?_ h1
  have e:4 ^ n % 2147483579=4 ^ (n % m) % 2147483579:=by
   conv=>lhs;rw [<-Nat.div_add_mod n m]
   rw [Nat.pow_add,Nat.mul_mod,Nat.pow_mul,Nat.pow_mod,h1,Nat.one_pow]
   simp
  rw [<-e];exact h2
theorem UI(q k:Nat)(hq:q<2 ^ 64)(h0q:q≠0)(hk:k<2 ^ 64)(h:gpw 64 1 4 q=1)(hg:Nat.gcd k q=1):gpw 64 1 (gpw 64 1 4 k) q=1/\gpw 64 1 4 k≠1/\gpw 64 1 4 k≠0:=by
 have hp:=yQ 4 k hk
 have h:4 ^ q % 2147483579=1:=by rw [<-yQ 4 q hq];exact h
 have ho:((gpw 64 1 4 k) ^ q) % 2147483579=1:=by
  rw [hp,<-Nat.pow_mod,<-Nat.pow_mul,Nat.mul_comm,Nat.pow_mul,Nat.pow_mod,h,Nat.one_pow]
 refine⟨by rw [yQ _ q hq];exact ho,?_,?_⟩
 ·intro e
  have:=j26 k q (by rw [<-hp];exact e) h
  rw [hg]at this
  exact absurd this (by decide)
 ·intro e
  rw [e,Nat.zero_pow (Nat.pos_of_ne_zero h0q)]at ho
  exact absurd ho (by decide)
theorem UK(k:Nat)(h1:1<=k)(h2:k<1073741789):jk ((gpw 64 1 4 k:Nat):Int)=true:=by
 have hlt:gpw 64 1 4 k<2147483579:=XE 64 1 4 k (by decide)
 obtain⟨ho,hne,h0⟩:=UI 1073741789 k (by decide) (by decide) (by omega) (by decide+kernel) (XQ k h1 h2)
 unfold jk
 rw [Int.toNat_natCast,ho]
 have a1:decide (0<((gpw 64 1 4 k:Nat):Int)/\((gpw 64 1 4 k:Nat):Int)<2147483579)=true:=decide_eq_true (by omega)
 have a2:decide (((gpw 64 1 4 k:Nat):Int)≠1)=true:=decide_eq_true (by omega)
 rw [a1,a2]
 rfl
theorem j2y(k:Int)(w:World)(h0:0<=k)(h1:k<4294967296):Calls Tryz.prog 101 #[.int .i64 k,.int .i64 4] w fun e w'=>∃v',e=.returned (.tuple #[v',.int .i64 0])/\OwnB w' w.heap.size v' (jd k)/\Below w.heap.size w w':=by
 have g1:decide (k<0)=false:=decide_eq_false (by omega)
 have g2:(k / 4294967296 != 0)=false:=by simp;omega
 have hm:=j48 w
 have hB0:Below w.heap.size w (w.alloc (.cells #[.int .u8 0,.int .u8 0,.int .u8 0,.int .u8 0] 5)):=iA
 have HB0:=iH hB0
 clear hB0
 go_enter Tryz.func101,Tryz.ntmps101
 go_wp2_with fail
 go_loopg [26] 4 (fun m i wr=>∃j n:Nat,n=m/\j+n=4/\i=.int .i64 j/\wr.heap[w.heap.size]?=some (.cells (Qy k j) 5 (0,0))/\Below w.heap.size w wr)
 case atStart=>exact⟨0,4,rfl,rfl,rfl,iN,HB0.out⟩
 case round=>
  obtain⟨j,n,rfl,hj,rfl,hr,hb⟩:=hrel
  have HB:=iH hb;have HR:=iH hr
  have hf:∀o,wr.frozen? ⟨w.heap.size,o,none⟩=false:=fun o=>by simp [World.frozen?,hr]
  have hc:∀o,o<4->wr.cell? ⟨w.heap.size,o,none⟩=(Qy k j)[o]? :=fun o ho=>by rw [cell_of_row _ _ _ _ _ _ hr]
  clear hr hb
  obtain rfl|rfl|rfl|rfl|rfl:j=0\/j=1\/j=2\/j=3\/j=4:=by omega
  ·obtain rfl:n=4:=by omega
   go_wp2_with fail
   go_roundg 3
   case measure=>omega
   case rel=>
    have hs:=kD (o:=3) (v:=.int .u8 (k % 256)) HR.out
    rw [show Value.int .u8 (k % 256)=U8 (ofI k) from jh k]at hs
    exact⟨1,3,rfl,rfl,rfl,hs,HB.out.setCell iL _⟩
  ·obtain rfl:n=3:=by omega
   go_wp2_with fail
   go_roundg 2
   case measure=>omega
   case rel=>
    have hs:=kD (o:=2) (v:=.int .u8 (k / 256 % 256)) HR.out
    rw [show Value.int .u8 (k / 256 % 256)=U8 (ofI (k / 256)) from jh (k / 256)]at hs
    exact⟨2,2,rfl,rfl,rfl,hs,HB.out.setCell iL _⟩
  ·obtain rfl:n=2:=by omega
   go_wp2_with fail
   go_roundg 1
   case measure=>omega
   case rel=>
    have hs:=kD (o:=1) (v:=.int .u8 (k / 65536 % 256)) HR.out
    rw [show Value.int .u8 (k / 65536 % 256)=U8 (ofI (k / 65536)) from jh (k / 65536)]at hs
    exact⟨3,1,rfl,rfl,rfl,hs,HB.out.setCell iL _⟩
  ·obtain rfl:n=1:=by omega
   go_wp2_with fail
   go_roundg 0
   case measure=>omega
   case rel=>
    have hs:=kD (o:=0) (v:=.int .u8 (k / 16777216)) HR.out
    rw [show(Qy k 3).set! 0 (.int .u8 (k / 16777216))=Qy k 4 by rw [show Value.int .u8 (k / 16777216)=U8 (ofI (k / 16777216))by rw [<-jh,Int.emod_eq_of_lt (by omega) (by omega)]]<;>rfl]at hs
    exact⟨4,0,rfl,rfl,rfl,hs,HB.out.setCell iL _⟩
  ·obtain rfl:n=0:=by omega
   go_wp2_with fail
   go_ret2
   exact⟨_,rfl,⟨by simp [jd],.inr ⟨w.heap.size,4,_,rfl,Nat.le_refl _,HR.out,Nat.le_refl _,by decide,rfl,rfl⟩⟩,HB.out⟩
section
variable{x:Int}(h:jk x=true)
include x h
theorem jF:0<x/\x<2147483579:=by
 unfold jk at h
 simp only [Bool.and_eq_true,decide_eq_true_eq]at h
 exact h.1.1
theorem j23:x≠1:=by
 unfold jk at h
 simp only [Bool.and_eq_true,decide_eq_true_eq]at h
 exact h.1.2
theorem Qn:gpw 64 1 x.toNat 1073741789=1:=by
 unfold jk at h
 simp only [Bool.and_eq_true,decide_eq_true_eq]at h
 exact h.2
end
theorem j1w(x a b:Nat):x ^ a % 2147483579=1->x ^ b % 2147483579=1->x ^ Nat.gcd a b % 2147483579=1:=by
 induction a,b using Nat.gcd.induction with
 |H0 n=>intro _ h;rw [Nat.gcd_zero_left];exact h
 |H1 m n hm ih=>
  intro h1 h2
  rw [Nat.gcd_rec]
  refine ih ?_ h1
  have e:x ^ n % 2147483579=x ^ (n % m) % 2147483579:=by
   conv=>lhs;rw [<-Nat.div_add_mod n m]
   rw [Nat.pow_add,Nat.mul_mod,Nat.pow_mul,Nat.pow_mod,h1,Nat.one_pow]
   simp
  rw [<-e];exact h2
theorem j38{g x k q:Nat}(hg:g=x ^ k % 2147483579)(h:x ^ q % 2147483579=1):g ^ q % 2147483579=1:=by
 rw [hg,<-Nat.pow_mod,<-Nat.pow_mul,Nat.mul_comm,Nat.pow_mul,Nat.pow_mod,h,Nat.one_pow]
theorem V1(x k:Nat)(hx:jk (x:Int)=true)(h1:1<=k)(h2:k<1073741789):jk ((gpw 64 1 x k:Nat):Int)=true:=by
 have hlt:gpw 64 1 x k<2147483579:=XE 64 1 x k (by decide)
 have hi:=jF hx
 have hxl:x<2147483579:=by omega
 have hp:=yQ x k (by omega)
 have ho:=Qn hx
 have h1x:=j23 hx
 have hg:=XQ k h1 h2
 unfold jk
 rw [Int.toNat_natCast]at ho |-
 obtain⟨q,hq0⟩:∃q:Nat,q=1073741789:=⟨_,rfl⟩
 rw [<-hq0]at ho hg |-
 have hql:q<2 ^ 64:=by omega
 have hqp:0<q:=by omega
 clear hq0
 rw [yQ x q hql]at ho
 have hq:(gpw 64 1 x k) ^ q % 2147483579=1:=j38 hp ho
 have hne:gpw 64 1 x k≠1:=by
  intro e
  have h:=j1w x k q (by rw [<-hp];exact e) ho
  rw [hg,Nat.pow_one,Nat.mod_eq_of_lt hxl]at h
  exact h1x (by omega)
 have h0:gpw 64 1 x k≠0:=by
  intro e
  rw [e,Nat.zero_pow hqp]at hq
  exact absurd hq (by decide)
 rw [yQ _ q hql]
 have a1:decide (0<((gpw 64 1 x k:Nat):Int)/\((gpw 64 1 x k:Nat):Int)<2147483579)=true:=decide_eq_true (by omega)
 have a2:decide (((gpw 64 1 x k:Nat):Int)≠1)=true:=decide_eq_true (by omega)
 have a3:decide ((gpw 64 1 x k) ^ q % 2147483579=1)=true:=decide_eq_true hq
 rw [a1,a2,a3]
 rfl
def okS(k:Int):Bool:=decide (1<=k/\k<1073741789)
theorem yP{k:Int}(h:okS k=true):1<=k/\k<1073741789:=of_decide_eq_true h
theorem j07(k:Int):okS k=(decide (0<k)&&decide (k<1073741789)):=by
 unfold okS
 rw [<-Bool.decide_and]
 exact decide_eq_decide.2 ⟨fun h=>⟨by omega,h.2⟩,fun h=>⟨by omega,h.2⟩⟩
theorem xg(k:Int)(w:World):Calls Tryz.prog 114 #[.int .i64 k] w fun e w'=>e=.returned (.bool (okS k))/\w'=w:=by
 rw [j07]
 go_enter Tryz.func114,Tryz.ntmps114
 by_cases h:0<k<;>by_cases h2:k<1073741789<;>(go_wp2_with fail;go_ret;exact⟨by simp [h,h2],rfl⟩)
theorem qa(k:Int)(w:World):Calls Tryz.prog 119 #[.int .i64 k] w fun e w'=>e=.returned (.bool (okS k))/\w'=w:=by
 unfold okS
 go_enter Tryz.func119,Tryz.ntmps119
 by_cases h:1<=k<;>by_cases h2:k<1073741789<;>(go_wp2_with fail;go_ret;exact⟨by simp [h,h2],rfl⟩)
theorem Xy(x:Int)(h:jk x=true)(w:World):Calls Tryz.prog 162 #[.int .i64 x] w fun e w'=>∃v',e=.returned (.tuple #[v',.int .i64 0])/\OwnB w' w.heap.size v' (jd x)/\Below w.heap.size w w':=by
 have HE:=iH (km x)
 obtain⟨h1,h2⟩:=jF h
 have HO:=iH (j2y x w (by omega) (by omega))
 rw [h]at HE
 clear h h1 h2
 go_enter Tryz.func162,Tryz.ntmps162
 go_wp2_with(first
  |(go_at_call 115;refine iR (HE.out _) ?_)
  |(go_at_call 101;refine HO.out.mono ?_;rintro e w1 ⟨v1,rfl,hs,hb⟩;have HS:=iH hs;have HB:=iH hb;clear hs hb))
 go_ret2
 exact⟨_,rfl,HS.out,HB.out⟩
theorem XC(k:Nat)(h1:1<=k)(h2:k<1073741789)(w:World):Calls Tryz.prog 128 #[.int .i64 k] w fun e w'=>e=.returned (.tuple #[.int .i64 (gpw 64 1 4 k),.int .i64 0])/\w'=w:=by
 have HS:=iH (xg (k:Int))
 rw [show okS (k:Int)=true from decide_eq_true (by omega)]at HS
 have HP:=iH (zZ 4 k w (by decide) (by omega))
 clear h1 h2
 go_enter Tryz.func128,Tryz.ntmps128
 go_wp2_with(first
  |(go_at_call 114;refine iR (HS.out _) ?_)
  |(go_at_call 116;refine iR HP.out ?_))
 go_ret2
 exact⟨rfl,rfl⟩
section
variable(k x:Nat)(h1:1<=k)(h2:k<1073741789)(hx:jk (x:Int)=true)(w:World)
include k x h1 h2 hx w
theorem JD:Calls Tryz.prog 56 #[.int .i64 k,.int .i64 x] w fun e w'=>e=.returned (.tuple #[.int .i64 (gpw 64 1 x k),.int .i64 0])/\w'=w:=by
 have HS:=iH (xg (k:Int))
 rw [show okS (k:Int)=true from decide_eq_true (by omega)]at HS
 have HE:=iH (km (x:Int))
 have hi:=jF hx
 have HP:=iH (zZ x k w (by omega) (by omega))
 rw [hx]at HE
 clear h1 h2 hx hi
 go_enter Tryz.func56,Tryz.ntmps56
 go_wp2_with(first
  |(go_at_call 114;refine iR (HS.out _) ?_)
  |(go_at_call 115;refine iR (HE.out _) ?_)
  |(go_at_call 116;refine iR HP.out ?_))
 go_ret2
 exact⟨rfl,rfl⟩
theorem Z0:Calls Tryz.prog 60 #[.int .i64 k,.int .i64 x] w fun e w'=>e=.returned (.tuple #[.int .i64 (gpw 64 1 x k),.int .i64 0])/\w'=w:=by
 have HS:=iH (qa (k:Int))
 rw [show okS (k:Int)=true from decide_eq_true (by omega)]at HS
 have HE:=iH (jL (x:Int))
 have hi:=jF hx
 have HP:=iH (Jj x k w (by omega) (by omega))
 rw [hx]at HE
 clear h1 h2 hx hi
 go_enter Tryz.func60,Tryz.ntmps60
 go_wp2_with(first
  |(go_at_call 119;refine iR (HS.out _) ?_)
  |(go_at_call 29;refine iR (HE.out _) ?_)
  |(go_at_call 61;refine iR HP.out ?_))
 go_ret2
 exact⟨rfl,rfl⟩
end
def j1u:Nat->Bool
 |0=>true
 |n+1=>decide (¬2147483579 % (n+2)=0)&&j1u n
theorem Vp:∀n,j1u n=true->∀d,2<=d->d<=n+1->¬2147483579 % d=0:=by
 intro n
 induction n with
 |zero=>intro _ d h1 h2;omega
 |succ n ih=>
  intro h d h1 h2
  simp only [j1u,Bool.and_eq_true,decide_eq_true_eq]at h
  by_cases e:d=n+2
  ·subst e;exact h.1
  ·exact ih h.2 d h1 (by omega)
theorem UL:j1u 46341=true:=by decide+kernel
theorem j0e(k:Nat)(h1:0<k)(h2:k<2147483579):Nat.gcd k 2147483579=1:=by
 obtain⟨g,hg⟩:∃g,Nat.gcd k 2147483579=g:=⟨_,rfl⟩
 rw [hg]
 have hk:g ∣ k:=hg▸Nat.gcd_dvd_left _ _
 obtain⟨m,hm⟩:g ∣ 2147483579:=hg▸Nat.gcd_dvd_right _ _
 have hgk:=Nat.le_of_dvd (by omega) hk
 rcases Nat.lt_or_ge g 2 with hlt|hge
 ·have:g≠0:=by rintro rfl;simp at hm
  omega
 ·exfalso
  have hm2:2<=m:=by
   rcases Nat.lt_or_ge m 2 with h|h
   ·obtain rfl|rfl:m=0\/m=1:=by omega
    ·simp at hm
    ·omega
   ·exact h
  have A:=Vp 46341 UL
  rcases Nat.lt_or_ge 46342 g with hb|hb
  ·rcases Nat.lt_or_ge 46342 m with hc|hc
   ·have:=Nat.mul_le_mul (show 46343<=g by omega) (show 46343<=m by omega)
    omega
   ·exact A m hm2 (by omega) (by rw [hm,Nat.mul_mod_left])
  ·exact A g hge (by omega) (by rw [hm,Nat.mul_mod_right])
theorem j0f(a b:Nat)(ha:0<a)(ha2:a<2147483579)(hb:0<b)(hb2:b<2147483579):0<a*b % 2147483579:=by
 rcases Nat.eq_zero_or_pos (a*b % 2147483579)with h|h
 ·exfalso
  have hd:=Nat.dvd_of_mod_eq_zero h
  have:=Nat.Coprime.dvd_of_dvd_mul_left (show Nat.Coprime 2147483579 a from(Nat.gcd_comm _ _).trans (j0e a ha ha2)) hd
  have:=Nat.le_of_dvd hb this
  omega
 ·exact h
theorem j2s(a b:Nat)(ha:jk (a:Int)=true)(hb:jk (b:Int)=true)(hne:a*b % 2147483579≠1):jk ((a*b % 2147483579:Nat):Int)=true:=by
 have ia:=jF ha
 have ib:=jF hb
 have oa:=Qn ha
 have ob:=Qn hb
 have h0:=j0f a b (by omega) (by omega) (by omega) (by omega)
 have hlt:a*b % 2147483579<2147483579:=Nat.mod_lt _ (by decide)
 rw [Int.toNat_natCast]at oa ob
 obtain⟨q,hq⟩:∃q:Nat,q=1073741789:=⟨_,rfl⟩
 rw [<-hq]at oa ob
 rw [yQ _ q (by omega)]at oa ob
 have hf:(a*b % 2147483579) ^ q % 2147483579=1:=by
  rw [<-Nat.pow_mod,Nat.mul_pow,Nat.mul_mod,oa,ob]
 obtain⟨y,hy⟩:∃y,a*b % 2147483579=y:=⟨_,rfl⟩
 rw [hy]at h0 hne hlt hf |-
 unfold jk
 rw [Int.toNat_natCast,<-hq,yQ _ q (by omega)]
 have a1:decide (0<(y:Int)/\(y:Int)<2147483579)=true:=decide_eq_true (by omega)
 have a2:decide ((y:Int)≠1)=true:=decide_eq_true (by omega)
 have a3:decide (y ^ q % 2147483579=1)=true:=decide_eq_true hf
 rw [a1,a2,a3]
 rfl
end Go.Proofs.YtalmmiojbmpmiaaGreatDoor
