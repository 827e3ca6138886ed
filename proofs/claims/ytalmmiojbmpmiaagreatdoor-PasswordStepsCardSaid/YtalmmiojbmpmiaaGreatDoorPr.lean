/- Package group: power, Element; the reference's -/
import Derived.Deep.LoopGhost
import Derived.Test.YtalmmiojbmpmiaaGreatDoorPe
import Derived.Test.YtalmmiojbmpmiaaGreatDoorPq
set_option linter.all false
set_option maxRecDepth 100000
set_option maxHeartbeats 4000000
namespace Go.Proofs.YtalmmiojbmpmiaaGreatDoor
open Go.RowKit Go.Deep
def gpw:Nat->Nat->Nat->Nat->Nat
 |0,o,_,_=>o
 |n+1,o,x,k=>gpw n (if k % 2=1 then o*x % 2147483579 else o) (x*x % 2147483579) (k / 2)
theorem ZI(n o x k:Nat)(h:k % 2=1):gpw (n+1) o x k=gpw n (o*x % 2147483579) (x*x % 2147483579) (k / 2):=by simp [gpw,h]
theorem Qp(n o x k:Nat)(h:¬k % 2=1):gpw (n+1) o x k=gpw n o (x*x % 2147483579) (k / 2):=by simp [gpw,h]
theorem xW(n:Nat):∀o x,gpw n o x 0=o:=by
 induction n with
 |zero=>intros;rfl
 |succ n ih=>intro o x;simp [gpw,ih]
theorem j2f(n:Nat):∀m o x k,k<2 ^ n->n<=m->gpw m o x k=gpw n o x k:=by
 induction n with
 |zero=>intro m o x k hk _;have:k=0:=by simpa using hk
        subst this;rw [xW,xW]
 |succ n ih=>
  intro m o x k hk hm
  obtain⟨m,rfl⟩:∃j,m=j+1:=⟨m - 1,by omega⟩
  exact ih m _ _ _ (by rw [Nat.pow_succ]at hk;omega) (by omega)
theorem XE(n:Nat):∀o x k,o<2147483579->gpw n o x k<2147483579:=by
 induction n with
 |zero=>intro o x k h;exact h
 |succ n ih=>
  intro o x k h
  refine ih _ _ _ ?_
  split
  ·exact Nat.mod_lt _ (by decide)
  ·exact h
theorem j03{a b:Nat}(ha:a<2147483579)(hb:b<2147483579):a*b<=4611685722074649241:=by
 have:=Nat.mul_le_mul (Nat.le_of_lt ha) (Nat.le_of_lt hb)
 omega
theorem XI(f:Nat):∀x,x<2 ^ f->x<2 ^ Lib.bitLenAux f x:=by
 induction f with
 |zero=>intro x h;exact h
 |succ f ih=>
  intro x h
  unfold Lib.bitLenAux
  split
  ·subst_vars;decide
  ·have:=ih (x / 2) (by rw [Nat.pow_succ]at h;omega)
   rw [Nat.add_comm,Nat.pow_succ]
   omega
theorem j01(x:Nat)(h:x<9223372036854775808):x<2 ^ Lib.bitLen x:=XI 64 x (by omega)
theorem Xi(f:Nat):∀x,Lib.bitLenAux f x<=f:=by
 induction f with
 |zero=>intro x;exact Nat.le_refl _
 |succ f ih=>intro x;unfold Lib.bitLenAux;split;omega;have:=ih (x / 2);omega
theorem Xj(x:Nat):Lib.bitLen x<=64:=Xi 64 x
theorem j6e(k i:Nat)(hk:k<9223372036854775808):bits BinOp.and IntKind.i64 ((k:Int) / 2 ^ i) 1=((k / 2 ^ i % 2:Nat):Int):=by
 have hd:(k:Int) / 2 ^ i=((k / 2 ^ i:Nat):Int):=by rw [Int.natCast_ediv];simp
 have hle:k / 2 ^ i<=k:=Nat.div_le_self _ _
 rw [hd]
 obtain⟨q,hq⟩:∃q,q=k / 2 ^ i:=⟨_,rfl⟩
 rw [<-hq]at hle |-
 have h:=bits_mask .i64 63 (by decide) (fun n h0 h1=>by simp [IntKind.wrap,IntKind.bits,IntKind.signed];omega) 1 (by decide) (q:Int) (by omega) (by omega)
 have e:((2:Int) ^ 1 - 1)=1:=by decide
 have e2:((2:Int) ^ 1)=2:=by decide
 rw [e,e2]at h
 rw [h]
 omega
theorem JG{a b:Nat}(ha:a<2147483579)(hb:b<2147483579):(wrap64 ((a:Int)*b)).tmod 2147483579=((a*b % 2147483579:Nat):Int):=by
 have h:=j03 ha hb
 have e:wrap64 ((a:Int)*b)=((a*b:Nat):Int):=by
  rw [Int.natCast_mul]
  have h':(a:Int)*b<=4611685722074649241:=by rw [<-Int.natCast_mul];omega
  have h0:(0:Int)<=(a:Int)*b:=by rw [<-Int.natCast_mul];omega
  unfold wrap64
  omega
 rw [e,Int.tmod_eq_emod_of_nonneg (by omega)]
 omega
theorem zZ(x k:Nat)(w:World)(hx:x<2147483579)(hk:k<9223372036854775808):Calls Tryz.prog 116 #[.int .i64 x,.int .i64 k] w fun e w'=>e=.returned (.int .i64 (gpw 64 1 x k))/\w'=w:=by
 have HE:=iH (j2f (Lib.bitLen k) 64 1 x k (j01 k hk) (Xj k))
 have hn:=Xj k
 have HL:=iH (j54 (k:Int) w (by omega) (by omega))
 obtain⟨n,hN⟩:∃n,Hid (Lib.bitLen k=n):=⟨_,rfl⟩
 have hN':=hN.out
 rw [Int.toNat_natCast,hN']at HL
 rw [hN']at HE hn
 clear hN' hN
 have HX:=iH hx
 clear hx
 go_enter Tryz.func116,Tryz.ntmps116
 go_wp2_with(go_at_call 159;refine iR HL.out ?_)
 go_loopg [0,5,10] n (fun m xv ov iv wr=>∃(X O i j:Nat),j=m/\xv=.int .i64 X/\ov=.int .i64 O/\iv=.int .i64 i/\i+j=n/\Hid (X<2147483579)/\Hid (O<2147483579)/\Hid (gpw j O X (k / 2 ^ i)=gpw n 1 x k)/\wr=w)
 case atStart=>exact⟨x,1,0,n,rfl,rfl,rfl,rfl,by omega,HX,iH (by decide),iH (by rw [Nat.pow_zero,Nat.div_one]),rfl⟩
 case round=>
  obtain⟨X,O,i,m,rfl,rfl,rfl,rfl,him,hX,hO,hp,rfl⟩:=hrel
  have HB:=iH (j6e k i hk)
  have EX:=iH (JG hX.out hX.out)
  have EO:=iH (JG hO.out hX.out)
  have hPX:X*X % 2147483579<2147483579:=Nat.mod_lt _ (by decide)
  have hPO:O*X % 2147483579<2147483579:=Nat.mod_lt _ (by decide)
  have HPX:=iH hPX;have HPO:=iH hPO
  clear hPX hPO
  rcases Nat.eq_zero_or_pos m with h0|h0
  ·subst h0
   have hp':O=gpw n 1 x k:=hp.out
   clear hp
   go_wp2_with fail
   go_ret
   refine⟨?_,rfl⟩
   rw [HE.out,<-hp']
   rfl
  ·obtain⟨m,rfl⟩:∃j,m=j+1:=⟨m - 1,by omega⟩
   have hst:k / 2 ^ (i+1)=k / 2 ^ i / 2:=by rw [Nat.pow_succ,Nat.div_div_eq_div_mul]
   have HST:=iH hst
   clear hst
   by_cases hbit:k / 2 ^ i % 2=1
   ·have e1:=HB.out
    rw [hbit]at e1
    have HBI:=iH hbit
    clear HB hbit
    go_wp2_with fail
    go_roundg m
    case measure=>omega
    case rel=>exact⟨X*X % 2147483579,O*X % 2147483579,i+1,m,rfl,by rw [EX.out],by rw [EO.out],by go_num,by omega,HPX,HPO,iH (by rw [HST.out,<-hp.out];exact(ZI _ _ _ _ HBI.out).symm),rfl⟩
   ·have e1:=HB.out
    rw [show k / 2 ^ i % 2=0 by omega]at e1
    have HBI:=iH hbit
    clear HB hbit
    go_wp2_with fail
    go_roundg m
    case measure=>omega
    case rel=>exact⟨X*X % 2147483579,O,i+1,m,rfl,by rw [EX.out],rfl,by go_num,by omega,HPX,hO,iH (by rw [HST.out,<-hp.out];exact(Qp _ _ _ _ HBI.out).symm),rfl⟩
theorem j2z(K:Nat):((K:Int).tmod 2=1)=(K % 2=1):=by
 rw [Int.tmod_eq_emod_of_nonneg (by omega)];exact propext ⟨fun h=>by omega,fun h=>by omega⟩
theorem Jj(x k:Nat)(w:World)(hx:x<2147483579)(hk:k<9223372036854775808):Calls Tryz.prog 61 #[.int .i64 x,.int .i64 k] w fun e w'=>e=.returned (.int .i64 (gpw 64 1 x k))/\w'=w:=by
 have HX:=iH hx
 have HK:Hid (k<2 ^ 64):=by have:(9223372036854775808:Nat)<2 ^ 64:=by decide
                            exact Nat.lt_trans hk this
 clear hx
 go_enter Tryz.func61,Tryz.ntmps61
 go_wp2_with fail
 go_loopg [0,1,5] 64 (fun m xv kv ov wr=>∃(X K O j:Nat),j=m/\xv=.int .i64 X/\kv=.int .i64 K/\ov=.int .i64 O/\K<=k/\Hid (K<2 ^ j)/\Hid (X<2147483579)/\Hid (O<2147483579)/\Hid (gpw j O X K=gpw 64 1 x k)/\wr=w)
 case atStart=>exact⟨x,k,1,64,rfl,rfl,rfl,rfl,Nat.le_refl _,HK,HX,iH (by decide),iH rfl,rfl⟩
 case round=>
  obtain⟨X,K,O,m,rfl,rfl,rfl,rfl,hKk,hKm,hX,hO,hp,rfl⟩:=hrel
  have EX:=iH (JG hX.out hX.out)
  have EO:=iH (JG hO.out hX.out)
  have HPX:Hid (X*X % 2147483579<2147483579):=Nat.mod_lt _ (by decide)
  have HPO:Hid (O*X % 2147483579<2147483579):=Nat.mod_lt _ (by decide)
  rcases Nat.eq_zero_or_pos K with h0|h0
  ·subst h0
   have hp':O=gpw 64 1 x k:=by have:=hp.out;rw [xW]at this;exact this
   clear hp
   go_wp2_with fail
   go_ret
   refine⟨?_,rfl⟩
   rw [<-hp']
   rfl
  ·obtain⟨m,rfl⟩:∃j,m=j+1:=by
    rcases m with _|m
    ·have:=hKm.out;simp at this;omega
    ·exact⟨m,rfl⟩
   have HKM:Hid (K / 2<2 ^ m):=by have:=hKm.out;rw [Nat.pow_succ]at this;exact(by omega:K / 2<2 ^ m)
   by_cases hbit:K % 2=1
   ·have e1:(K:Int).tmod 2=1:=by rw [j2z];exact hbit
    have HBI:=iH hbit
    clear hKm hbit
    go_wp2_with fail
    go_roundg m
    case measure=>omega
    case rel=>exact⟨X*X % 2147483579,K / 2,O*X % 2147483579,m,rfl,by rw [EX.out],by rw [show((K:Int) / 2)=((K / 2:Nat):Int)by omega],by rw [EO.out],by omega,HKM,HPX,HPO,iH (by rw [<-hp.out];exact(ZI _ _ _ _ HBI.out).symm),rfl⟩
   ·have e1:(K:Int).tmod 2=0:=by rw [Int.tmod_eq_emod_of_nonneg (by omega)];omega
    have HBI:=iH hbit
    clear hKm hbit
    go_wp2_with fail
    go_roundg m
    case measure=>omega
    case rel=>exact⟨X*X % 2147483579,K / 2,O,m,rfl,by rw [EX.out],by rw [show((K:Int) / 2)=((K / 2:Nat):Int)by omega],rfl,by omega,HKM,HPX,hO,iH (by rw [<-hp.out];exact(Qp _ _ _ _ HBI.out).symm),rfl⟩
def jk(x:Int):Bool:=decide (0<x/\x<2147483579)&&decide (x≠1)&&decide (gpw 64 1 x.toNat 1073741789=1)
section
variable(x:Int)(w:World)
include x w
theorem y6:Calls Tryz.prog 117 #[.int .i64 x] w fun e w'=>e=.returned (.bool (decide (0<x/\x<2147483579)))/\w'=w:=by
 go_enter Tryz.func117,Tryz.ntmps117
 by_cases h:0<x<;>by_cases h2:x<2147483579<;>(go_wp2_with fail;go_ret;exact⟨by simp [h,h2],rfl⟩)
theorem UY:Calls Tryz.prog 65 #[.int .i64 x] w fun e w'=>e=.returned (.bool (decide (0<x/\x<2147483579)))/\w'=w:=by
 have e:decide (0<x/\x<2147483579)=(decide (1<=x)&&decide (x<2147483579)):=by
  rw [<-Bool.decide_and];exact decide_eq_decide.2 ⟨fun h=>⟨by omega,h.2⟩,fun h=>⟨by omega,h.2⟩⟩
 rw [e]
 clear e
 go_enter Tryz.func65,Tryz.ntmps65
 by_cases h:1<=x<;>by_cases h2:x<2147483579<;>(go_wp2_with fail;go_ret;exact⟨by simp [h,h2],rfl⟩)
theorem km:Calls Tryz.prog 115 #[.int .i64 x] w fun e w'=>e=.returned (.bool (jk x))/\w'=w:=by
 have HR:=iH (y6 x)
 by_cases h:0<x/\x<2147483579
 ·have hd:decide (0<x/\x<2147483579)=true:=decide_eq_true h
  rw [hd]at HR
  obtain⟨X,rfl⟩:∃X:Nat,x=X:=⟨x.toNat,by omega⟩
  have HP:=iH (zZ X 1073741789 w (by omega) (by decide))
  have e:jk (X:Int)=(decide ((X:Int)≠1)&&decide (gpw 64 1 X 1073741789=1)):=by unfold jk;rw [hd];simp
  rw [e]
  obtain⟨r,hr⟩:∃r,Hid (gpw 64 1 X 1073741789=r):=⟨_,rfl⟩
  rw [hr.out]at HP |-
  clear e hd h hr
  go_enter Tryz.func115,Tryz.ntmps115
  by_cases h1:X=1
  ·subst h1
   go_wp2_with(go_at_call 117;refine iR (HR.out _) ?_)
   go_ret
   exact⟨by simp,rfl⟩
  ·have h1':((X:Int) != 1)=true:=by rw [bne_iff_ne];omega
   go_wp2_with(first
    |(go_at_call 117;refine iR (HR.out _) ?_)
    |(go_at_call 116;refine iR HP.out ?_))
   go_ret
   refine⟨?_,rfl⟩
   have hx:decide ((X:Int)≠1)=true:=decide_eq_true (by omega)
   have hr:decide (r=1)=((r:Int)==1):=by rw [Bool.eq_iff_iff];simp;omega
   rw [hx,hr]
   simp
 ·have hd:decide (0<x/\x<2147483579)=false:=decide_eq_false h
  rw [hd]at HR
  have e:jk x=false:=by unfold jk;rw [hd];simp
  rw [e]
  clear hd h e
  go_enter Tryz.func115,Tryz.ntmps115
  go_wp2_with(go_at_call 117;refine iR (HR.out _) ?_)
  go_ret
  exact⟨by simp,rfl⟩
theorem jL:Calls Tryz.prog 29 #[.int .i64 x] w fun e w'=>e=.returned (.bool (jk x))/\w'=w:=by
 have HR:=iH (UY x)
 by_cases h:0<x/\x<2147483579
 ·have hd:decide (0<x/\x<2147483579)=true:=decide_eq_true h
  rw [hd]at HR
  obtain⟨X,rfl⟩:∃X:Nat,x=X:=⟨x.toNat,by omega⟩
  have HP:=iH (Jj X 1073741789 w (by omega) (by decide))
  have e:jk (X:Int)=(decide ((X:Int)≠1)&&decide (gpw 64 1 X 1073741789=1)):=by unfold jk;rw [hd];simp
  rw [e]
  obtain⟨r,hr⟩:∃r,Hid (gpw 64 1 X 1073741789=r):=⟨_,rfl⟩
  rw [hr.out]at HP |-
  clear e hd h hr
  go_enter Tryz.func29,Tryz.ntmps29
  by_cases h1:X=1
  ·subst h1
   go_wp2_with(go_at_call 65;refine iR (HR.out _) ?_)
   go_ret
   exact⟨by simp,rfl⟩
  ·have h1':((X:Int) != 1)=true:=by rw [bne_iff_ne];omega
   go_wp2_with(first
    |(go_at_call 65;refine iR (HR.out _) ?_)
    |(go_at_call 61;refine iR HP.out ?_))
   go_ret
   refine⟨?_,rfl⟩
   have hx:decide ((X:Int)≠1)=true:=decide_eq_true (by omega)
   have hr:decide (r=1)=((r:Int)==1):=by rw [Bool.eq_iff_iff];simp;omega
   rw [hx,hr]
   simp
 ·have hd:decide (0<x/\x<2147483579)=false:=decide_eq_false h
  rw [hd]at HR
  have e:jk x=false:=by unfold jk;rw [hd];simp
  rw [e]
  clear hd h e
  go_enter Tryz.func29,Tryz.ntmps29
  go_wp2_with(go_at_call 65;refine iR (HR.out _) ?_)
  go_ret
  exact⟨by simp,rfl⟩
end
end Go.Proofs.YtalmmiojbmpmiaaGreatDoor
