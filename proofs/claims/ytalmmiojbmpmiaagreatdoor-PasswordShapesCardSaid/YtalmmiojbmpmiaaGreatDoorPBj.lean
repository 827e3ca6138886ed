/- Number of bytes, both sides -/
import Derived.Test.YtalmmiojbmpmiaaGreatDoorPo
import Derived.Test.YtalmmiojbmpmiaaGreatDoorPBb
set_option linter.all false
set_option maxRecDepth 100000
set_option maxHeartbeats 1000000
namespace Go.Proofs.YtalmmiojbmpmiaaGreatDoor
open Go.RowKit Go.Deep
theorem UC(n b:Nat)(hn:n<36028797018963968)(hb:b<256):bits .or .i64 ((n:Int)*256) (b:Int)=(n:Int)*256+b:=by
 have h1:(BitVec.ofInt 64 ((n*256:Nat):Int)).toNat=n*256:=by
  rw [BitVec.ofInt_natCast,BitVec.toNat_ofNat];exact Nat.mod_eq_of_lt (by omega)
 have h2:(BitVec.ofInt 64 (b:Int)).toNat=b:=by
  rw [BitVec.ofInt_natCast,BitVec.toNat_ofNat];exact Nat.mod_eq_of_lt (by omega)
 have h3:n*256 ||| b=n*256+b:=by
  have:=Nat.two_pow_add_eq_or_of_lt (i:=8) (b:=b) (by omega) n
  rw [Nat.mul_comm]at this
  exact this.symm
 have e:(n:Int)*256=((n*256:Nat):Int):=by omega
 rw [e]
 show IntKind.i64.wrap ((BitVec.ofInt 64 ((n*256:Nat):Int) ||| BitVec.ofInt 64 (b:Int)).toNat:Int)=_
 rw [BitVec.toNat_or,h1,h2,h3,IntKind.wrap_i64]
 omega
theorem zC{l:List UInt8}{j:Nat}(h:j<l.length):xH (l.take (j+1))=xH (l.take j)*256+bv (gb l j):=by
 unfold xH
 rw [List.take_succ_eq_append_getElem h,List.foldl_append]
 simp [gb,h]
 omega
theorem KY(l:List UInt8):∀j,j<=l.length->0<=xH (l.take j)/\xH (l.take j)<256 ^ j:=by
 intro j
 induction j with
 |zero=>intro _;exact⟨Int.le_refl _,show(0:Int)<1 by decide⟩
 |succ j ih=>
  intro h
  have:=ih (by omega)
  have b0:=jz (gb l j);have b1:=jC (gb l j)
  rw [zC (by omega),Int.pow_succ]
  omega
def xj(l:List UInt8):Int×Int:=if 7<l.length then(0,2)else(xH l,0)
theorem KC(l:List UInt8)(v:Value)(S:Nat->Prop)(w:World)(hv:BsS w S v l):Calls Tryz.prog 118 #[v] w fun e w'=>e=.returned (.tuple #[.int .i64 (xj l).1,.int .i64 (xj l).2])/\w'=w:=by
 obtain⟨a,c,rfl⟩:=hv.form2
 have hll:=hv.len
 have HV:=iH hv
 clear hv
 by_cases h7:7<l.length
 ·have E:Hid (xj l=(0,2)):=by show _=_;unfold xj;rw [iT h7]
  rw [E.out]
  go_enter Tryz.func118,Tryz.ntmps118
  go_wp2_with fail
  go_ret2
  exact⟨rfl,rfl⟩
 ·have E:Hid (xj l=(xH l,0)):=by show _=_;unfold xj;rw [iF h7]
  rw [E.out]
  clear E
  go_enter Tryz.func118,Tryz.ntmps118
  go_wp2_with fail
  go_loopg [12,4] l.length (fun m i n wr=>∃j X r:Nat,r=m/\j+r=l.length/\i=.int .i64 j/\n=.int .i64 X/\Hid ((X:Int)=xH (l.take j))/\wr=w)
  case atStart=>exact⟨0,0,l.length,rfl,by omega,rfl,rfl,iH rfl,rfl⟩
  case round=>
   obtain⟨j,X,m,rfl,hj,rfl,rfl,hX,rfl⟩:=hrel
   rcases Nat.eq_zero_or_pos m with h0|h0
   ·subst h0
    have hj':j=l.length:=by omega
    have HXE:Hid ((X:Int)=xH l):=iH (by have:=hX.out;rwa [hj',List.take_length]at this)
    subst hj'
    clear hX
    go_wp2_with fail
    go_ret2
    rw [HXE.out]
    exact⟨rfl,rfl⟩
   ·obtain⟨m,rfl⟩:∃k,m=k+1:=⟨m - 1,by omega⟩
    have hlt:j<l.length:=by omega
    have hin:=KY l j (by omega)
    have hxb:(X:Int)<256 ^ j:=by rw [hX.out];exact hin.2
    have hp:(256:Int) ^ j<=256 ^ 6:=by exact_mod_cast Nat.pow_le_pow_right (by decide) (show j<=6 by omega)
    have hx6:X<281474976710656:=by have:(256:Int) ^ 6=281474976710656:=by decide
                                   omega
    obtain⟨y,hy⟩:∃y:Nat,y=(gb l j).toNat:=⟨_,rfl⟩
    have hyl:y<256:=by rw [hy];exact UInt8.toNat_lt _
    have q1:∃b off,a=some ⟨b,off,none⟩/\wr.cell? ⟨b,off+j,none⟩=some (.int .u8 (y:Int)):=by
     obtain⟨a',c',e,_,_,_,h4⟩:=HV.out
     injection e with e1 e2 e3
     subst e1
     obtain⟨b,off,e2,_,hc⟩:=h4 (by omega)
     exact⟨b,off,e2,by rw [hy];exact hc j hlt⟩
    obtain⟨b,off,rfl,q2⟩:=q1
    have o1:=UC X y (by omega) hyl
    have HN:Hid (((X*256+y:Nat):Int)=xH (l.take (j+1))):=iH (by rw [zC hlt,<-hX.out];show _=_+((gb l j).toNat:Int);rw [<-hy];omega)
    clear hX hin hxb hp hy
    go_wp2_with fail
    go_roundg m
    case measure=>omega
    case rel=>exact⟨j+1,X*256+y,m,rfl,by omega,by go_num,by first|rfl|(congr 1),HN,rfl⟩
theorem Q9(l:List UInt8)(v:Value)(S:Nat->Prop)(w:World)(hv:BsS w S v l):Calls Tryz.prog 120 #[v] w fun e w'=>e=.returned (.tuple #[.int .i64 (xj l).1,.int .i64 (xj l).2])/\w'=w:=by
 obtain⟨a,c,rfl⟩:=hv.form2
 have hll:=hv.len
 have HV:=iH hv
 clear hv
 by_cases h7:7<l.length
 ·have E:Hid (xj l=(0,2)):=by show _=_;unfold xj;rw [iT h7]
  rw [E.out]
  go_enter Tryz.func120,Tryz.ntmps120
  go_wp2_with fail
  go_ret2
  exact⟨rfl,rfl⟩
 ·have E:Hid (xj l=(xH l,0)):=by show _=_;unfold xj;rw [iF h7]
  rw [E.out]
  clear E
  go_enter Tryz.func120,Tryz.ntmps120
  go_wp2_with fail
  go_loopg [5,4] l.length (fun m i n wr=>∃j X r:Nat,r=m/\j+r=l.length/\i=.int .i64 j/\n=.int .i64 X/\Hid ((X:Int)=xH (l.take j))/\wr=w)
  case atStart=>exact⟨0,0,l.length,rfl,by omega,rfl,rfl,iH rfl,rfl⟩
  case round=>
   obtain⟨j,X,m,rfl,hj,rfl,rfl,hX,rfl⟩:=hrel
   rcases Nat.eq_zero_or_pos m with h0|h0
   ·subst h0
    have hj':j=l.length:=by omega
    have HXE:Hid ((X:Int)=xH l):=iH (by have:=hX.out;rwa [hj',List.take_length]at this)
    subst hj'
    clear hX
    go_wp2_with fail
    go_ret2
    rw [HXE.out]
    exact⟨rfl,rfl⟩
   ·obtain⟨m,rfl⟩:∃k,m=k+1:=⟨m - 1,by omega⟩
    have hlt:j<l.length:=by omega
    have hin:=KY l j (by omega)
    have hxb:(X:Int)<256 ^ j:=by rw [hX.out];exact hin.2
    have hp:(256:Int) ^ j<=256 ^ 6:=by exact_mod_cast Nat.pow_le_pow_right (by decide) (show j<=6 by omega)
    have hx6:X<281474976710656:=by have:(256:Int) ^ 6=281474976710656:=by decide
                                   omega
    obtain⟨y,hy⟩:∃y:Nat,y=(gb l j).toNat:=⟨_,rfl⟩
    have hyl:y<256:=by rw [hy];exact UInt8.toNat_lt _
    have q1:∃b off,a=some ⟨b,off,none⟩/\wr.cell? ⟨b,off+j,none⟩=some (.int .u8 (y:Int)):=by
     obtain⟨a',c',e,_,_,_,h4⟩:=HV.out
     injection e with e1 e2 e3
     subst e1
     obtain⟨b,off,e2,_,hc⟩:=h4 (by omega)
     exact⟨b,off,e2,by rw [hy];exact hc j hlt⟩
    obtain⟨b,off,rfl,q2⟩:=q1
    have HN:Hid (((X*256+y:Nat):Int)=xH (l.take (j+1))):=iH (by rw [zC hlt,<-hX.out];show _=_+((gb l j).toNat:Int);rw [<-hy];omega)
    clear hX hin hxb hp hy
    go_wp2_with fail
    go_roundg m
    case measure=>omega
    case rel=>exact⟨j+1,X*256+y,m,rfl,by omega,by go_num,by congr 1;omega,HN,rfl⟩
end Go.Proofs.YtalmmiojbmpmiaaGreatDoor
