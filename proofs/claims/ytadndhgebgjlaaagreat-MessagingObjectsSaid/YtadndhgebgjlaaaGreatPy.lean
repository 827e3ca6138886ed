/- The walks of Pad and Unpad of both sides -/
import Derived.Test.YtadndhgebgjlaaaGreatPx
set_option linter.all false
set_option maxRecDepth 100000
set_option maxHeartbeats 400000
namespace Go.Proofs.YtadndhgebgjlaaaGreat
open Go.RowKit
theorem m1e{P:Prop}(h:P:=by
 have hd:¬(l.length:Int) - 16<=(j:Int) - 1:=by omega
 have e:Jk l l.length 16=none:=by rw [<-hS.out];cases j<;>rfl
 have e1:=E1.out;have e2:=E2.out
 rw [e]at e1 e2
 have E3:=iH e1;have E4:=iH e2
 clear e e1 e2
 go_wp2
 go_ret2
 exact⟨_,by rw [E3.out]<;>rfl,by rw [E4.out];exact Bs.nil _ _,Below.refl _ _⟩):P:=h
theorem m1g{P:Prop}(h:P:=by
 go_wp2
 go_ret2
 exact⟨_,by rw [E1.out]<;>rfl,by rw [E2.out];exact Bs.nil _ _,Below.refl _ _⟩):P:=h
theorem m1h{P:Prop}(h:P:=by
 go_wp2
 go_ret2
 exact⟨_,by rw [E3.out]<;>rfl,by rw [E4.out];exact Bs.nil _ _,Below.refl _ _⟩):P:=h
theorem m24{P:Prop}(h:P:=by
 go_wp2
 go_roundw
 case rel=>exact⟨k,j,by omega,by omega,by go_num,by have:=hS.out;rw [Kr l j k Hz.out]at this;exact this,trivial⟩
 case measure=>simp [intOf]<;>omega):P:=h
theorem m47{P:Prop}(h:P:=by
 have:zJ l.length=(16 - (l.length+1) % 16) % 16:=rfl
 simp;omega):P:=h
def j87:Value->Nat
 |.slice _ n _=>n
 |_=>0
theorem J3{P:Program}(w:World)(base:Nat)(t tn ty e:TypeId)(z:Value)(bytes:Nat)(kq kn:IntKind)(ht:P.underlying t=some (.slice e))(htn:P.underlying tn=some (.int kn))(hinfo:(P.info? e).map (fun i=>(i.zero,i.size,i.bytes))=some (some z,1,bytes))(v:Value)(n:Nat)(xs:List Value)(hown:w.ownsRow base e 1 v n xs):(Builtin.append_ #[t,tn] ty #[v,.int kq 0]).run P w=.ok v w:=by
 obtain⟨i,hi,hzz⟩:=Option.map_eq_some_iff.1 hinfo
 simp only [Prod.mk.injEq]at hzz
 obtain⟨hz,hsize,hbb⟩:=hzz
 have hw:IntKind.i64.wrap 0=0:=by rw [IntKind.wrap_i64];omega
 rcases hown.2 with ⟨rfl,rfl⟩|⟨g,cap,cur,rfl,_,_,hnc,_⟩
 ·simp [Builtin.append_,run_underlying ht,run_underlying htn,sizeOf,typeInfo,hi,asInt,asIntOf,hw]
 ·simp [Builtin.append_,run_underlying ht,run_underlying htn,sizeOf,typeInfo,hi,asInt,asIntOf,hw,hnc,storeCells]
theorem j76{base:Nat}{v:Value}{n:Nat}{xs:List Value}{w:World}(hown:w.ownsRow base 5 1 v n xs)(k:Nat)(hb:n+k<=140737488355328)(hbase:base<=w.heap.size)(ty:TypeId):
 ∃v' w',(Builtin.append_ #[27,3] ty #[v,.int .i64 k]).run Tryz.prog w=.ok v' w'/\w'.ownsRow base 5 1 v' (n+k) (xs++List.replicate k (.int .u8 0))/\w.grownBy w' v.ownBlock:=by
 rcases Nat.eq_zero_or_pos k with h|h
 ·subst h
  exact⟨v,w,J3 w base 27 3 ty 5 (.int .u8 0) 1 .i64 .i64 Tryz.underlying27 Tryz.underlying3 kJ v n xs hown,by simpa using hown,World.grownBy.refl _ _⟩
 ·exact xI (P:=Tryz.prog) w base 27 3 ty 5 (.int .u8 0) 1 .i64 .i64 Tryz.underlying27 Tryz.underlying3 kJ rfl rfl (by omega) v n xs hown k h (by omega) hbase
def zJ(n:Nat):Nat:=(16 - (n+1) % 16) % 16
def xW(l:List UInt8):List UInt8:=l++ [128]++List.replicate (zJ l.length) 0
theorem kH(l:List UInt8):(xW l).length=l.length+1+zJ l.length:=by simp [xW];omega
theorem qx(l:List UInt8):(xW l).length=16*((l.length+1+zJ l.length) / 16):=by rw [kH];unfold zJ;omega
theorem q7(n:Nat):zJ n<=15:=by unfold zJ;omega
theorem YB(l:List UInt8):(xW l).map U8=l.map U8++ [.int .u8 128]++List.replicate (zJ l.length) (.int .u8 0):=by
 unfold xW
 rw [List.map_append,List.map_append,List.map_replicate]
 rfl
section
variable(v:Value)(l:List UInt8)(hl:l.length<=140737488351232)(w:World)(hv:Bs w w.heap.size v l)
include v l hl w hv
theorem ZF:
 Calls Tryz.prog 83 #[v] w fun e w'=>∃v',e=.returned v'/\OwnB w' w.heap.size v' (xW l)/\Below w.heap.size w w':=by
 have Hv:=iH hv;have Hl:=iH hl;clear hv hl
 go_enter Tryz.func83,Tryz.ntmps83
 go_wp2_with fail
 refine(kR _ l _ Hv.out).mono ?_
 rintro e w1 ⟨v1,rfl,hown,hB⟩
 have hown:w1.ownsRow w.heap.size 5 1 v1 l.length (l.map U8):=hown
 have Hown:=iH (hown.alloc (.cells #[Value.int .u8 128] 5));have HB:=iH hB
 have Hsrc:=iH (show SrcAt (w1.alloc (.cells #[Value.int .u8 128] 5)) (some ⟨w1.heap.size,0,none⟩) 1 [Value.int .u8 128] from SrcAt.one _ _ rfl)
 have Hbase:=iH (show w.heap.size<=(w1.alloc (.cells #[Value.int .u8 128] 5)).heap.size by have:=hB.size;simp;omega)
 clear hown hB
 have hk1:((zJ l.length:Nat):Int)=(16 - ((l.length:Int)+1) % 16) % 16:=by unfold zJ;omega
 have hk2:((zJ l.length:Nat):Int)= -(((l.length:Int)+1) % 16) % 16:=by unfold zJ;omega
 have Hk1:=iH hk1;have Hk2:=iH hk2;clear hk1 hk2
 go_wp2_with(first
  |(at_builtin
    (with_reducible refine jp _ rfl (.tmp 5) (.tmp 6) 27 rfl w.heap.size 5 (.int .u8 0) 1 Tryz.underlying27 kJ rfl (by omega) v1 l.length (l.map U8) rfl Hown.out (some ⟨w1.heap.size,0,none⟩) 1 1 [.int .u8 128] rfl Hsrc.out (by have:=Hl.out;omega) Hbase.out ?_)
    intro v2 w2 hown2 hg2 _ _
    have hb2:=jn Hown.out hg2 iL Hbase.out
    have hbase2:w.heap.size<=w2.heap.size:=Nat.le_trans Hbase.out hb2.size
    obtain⟨v3,w3,hrun3,hown3,hg3⟩:=j76 hown2 (zJ l.length) (by have:=Hl.out;have:=q7 l.length;omega) hbase2 27
    have hb3:=(((HB.out.alloc HB.out.size _).trans hb2).trans (jn hown2 hg3 iL hbase2))
    obtain⟨g2,cap2,rfl,_,_,_⟩:=kU hown2 (by omega)
    have hrun4:=hrun3;rw [Hk1.out]at hrun3;rw [Hk2.out]at hrun4;have Hrun3:=iH hrun3;have Hrun4:=iH hrun4;clear hrun4;have Hown3:=iH hown3;have Hb3:=iH hb3
    clear hown2 hg2 hb2 hbase2 hrun3 hown3 hg3 hb3)
  |(at_builtin
    first
     |(with_reducible refine Lib.wpList_append_run _ rfl (.tmp 8) (.tmp 13) 27 3 rfl (.slice (some ⟨g2,0,none⟩) (l.length+1) cap2) (.int .i64 ((16 - ((l.length:Int)+1) % 16) % 16)) rfl rfl v3 w3 Hrun3.out ?_)
     |(with_reducible refine Lib.wpList_append_run _ rfl (.tmp 8) (.tmp 13) 27 3 rfl (.slice (some ⟨g2,0,none⟩) (l.length+1) cap2) (.int .i64 (-(((l.length:Int)+1) % 16) % 16)) rfl rfl v3 w3 Hrun4.out ?_)))
 go_ret
 refine⟨v3,rfl,?_,Hb3.out⟩
 have h:=Hown3.out
 rw [<-YB,<-kH]at h
 exact h
theorem j5s:
 Calls Tryz.prog 83 #[v] w fun e w'=>∃v',e=.returned v'/\BsS w' (New w w') v' (xW l)/\Below w.heap.size w w':=
 (ZF v l hl w hv).mono fun _ _ ⟨v',h1,h2,h3⟩=>⟨v',h1,(BsS.of_own h2 (by rw [kH];have:=q7 l.length;omega)).keep fun _ hg _=>⟨rfl,hg.1,hg.2⟩,h3⟩
theorem QH:
 Calls Tryz.prog 64 #[v] w fun e w'=>∃v',e=.returned v'/\OwnB w' w.heap.size v' (xW l)/\Below w.heap.size w w':=by
 obtain⟨A,n,c,rfl⟩:=hv.form
 obtain⟨rfl,hsrc⟩:=hv.src
 have Hsrc:=iH hsrc;have Hl:=iH hl;clear hsrc hl hv
 have h0:w.ownsRow w.heap.size 5 1 (.slice none 0 0) 0 []:=World.ownsRow_nil _ _ _ _
 go_enter Tryz.func64,Tryz.ntmps64
 go_wp2_with(first
  |(at_builtin
    (with_reducible refine jp _ rfl (.const (.slice none 0 0)) (.tmp 4) 27 rfl w.heap.size 5 (.int .u8 0) 1 Tryz.underlying27 kJ rfl (by omega) (.slice none 0 0) 0 [] rfl h0 A l.length c (l.map U8) rfl Hsrc.out (by have:=Hl.out;omega) iL ?_)
    intro v1 w1 hown1 hg1 _ _
    have hb1:=jn h0 hg1 iL iL
    have hown1:w1.ownsRow w.heap.size 5 1 v1 l.length (l.map U8):=by simpa using hown1
    have Hown1:=iH (hown1.alloc (.cells #[.int .u8 128] 5));have Hb1:=iH hb1
    have Hsrc1:=iH (show SrcAt (w1.alloc (.cells #[.int .u8 128] 5)) (some ⟨w1.heap.size,0,none⟩) 1 [.int .u8 128] from SrcAt.one _ _ rfl)
    have Hbase1:=iH (show w.heap.size<=(w1.alloc (.cells #[.int .u8 128] 5)).heap.size by have:=hb1.size;simp;omega)
    clear hown1 hg1 hb1)
  |(at_builtin
    (with_reducible refine jp _ rfl (.tmp 5) (.tmp 6) 27 rfl w.heap.size 5 (.int .u8 0) 1 Tryz.underlying27 kJ rfl (by omega) v1 l.length (l.map U8) rfl Hown1.out (some ⟨w1.heap.size,0,none⟩) 1 1 [.int .u8 128] rfl Hsrc1.out (by have:=Hl.out;omega) Hbase1.out ?_)
    intro v2 w2 hown2 hg2 _ _
    have hb2:=(Hb1.out.alloc Hb1.out.size _).trans (jn Hown1.out hg2 iL Hbase1.out)
    have Hown2:=iH hown2;have Hb2:=iH hb2
    clear hown2 hg2 hb2))
 go_loopw [3] (fun o wr=>∃j:Nat,j<=zJ l.length/\wr.ownsRow w.heap.size 5 1 o (l.length+1+j) (l.map U8++ [.int .u8 128]++List.replicate j (.int .u8 0))/\Below w.heap.size w wr) (fun o _=>l.length+1+zJ l.length - j87 o)
 case atStart=>exact⟨0,by omega,by simpa using Hown2.out,Hb2.out⟩
 case round=>
  obtain⟨j,hj,hown,hb⟩:=hrel
  obtain⟨g,cap,rfl,_,_,_⟩:=kU hown (by omega)
  have hl2:l.length<=140737488351232:=Hl.out
  have hp:=q7 l.length
  by_cases hlt:j<zJ l.length
  ·have t1:(((l.length:Int)+1+j) % 16 != 0)=true:=by
    exact m47
   have Hown:=iH (hown.alloc (.cells #[.int .u8 0] 5));have Hb:=iH hb
   have Hsrc:=iH (show SrcAt (wr.alloc (.cells #[.int .u8 0] 5)) (some ⟨wr.heap.size,0,none⟩) 1 [.int .u8 0] from SrcAt.one _ _ rfl)
   have Hbase:=iH (show w.heap.size<=(wr.alloc (.cells #[.int .u8 0] 5)).heap.size by have:=hb.size;simp;omega)
   clear hown hb
   go_wp2_with(at_builtin;(with_reducible refine jp _ rfl (.tmp 12) (.tmp 13) 27 rfl w.heap.size 5 (.int .u8 0) 1 Tryz.underlying27 kJ rfl (by omega) (.slice (some ⟨g,0,none⟩) (l.length+1+j) cap) (l.length+1+j) (l.map U8++ [.int .u8 128]++List.replicate j (.int .u8 0)) rfl Hown.out (some ⟨wr.heap.size,0,none⟩) 1 1 [.int .u8 0] rfl Hsrc.out (by omega) Hbase.out ?_);intro v4 w4 hown4 hg4 _ _
               obtain⟨g4,cap4,rfl,_,_,_⟩:=kU hown4 (by omega))
   go_roundw
   case rel=>
    refine⟨j+1,by omega,?_,(Hb.out.alloc Hb.out.size _).trans (jn Hown.out hg4 iL Hbase.out)⟩
    rw [<-Nat.add_assoc,List.replicate_succ',<-List.append_assoc]
    exact hown4
   case measure=>simp only [j87];omega
  ·have hjp:j=zJ l.length:=by omega
   have t1:(((l.length:Int)+1+j) % 16 != 0)=false:=by
    exact m47
   rw [hjp,<-YB,<-kH]at hown
   have e:l.length+1+j=(xW l).length:=by rw [kH,hjp]
   have Hown:=iH hown;have Hb:=iH hb;have E:=iH e
   clear hown hb hjp e
   go_wp2
   go_ret
   refine⟨_,rfl,?_,Hb.out⟩
   rw [E.out]
   exact Hown.out
theorem j3d:
 Calls Tryz.prog 64 #[v] w fun e w'=>∃v',e=.returned v'/\BsS w' (New w w') v' (xW l)/\Below w.heap.size w w':=
 (QH v l hl w hv).mono fun _ _ ⟨v',h1,h2,h3⟩=>⟨v',h1,(BsS.of_own h2 (by rw [kH];have:=q7 l.length;omega)).keep fun _ hg _=>⟨rfl,hg.1,hg.2⟩,h3⟩
end
def Jk(l:List UInt8):Nat->Nat->Option Nat
 |_,0=>none
 |0,_+1=>none
 |n+1,k+1=>if gb l n=0 then Jk l n k else if gb l n=128 then some n else none
def ZV(l:List UInt8):List UInt8:=if l.length=0\/¬l.length % 16=0 then []else match Jk l l.length 16 with|some n=>l.take n|none=>[]
def ZT(l:List UInt8):Int:=if l.length=0\/¬l.length % 16=0 then 2 else match Jk l l.length 16 with|some _=>0|none=>9
section
variable(l:List UInt8)(n k:Nat)
include l n k
theorem Kr(h:gb l n=0):Jk l (n+1) (k+1)=Jk l n k:=by rw [Jk,iT h]
theorem QO(h:gb l n=128):Jk l (n+1) (k+1)=some n:=by rw [Jk,iF (by rw [h];decide),iT h]
theorem Z4(h0:¬gb l n=0)(h:¬gb l n=128):Jk l (n+1) (k+1)=none:=by rw [Jk,iF h0,iF h]
end
theorem Bs.cutTo{w:World}{S:Nat->Prop}{A:Option Addr}{n c:Nat}{l:List UInt8}(h:BsS w S (.slice A n c) l)(k:Nat)(hk:k<=l.length):BsS w S (.slice A k c) (l.take k):=by
 obtain⟨a,c',hv,h1,h2,h3,h4⟩:=h
 injection hv with ha hn hc
 subst ha hc
 have hl:(l.take k).length=k:=by simp;omega
 refine⟨A,c,by rw [hl],by omega,h2,by omega,fun hp=> ?_⟩
 rw [hl]at hp
 obtain⟨b,off,rfl,hb,hcell⟩:=h4 (by omega)
 refine⟨b,off,rfl,hb,fun j hj=> ?_⟩
 rw [hl]at hj
 rw [hcell j (by omega)]
 congr 2
 unfold gb
 rw [List.getD_eq_getElem?_getD,List.getD_eq_getElem?_getD,List.getElem?_take,iT hj]
section
variable(v:Value)(l:List UInt8)(w:World)(hv:Bs w w.heap.size v l)
include v l w hv
theorem j1d:
 Calls Tryz.prog 91 #[v] w fun e w'=>∃v',e=.returned (.tuple #[v',.int .i64 (ZT l)])/\Bs w' w'.heap.size v' (ZV l)/\Below w.heap.size w w':=by
 have hlen:=hv.len
 obtain⟨A,n,c,rfl⟩:=hv.form
 have hn:=Bs.lenEq hv
 subst hn
 have Hv:=iH hv
 obtain⟨_,_,hve,hlc,hc9,_,hcell⟩:=hv
 injection hve with ha hn hc
 subst ha hc
 clear hn
 by_cases h0:l.length=0\/¬l.length % 16=0
 ·have e1:ZT l=2:=by unfold ZT;rw [iT h0]
  have e2:ZV l= []:=by unfold ZV;rw [iT h0]
  have E1:=iH e1;have E2:=iH e2;clear e1 e2 hcell
  by_cases h1:l.length=0
  ·have t1:((l.length:Int)==0)=true:=beq_iff_eq.2 (by omega)
   clear h0 h1
   go_enter Tryz.func91,Tryz.ntmps91
   exact m1g
  ·have t1:((l.length:Int)==0)=false:=beq_eq_false_iff_ne.2 (by omega)
   have t2:((l.length:Int) % 16 != 0)=true:=by rw [bne_iff_ne];omega
   clear h0 h1
   go_enter Tryz.func91,Tryz.ntmps91
   go_wp2
   go_ret2
   exact⟨_,by rw [E1.out]<;>rfl,by rw [E2.out];exact Bs.nil _ _,Below.refl _ _⟩
 ·have h1:¬l.length=0:=fun e=>h0 (.inl e)
  have h2:l.length % 16=0:=by omega
  have e1:ZT l=match Jk l l.length 16 with|some _=>0|none=>9:=by unfold ZT;rw [iF h0]
  have e2:ZV l=match Jk l l.length 16 with|some n=>l.take n|none=>[]:=by unfold ZV;rw [iF h0]
  have E1:=iH e1;have E2:=iH e2;clear e1 e2
  have h16:16<=l.length:=by omega
  have t1:((l.length:Int)==0)=false:=beq_eq_false_iff_ne.2 (by omega)
  have t2:((l.length:Int) % 16 != 0)=false:=by rw [bne_eq_false_iff_eq];omega
  obtain⟨b,off,rfl,hb,hcell⟩:=hcell (by omega)
  have HC:=iH hcell
  clear h0 h1 h2 hcell
  go_enter Tryz.func91,Tryz.ntmps91
  go_wp2
  go_loopw [4] (fun i wr=>∃k j:Nat,k<=16/\j+16=l.length+k/\i=.int .i64 ((j:Int) - 1)/\Hid (Jk l j k=Jk l l.length 16)/\wr=w) (fun i _=>(intOf i+1 - (l.length - 16)).toNat)
  case atStart=>exact⟨16,l.length,by omega,by omega,rfl,rfl,rfl⟩
  case round=>
   obtain⟨k,j,hk,hj,rfl,hS,rfl⟩:=hrel
   rcases k with _|k
   ·exact m1e
   ·obtain⟨j,rfl⟩:∃q,j=q+1:=⟨j - 1,by omega⟩
    rw [show(((j+1:Nat):Int) - 1)=j by omega]
    have hjl:j<l.length:=by omega
    have c1:=HC.out j hjl
    have hd:(l.length:Int) - 16<=(j:Int):=by omega
    by_cases hz:gb l j=0
    ·have t3:(gb l j==0)=true:=by simp [hz]
     have Hz:=iH hz;clear hz
     exact m24
    ·have t3:(gb l j==0)=false:=by simp [hz]
     by_cases hp:gb l j=128
     ·have t4:(gb l j==128)=true:=by simp [hp]
      have e:Jk l l.length 16=some j:=by rw [<-hS.out,QO l j k hp]
      have e1:=E1.out;have e2:=E2.out
      rw [e]at e1 e2
      have E3:=iH e1;have E4:=iH e2
      clear e e1 e2 hz hp
      go_wp2_with fail
      refine(kR _ (l.take j) _ (Bs.cutTo Hv.out j (by omega))).mono ?_
      rintro e w2 ⟨v2,rfl,hown2,hB2⟩
      have hlt2:(l.take j).length<=140737488355328:=by rw [List.length_take];omega
      go_wp2
      go_ret2
      exact⟨_,by rw [E3.out]<;>rfl,by rw [E4.out];exact Bs.of_own hown2 hlt2,hB2⟩
     ·have t4:(gb l j==128)=false:=by simpa using hp
      have e:Jk l l.length 16=none:=by rw [<-hS.out,Z4 l j k hz hp]
      have e1:=E1.out;have e2:=E2.out
      rw [e]at e1 e2
      have E3:=iH e1;have E4:=iH e2
      clear e e1 e2 hz hp
      exact m1h
theorem UJ:
 Calls Tryz.prog 100 #[v] w fun e w'=>∃v',e=.returned (.tuple #[v',.int .i64 (ZT l)])/\Bs w' w'.heap.size v' (ZV l)/\Below w.heap.size w w':=by
 have hlen:=hv.len
 obtain⟨A,n,c,rfl⟩:=hv.form
 have hn:=Bs.lenEq hv
 subst hn
 have Hv:=iH hv
 obtain⟨_,_,hve,hlc,hc9,_,hcell⟩:=hv
 injection hve with ha hn hc
 subst ha hc
 clear hn
 by_cases h0:l.length=0\/¬l.length % 16=0
 ·have e1:ZT l=2:=by unfold ZT;rw [iT h0]
  have e2:ZV l= []:=by unfold ZV;rw [iT h0]
  have E1:=iH e1;have E2:=iH e2;clear e1 e2 hcell
  by_cases h1:l.length=0
  ·have t1:((l.length:Int)==0)=true:=beq_iff_eq.2 (by omega)
   clear h0 h1
   go_enter Tryz.func100,Tryz.ntmps100
   exact m1g
  ·have t1:((l.length:Int)==0)=false:=beq_eq_false_iff_ne.2 (by omega)
   have t2:((l.length:Int) % 16 != 0)=true:=by rw [bne_iff_ne];omega
   clear h0 h1
   go_enter Tryz.func100,Tryz.ntmps100
   go_wp2
   go_ret2
   exact⟨_,by rw [E1.out]<;>rfl,by rw [E2.out];exact Bs.nil _ _,Below.refl _ _⟩
 ·have h1:¬l.length=0:=fun e=>h0 (.inl e)
  have h2:l.length % 16=0:=by omega
  have e1:ZT l=match Jk l l.length 16 with|some _=>0|none=>9:=by unfold ZT;rw [iF h0]
  have e2:ZV l=match Jk l l.length 16 with|some n=>l.take n|none=>[]:=by unfold ZV;rw [iF h0]
  have E1:=iH e1;have E2:=iH e2;clear e1 e2
  have h16:16<=l.length:=by omega
  have t1:((l.length:Int)==0)=false:=beq_eq_false_iff_ne.2 (by omega)
  have t2:((l.length:Int) % 16 != 0)=false:=by rw [bne_eq_false_iff_eq];omega
  obtain⟨b,off,rfl,hb,hcell⟩:=hcell (by omega)
  have HC:=iH hcell
  clear h0 h1 h2 hcell
  go_enter Tryz.func100,Tryz.ntmps100
  go_wp2
  go_loopw [4] (fun i wr=>∃k j:Nat,k<=16/\j+16=l.length+k/\i=.int .i64 ((j:Int) - 1)/\Hid (Jk l j k=Jk l l.length 16)/\wr=w) (fun i _=>(intOf i+1 - (l.length - 16)).toNat)
  case atStart=>exact⟨16,l.length,by omega,by omega,rfl,rfl,rfl⟩
  case round=>
   obtain⟨k,j,hk,hj,rfl,hS,rfl⟩:=hrel
   rcases k with _|k
   ·exact m1e
   ·obtain⟨j,rfl⟩:∃q,j=q+1:=⟨j - 1,by omega⟩
    rw [show(((j+1:Nat):Int) - 1)=j by omega]
    have hjl:j<l.length:=by omega
    have c1:=HC.out j hjl
    have hd:(l.length:Int) - 16<=(j:Int):=by omega
    by_cases hp:gb l j=128
    ·have t4:(gb l j==128)=true:=by simp [hp]
     have e:Jk l l.length 16=some j:=by rw [<-hS.out,QO l j k hp]
     have e1:=E1.out;have e2:=E2.out
     rw [e]at e1 e2
     have E3:=iH e1;have E4:=iH e2
     clear e e1 e2 hp
     have hsrc:=(Bs.cutTo Hv.out j (by omega)).src.2
     have hl3:=(Bs.cutTo Hv.out j (by omega)).src.1
     have Hsrc:=iH hsrc
     have h0:wr.ownsRow wr.heap.size 5 1 (.slice none 0 0) 0 []:=World.ownsRow_nil _ _ _ _
     clear hsrc hl3
     go_wp2_with(at_builtin;(with_reducible refine jp _ rfl (.const (.slice none 0 0)) (.tmp 31) 27 rfl wr.heap.size 5 (.int .u8 0) 1 Tryz.underlying27 kJ rfl (by omega) (.slice none 0 0) 0 [] rfl h0 (some ⟨b,off,none⟩) j c ((l.take j).map U8) rfl Hsrc.out (by omega) iL ?_);intro v2 w2 hown2 hg2 _ _)
     go_ret2
     refine⟨_,by rw [E3.out]<;>rfl,?_,jn h0 hg2 iL iL⟩
     rw [E4.out]
     exact Bs.of_own (by simpa using hown2) (by rw [List.length_take];omega)
    ·have t4:(gb l j==128)=false:=by simpa using hp
     by_cases hz:gb l j=0
     ·have t3:(gb l j != 0)=false:=by simp [hz]
      have Hz:=iH hz;clear hz hp
      exact m24
     ·have t3:(gb l j != 0)=true:=by simp [hz]
      have e:Jk l l.length 16=none:=by rw [<-hS.out,Z4 l j k hz hp]
      have e1:=E1.out;have e2:=E2.out
      rw [e]at e1 e2
      have E3:=iH e1;have E4:=iH e2
      clear e e1 e2 hz hp
      exact m1h
end
end Go.Proofs.YtadndhgebgjlaaaGreat
