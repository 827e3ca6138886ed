/- Digest: the walks of Pad, both sides; Numbers in four bytes, both sides; two slices of bytes joined, both sides -/
import Derived.Test.YtalmmiojbmpmiaaGreatDoorPm
set_option linter.all false
set_option maxRecDepth 100000
set_option maxHeartbeats 1000000
namespace Go.Proofs.YtalmmiojbmpmiaaGreatDoor
open Go.RowKit Go.Deep
theorem VE(z:Int)(h0:0<=z)(h1:z<18446744073709551616):kN (ofW (z / 4294967296))++kN (ofW z)=kG z:=by
 have d:∀(a:UInt32) (k:Int),0<=k->k<4294967296->wv (a / ofW k)=wv a / k:=fun a k h h'=>(j4f a k h h').symm
 unfold kN kG
 rw [d _ 16777216 (by omega) (by omega),d _ 65536 (by omega) (by omega),d _ 256 (by omega) (by omega),d _ 16777216 (by omega) (by omega),d _ 65536 (by omega) (by omega),d _ 256 (by omega) (by omega),zr,zr]
 show [_,_,_,_,_,_,_,_]=_
 congr 1
 ·exact kI (by omega)
 congr 1
 ·exact kI (by omega)
 congr 1
 ·exact kI (by omega)
 congr 1
 ·exact kI (by omega)
 congr 1
 ·exact kI (by omega)
 congr 1
 ·exact kI (by omega)
 congr 1
 ·exact kI (by omega)
 congr 1
 exact kI (by omega)
theorem Uo(z:Int){i j:Nat}(h:i+j=7):(kG z).take (j+1)=(kG z).take j++ [ofI (z / 2 ^ (8*i))]:=by
 obtain rfl|rfl|rfl|rfl|rfl|rfl|rfl|rfl:j=0\/j=1\/j=2\/j=3\/j=4\/j=5\/j=6\/j=7:=by omega
 ·obtain rfl:i=7:=by omega
  simp [kG]
 ·obtain rfl:i=6:=by omega
  simp [kG]
 ·obtain rfl:i=5:=by omega
  simp [kG]
 ·obtain rfl:i=4:=by omega
  simp [kG]
 ·obtain rfl:i=3:=by omega
  simp [kG]
 ·obtain rfl:i=2:=by omega
  simp [kG]
 ·obtain rfl:i=1:=by omega
  simp [kG]
 ·obtain rfl:i=0:=by omega
  simp [kG]
theorem j47(w:World):BsS (w.alloc (.cells #[.int .u8 128] 5)) (New w (w.alloc (.cells #[.int .u8 128] 5))) (.slice (some ⟨w.heap.size,0,none⟩) 1 1) [128]:=Qs w [128] _ (by simp) _ rfl
theorem j00(w:World):BsS (w.alloc (.cells #[.int .u8 0] 5)) (New w (w.alloc (.cells #[.int .u8 0] 5))) (.slice (some ⟨w.heap.size,0,none⟩) 1 1) [0]:=Qs w [0] _ (by simp) _ rfl
theorem JJ{w w':World}{base:Nat}{v:Value}{l:List UInt8}(h:OwnB w base v l)(hb:Below w.heap.size w w'):OwnB w' base v l:=by
 refine⟨h.1,?_⟩
 rcases h.2 with h0|⟨g,cap,cur,hv,hb',hh,r⟩
 ·exact .inl h0
 ·exact .inr ⟨g,cap,cur,hv,hb',(hb.block g (Array.getElem?_eq_some_iff.1 hh).1).trans hh,r⟩
def qA(l:List UInt8)(j:Nat):List UInt8:=l++ [128]++List.replicate j 0
theorem qX(l:List UInt8)(j:Nat):(qA l j).length=l.length+1+j:=by simp [qA];omega
theorem KJ(l:List UInt8)(j:Nat):qA l (j+1)=qA l j++ [0]:=by unfold qA;rw [List.replicate_succ',<-List.append_assoc]
section
variable(v:Value)(l:List UInt8)(hl:l.length<=140737488355000)(w:World)(hv:Bs w w.heap.size v l)
include v l hl w hv
theorem j0d:
 Calls Tryz.prog 98 #[v] w fun e w'=>∃v',e=.returned v'/\OwnB w' w.heap.size v' (yk l)/\Below w.heap.size w w':=by
 obtain⟨A,n,c,rfl⟩:=hv.form
 obtain rfl:=Bs.lenEq hv
 have HC:=Lib.hid (js _ l w hv)
 have HL:=Lib.hid hl
 have hl2:(l.length:Int)<=140737488355000:=by omega
 clear hv
 go_enter Tryz.func98,Tryz.ntmps98
 go_wp2_with(first
  |(at_builtin;(with_reducible refine j5 (w:=w1.alloc (.cells #[.int .u8 128] 5)) rfl (.tmp 6) (.tmp 7) rfl w.heap.size (.slice A1 l.length c1) l rfl (HO1.out.alloc _) (some ⟨w1.heap.size,0,none⟩) 1 1 [128] (New w1 (w1.alloc (.cells #[.int .u8 128] 5))) rfl (j47 w1) (by have:=HL.out;simp only [List.length_singleton];omega) (by have:=HB1.out.size;simp;omega) ?_);intro o2 w2 hG;obtain⟨A2,c2,ho2⟩:=hG.1.form;rw [List.length_append,List.length_singleton]at ho2;subst ho2;have HO2:=Lib.hid hG.1;have HB2:=Lib.hid ((HB1.out.alloc HB1.out.size (.cells #[.int .u8 128] 5)).trans hG.2.1);clear hG)
  |(go_at_call 67;refine HC.out.mono ?_;rintro e w1 ⟨v1,rfl,ho,hb⟩;obtain⟨A1,c1,rfl⟩:=OwnB.form ho;have HO1:=Lib.hid ho;have HB1:=Lib.hid hb;clear ho hb))
 go_loopg [3] (zY l.length) (fun m ov wr=>∃(j N:Nat) (A c:_),j+m=zY l.length/\N=l.length+1+j/\ov=.slice A N c/\Hid (OwnB wr w.heap.size (.slice A N c) (qA l j))/\Below w.heap.size w wr)
 case atStart=>exact⟨0,l.length+1,A2,c2,by omega,rfl,rfl,Lib.hid (by unfold qA;simpa using HO2.out),HB2.out⟩
 case round=>
  obtain⟨j,N,A3,c3,hj,hN,rfl,HO,hb⟩:=hrel
  have HB:=Lib.hid hb
  have hsz:=hb.size
  have hp:zY l.length=(119 - l.length % 64) % 64:=rfl
  have hN2:N<=140737488355100:=by omega
  by_cases hlt:j<zY l.length
  ·have t1:((N:Int) % 64 != 56)=true:=by simp;omega
   have HNN:Hid ((qA l j).length=N):=Lib.hid (by rw [qX];exact hN.symm)
   have HN2:=Lib.hid hN2
   clear hp hb
   go_wp2_with(at_builtin;(with_reducible refine j5 (w:=wr.alloc (.cells #[.int .u8 0] 5)) rfl (.tmp 13) (.tmp 14) rfl w.heap.size (.slice A3 N c3) (qA l j) rfl (OwnB.alloc HO.out _) (some ⟨wr.heap.size,0,none⟩) 1 1 [0] (New wr (wr.alloc (.cells #[.int .u8 0] 5))) rfl (j00 wr) (by rw [HNN.out];have:=HN2.out;simp only [List.length_singleton];omega) (by have:=HB.out.size;simp;omega) ?_);intro o4 w4 hG;rw [<-KJ]at hG;obtain⟨A4,c4,ho4⟩:=hG.1.form;rw [qX]at ho4;subst ho4;have HO4:=Lib.hid hG.1;have HB4:=Lib.hid ((HB.out.alloc HB.out.size (.cells #[.int .u8 0] 5)).trans hG.2.1);clear hG)
   go_roundg (zY l.length - (j+1))
   case measure=>omega
   case rel=>exact⟨j+1,l.length+1+(j+1),A4,c4,by omega,rfl,rfl,HO4,HB4.out⟩
  ·obtain rfl:j=zY l.length:=by omega
   have t1:((N:Int) % 64 != 56)=false:=by simp;omega
   have HNN:Hid ((qA l (zY l.length)).length=N):=Lib.hid (by rw [qX];exact hN.symm)
   have HN2:=Lib.hid hN2
   obtain⟨z,hz⟩:∃z:Int,8*(l.length:Int)=z:=⟨_,rfl⟩
   have hz0:0<=z:=by omega
   have hz1:z<18446744073709551616:=by omega
   have E:Hid (qA l (zY l.length)++kN (ofW (z / 4294967296))++kN (ofW z)=yk l):=Lib.hid (by rw [List.append_assoc,VE z hz0 hz1,<-hz];rfl)
   have HX:Hid (∀w,Calls Tryz.prog 100 #[.int .u32 (z / 4294967296)] w fun e w'=>∃v',e=.returned v'/\BsS w' (New w w') v' (kN (ofW (z / 4294967296)))/\Below w.heap.size w w'):=Lib.hid (fun w=>by
    have h:=zw (ofW (z / 4294967296)) w
    have e:W32 (ofW (z / 4294967296))=Value.int .u32 (z / 4294967296):=by show Value.int .u32 (wv (ofW (z / 4294967296)))=_;rw [j70 (by omega) (by omega)]
    rwa [e]at h)
   have HY:=Lib.hid (fun w=>zw (ofW z) w)
   clear hp hlt hN hj hb
   go_wp2_with(first
    |(at_builtin;(with_reducible refine j5 rfl (.tmp 25) (.tmp 28) rfl w.heap.size v6 (qA l (zY l.length)++kN (ofW (z / 4294967296))) rfl HO7.out A7 4 c7 (kN (ofW z)) (New w6 w7) rfl HS7.out (by rw [List.length_append,HNN.out,kK,kK];have:=HN2.out;omega) HB7.out.size ?_);intro v8 w8 hG;rw [E.out]at hG;have HO8:=Lib.hid hG.1;have HB8:=Lib.hid (HB7.out.trans hG.2.1);clear hG)
    |(at_builtin;(with_reducible refine j5 rfl (.tmp 20) (.tmp 24) rfl w.heap.size (.slice A3 N c3) (qA l (zY l.length)) rfl HO5.out A5 4 c5 (kN (ofW (z / 4294967296))) (New wr w5) rfl HS5.out (by rw [HNN.out,kK];have:=HN2.out;omega) HB5.out.size ?_);intro v6 w6 hG;have HO6:=Lib.hid hG.1;have HB6:=Lib.hid (HB5.out.trans hG.2.1);clear hG)
    |(go_at_call 100;refine(HY.out w6).mono ?_;rintro e w7 ⟨v7,rfl,hs,hb⟩;obtain⟨A7,c7,rfl⟩:∃A c,v7=.slice A 4 c:=(by obtain⟨a,c,e,_⟩:=hs;exact⟨a,c,e⟩);have HS7:=Lib.hid hs;have HB7:=Lib.hid (HB6.out.trans (hb.mono HB6.out.size));have HO7:=Lib.hid (JJ HO6.out hb);clear hs hb)
    |(go_at_call 100;refine(HX.out wr).mono ?_;rintro e w5 ⟨v5,rfl,hs,hb⟩;obtain⟨A5,c5,rfl⟩:∃A c,v5=.slice A 4 c:=(by obtain⟨a,c,e,_⟩:=hs;exact⟨a,c,e⟩);have HS5:=Lib.hid hs;have HB5:=Lib.hid (HB.out.trans (hb.mono HB.out.size));have HO5:=Lib.hid (JJ HO.out hb);clear hs hb))
   go_ret
   exact⟨_,rfl,HO8.out,HB8.out⟩
theorem UV:
 Calls Tryz.prog 103 #[v] w fun e w'=>∃v',e=.returned v'/\OwnB w' w.heap.size v' (yk l)/\Below w.heap.size w w':=by
 obtain⟨A,n,c,rfl⟩:=hv.form
 obtain rfl:=Bs.lenEq hv
 have HV:=Lib.hid hv
 have HL:=Lib.hid hl
 have hl2:(l.length:Int)<=140737488355000:=by omega
 clear hv
 go_enter Tryz.func103,Tryz.ntmps103
 go_wp2_with(first
  |(at_builtin;(with_reducible refine j5 (w:=w1.alloc (.cells #[.int .u8 128] 5)) rfl (.tmp 7) (.tmp 8) rfl w.heap.size (.slice A1 l.length c1) l rfl (OwnB.alloc HO1.out _) (some ⟨w1.heap.size,0,none⟩) 1 1 [128] (New w1 (w1.alloc (.cells #[.int .u8 128] 5))) rfl (j47 w1) (by have:=HL.out;simp only [List.length_singleton];omega) (by have:=HB1.out.size;simp;omega) ?_);intro o2 w2 hG;obtain⟨A2,c2,ho2⟩:=hG.1.form;rw [List.length_append,List.length_singleton]at ho2;subst ho2;have HO2:=Lib.hid hG.1;have HB2:=Lib.hid ((HB1.out.alloc HB1.out.size (.cells #[.int .u8 128] 5)).trans hG.2.1);clear hG)
  |(at_builtin;(with_reducible refine j5 rfl (.const (.slice none 0 0)) (.tmp 6) rfl w.heap.size (.slice none 0 0) [] rfl (OwnB.nil _ _) A l.length c l _ rfl HV.out (by have:=HL.out;simp only [List.length_nil];omega) (Nat.le_refl _) ?_);intro o1 w1 hG;rw [List.nil_append]at hG;obtain⟨A1,c1,ho1⟩:=hG.1.form;subst ho1;have HO1:=Lib.hid hG.1;have HB1:=Lib.hid hG.2.1;clear hG))
 go_loopg [3] (zY l.length) (fun m ov wr=>∃(j N:Nat) (A c:_),j+m=zY l.length/\N=l.length+1+j/\ov=.slice A N c/\Hid (OwnB wr w.heap.size (.slice A N c) (qA l j))/\Below w.heap.size w wr)
 case atStart=>exact⟨0,l.length+1,A2,c2,by omega,rfl,rfl,Lib.hid (by unfold qA;simpa using HO2.out),HB2.out⟩
 case round=>
  obtain⟨j,N,A3,c3,hj,hN,rfl,HO,hb⟩:=hrel
  have HB:=Lib.hid hb
  have hsz:=hb.size
  have hp:zY l.length=(119 - l.length % 64) % 64:=rfl
  have hN2:N<=140737488355100:=by omega
  by_cases hlt:j<zY l.length
  ·have t1:((N:Int) % 64 != 56)=true:=by simp;omega
   have HNN:Hid ((qA l j).length=N):=Lib.hid (by rw [qX];exact hN.symm)
   have HN2:=Lib.hid hN2
   clear hp hb
   go_wp2_with(at_builtin;(with_reducible refine j5 (w:=wr.alloc (.cells #[.int .u8 0] 5)) rfl (.tmp 14) (.tmp 15) rfl w.heap.size (.slice A3 N c3) (qA l j) rfl (OwnB.alloc HO.out _) (some ⟨wr.heap.size,0,none⟩) 1 1 [0] (New wr (wr.alloc (.cells #[.int .u8 0] 5))) rfl (j00 wr) (by rw [HNN.out];have:=HN2.out;simp only [List.length_singleton];omega) (by have:=HB.out.size;simp;omega) ?_);intro o4 w4 hG;rw [<-KJ]at hG;obtain⟨A4,c4,ho4⟩:=hG.1.form;rw [qX]at ho4;subst ho4;have HO4:=Lib.hid hG.1;have HB4:=Lib.hid ((HB.out.alloc HB.out.size (.cells #[.int .u8 0] 5)).trans hG.2.1);clear hG)
   go_roundg (zY l.length - (j+1))
   case measure=>omega
   case rel=>exact⟨j+1,l.length+1+(j+1),A4,c4,by omega,rfl,rfl,HO4,HB4.out⟩
  ·obtain rfl:j=zY l.length:=by omega
   have t1:((N:Int) % 64 != 56)=false:=by simp;omega
   have HNN:Hid ((qA l (zY l.length)).length=N):=Lib.hid (by rw [qX];exact hN.symm)
   have HN2:=Lib.hid hN2
   obtain⟨z,hz⟩:∃z:Int,8*(l.length:Int)=z:=⟨_,rfl⟩
   have hz0:0<=z:=by omega
   have hz1:z<=1125899906840000:=by omega
   have E:Hid (qA l (zY l.length)++kG z=yk l):=Lib.hid (by rw [<-hz];rfl)
   obtain⟨wo,rfl⟩:∃wo:World,wo=wr:=⟨_,rfl⟩
   clear hp hlt hN hj hb
   go_wp2_with fail
   go_loopg [3,5] 8 (fun m ov iv wr=>∃(i M:Nat) (A c:_),i+m=8/\M=N+i/\ov=.slice A M c/\iv=.int .i64 (7 - (i:Int))/\Hid (OwnB wr w.heap.size (.slice A M c) (qA l (zY l.length)++(kG z).take i))/\Below w.heap.size w wr)
   case atStart=>exact⟨0,N,A3,c3,by omega,rfl,rfl,rfl,Lib.hid (by simpa using HO.out),HB.out⟩
   case round=>
    obtain⟨i,M,A4,c4,hi,hM,rfl,rfl,HO4,hb4⟩:=hrel
    have HB4:=Lib.hid hb4
    have hsz4:=hb4.size
    have hM2:M<=140737488355200:=by omega
    clear hb4
    by_cases hlt:i<8
    ·obtain⟨q,hq⟩:∃q:Nat,q+i=7:=⟨7 - i,by omega⟩
     have hqi:(7:Int) - i=q:=by omega
     have hqi2:(q:Int) - 1=7 - ((i+1:Nat):Int):=by omega
     have hq7:q<=7:=by omega
     have hq0:(0:Int)<=q:=by omega
     have HT:=Lib.hid (Uo z hq)
     have HMM:Hid ((qA l (zY l.length)++(kG z).take i).length=M):=Lib.hid (by
      have h:(kG z).length=8:=rfl
      rw [List.length_append,HNN.out,List.length_take,h];omega)
     have HM5:Hid ((qA l (zY l.length)++(kG z).take (i+1)).length=N+(i+1)):=Lib.hid (by
      have h:(kG z).length=8:=rfl
      rw [List.length_append,HNN.out,List.length_take,h];omega)
     have HM2:=Lib.hid hM2
     have HI2:=Lib.hid hqi2
     rw [hqi]
     clear hqi hqi2
     go_wp2_with(at_builtin;(with_reducible refine ji (w:=wr) rfl (.tmp 24) (.tmp 31) rfl w.heap.size (.slice A4 M c4) (qA l (zY l.length)++(kG z).take i) rfl HO4.out (ofI (z / 2 ^ (8*q))) 5 wr.heap.size rfl rfl (by rw [HMM.out];have:=HM2.out;omega) hsz4 ?_);intro o5 w5 hG;rw [List.append_assoc,<-HT.out]at hG;obtain⟨A5,c5,ho5⟩:=hG.1.form;rw [HM5.out]at ho5;subst ho5;have HO5:=Lib.hid hG.1;have HB5:=Lib.hid (HB4.out.trans hG.2.1);clear hG)
     go_roundg (8 - (i+1))
     case measure=>omega
     case rel=>exact⟨i+1,N+(i+1),A5,c5,by omega,rfl,rfl,by rw [<-HI2.out],HO5,HB5.out⟩
    ·obtain rfl:i=8:=by omega
     have hneg:decide ((7:Int) - ((8:Nat):Int)>=0)=false:=by decide
     have E3:Hid (qA l (zY l.length)++(kG z).take 8=yk l):=Lib.hid (by rw [<-E.out];rfl)
     rw [E3.out]at HO4
     clear hi hM
     go_wp2_with fail
     go_ret
     exact⟨_,rfl,HO4.out,HB4.out⟩
end
theorem XT(b:List UInt8):(yk b).length=b.length+1+zY b.length+8:=by simp [yk,kG];omega
def jd(k:Int):List UInt8:=[ofI (k / 16777216),ofI (k / 65536),ofI (k / 256),ofI k]
theorem VJ(k:Int)(w:World)(h0:0<=k)(h1:k<4294967296):Calls Tryz.prog 83 #[.int .i64 k] w fun e w'=>∃v',e=.returned v'/\BsS w' (New w w') v' (jd k)/\Below w.heap.size w w':=by
 go_enter Tryz.func83,Tryz.ntmps83
 go_wp2_with fail
 go_ret
 refine⟨_,rfl,?_,iA⟩
 have e:∀z:Int,Value.int .u8 (z % 256)=U8 (ofI z):=fun z=>jh z
 have e0:Value.int .u8 (k / 16777216)=U8 (ofI (k / 16777216)):=by rw [<-jh,Int.emod_eq_of_lt (by omega) (by omega)]
 rw [e0,e,e,e]
 exact Qs w (jd k) _ (by simp [jd]) _ rfl
theorem j48(w:World):(Instr.makeSlice 22 (.int .i64 4) (.int .i64 4)).run Tryz.prog w=.ok (.slice (some ⟨w.heap.size,0,none⟩) 4 4) (w.alloc (.cells #[.int .u8 0,.int .u8 0,.int .u8 0,.int .u8 0] 5)):=by kernel_rfl
def Qy(k:Int)(j:Nat):Array Value:=#[U8 (if 4<=j then ofI (k / 16777216)else 0),U8 (if 3<=j then ofI (k / 65536)else 0),U8 (if 2<=j then ofI (k / 256)else 0),U8 (if 1<=j then ofI k else 0)]
theorem kD{w:World}{g o:Nat}{C:Array Value}{t:TypeId}{f:Nat×Nat}{v:Value}(h:w.heap[g]?=some (.cells C t f)):(w.setCell ⟨g,o,none⟩ v).heap[g]?=some (.cells (C.set! o v) t f):=by
 unfold World.setCell
 simp [Array.getElem?_modify,h]
theorem YI(k:Int)(w:World)(h0:0<=k)(h1:k<4294967296):Calls Tryz.prog 101 #[.int .i64 k,.int .i64 4] w fun e w'=>∃v',e=.returned (.tuple #[v',.int .i64 0])/\BsS w' (New w w') v' (jd k)/\Below w.heap.size w w':=by
 have g1:decide (k<0)=false:=decide_eq_false (by omega)
 have g2:(k / 4294967296 != 0)=false:=by simp;omega
 have hm:=j48 w
 have hB0:Below w.heap.size w (w.alloc (.cells #[.int .u8 0,.int .u8 0,.int .u8 0,.int .u8 0] 5)):=iA
 have HB0:=iH hB0
 clear hB0
 go_enter Tryz.func101,Tryz.ntmps101
 go_wp2_with fail
 go_loopg [26] 4 (fun m i wr=>∃j n:Nat,n=m/\j+n=4/\i=.int .i64 j/\wr.heap[w.heap.size]?=some (.cells (Qy k j) 5 (0,0))/\Below w.heap.size w wr)
 case atStart=>exact⟨0,4,rfl,rfl,rfl,iN,HB0.out⟩
 case round=>
  obtain⟨j,n,rfl,hj,rfl,hr,hb⟩:=hrel
  have HB:=iH hb;have HR:=iH hr
  have hf:∀o,wr.frozen? ⟨w.heap.size,o,none⟩=false:=fun o=>by simp [World.frozen?,hr]
  have hc:∀o,o<4->wr.cell? ⟨w.heap.size,o,none⟩=(Qy k j)[o]? :=fun o ho=>by rw [cell_of_row _ _ _ _ _ _ hr]
  clear hr hb
  obtain rfl|rfl|rfl|rfl|rfl:j=0\/j=1\/j=2\/j=3\/j=4:=by omega
  ·obtain rfl:n=4:=by omega
   go_wp2_with fail
   go_roundg 3
   case measure=>omega
   case rel=>
    have hs:=kD (o:=3) (v:=.int .u8 (k % 256)) HR.out
    rw [show Value.int .u8 (k % 256)=U8 (ofI k) from jh k]at hs
    exact⟨1,3,rfl,rfl,rfl,hs,HB.out.setCell iL _⟩
  ·obtain rfl:n=3:=by omega
   go_wp2_with fail
   go_roundg 2
   case measure=>omega
   case rel=>
    have hs:=kD (o:=2) (v:=.int .u8 (k / 256 % 256)) HR.out
    rw [show Value.int .u8 (k / 256 % 256)=U8 (ofI (k / 256)) from jh (k / 256)]at hs
    exact⟨2,2,rfl,rfl,rfl,hs,HB.out.setCell iL _⟩
  ·obtain rfl:n=2:=by omega
   go_wp2_with fail
   go_roundg 1
   case measure=>omega
   case rel=>
    have hs:=kD (o:=1) (v:=.int .u8 (k / 65536 % 256)) HR.out
    rw [show Value.int .u8 (k / 65536 % 256)=U8 (ofI (k / 65536)) from jh (k / 65536)]at hs
    exact⟨3,1,rfl,rfl,rfl,hs,HB.out.setCell iL _⟩
  ·obtain rfl:n=1:=by omega
   go_wp2_with fail
   go_roundg 0
   case measure=>omega
   case rel=>
    have hs:=kD (o:=0) (v:=.int .u8 (k / 16777216)) HR.out
    rw [show(Qy k 3).set! 0 (.int .u8 (k / 16777216))=Qy k 4 by rw [show Value.int .u8 (k / 16777216)=U8 (ofI (k / 16777216))by rw [<-jh,Int.emod_eq_of_lt (by omega) (by omega)]]<;>rfl]at hs
    exact⟨4,0,rfl,rfl,rfl,hs,HB.out.setCell iL _⟩
  ·obtain rfl:n=0:=by omega
   go_wp2_with fail
   go_ret2
   refine⟨_,rfl,⟨_,_,rfl,Nat.le_refl _,by simp,by simp [jd],fun _=>⟨w.heap.size,0,rfl,⟨Nat.le_refl _,(iG HR.out)⟩,fun i hi=> ?_⟩⟩,HB.out⟩
   rw [Nat.zero_add,cell_of_row _ _ _ _ _ _ HR.out,<-Array.getElem?_toList,show(Qy k 4).toList=(jd k).map U8 from rfl]
   exact jK _ i hi
theorem Jd(va vb:Value)(a b:List UInt8)(S S':Nat->Prop)(w:World)(ha:BsS w S va a)(hb:BsS w S' vb b)(hl:a.length+b.length<=140737488355000):
 Calls Tryz.prog 64 #[va,vb] w fun e w'=>∃v',e=.returned v'/\OwnB w' w.heap.size v' (a++b)/\Below w.heap.size w w':=by
 obtain⟨A,n,c,rfl⟩:∃A n c,va=.slice A n c:=by obtain⟨a,c,e,_⟩:=ha;exact⟨_,_,_,e⟩
 obtain⟨B,m,d,rfl⟩:∃A n c,vb=.slice A n c:=by obtain⟨a,c,e,_⟩:=hb;exact⟨_,_,_,e⟩
 have HA:=iH ha;have HB:=iH hb;have HL:=iH hl
 clear ha hb
 go_enter Tryz.func64,Tryz.ntmps64
 go_wp2_with(first
  |(at_builtin;(with_reducible refine j5 rfl (.tmp 6) (.tmp 7) rfl w.heap.size v1 a rfl HO1.out B m d b (fun g=>S' g/\g<w.heap.size) rfl HB1.out (by have:=HL.out;omega) HBW.out.size ?_);intro v2 w2 hG;have HO2:=iH hG.1;have HB2:=iH (HBW.out.trans hG.2.1);clear hG)
  |(at_builtin;(with_reducible refine j5 rfl (.const (.slice none 0 0)) (.tmp 5) rfl w.heap.size (.slice none 0 0) [] rfl (OwnB.nil _ _) A n c a S rfl HA.out (by have:=HL.out;simp only [List.length_nil];omega) iL ?_);intro v1 w1 hG;rw [List.nil_append]at hG;have HO1:=iH hG.1;have HBW:=iH hG.2.1;have HB1:Hid (BsS w1 (fun g=>S' g/\g<w.heap.size) (.slice B m d) b):=iH (BsS.keep HB.out fun g hs hl=>⟨hG.2.1.block g hl,hs,hl⟩);clear hG))
 go_ret
 exact⟨_,rfl,HO2.out,HB2.out⟩
end Go.Proofs.YtalmmiojbmpmiaaGreatDoor
