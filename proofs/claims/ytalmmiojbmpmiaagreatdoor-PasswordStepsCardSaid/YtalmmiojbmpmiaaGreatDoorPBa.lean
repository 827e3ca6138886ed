/- Number of bytes, both sides; Layer 21: what is drawn from a seed; the group's small functions; Layer 21, plain: the group's prime: a power of any number (Fer... -/
import Derived.Test.YtalmmiojbmpmiaaGreatDoorPy
set_option linter.all false
set_option maxRecDepth 100000
set_option maxHeartbeats 4000000
namespace Go.Proofs.YtalmmiojbmpmiaaGreatDoor
open Go.RowKit Go.Deep
theorem mq{P:Prop}(h:P:=by
 go_ret2
 refine⟨_,by rw [R.out]<;>rfl,?_,HB2.out.trans (HB3.out.mono HB2.out.size)⟩
 rw [R.out]
 exact HS3.out.keep fun g hg _=>⟨rfl,Nat.le_trans HB2.out.size hg.1,hg.2⟩):P:=h
theorem m01{P:Prop}(h:P:=by
 go_enter Tryz.func51,Tryz.ntmps51
 go_upto_region 1 with fail
 rw [<-HW0.out]
 go_wp2_with(go_at_call 16;refine(zk kd sec A c w0 HKA.out HVA.out).mono ?_;rw [R0.out];rintro e w1 ⟨v1,rfl,hs,hb⟩;obtain⟨A1,c1,hv1⟩:=Bs.formL hs;subst hv1;have HS1:=iH hs;have HB1:=iH hb;clear hs hb)
 go_ret2
 exact EB.no0 R.out (HB0.out.trans (HB1.out.mono HB0.out.size))):P:=h
theorem m06{P:Prop}(h:P:=by
 go_upto_region 1 with fail
 rw [<-HW0.out]
 go_wp2_with(go_at_call 17;refine(qU kd sec A c w0 HKA.out HVA.out).mono ?_;rw [R0.out];rintro e w1 ⟨v1,rfl,hs,hb⟩;obtain⟨A1,c1,hv1⟩:=Bs.formL hs;subst hv1;have HS1:=iH hs;have HB1:=iH hb;clear hs hb)
 go_ret2
 exact EB.no0 R.out (HB0.out.trans (HB1.out.mono HB0.out.size))):P:=h
theorem m0e{P:Prop}(h:P:=by
 go_ret2
 exact EB.no0 R.out (HB0.out.trans (HB1.out.mono HB0.out.size))):P:=h
theorem m0f{P:Prop}(h:P:=by
 have R:Hid (Ku out kd sec b=(2,[])):=iH ((iF (by rw [hp];simp)).trans (iT hl))
 have t1:((b.length:Int) != 16)=true:=by simp;omega
 clear hp hl
 go_enter Tryz.func51,Tryz.ntmps51
 go_upto_region 1 with fail
 rw [<-HW0.out]
 go_wp2_with(go_at_call 16;refine(zk kd sec A c w0 HKA.out HVA.out).mono ?_;rw [R0.out];rintro e w1 ⟨v1,rfl,hs,hb⟩;obtain⟨A1,c1,hv1⟩:=Bs.formL hs;subst hv1;have HS1:=iH hs;have HB1:=iH hb;clear hs hb)
 go_ret2
 exact EB.no0 R.out (HB0.out.trans (HB1.out.mono HB0.out.size))):P:=h
theorem m0y{P:Prop}(h:P:=by
 rintro e w3 ⟨v3,rfl,hs3,hb3⟩
 obtain⟨A3,c3,hv3⟩:=Bs.formL hs3
 rw [je]at hv3
 subst hv3
 refine hK _ _ (hJ.trans (hb3.mono hJ.size)) hb3 ⟨_,_,rfl,?_,trivial⟩
 exact hs3.keep fun g hg _=>⟨rfl,Nat.le_trans hb.out.size (Nat.le_trans hJ.size hg.1),hg.2⟩):P:=h
theorem m15{P:Prop}(h:P:=by
 have HE:=iH hb
 clear hb hz h4
 go_enter Tryz.func126,Tryz.ntmps126
 go_wp2_with(first
  |(go_at_call 115;refine iR (kj (z:Int) w) ?_;rw [HE.out])
  |(go_at_call 118;refine iR (qY l _ _ w HV.out) ?_;rw [HQ.out]))
 go_ret2
 rw [E.out]
 exact⟨rfl,rfl⟩):P:=h
theorem m17{P:Prop}(h:P:=by
 have HE:=iH hb
 clear hb hz h4
 go_enter Tryz.func81,Tryz.ntmps81
 go_wp2_with(first
  |(go_at_call 29;refine iR (jK (z:Int) w) ?_;rw [HE.out])
  |(go_at_call 120;refine iR (zL l _ _ w HV.out) ?_;rw [HQ.out]))
 go_ret2
 rw [E.out]
 exact⟨rfl,rfl⟩):P:=h
theorem m1g{P:Prop}(h:P:=by
 subst h0
 have hj':j=l.length:=by omega
 have HXE:Hid ((X:Int)=zy l):=iH (by have:=hX.out;rwa [hj',List.take_length]at this)
 subst hj'
 clear hX
 go_wp2_with fail
 go_ret2
 rw [HXE.out]
 exact⟨rfl,rfl⟩):P:=h
theorem m1n{P:Prop}(h:P:=by
 obtain⟨a',c',e,_,_,_,h4⟩:=HV.out
 injection e with e1 e2 e3
 subst e1
 obtain⟨b,off,e2,_,hc⟩:=h4 (by omega)
 exact⟨b,off,e2,by rw [hy];exact hc j hlt⟩):P:=h
theorem m1w{P:Prop}(h:P:=by
 go_simp
 refine hK _ _ (hJ.alloc hJ.size _) (ju _ _) ⟨_,rfl,?_⟩
 exact((j58 w1 0 iL).out (by decide) w1 iL).keep fun g hg _=>⟨rfl,hg.2⟩):P:=h
theorem m24{P:Prop}(h:P:=by
 go_wp2_with fail
 go_ret3
 exact⟨_,_,_,_,rfl,HCUT.out _ (HSW.out _ HJ.out),HS9.out,hb.out.trans (HJ.out.mono hb.out.size)⟩):P:=h
theorem m28{P:Prop}(h:P:=by
 go_roundg 0
 case measure=>omega
 case rel=>exact⟨_,32,1,_,rfl,rfl,.inr ⟨rfl,rfl,rfl,HC4.out.1,HC4.out.2,HS4,HB4⟩⟩):P:=h
theorem m2s{P:Prop}(h:P:=by
 simp only [hD]at hK |-
 go_simp
 try rw [iT (show n<=c2 by omega)]
 exact hK _ _ hJ iB rfl):P:=h
theorem j3c(n b:Nat)(hn:n<36028797018963968)(hb:b<256):bits .or .i64 ((n:Int)*256) (b:Int)=(n:Int)*256+b:=by
 exact m0d
theorem JZ{l:List UInt8}{j:Nat}(h:j<l.length):zy (l.take (j+1))=zy (l.take j)*256+bv (gb l j):=by
 unfold zy
 rw [List.take_succ_eq_append_getElem h,List.foldl_append]
 simp [gb,h]
 omega
theorem QM(l:List UInt8):∀j,j<=l.length->0<=zy (l.take j)/\zy (l.take j)<256 ^ j:=by
 intro j
 induction j with
 |zero=>intro _;exact⟨Int.le_refl _,show(0:Int)<1 by decide⟩
 |succ j ih=>
  intro h
  have:=ih (by omega)
  have b0:=jR (gb l j);have b1:=jW (gb l j)
  rw [JZ (by omega),Int.pow_succ]
  omega
def zx(l:List UInt8):Int×Int:=if 7<l.length then(0,2)else(zy l,0)
section
variable(l:List UInt8)(v:Value)(S:Nat->Prop)(w:World)(hv:BsS w S v l)
include l v S w hv
theorem qY:Calls Tryz.prog 118 #[v] w fun e w'=>e=.returned (.tuple #[.int .i64 (zx l).1,.int .i64 (zx l).2])/\w'=w:=by
 obtain⟨a,c,rfl⟩:=hv.form2
 have hll:=hv.len
 have HV:=iH hv
 clear hv
 by_cases h7:7<l.length
 ·have E:Hid (zx l=(0,2)):=by show _=_;unfold zx;rw [iT h7]
  rw [E.out]
  go_enter Tryz.func118,Tryz.ntmps118
  go_wp2_with fail
  go_ret2
  exact⟨rfl,rfl⟩
 ·have E:Hid (zx l=(zy l,0)):=by show _=_;unfold zx;rw [iF h7]
  rw [E.out]
  clear E
  go_enter Tryz.func118,Tryz.ntmps118
  go_wp2_with fail
  go_loopg [12,4] l.length (fun m i n wr=>∃j X r:Nat,r=m/\j+r=l.length/\i=.int .i64 j/\n=.int .i64 X/\Hid ((X:Int)=zy (l.take j))/\wr=w)
  case atStart=>exact⟨0,0,l.length,rfl,by omega,rfl,rfl,iH rfl,rfl⟩
  case round=>
   obtain⟨j,X,m,rfl,hj,rfl,rfl,hX,rfl⟩:=hrel
   rcases Nat.eq_zero_or_pos m with h0|h0
   ·exact m1g
   ·obtain⟨m,rfl⟩:∃k,m=k+1:=⟨m - 1,by omega⟩
    have hlt:j<l.length:=by omega
    have hin:=QM l j (by omega)
    have hxb:(X:Int)<256 ^ j:=by rw [hX.out];exact hin.2
    have hp:(256:Int) ^ j<=256 ^ 6:=by exact_mod_cast Nat.pow_le_pow_right (by decide) (show j<=6 by omega)
    have hx6:X<281474976710656:=by have:(256:Int) ^ 6=281474976710656:=by decide
                                   omega
    obtain⟨y,hy⟩:∃y:Nat,y=(gb l j).toNat:=⟨_,rfl⟩
    have hyl:y<256:=by rw [hy];exact UInt8.toNat_lt _
    have q1:∃b off,a=some ⟨b,off,none⟩/\wr.cell? ⟨b,off+j,none⟩=some (.int .u8 (y:Int)):=by
     exact m1n
    obtain⟨b,off,rfl,q2⟩:=q1
    have o1:=j3c X y (by omega) hyl
    have HN:Hid (((X*256+y:Nat):Int)=zy (l.take (j+1))):=iH (by rw [JZ hlt,<-hX.out];show _=_+((gb l j).toNat:Int);rw [<-hy];omega)
    clear hX hin hxb hp hy
    go_wp2_with fail
    go_roundg m
    case measure=>omega
    case rel=>exact⟨j+1,X*256+y,m,rfl,by omega,by go_num,by first|rfl|(congr 1),HN,rfl⟩
theorem zL:Calls Tryz.prog 120 #[v] w fun e w'=>e=.returned (.tuple #[.int .i64 (zx l).1,.int .i64 (zx l).2])/\w'=w:=by
 obtain⟨a,c,rfl⟩:=hv.form2
 have hll:=hv.len
 have HV:=iH hv
 clear hv
 by_cases h7:7<l.length
 ·have E:Hid (zx l=(0,2)):=by show _=_;unfold zx;rw [iT h7]
  rw [E.out]
  go_enter Tryz.func120,Tryz.ntmps120
  go_wp2_with fail
  go_ret2
  exact⟨rfl,rfl⟩
 ·have E:Hid (zx l=(zy l,0)):=by show _=_;unfold zx;rw [iF h7]
  rw [E.out]
  clear E
  go_enter Tryz.func120,Tryz.ntmps120
  go_wp2_with fail
  go_loopg [5,4] l.length (fun m i n wr=>∃j X r:Nat,r=m/\j+r=l.length/\i=.int .i64 j/\n=.int .i64 X/\Hid ((X:Int)=zy (l.take j))/\wr=w)
  case atStart=>exact⟨0,0,l.length,rfl,by omega,rfl,rfl,iH rfl,rfl⟩
  case round=>
   obtain⟨j,X,m,rfl,hj,rfl,rfl,hX,rfl⟩:=hrel
   rcases Nat.eq_zero_or_pos m with h0|h0
   ·exact m1g
   ·obtain⟨m,rfl⟩:∃k,m=k+1:=⟨m - 1,by omega⟩
    have hlt:j<l.length:=by omega
    have hin:=QM l j (by omega)
    have hxb:(X:Int)<256 ^ j:=by rw [hX.out];exact hin.2
    have hp:(256:Int) ^ j<=256 ^ 6:=by exact_mod_cast Nat.pow_le_pow_right (by decide) (show j<=6 by omega)
    have hx6:X<281474976710656:=by have:(256:Int) ^ 6=281474976710656:=by decide
                                   omega
    obtain⟨y,hy⟩:∃y:Nat,y=(gb l j).toNat:=⟨_,rfl⟩
    have hyl:y<256:=by rw [hy];exact UInt8.toNat_lt _
    have q1:∃b off,a=some ⟨b,off,none⟩/\wr.cell? ⟨b,off+j,none⟩=some (.int .u8 (y:Int)):=by
     exact m1n
    obtain⟨b,off,rfl,q2⟩:=q1
    have HN:Hid (((X*256+y:Nat):Int)=zy (l.take (j+1))):=iH (by rw [JZ hlt,<-hX.out];show _=_+((gb l j).toNat:Int);rw [<-hy];omega)
    clear hX hin hxb hp hy
    go_wp2_with fail
    go_roundg m
    case measure=>omega
    case rel=>exact⟨j+1,X*256+y,m,rfl,by omega,by go_num,by congr 1;omega,HN,rfl⟩
end
theorem j58(w:World)(x:UInt8){base:Nat}(h:base<=w.heap.size):OwnB (w.alloc (.cells #[U8 x] 5)) base (.slice (some ⟨w.heap.size,0,none⟩) 1 1) [x]:=
 ⟨rfl,.inr ⟨w.heap.size,1,#[U8 x],rfl,h,iN,Nat.le_refl _,by decide,rfl,rfl⟩⟩
theorem ju(w:World)(o:Obj):Below w.heap.size w (w.alloc o):=iA
theorem j7j(w:World){base:Nat}(h:base<=w.heap.size):OwnB (w.alloc (.cells #[.int .u8 1] 5)) base (.slice (some ⟨w.heap.size,0,none⟩) 1 1) [1]:=j58 w 1 h
theorem j7k{w:World}{b:Nat}{base:Nat}(h:w.heap[b]?=some (.cells #[.int .u8 1] 5 (0,0)))(hb:base<=b):OwnB w base (.slice (some ⟨b,0,none⟩) 1 1) [1]:=
 ⟨rfl,.inr ⟨b,1,#[U8 1],rfl,hb,h,Nat.le_refl _,by decide,rfl,rfl⟩⟩
def Vq(n:Nat)(a b:List UInt8)(w:World)(e:Ending)(w':World):Prop:=∃A c B d,e=.returned (.tuple #[.slice A n c,.slice B 32 d,.int .i64 0])/\BsS w' (New w w') (.slice A n c) a/\BsS w' (New w w') (.slice B 32 d) b/\Below w.heap.size w w'
section
variable(n:Nat)(h1:1<=n)(h2:n<=32)(v:Value)(s:List UInt8)(w:World)
include n h1 h2 v s w
theorem QB(hK:KD w)(hv:Bs w w.heap.size v s)(hl:s.length<=140737488354000):
 Calls Tryz.prog 125 #[v,.int .i64 n] w (Vq n (js s n) (sdW s) w):=by
 obtain⟨A,c,rfl⟩:=Bs.formL hv
 have HV:=iH hv;have HK:=iH hK;have HL:=iH hl
 clear hv hK hl
 have g1:decide ((n:Int)<0)=false:=decide_eq_false (by omega)
 have g2:decide ((n:Int)>1024)=false:=decide_eq_false (by omega)
 go_enter Tryz.func125,Tryz.ntmps125
 go_wp2_with fail
 go_loopg [4,7] 1 (fun m ov iv wr=>∃(A:Option Addr) (k i c:Nat),ov=.slice A k c/\iv=.int .i64 i/\((m=1/\i=0/\k=0/\A=none/\c=0/\w=wr)\/(m=0/\i=1/\k=32/\32<=c/\c<=9223372036854775807/\Hid (BsS wr (New w wr) (.slice A 32 c) (xz (s++ [1,0,0,0,0])))/\Hid (Below w.heap.size w wr))))
 case atStart=>exact⟨none,0,0,0,rfl,rfl,.inl ⟨rfl,rfl,rfl,rfl,rfl,rfl⟩⟩
 case round=>
  obtain⟨A2,k,i,c2,rfl,rfl,⟨rfl,rfl,rfl,rfl,rfl,rfl⟩|⟨rfl,rfl,rfl,hc,hc9,hs,hb⟩⟩:=hrel
  ·have e0:decide (((0:Nat):Int)<(n:Int))=true:=decide_eq_true (by omega)
   go_wp2_with(first
    |(go_at_call 102;refine(Xq _ _ s [1,0,0,0,0] w2 (HK.out.below HB2.out HK.out.lt) (HV.out.lift HB2.out) HS2.out (by have:=HL.out;simp only [List.length_cons,List.length_nil];omega)).mono ?_;rintro e w3 ⟨v3,rfl,hs3,hb3⟩;obtain⟨A3,c3,hv3⟩:=Bs.formL hs3;rw [je]at hv3;subst hv3;have HS3:Hid (Bs w3 w3.heap.size (.slice A3 32 c3) (xz (s++ [1,0,0,0,0]))):=iH (BsS.keep hs3 fun g hg _=>⟨rfl,hg.2⟩);have HB3:=iH (HB2.out.trans (hb3.mono HB2.out.size));clear hs3 hb3)
    |(go_at_call 101;refine(YR 0 w (by omega) (by omega)).mono ?_;rintro e w1 ⟨v1,rfl,hs1,hb1⟩;obtain⟨A1,c1,hv1⟩:=Bs.formL hs1;have hv1:v1=.slice A1 4 c1:=hv1;subst hv1;have HS1:Hid (Bs w1 w1.heap.size (.slice A1 4 c1) (jc 0)):=iH (BsS.keep hs1 fun g hg _=>⟨rfl,hg.2⟩);have HB1:=iH hb1;have HL1:Hid (Below w1.heap.size w1 (w1.alloc (.cells #[.int .u8 1] 5))):=iH (ju _ _);clear hs1 hb1)
    |(at_builtin;(with_reducible refine j5 rfl (.tmp 29) (.tmp 30) rfl w.heap.size (.slice (some ⟨w1.heap.size,0,none⟩) 1 1) [1] rfl (j7j w1 HB1.out.size) A1 4 c1 (jc 0) (·<(w1.alloc (.cells #[.int .u8 1] 5)).heap.size) rfl (HS1.out.lift HL1.out) (by simp [jc]) (Nat.le_trans HB1.out.size HL1.out.size) ?_);intro v2 w2 hgr;obtain⟨A2,c2,hv2⟩:=hgr.1.form;rw [show([1]++jc 0)= [1,0,0,0,0]by decide]at hgr hv2;subst hv2;have HB2:=iH ((HB1.out.trans (HL1.out.mono HB1.out.size)).trans hgr.2.1);have HS2:Hid (Bs w2 w2.heap.size (.slice A2 5 c2) [1,0,0,0,0]):=iH ((hgr.1.out (by decide) w iL).keep fun g hg _=>⟨rfl,hg.2⟩);clear hgr)
    |(at_builtin;(with_reducible refine j5 rfl (.tmp 27) (.tmp 32) rfl w.heap.size (.slice none 0 0) [] rfl (OwnB.nil _ _) A3 32 c3 (xz (s++ [1,0,0,0,0])) (·<w3.heap.size) rfl HS3.out (by rw [je];simp) HB3.out.size ?_);intro v4 w4 hgr;rw [List.nil_append]at hgr;obtain⟨A4,c4,hv4⟩:=hgr.1.form;rw [je]at hv4;subst hv4;have hs4:=hgr.1.out (by rw [je];omega) w iL;have HS4:=iH hs4;have HC4:Hid (32<=c4/\c4<=9223372036854775807):=iH (by obtain⟨a,c',e,q1,q2,_⟩:=hs4;rw [je]at e q1;obtain⟨_,_,hc⟩:=Value.slice.inj e;omega);have HB4:=iH (HB3.out.trans hgr.2.1);clear hgr hs4))
   exact m28
  ·obtain⟨wa,rfl⟩:∃wa:World,wa=wr:=⟨_,rfl⟩
   have e0:decide (((32:Nat):Int)<(n:Int))=false:=decide_eq_false (by omega)
   go_upto_region 8 with fail
   have HVW:=iH (fun(W:World) (h:Below wa.heap.size wa W)=>HV.out.lift (hb.out.trans (h.mono hb.out.size)))
   have HSW:=iH (fun(W:World) (h:Below wa.heap.size wa W)=>(BsS.keep hs.out (w':=W) (S':=New w W) fun g hg hl=>⟨h.block g hl,hg.1,iZ hl h.size⟩))
   have HKW:=iH (fun(W:World) (h:Below wa.heap.size wa W)=>HK.out.below (hb.out.trans (h.mono hb.out.size)) HK.out.lt)
   have HCUT:=iH (fun(W:World) (h:BsS W (New w W) (.slice A2 32 c2) (xz (s++ [1,0,0,0,0])))=>(BsS.cut h (k:=n) (d:=n) (by rw [je];omega) (by omega) (by omega):BsS W (New w W) (.slice A2 n n) (js s n)))
   clear hs
   refine j9 7 [some 34,some 35,some 36,some 37,some 38,some 39,some 40] [[],[],[],[0,1,2],[],[],[4,5]]
    (fun _ _ w1=>Below wa.heap.size wa w1) (fun w1 w2=>Below w1.heap.size w1 w2)
    [.v (.slice A2 32 c2),
     .v (.int .i64 n),
     .v (.int .i64 n),
     .v (.slice A2 n n),
     .v (.slice A s.length c),
     .p (fun v w1=>∃g,v 5=.slice (some ⟨g,0,none⟩) 1 1/\Bs w1 w1.heap.size (.slice (some ⟨g,0,none⟩) 1 1) [0]) (fun _ _ _ _ _ hr ⟨g,h1,h2⟩=>⟨g,h1,h2.lift hr⟩),
     .p (fun v w1=>∃B d,v 6=.slice B 32 d/\BsS w1 (New w w1) (.slice B 32 d) (sdW s)/\True) (fun _ _ _ _ _ hr ⟨B,d,h1,h2,h3⟩=>⟨B,d,h1,h2.keep fun g hg hl=>⟨hr.block g hl,hg.1,iZ hl hr.size⟩,h3⟩)]
    (by kernel_rfl) (by kernel_rfl) rfl (fun _=>iB.drew) ?steps ?tail
   case steps=>
    simp only [List.take_succ_cons,List.take_zero]
    repeat' (with_reducible first|exact StepsRG.nil|refine StepsRG.cons ?_ ?_)
    all_goals(intro L v w1 hJ hL hF hD K hK;simp only [jb,Act.put,Nat.zero_add,Nat.reduceAdd,List.setIfInBounds_toArray,List.set_cons_zero,List.set_cons_succ,↓jP,List.getD_cons_zero,List.getD_cons_succ,Nat.reduceEqDiff,↓reduceIte]at hD hK |-)
    all_goals try((try simp only [hD]at hK |-);go_simp;refine hK _ _ hJ iB ?_;first|exact rfl|exact jf _)
    ·exact m2s
    ·exact m1w
    ·simp only [hD]at hK |-
     obtain⟨g,e5,hz⟩:∃g,v 5=_/\_:=hF 5 (by simp)
     simp only [e5]at hK |-
     go_simp
     refine(Xq _ _ s [0] w1 (HKW.out _ hJ) (HVW.out _ hJ) hz (by have:=HL.out;simp only [List.length_cons,List.length_nil];omega)).mono ?_
     exact m0y
   case tail=>
    intro v w1 hJ hF hD
    simp only [jZ]at hD
    obtain⟨e0,e1,e2,e3,e4, -⟩:=hD
    simp only [List.drop_succ_cons,List.drop_zero,jb,Act.put,Nat.zero_add,Nat.reduceAdd,List.setIfInBounds_toArray,List.set_cons_zero,List.set_cons_succ]
    obtain⟨B,d,e9,hs9,hb9⟩:∃B d,v 6=.slice B 32 d/\BsS w1 (New w w1) (.slice B 32 d) (sdW s)/\True:=hF 6 (by simp)
    simp only [e0,e1,e2,e3,e4,e9]
    have HB9:=iH hb9;have HS9:=iH hs9;have HJ:=iH hJ
    clear hJ hF hb9 hs9 e9 e0 e1 e2 e3 e4
    exact m24
theorem Zc(hK:KR w)(hv:Bs w w.heap.size v s)(hl:s.length<=140737488354000):
 Calls Tryz.prog 80 #[v,.int .i64 n] w (Vq n (js s n) (sdW s) w):=by
 obtain⟨A,c,rfl⟩:=Bs.formL hv
 have HV:=iH hv;have HK:=iH hK;have HL:=iH hl
 clear hv hK hl
 have g1:decide ((n:Int)<0)=false:=decide_eq_false (by omega)
 have g2:decide ((n:Int)>1024)=false:=decide_eq_false (by omega)
 go_enter Tryz.func80,Tryz.ntmps80
 go_wp2_with fail
 go_loopg [7,8] 1 (fun m ov iv wr=>∃(A:Option Addr) (k i c:Nat),ov=.slice A k c/\iv=.int .i64 i/\((m=1/\i=0/\k=0/\A=none/\c=0/\w=wr)\/(m=0/\i=1/\k=32/\32<=c/\c<=9223372036854775807/\Hid (BsS wr (New w wr) (.slice A 32 c) (xz (s++ [1,0,0,0,0])))/\Hid (Below w.heap.size w wr))))
 case atStart=>exact⟨none,0,0,0,rfl,rfl,.inl ⟨rfl,rfl,rfl,rfl,rfl,rfl⟩⟩
 case round=>
  obtain⟨A2,k,i,c2,rfl,rfl,⟨rfl,rfl,rfl,rfl,rfl,rfl⟩|⟨rfl,rfl,rfl,hc,hc9,hs,hb⟩⟩:=hrel
  ·have e0:decide (((0:Nat):Int)<(n:Int))=true:=decide_eq_true (by omega)
   go_wp2_with(first
    |(go_at_call 49;refine(yx _ (s++ [1,0,0,0,0]) (by have:=HL.out;rw [List.length_append];simp only [List.length_cons,List.length_nil];omega) w5 (HK.out.below HB5.out HK.out.lt) HS5.out).mono ?_;rintro e w3 ⟨v3,rfl,hs3,hb3⟩;obtain⟨A3,c3,hv3⟩:=Bs.formL hs3;rw [je]at hv3;subst hv3;have HS3:Hid (Bs w3 w3.heap.size (.slice A3 32 c3) (xz (s++ [1,0,0,0,0]))):=iH (BsS.keep hs3 fun g hg _=>⟨rfl,hg.2⟩);have HB3:=iH (HB5.out.trans (hb3.mono HB5.out.size));clear hs3 hb3)
    |(go_at_call 64;refine(Jt _ _ s [1,0,0,0,0] _ _ w2 (HV.out.lift HB2.out) HS2.out (by have:=HL.out;simp only [List.length_cons,List.length_nil];omega)).mono ?_;rintro e w5 ⟨v5,rfl,ho,hb5⟩;have HS5:Hid (Bs w5 w5.heap.size v5 (s++ [1,0,0,0,0])):=iH (ho.bs (by have:=HL.out;rw [List.length_append];simp only [List.length_cons,List.length_nil];omega));have HB5:=iH (HB2.out.trans (hb5.mono HB2.out.size));clear ho hb5)
    |(go_at_call 83;refine(VT 0 _ (by omega) (by omega)).mono ?_;rintro e w1 ⟨v1,rfl,hs1,hb1⟩;obtain⟨A1,c1,hv1⟩:=Bs.formL hs1;have hv1:v1=.slice A1 4 c1:=hv1;subst hv1;have HS1:Hid (Bs w1 w1.heap.size (.slice A1 4 c1) (jc 0)):=iH (BsS.keep hs1 fun g hg _=>⟨rfl,hg.2⟩);have HB1:=iH ((ju _ _).trans (hb1.mono (ju _ _).size));have HR1:=iH ((hb1.block w.heap.size (by simp)).trans (iN));clear hs1 hb1)
    |(at_builtin;(with_reducible refine j5 rfl (.tmp 23) (.tmp 25) rfl w.heap.size (.slice (some ⟨w.heap.size,0,none⟩) 1 1) [1] rfl (j7k HR1.out iL) A1 4 c1 (jc 0) (·<w1.heap.size) rfl HS1.out (by simp [jc]) HB1.out.size ?_);intro v2 w2 hgr;obtain⟨A2,c2,hv2⟩:=hgr.1.form;rw [show([1]++jc 0)= [1,0,0,0,0]by decide]at hgr hv2;subst hv2;have HB2:=iH (HB1.out.trans hgr.2.1);have HS2:Hid (Bs w2 w2.heap.size (.slice A2 5 c2) [1,0,0,0,0]):=iH ((hgr.1.out (by decide) w iL).keep fun g hg _=>⟨rfl,hg.2⟩);clear hgr)
    |(at_builtin;(with_reducible refine j5 rfl (.tmp 21) (.tmp 28) rfl w.heap.size (.slice none 0 0) [] rfl (OwnB.nil _ _) A3 32 c3 (xz (s++ [1,0,0,0,0])) (·<w3.heap.size) rfl HS3.out (by rw [je];simp) HB3.out.size ?_);intro v4 w4 hgr;rw [List.nil_append]at hgr;obtain⟨A4,c4,hv4⟩:=hgr.1.form;rw [je]at hv4;subst hv4;have hs4:=hgr.1.out (by rw [je];omega) w iL;have HS4:=iH hs4;have HC4:Hid (32<=c4/\c4<=9223372036854775807):=iH (by obtain⟨a,c',e,q1,q2,_⟩:=hs4;rw [je]at e q1;obtain⟨_,_,hc⟩:=Value.slice.inj e;omega);have HB4:=iH (HB3.out.trans hgr.2.1);clear hgr hs4))
   exact m28
  ·obtain⟨wa,rfl⟩:∃wa:World,wa=wr:=⟨_,rfl⟩
   have e0:decide (((32:Nat):Int)<(n:Int))=false:=decide_eq_false (by omega)
   go_upto_region 8 with fail
   have HVW:=iH (fun(W:World) (h:Below wa.heap.size wa W)=>HV.out.lift (hb.out.trans (h.mono hb.out.size)))
   have HSW:=iH (fun(W:World) (h:Below wa.heap.size wa W)=>(BsS.keep hs.out (w':=W) (S':=New w W) fun g hg hl=>⟨h.block g hl,hg.1,iZ hl h.size⟩))
   have HKW:=iH (fun(W:World) (h:Below wa.heap.size wa W)=>HK.out.below (hb.out.trans (h.mono hb.out.size)) HK.out.lt)
   have HCUT:=iH (fun(W:World) (h:BsS W (New w W) (.slice A2 32 c2) (xz (s++ [1,0,0,0,0])))=>(BsS.cut h (k:=n) (d:=c2) (by rw [je];omega) (by omega) (by omega):BsS W (New w W) (.slice A2 n c2) (js s n)))
   clear hs
   refine j9 7 [some 30,some 31,some 32,some 33,some 34,some 35,some 36] [[],[],[0,1],[],[],[3,4],[3,4,5]]
    (fun _ _ w1=>Below wa.heap.size wa w1) (fun w1 w2=>Below w1.heap.size w1 w2)
    [.v (.slice A2 32 c2),
     .v (.int .i64 n),
     .v (.slice A2 n c2),
     .v (.slice A s.length c),
     .p (fun v w1=>∃g,v 4=.slice (some ⟨g,0,none⟩) 1 1/\Bs w1 w1.heap.size (.slice (some ⟨g,0,none⟩) 1 1) [0]) (fun _ _ _ _ _ hr ⟨g,h1,h2⟩=>⟨g,h1,h2.lift hr⟩),
     .p (fun v w1=>∃u,v 5=u/\Bs w1 w1.heap.size u (s++ [0])) (fun _ _ _ _ _ hr ⟨u,h1,h2⟩=>⟨u,h1,h2.lift hr⟩),
     .p (fun v w1=>∃B d,v 6=.slice B 32 d/\BsS w1 (New w w1) (.slice B 32 d) (sdW s)/\True) (fun _ _ _ _ _ hr ⟨B,d,h1,h2,h3⟩=>⟨B,d,h1,h2.keep fun g hg hl=>⟨hr.block g hl,hg.1,iZ hl hr.size⟩,h3⟩)]
    (by kernel_rfl) (by kernel_rfl) rfl (fun _=>iB.drew) ?steps ?tail
   case steps=>
    simp only [List.take_succ_cons,List.take_zero]
    repeat' (with_reducible first|exact StepsRG.nil|refine StepsRG.cons ?_ ?_)
    all_goals(intro L v w1 hJ hL hF hD K hK;simp only [jb,Act.put,Nat.zero_add,Nat.reduceAdd,List.setIfInBounds_toArray,List.set_cons_zero,List.set_cons_succ,↓jP,List.getD_cons_zero,List.getD_cons_succ,Nat.reduceEqDiff,↓reduceIte]at hD hK |-)
    all_goals try((try simp only [hD]at hK |-);go_simp;refine hK _ _ hJ iB ?_;first|exact rfl|exact jf _)
    ·exact m2s
    ·exact m1w
    ·simp only [hD]at hK |-
     obtain⟨g,e4,hz⟩:∃g,v 4=_/\_:=hF 4 (by simp)
     simp only [e4]at hK |-
     go_simp
     refine(Jt _ _ s [0] _ _ w1 (HVW.out _ hJ) hz (by have:=HL.out;simp only [List.length_cons,List.length_nil];omega)).mono ?_
     rintro e w3 ⟨v3,rfl,ho,hb3⟩
     refine hK _ _ (hJ.trans (hb3.mono hJ.size)) hb3 ⟨_,rfl,?_⟩
     exact ho.bs (by have:=HL.out;rw [List.length_append];simp only [List.length_cons,List.length_nil];omega)
    ·simp only [hD]at hK |-
     obtain⟨u,e5,hz⟩:∃u,v 5=_/\_:=hF 5 (by simp)
     simp only [e5]at hK |-
     go_simp
     refine(yx _ (s++ [0]) (by have:=HL.out;rw [List.length_append];simp only [List.length_cons,List.length_nil];omega) w1 (HKW.out _ hJ) hz).mono ?_
     exact m0y
   case tail=>
    intro v w1 hJ hF hD
    simp only [jZ]at hD
    obtain⟨e0,e1,e2,e3, -⟩:=hD
    simp only [List.drop_succ_cons,List.drop_zero,jb,Act.put,Nat.zero_add,Nat.reduceAdd,List.setIfInBounds_toArray,List.set_cons_zero,List.set_cons_succ]
    obtain⟨B,d,e9,hs9,hb9⟩:∃B d,v 6=.slice B 32 d/\BsS w1 (New w w1) (.slice B 32 d) (sdW s)/\True:=hF 6 (by simp)
    simp only [e0,e1,e2,e3,e9]
    have HB9:=iH hb9;have HS9:=iH hs9;have HJ:=iH hJ
    clear hJ hF hb9 hs9 e9 e0 e1 e2 e3
    exact m24
end
theorem j5b(l:List UInt8)(h:7<=l.length):∃z:Nat,zy (l.take 7)=z/\z<72057594037927936/\zx (l.take 7)=((z:Int),0):=by
 have hn:=QM l 7 h
 refine⟨(zy (l.take 7)).toNat,by omega,by omega,?_⟩
 unfold zx
 rw [iF (by rw [List.length_take];omega)]
 congr 1
 omega
theorem X6(z m:Nat):(z:Int).tmod m=((z % m:Nat):Int):=by rw [Int.tmod_eq_emod_of_nonneg (by omega)]<;>rfl
def KI(s:List UInt8)(w:World)(e:Ending)(w':World):Prop:=∃B d,e=.returned (.tuple #[.int .i64 (jY s),.slice B 32 d])/\BsS w' (New w w') (.slice B 32 d) (sdW s)/\Below w.heap.size w w'
theorem yu(l:List UInt8)(h:7<=l.length)(m:Nat)(hm:0<m)(hm2:m<=9223372036854775807)(v:Value)(w:World)(hv:Bs w w.heap.size v l):
 Calls Tryz.prog 62 #[v,.int .i64 m] w fun e w'=>e=.returned (.int .i64 (zy (l.take 7) % m))/\w'=w:=by
 obtain⟨A,c,rfl⟩:=Bs.formL hv
 have hc:=(show l.length<=c by obtain⟨a,c',e,q1,_⟩:=hv;obtain⟨_,_,hc⟩:=Value.slice.inj e;omega)
 have hc9:=(show c<=9223372036854775807 by obtain⟨a,c',e,_,q2,_⟩:=hv;obtain⟨_,_,hc⟩:=Value.slice.inj e;omega)
 obtain⟨z,hz,hz9,hq⟩:=j5b l h
 have HC:=iH (BsS.cut hv (k:=7) (d:=c) h (by omega) hc9)
 have e1:=X6 z m
 have HZ:=iH hz;have HQ:=iH hq
 clear hv hz hq
 go_enter Tryz.func62,Tryz.ntmps62
 go_wp2_with(go_at_call 120;refine iR (zL _ _ _ w HC.out) ?_;rw [HQ.out])
 go_ret
 refine⟨?_,rfl⟩
 rw [HZ.out]
 first|rfl|(congr 2;omega)
theorem xe(v:Value)(s:List UInt8)(w:World)(hK:KD w)(hv:Bs w w.heap.size v s)(hl:s.length<=140737488354000):
 Calls Tryz.prog 127 #[v] w (KI s w):=by
 have H:=iH (QB 8 (by omega) (by omega) v s w hK hv hl)
 obtain⟨A,c,rfl⟩:=Bs.formL hv
 obtain⟨z,hz,hz9,hq⟩:=j5b (js s 8) (by unfold js;rw [List.length_take,je];omega)
 have hl8:(js s 8).length=8:=by unfold js;rw [List.length_take,je]<;>rfl
 have e1:=X6 z 1073741788
 have HZ:=iH hz;have HQ:=iH hq;have HL:=iH hl8
 have hx:z % 1073741788<1073741788:=Nat.mod_lt _ (by decide)
 clear hv hz hq hK hl hl8
 go_enter Tryz.func127,Tryz.ntmps127
 go_wp2_with(first
  |(go_at_call 118;refine iR (qY _ _ _ w1 HC.out) ?_;rw [HQ.out])
  |(go_at_call 125;refine H.out.mono ?_;rintro e w1 ⟨A1,c1,B1,d1,rfl,ha,hb,hbw⟩;obtain⟨hc1,hc9⟩:8<=c1/\c1<=9223372036854775807:=(by obtain⟨a,c',e,q1,q2,_⟩:=ha;obtain⟨_,_,hc⟩:=Value.slice.inj e;have:=HL.out;omega);have HC:=iH (BsS.cut ha (k:=7) (d:=c1) (by rw [HL.out];omega) (by omega) hc9);have HS:=iH hb;have HB:=iH hbw;clear ha hb hbw))
 go_ret2
 refine⟨_,_,?_,HS.out,HB.out⟩
 unfold jY
 rw [HZ.out]
 rfl
theorem Zd(v:Value)(s:List UInt8)(w:World)(hK:KR w)(hv:Bs w w.heap.size v s)(hl:s.length<=140737488354000):
 Calls Tryz.prog 82 #[v] w (KI s w):=by
 have H:=iH (Zc 8 (by omega) (by omega) v s w hK hv hl)
 obtain⟨A,c,rfl⟩:=Bs.formL hv
 have hl8:(js s 8).length=8:=by unfold js;rw [List.length_take,je]<;>rfl
 obtain⟨z,hz⟩:∃z:Nat,zy ((js s 8).take 7) % 1073741788=z:=⟨(zy ((js s 8).take 7) % 1073741788).toNat,by omega⟩
 have hz9:(z:Int)<1073741788:=by omega
 have HN:=iH (fun(v:Value) (w:World) (h:Bs w w.heap.size v (js s 8))=>yu (js s 8) (by omega) 1073741788 (by omega) (by omega) v w h)
 rw [show((1073741788:Nat):Int)=1073741788 from rfl,hz]at HN
 have HZ:=iH hz
 clear hv hz hK hl hl8
 go_enter Tryz.func82,Tryz.ntmps82
 go_wp2_with(first
  |(go_at_call 62;refine iR (HN.out _ w1 HC.out) ?_)
  |(go_at_call 80;refine H.out.mono ?_;rintro e w1 ⟨A1,c1,B1,d1,rfl,ha,hb,hbw⟩;have HC:Hid (Bs w1 w1.heap.size (.slice A1 8 c1) (js s 8)):=iH (BsS.keep ha fun g hg _=>⟨rfl,hg.2⟩);have HS:=iH hb;have HB:=iH hbw;clear ha hb hbw))
 go_ret2
 refine⟨_,_,?_,HS.out,HB.out⟩
 unfold jY
 rw [HZ.out]
 rfl
theorem VS{l:List UInt8}(h:l.length=4):∃z:Nat,zy l=z/\z<4294967296/\zx l=((z:Int),0):=by
 have hn:=QM l 4 (by omega)
 rw [List.take_of_length_le (by omega)]at hn
 refine⟨(zy l).toNat,by omega,by omega,?_⟩
 unfold zx
 rw [iF (by omega)]
 congr 1
 omega
section
variable(l:List UInt8)(v:Value)(S:Nat->Prop)(w:World)(hv:BsS w S v l)
include l v S w hv
theorem jX:Calls Tryz.prog 126 #[v] w fun e w'=>e=.returned (.tuple #[.int .i64 (jd l).2,.int .i64 (jd l).1])/\w'=w:=by
 obtain⟨A,c,rfl⟩:=Bs.formL hv
 have HV:=iH hv
 clear hv
 by_cases h4:l.length=4
 ·obtain⟨z,hz,hz9,hq⟩:=VS h4
  have HQ:=iH hq
  have t4:((l.length:Int) != 4)=false:=by simp;omega
  clear hq
  rcases hb:jk z with _|_
  ·have E:Hid (jd l=(10,0)):=iH (by unfold jd;rw [iF (by omega),hz,iT hb])
   exact m15
  ·have E:Hid (jd l=(0,(z:Int))):=iH (by unfold jd;rw [iF (by omega),hz,iF (by rw [hb];simp)])
   exact m15
 ·have E:Hid (jd l=(2,0)):=iH (by unfold jd;rw [iT h4])
  have t4:((l.length:Int) != 4)=true:=by simp;omega
  clear h4
  go_enter Tryz.func126,Tryz.ntmps126
  go_wp2_with fail
  go_ret2
  rw [E.out]
  exact⟨rfl,rfl⟩
theorem jO:Calls Tryz.prog 81 #[v] w fun e w'=>e=.returned (.tuple #[.int .i64 (jd l).2,.int .i64 (jd l).1])/\w'=w:=by
 obtain⟨A,c,rfl⟩:=Bs.formL hv
 have HV:=iH hv
 clear hv
 by_cases h4:l.length=4
 ·obtain⟨z,hz,hz9,hq⟩:=VS h4
  have HQ:=iH hq
  have t4:((l.length:Int) != 4)=false:=by simp;omega
  clear hq
  rcases hb:jk z with _|_
  ·have E:Hid (jd l=(10,0)):=iH (by unfold jd;rw [iF (by omega),hz,iT hb])
   exact m17
  ·have E:Hid (jd l=(0,(z:Int))):=iH (by unfold jd;rw [iF (by omega),hz,iF (by rw [hb];simp)])
   exact m17
 ·have E:Hid (jd l=(2,0)):=iH (by unfold jd;rw [iT h4])
  have t4:((l.length:Int) != 4)=true:=by simp;omega
  clear h4
  go_enter Tryz.func81,Tryz.ntmps81
  go_wp2_with fail
  go_ret2
  rw [E.out]
  exact⟨rfl,rfl⟩
end
theorem KW(x k:Nat)(h0:0<x)(h1:x<2147483579)(hk:k<=1073741789)(w:World):Calls Tryz.prog 57 #[.int .i64 x,.int .i64 k] w fun e w'=>e=.returned (.tuple #[.int .i64 (gpw 64 1 x k),.int .i64 0])/\w'=w:=by
 have HR:=iH (yt (x:Int) w)
 rw [decide_eq_true (show 0<(x:Int)/\(x:Int)<2147483579 by omega)]at HR
 have HP:=iH (yn x k w h1 (by omega))
 have g1:decide ((k:Int)<0)=false:=decide_eq_false (by omega)
 have g2:decide ((k:Int)>1073741789)=false:=decide_eq_false (by omega)
 go_enter Tryz.func57,Tryz.ntmps57
 go_wp2_with(first
  |(go_at_call 116;refine iR HP.out ?_)
  |(go_at_call 117;refine iR HR.out ?_))
 go_ret2
 exact⟨rfl,rfl⟩
theorem YL(a b:Nat)(ha:0<a)(ha1:a<2147483579)(hb:0<b)(hb1:b<2147483579)(w:World):Calls Tryz.prog 59 #[.int .i64 a,.int .i64 b] w fun e w'=>e=.returned (.tuple #[.int .i64 (a*b % 2147483579:Nat),.int .i64 0])/\w'=w:=by
 have HA:=iH (yt (a:Int) w)
 have HB:=iH (yt (b:Int) w)
 rw [decide_eq_true (show 0<(a:Int)/\(a:Int)<2147483579 by omega)]at HA
 rw [decide_eq_true (show 0<(b:Int)/\(b:Int)<2147483579 by omega)]at HB
 have HM:=iH (JX ha1 hb1)
 go_enter Tryz.func59,Tryz.ntmps59
 go_wp2_with(go_at_call 117;first|(refine iR HA.out ?_)|(refine iR HB.out ?_))
 go_ret2
 refine⟨?_,rfl⟩
 rw [HM.out]
 rfl
def j24:Nat->Bool
 |0=>true
 |n+1=>decide (¬2147483579 % (n+2)=0)&&j24 n
theorem VA:∀n,j24 n=true->∀d,2<=d->d<=n+1->¬2147483579 % d=0:=by
 intro n
 induction n with
 |zero=>intro _ d h1 h2;omega
 |succ n ih=>
  intro h d h1 h2
  simp only [j24,Bool.and_eq_true,decide_eq_true_eq]at h
  exact m38
theorem UP:j24 46341=true:=by decide+kernel
theorem j0l(k:Nat)(h1:0<k)(h2:k<2147483579):Nat.gcd k 2147483579=1:=by
 obtain⟨g,hg⟩:∃g,Nat.gcd k 2147483579=g:=⟨_,rfl⟩
 rw [hg]
 have hk:g ∣ k:=hg▸Nat.gcd_dvd_left _ _
 obtain⟨m,hm⟩:g ∣ 2147483579:=hg▸Nat.gcd_dvd_right _ _
 have hgk:=Nat.le_of_dvd (by omega) hk
 rcases Nat.lt_or_ge g 2 with hlt|hge
 ·have:g≠0:=by rintro rfl;simp at hm
  omega
 ·exfalso
  have hm2:2<=m:=by
   exact m2l
  have A:=VA 46341 UP
  rcases Nat.lt_or_ge 46342 g with hb|hb
  ·rcases Nat.lt_or_ge 46342 m with hc|hc
   ·have:=Nat.mul_le_mul (show 46343<=g by omega) (show 46343<=m by omega)
    omega
   ·exact A m hm2 (by omega) (by rw [hm,Nat.mul_mod_left])
  ·exact A g hge (by omega) (by rw [hm,Nat.mul_mod_right])
theorem j0m(a b:Nat)(ha:0<a)(ha2:a<2147483579)(hb:0<b)(hb2:b<2147483579):0<a*b % 2147483579:=by
 rcases Nat.eq_zero_or_pos (a*b % 2147483579)with h|h
 ·exfalso
  have hd:=Nat.dvd_of_mod_eq_zero h
  have:=Nat.Coprime.dvd_of_dvd_mul_left (show Nat.Coprime 2147483579 a from(Nat.gcd_comm _ _).trans (j0l a ha ha2)) hd
  have:=Nat.le_of_dvd hb this
  omega
 ·exact h
theorem j33(a b:Nat)(ha:jk (a:Int)=true)(hb:jk (b:Int)=true)(hne:a*b % 2147483579≠1):jk ((a*b % 2147483579:Nat):Int)=true:=by
 have ia:=jD ha
 have ib:=jD hb
 have oa:=QC ha
 have ob:=QC hb
 have h0:=j0m a b (by omega) (by omega) (by omega) (by omega)
 have hlt:a*b % 2147483579<2147483579:=Nat.mod_lt _ (by decide)
 rw [Int.toNat_natCast]at oa ob
 obtain⟨q,hq⟩:∃q:Nat,q=1073741789:=⟨_,rfl⟩
 rw [<-hq]at oa ob
 rw [Jd _ q (by omega)]at oa ob
 have hf:(a*b % 2147483579) ^ q % 2147483579=1:=by
  rw [<-Nat.pow_mod,Nat.mul_pow,Nat.mul_mod,oa,ob]
 obtain⟨y,hy⟩:∃y,a*b % 2147483579=y:=⟨_,rfl⟩
 rw [hy]at h0 hne hlt hf |-
 unfold jk
 rw [Int.toNat_natCast,<-hq,Jd _ q (by omega)]
 have a1:decide (0<(y:Int)/\(y:Int)<2147483579)=true:=decide_eq_true (by omega)
 have a2:decide ((y:Int)≠1)=true:=decide_eq_true (by omega)
 have a3:decide (y ^ q % 2147483579=1)=true:=decide_eq_true hf
 rw [a1,a2,a3]
 rfl
theorem yy(s:List UInt8):okS (jY s)=true:=by unfold jY okS;exact decide_eq_true (by omega)
theorem YJ(x k:Int):∃n:Nat,jN x k=n:=⟨_,rfl⟩
theorem k9(x k:Int)(hx:jk x=true)(hk:okS k=true):jk (jN x k)=true:=by
 have hi:=jD hx
 have hk:=Jc hk
 obtain⟨a,rfl⟩:∃a:Nat,x=a:=⟨x.toNat,by omega⟩
 obtain⟨b,rfl⟩:∃b:Nat,k=b:=⟨k.toNat,by omega⟩
 exact Vd a b hx (by omega) (by omega)
theorem xJ:jk 4=true:=by
 have:=UO 1 (by omega) (by omega)
 rw [show gpw 64 1 4 1=4 by decide]at this
 exact this
theorem zG(x k:Int):0<=jN x k/\jN x k<2147483579:=⟨by unfold jN;omega,by have:=XT 64 1 x.toNat k.toNat (by decide);unfold jN;omega⟩
theorem j2l(n:List UInt8)(k other:Int)(hk:okS k=true)(ho:jk other=true)(h1:j2k n k other≠1):jk (j2k n k other)=true:=by
 have hs:=k9 other k ho hk
 obtain⟨b,hb⟩:=YJ other k
 obtain⟨a,ha⟩:=YJ 4 (zy (n.take 7) % 1073741789)
 unfold j2k at h1 |-
 rw [hb]at h1 hs |-
 rw [ha]at h1 |-
 have e:((a:Int)*b % 2147483579)=((a*b % 2147483579:Nat):Int):=by omega
 rw [e]at h1 |-
 by_cases hk0:zy (n.take 7) % 1073741789=0
 ·have ha1:a=1:=by
   rw [hk0]at ha
   have:jN 4 0=1:=by unfold jN;rw [show(0:Int).toNat=0 from rfl,zd]<;>rfl
   omega
  subst ha1
  have hi:=jD hs
  rw [Nat.one_mul,Nat.mod_eq_of_lt (by omega)]
  exact hs
 ·refine j33 a b ?_ hs (by omega)
  rw [<-ha]
  exact k9 4 _ xJ (by unfold okS;exact decide_eq_true (by omega))
def EB(r:Int×List UInt8)(w:World)(e:Ending)(w':World):Prop:=∃v',e=.returned (.tuple #[v',.int .i64 r.1])/\BsS w' (New w w') v' r.2/\Below w.heap.size w w'
theorem EB.no0{w w':World}{er:Int}{r:Int×List UInt8}(hr:r=(er,[]))(hb:Below w.heap.size w w'):EB r w (.returned (.tuple #[.slice none 0 0,.int .i64 er])) w':=by
 subst hr
 exact⟨_,rfl,⟨none,0,rfl,by simp,by omega,by simp,fun h=>by simp at h⟩,hb⟩
def pkW(kd:Int)(sec:List UInt8):Int×List UInt8:=if vPw kd sec=false then(14,[])else(0,kS kd sec)
section
variable(kd:Int)(sec:List UInt8)(A:Option Addr)(c:Nat)(w:World)
include kd sec A c w
theorem kT:
 Calls Tryz.prog 45 #[.agg #[.int .i64 kd,.slice A sec.length c]] w fun e w'=>e=.returned (.bool (vPw kd sec))/\Below w.heap.size w w':=by
 have HB:Hid (Below w.heap.size w (w.alloc (.cells #[.int .i64 kd,.slice A sec.length c] 24))):=iH (ju _ _)
 have hcases:¬1<=kd\/(1<=kd/\¬kd<=4)\/(1<=kd/\kd<=4/\¬1<=sec.length)\/(1<=kd/\kd<=4/\1<=sec.length/\¬sec.length<=64)\/(1<=kd/\kd<=4/\1<=sec.length/\sec.length<=64):=by omega
 rcases hcases with h1|⟨h1,h2⟩|⟨h1,h2,h3⟩|⟨h1,h2,h3,h4⟩|⟨h1,h2,h3,h4⟩
 iterate 4 (have R:Hid (vPw kd sec=false):=iH (decide_eq_false (by omega));go_enter Tryz.func45,Tryz.ntmps45;go_wp2_with fail;go_ret;rw [R.out];refine⟨?_,HB.out⟩;first|rfl|(simp;omega))
 ·have R:Hid (vPw kd sec=true):=iH (decide_eq_true (by omega))
  go_enter Tryz.func45,Tryz.ntmps45;go_wp2_with fail;go_ret;rw [R.out];refine⟨?_,HB.out⟩;first|rfl|(simp;omega)
theorem qo:
 Calls Tryz.prog 48 #[.agg #[.int .i64 kd,.slice A sec.length c]] w fun e w'=>e=.returned (.bool (vPw kd sec))/\Below w.heap.size w w':=by
 have HB:Hid (Below w.heap.size w (w.alloc (.cells #[.int .i64 kd,.slice A sec.length c] 24))):=iH (ju _ _)
 have hcases:¬1<=kd\/(1<=kd/\¬kd<=4)\/(1<=kd/\kd<=4/\¬1<=sec.length)\/(1<=kd/\kd<=4/\1<=sec.length/\¬sec.length<=64)\/(1<=kd/\kd<=4/\1<=sec.length/\sec.length<=64):=by omega
 rcases hcases with h1|⟨h1,h2⟩|⟨h1,h2,h3⟩|⟨h1,h2,h3,h4⟩|⟨h1,h2,h3,h4⟩
 iterate 4 (have R:Hid (vPw kd sec=false):=iH (decide_eq_false (by omega));go_enter Tryz.func48,Tryz.ntmps48;go_wp2_with fail;go_ret;rw [R.out];refine⟨?_,HB.out⟩;first|rfl|(simp;omega))
 ·have R:Hid (vPw kd sec=true):=iH (decide_eq_true (by omega))
  go_enter Tryz.func48,Tryz.ntmps48;go_wp2_with fail;go_ret;rw [R.out];refine⟨?_,HB.out⟩;first|rfl|(simp;omega)
theorem zk(hK:KD w)(hv:Bs w w.heap.size (.slice A sec.length c) sec):
 Calls Tryz.prog 16 #[.agg #[.int .i64 kd,.slice A sec.length c]] w (EB (pkW kd sec) w):=by
 obtain⟨w0,hw0⟩:∃w0,w0=w.alloc (.cells #[.int .i64 kd,.slice A sec.length c] 24):=⟨_,rfl⟩
 have HB0:Hid (Below w.heap.size w w0):=iH (by rw [hw0];exact ju _ _)
 have HH0:Hid (w0.heap[w.heap.size]?=some (.cells #[.int .i64 kd,.slice A sec.length c] 24 (0,0))):=iH (by rw [hw0];exact iN)
 have HLT:Hid (w.heap.size<w0.heap.size):=iH (by rw [hw0];simp)
 have HW0:=iH hw0;have HV:=iH hv;have HK:=iH hK
 obtain⟨f0,f1,_⟩:=two HH0.out
 clear hw0 hv hK
 rcases hp:vPw kd sec with _|_
 ·have HVP:=iH hp
  have R:Hid (pkW kd sec=(14,[])):=iH (by unfold pkW;rw [iT hp])
  clear hp
  go_enter Tryz.func16,Tryz.ntmps16
  go_upto_region 1 with fail
  rw [<-HW0.out]
  go_wp2_with(go_at_call 45;refine(kT kd sec A c w0).mono ?_;rw [HVP.out];rintro e w1 ⟨rfl,hb⟩;have HB1:=iH hb;obtain⟨y0,y1,_⟩:=two ((hb.block w.heap.size HLT.out).trans HH0.out);clear hb)
  exact m0e
 ·have HVP:=iH hp
  have HLS:Hid (sec.length<=64):=iH (by have:=of_decide_eq_true hp;omega)
  by_cases hk:kd=1
  ·have R:Hid (pkW kd sec=(0,zw (xz sec) 3)):=iH (by unfold pkW kS;rw [hp,iF (by simp),iT hk])
   have t1:(kd==1)=true:=by simpa using hk
   clear hp hk
   go_enter Tryz.func16,Tryz.ntmps16
   go_upto_region 1 with fail
   rw [<-HW0.out]
   go_wp2_with(first
    |(go_at_call 47;refine(Jq 3 (by omega) (by omega) _ (xz sec) w2 (HK.out.below HB2.out HK.out.lt) HS2.out (by have:=HLS.out;first|omega|(rw [je];omega))).mono ?_;rintro e w3 ⟨v3,rfl,hs,hb⟩;have HS3:=iH hs;have HB3:=iH hb;clear hs hb)
    |(go_at_call 46;refine(Yl _ sec (by have:=HLS.out;omega) w1 (HK.out.below (HB0.out.trans (HB1.out.mono HB0.out.size)) HK.out.lt) ((HV.out.lift HB0.out).lift HB1.out)).mono ?_;rintro e w2 ⟨v2,rfl,hs,hb⟩;have HS2:Hid (Bs w2 w2.heap.size v2 (xz sec)):=iH (BsS.keep hs fun g hg _=>⟨rfl,hg.2⟩);have HB2:Hid (Below w.heap.size w w2):=iH ((HB0.out.trans (HB1.out.mono HB0.out.size)).trans (hb.mono (HB0.out.trans (HB1.out.mono HB0.out.size)).size));clear hs hb)
    |(go_at_call 45;refine(kT kd sec A c w0).mono ?_;rw [HVP.out];rintro e w1 ⟨rfl,hb⟩;have HB1:=iH hb;obtain⟨y0,y1,_⟩:=two ((hb.block w.heap.size HLT.out).trans HH0.out);clear hb))
   exact mq
  ·have R:Hid (pkW kd sec=(0,zw sec 3)):=iH (by unfold pkW kS;rw [hp,iF (by simp),iF hk])
   have t1:(kd==1)=false:=by simpa using hk
   clear hp hk
   go_enter Tryz.func16,Tryz.ntmps16
   go_upto_region 1 with fail
   rw [<-HW0.out]
   go_wp2_with(first
    |(go_at_call 47;refine(Jq 3 (by omega) (by omega) _ (sec) w1 (HK.out.below HB2.out HK.out.lt) ((HV.out.lift HB0.out).lift HB1.out) (by have:=HLS.out;first|omega|(rw [je];omega))).mono ?_;rintro e w3 ⟨v3,rfl,hs,hb⟩;have HS3:=iH hs;have HB3:=iH hb;clear hs hb)
    |(go_at_call 45;refine(kT kd sec A c w0).mono ?_;rw [HVP.out];rintro e w1 ⟨rfl,hb⟩;have HB1:=iH hb;obtain⟨y0,y1,_⟩:=two ((hb.block w.heap.size HLT.out).trans HH0.out);clear hb;have HB2:Hid (Below w.heap.size w w1):=iH (HB0.out.trans (HB1.out.mono HB0.out.size))))
   exact mq
theorem qU(hK:KR w)(hv:Bs w w.heap.size (.slice A sec.length c) sec):
 Calls Tryz.prog 17 #[.agg #[.int .i64 kd,.slice A sec.length c]] w (EB (pkW kd sec) w):=by
 obtain⟨w0,hw0⟩:∃w0,w0=w.alloc (.cells #[.int .i64 kd,.slice A sec.length c] 24):=⟨_,rfl⟩
 have HB0:Hid (Below w.heap.size w w0):=iH (by rw [hw0];exact ju _ _)
 have HH0:Hid (w0.heap[w.heap.size]?=some (.cells #[.int .i64 kd,.slice A sec.length c] 24 (0,0))):=iH (by rw [hw0];exact iN)
 have HLT:Hid (w.heap.size<w0.heap.size):=iH (by rw [hw0];simp)
 have HW0:=iH hw0;have HV:=iH hv;have HK:=iH hK
 obtain⟨f0,f1,_⟩:=two HH0.out
 clear hw0 hv hK
 rcases hp:vPw kd sec with _|_
 ·have HVP:=iH hp
  have R:Hid (pkW kd sec=(14,[])):=iH (by unfold pkW;rw [iT hp])
  clear hp
  go_enter Tryz.func17,Tryz.ntmps17
  go_upto_region 1 with fail
  rw [<-HW0.out]
  go_wp2_with(go_at_call 48;refine(qo kd sec A c w0).mono ?_;rw [HVP.out];rintro e w1 ⟨rfl,hb⟩;have HB1:=iH hb;obtain⟨y0,y1,_⟩:=two ((hb.block w.heap.size HLT.out).trans HH0.out);clear hb)
  exact m0e
 ·have HVP:=iH hp
  have HLS:Hid (sec.length<=64):=iH (by have:=of_decide_eq_true hp;omega)
  by_cases hk:kd=1
  ·have R:Hid (pkW kd sec=(0,zw (xz sec) 3)):=iH (by unfold pkW kS;rw [hp,iF (by simp),iT hk])
   have t1:(kd==1)=true:=by simpa using hk
   clear hp hk
   go_enter Tryz.func17,Tryz.ntmps17
   go_upto_region 1 with fail
   rw [<-HW0.out]
   go_wp2_with(first
    |(go_at_call 50;refine(yq 3 (by omega) (by omega) _ (xz sec) w2 (HK.out.below HB2.out HK.out.lt) HS2.out (by have:=HLS.out;first|omega|(rw [je];omega))).mono ?_;rintro e w3 ⟨v3,rfl,hs,hb⟩;have HS3:=iH hs;have HB3:=iH hb;clear hs hb)
    |(go_at_call 49;refine(yx _ sec (by have:=HLS.out;omega) w1 (HK.out.below (HB0.out.trans (HB1.out.mono HB0.out.size)) HK.out.lt) ((HV.out.lift HB0.out).lift HB1.out)).mono ?_;rintro e w2 ⟨v2,rfl,hs,hb⟩;have HS2:Hid (Bs w2 w2.heap.size v2 (xz sec)):=iH (BsS.keep hs fun g hg _=>⟨rfl,hg.2⟩);have HB2:Hid (Below w.heap.size w w2):=iH ((HB0.out.trans (HB1.out.mono HB0.out.size)).trans (hb.mono (HB0.out.trans (HB1.out.mono HB0.out.size)).size));clear hs hb)
    |(go_at_call 48;refine(qo kd sec A c w0).mono ?_;rw [HVP.out];rintro e w1 ⟨rfl,hb⟩;have HB1:=iH hb;obtain⟨y0,y1,_⟩:=two ((hb.block w.heap.size HLT.out).trans HH0.out);clear hb))
   exact mq
  ·have R:Hid (pkW kd sec=(0,zw sec 3)):=iH (by unfold pkW kS;rw [hp,iF (by simp),iF hk])
   have t1:(kd==1)=false:=by simpa using hk
   clear hp hk
   go_enter Tryz.func17,Tryz.ntmps17
   go_upto_region 1 with fail
   rw [<-HW0.out]
   go_wp2_with(first
    |(go_at_call 50;refine(yq 3 (by omega) (by omega) _ (sec) w1 (HK.out.below HB2.out HK.out.lt) ((HV.out.lift HB0.out).lift HB1.out) (by have:=HLS.out;first|omega|(rw [je];omega))).mono ?_;rintro e w3 ⟨v3,rfl,hs,hb⟩;have HS3:=iH hs;have HB3:=iH hb;clear hs hb)
    |(go_at_call 48;refine(qo kd sec A c w0).mono ?_;rw [HVP.out];rintro e w1 ⟨rfl,hb⟩;have HB1:=iH hb;obtain⟨y0,y1,_⟩:=two ((hb.block w.heap.size HLT.out).trans HH0.out);clear hb;have HB2:Hid (Below w.heap.size w w1):=iH (HB0.out.trans (HB1.out.mono HB0.out.size))))
   exact mq
end
def Ku(out:List UInt8->List UInt8->List UInt8)(kd:Int)(sec b:List UInt8):Int×List UInt8:=if vPw kd sec=false then(14,[])else if ¬b.length=16 then(2,[])else(0,out (kS kd sec) b)
section
variable(out:List UInt8->List UInt8->List UInt8)
include out
theorem Vx(hf:∀(vk vi vb:Value) (k b:List UInt8),k.length=16->b.length=16->∀(w:World),Bs w w.heap.size vk k->Bs w w.heap.size vi Z16->Bs w w.heap.size vb b->Calls Tryz.prog 52 #[vk,vi,vb] w fun e w'=>∃v',e=.returned (.tuple #[v',.int .i64 0])/\BsS w' (New w w') v' (out k b)/\Below w.heap.size w w')(kd:Int)(sec:List UInt8)(A:Option Addr)(c:Nat)(b:List UInt8)(B:Option Addr)(d:Nat)(w:World)(hK:KD w)(hv:Bs w w.heap.size (.slice A sec.length c) sec)(hb:Bs w w.heap.size (.slice B b.length d) b):
 Calls Tryz.prog 51 #[.agg #[.int .i64 kd,.slice A sec.length c],.slice B b.length d,.func (.func 52) #[] #[]] w (EB (Ku out kd sec b) w):=by
 have HF:=iH hf
 clear hf
 obtain⟨w0,hw0⟩:∃w0,w0=w.alloc (.cells #[.int .i64 kd,.slice A sec.length c] 24):=⟨_,rfl⟩
 have HB0:Hid (Below w.heap.size w w0):=iH (by rw [hw0];exact ju _ _)
 have HW0:=iH hw0
 obtain⟨f0,f1,_⟩:=two (show w0.heap[w.heap.size]?=some (.cells #[.int .i64 kd,.slice A sec.length c] 24 (0,0))by rw [hw0];exact iN)
 have HVA:=iH (hv.lift HB0.out);have HKA:=iH (hK.below HB0.out hK.lt);have HVB:=iH (hb.lift HB0.out)
 clear hw0 hv hK hb
 rcases hp:vPw kd sec with _|_
 ·have R0:Hid (pkW kd sec=(14,[])):=iH (by unfold pkW;rw [iT hp])
  have R:Hid (Ku out kd sec b=(14,[])):=iH (iT hp)
  clear hp
  exact m01
 have R0:Hid (pkW kd sec=(0,kS kd sec)):=iH (by unfold pkW;rw [iF (by rw [hp];simp)])
 by_cases hl:b.length=16
 ·have R:Hid (Ku out kd sec b=(0,out (kS kd sec) b)):=iH ((iF (by rw [hp];simp)).trans (iF (fun h=>h hl)))
  have t1:((b.length:Int) != 16)=false:=by simp;omega
  have HL:=iH hl
  clear hp hl
  have Hm:=Ja
  go_enter Tryz.func51,Tryz.ntmps51
  go_upto_region 1 with fail
  rw [<-HW0.out]
  go_wp2_with(first
   |(go_at_call 52;refine(HF.out _ _ _ (kS kd sec) b (jL _ _) HL.out (wz w1) (HS1.out.keep fun g hg hl=>⟨(jl w1).block g hl,iZ hl (jl w1).size⟩) (BsS.keep (yF w1) fun g hg _=>⟨rfl,hg.2⟩) ((HVB.out.lift HB1.out).lift (jl w1))).mono ?_;rintro e w2 ⟨v2,rfl,hs,hb⟩;have HS2:=iH hs;have HB2:=iH ((jl w1).trans (hb.mono (jl w1).size));clear hs hb)
   |(go_at_call 16;refine(zk kd sec A c w0 HKA.out HVA.out).mono ?_;rw [R0.out];rintro e w1 ⟨v1,rfl,hs,hb⟩;obtain⟨A1,c1,hv1⟩:=Bs.formL hs;subst hv1;have HS1:=iH hs;have HB1:=iH hb;clear hs hb))
  go_ret2
  refine⟨_,by rw [R.out]<;>rfl,?_,(HB0.out.trans (HB1.out.mono HB0.out.size)).trans (HB2.out.mono (HB0.out.trans (HB1.out.mono HB0.out.size)).size)⟩
  rw [R.out]
  exact HS2.out.keep fun g hg _=>⟨rfl,Nat.le_trans (HB0.out.trans (HB1.out.mono HB0.out.size)).size (Nat.le_trans (jl w1).size hg.1),hg.2⟩
 ·exact m0f
theorem Vv(hf:∀(vk vi vb:Value) (k b:List UInt8),k.length=16->b.length=16->∀(w:World),Bs w w.heap.size vk k->Bs w w.heap.size vi Z16->Bs w w.heap.size vb b->Calls Tryz.prog 54 #[vk,vi,vb] w fun e w'=>∃v',e=.returned (.tuple #[v',.int .i64 0])/\BsS w' (New w w') v' (out k b)/\Below w.heap.size w w')(kd:Int)(sec:List UInt8)(A:Option Addr)(c:Nat)(b:List UInt8)(B:Option Addr)(d:Nat)(w:World)(hK:KD w)(hv:Bs w w.heap.size (.slice A sec.length c) sec)(hb:Bs w w.heap.size (.slice B b.length d) b):
 Calls Tryz.prog 51 #[.agg #[.int .i64 kd,.slice A sec.length c],.slice B b.length d,.func (.func 54) #[] #[]] w (EB (Ku out kd sec b) w):=by
 have HF:=iH hf
 clear hf
 obtain⟨w0,hw0⟩:∃w0,w0=w.alloc (.cells #[.int .i64 kd,.slice A sec.length c] 24):=⟨_,rfl⟩
 have HB0:Hid (Below w.heap.size w w0):=iH (by rw [hw0];exact ju _ _)
 have HW0:=iH hw0
 obtain⟨f0,f1,_⟩:=two (show w0.heap[w.heap.size]?=some (.cells #[.int .i64 kd,.slice A sec.length c] 24 (0,0))by rw [hw0];exact iN)
 have HVA:=iH (hv.lift HB0.out);have HKA:=iH (hK.below HB0.out hK.lt);have HVB:=iH (hb.lift HB0.out)
 clear hw0 hv hK hb
 rcases hp:vPw kd sec with _|_
 ·have R0:Hid (pkW kd sec=(14,[])):=iH (by unfold pkW;rw [iT hp])
  have R:Hid (Ku out kd sec b=(14,[])):=iH (iT hp)
  clear hp
  exact m01
 have R0:Hid (pkW kd sec=(0,kS kd sec)):=iH (by unfold pkW;rw [iF (by rw [hp];simp)])
 by_cases hl:b.length=16
 ·have R:Hid (Ku out kd sec b=(0,out (kS kd sec) b)):=iH ((iF (by rw [hp];simp)).trans (iF (fun h=>h hl)))
  have t1:((b.length:Int) != 16)=false:=by simp;omega
  have HL:=iH hl
  clear hp hl
  have Hm:=Ja
  go_enter Tryz.func51,Tryz.ntmps51
  go_upto_region 1 with fail
  rw [<-HW0.out]
  go_wp2_with(first
   |(go_at_call 54;refine(HF.out _ _ _ (kS kd sec) b (jL _ _) HL.out (wz w1) (HS1.out.keep fun g hg hl=>⟨(jl w1).block g hl,iZ hl (jl w1).size⟩) (BsS.keep (yF w1) fun g hg _=>⟨rfl,hg.2⟩) ((HVB.out.lift HB1.out).lift (jl w1))).mono ?_;rintro e w2 ⟨v2,rfl,hs,hb⟩;have HS2:=iH hs;have HB2:=iH ((jl w1).trans (hb.mono (jl w1).size));clear hs hb)
   |(go_at_call 16;refine(zk kd sec A c w0 HKA.out HVA.out).mono ?_;rw [R0.out];rintro e w1 ⟨v1,rfl,hs,hb⟩;obtain⟨A1,c1,hv1⟩:=Bs.formL hs;subst hv1;have HS1:=iH hs;have HB1:=iH hb;clear hs hb))
  go_ret2
  refine⟨_,by rw [R.out]<;>rfl,?_,(HB0.out.trans (HB1.out.mono HB0.out.size)).trans (HB2.out.mono (HB0.out.trans (HB1.out.mono HB0.out.size)).size)⟩
  rw [R.out]
  exact HS2.out.keep fun g hg _=>⟨rfl,Nat.le_trans (HB0.out.trans (HB1.out.mono HB0.out.size)).size (Nat.le_trans (jl w1).size hg.1),hg.2⟩
 ·exact m0f
end
section
variable(kd:Int)(sec:List UInt8)(A:Option Addr)(c:Nat)(b:List UInt8)(B:Option Addr)(d:Nat)(w:World)
include kd sec A c b B d w
section
variable(hK:KD w)(hv:Bs w w.heap.size (.slice A sec.length c) sec)(hb:Bs w w.heap.size (.slice B b.length d) b)
include hK hv hb
theorem j2u:
 Calls Tryz.prog 18 #[.agg #[.int .i64 kd,.slice A sec.length c],.slice B b.length d] w (EB (qn kd sec b) w):=by
 obtain⟨w0,hw0⟩:∃w0,w0=w.alloc (.cells #[.int .i64 kd,.slice A sec.length c] 24):=⟨_,rfl⟩
 have HB0:Hid (Below w.heap.size w w0):=iH (by rw [hw0];exact ju _ _)
 obtain⟨out,hout⟩:∃out:List UInt8->List UInt8->List UInt8,out=fun k b=>kZ k Z16 b:=⟨_,rfl⟩
 rw [show qn kd sec b=Ku out kd sec b by simp only [qn,Zg,Ku,hout]]
 have H:=iH (Vx out (by rw [hout];exact fun vk vi vb k b hk hb w h1 h2 h3=>Zo vk vi vb k Z16 b 1 hk xC (by omega) w h1 h2 h3) kd sec A c b B d w0 (hK.below HB0.out hK.lt) (hv.lift HB0.out) (hb.lift HB0.out))
 have HW0:=iH hw0
 obtain⟨f0,f1,_⟩:=two (show w0.heap[w.heap.size]?=some (.cells #[.int .i64 kd,.slice A sec.length c] 24 (0,0))by rw [hw0];exact iN)
 clear hw0 hv hK hb hout
 go_enter Tryz.func18,Tryz.ntmps18
 go_upto_region 1 with fail
 rw [<-HW0.out]
 go_wp2_with(go_at_call 51;refine H.out.mono ?_;rintro e w1 ⟨v1,rfl,hs,hb⟩;have HS1:=iH hs;have HB1:=iH hb;clear hs hb)
 go_ret2
 exact⟨_,rfl,HS1.out.keep fun g hg _=>⟨rfl,Nat.le_trans HB0.out.size hg.1,hg.2⟩,HB0.out.trans (HB1.out.mono HB0.out.size)⟩
theorem Q7:
 Calls Tryz.prog 20 #[.agg #[.int .i64 kd,.slice A sec.length c],.slice B b.length d] w (EB (Zg kd sec b) w):=by
 obtain⟨w0,hw0⟩:∃w0,w0=w.alloc (.cells #[.int .i64 kd,.slice A sec.length c] 24):=⟨_,rfl⟩
 have HB0:Hid (Below w.heap.size w w0):=iH (by rw [hw0];exact ju _ _)
 obtain⟨out,hout⟩:∃out:List UInt8->List UInt8->List UInt8,out=fun k b=>zH k Z16 b:=⟨_,rfl⟩
 rw [show Zg kd sec b=Ku out kd sec b by simp only [qn,Zg,Ku,hout]]
 have H:=iH (Vv out (by rw [hout];exact fun vk vi vb k b hk hb w h1 h2 h3=>j0i vk vi vb k Z16 b 1 hk xC (by omega) w h1 h2 h3) kd sec A c b B d w0 (hK.below HB0.out hK.lt) (hv.lift HB0.out) (hb.lift HB0.out))
 have HW0:=iH hw0
 obtain⟨f0,f1,_⟩:=two (show w0.heap[w.heap.size]?=some (.cells #[.int .i64 kd,.slice A sec.length c] 24 (0,0))by rw [hw0];exact iN)
 clear hw0 hv hK hb hout
 go_enter Tryz.func20,Tryz.ntmps20
 go_upto_region 1 with fail
 rw [<-HW0.out]
 go_wp2_with(go_at_call 51;refine H.out.mono ?_;rintro e w1 ⟨v1,rfl,hs,hb⟩;have HS1:=iH hs;have HB1:=iH hb;clear hs hb)
 go_ret2
 exact⟨_,rfl,HS1.out.keep fun g hg _=>⟨rfl,Nat.le_trans HB0.out.size hg.1,hg.2⟩,HB0.out.trans (HB1.out.mono HB0.out.size)⟩
end
section
variable(hK:KR w)(hv:Bs w w.heap.size (.slice A sec.length c) sec)(hb:Bs w w.heap.size (.slice B b.length d) b)
include hK hv hb
theorem j0w:
 Calls Tryz.prog 19 #[.agg #[.int .i64 kd,.slice A sec.length c],.slice B b.length d] w (EB (qn kd sec b) w):=by
 obtain⟨out,hout⟩:∃out:List UInt8->List UInt8->List UInt8,out=fun k b=>kZ k Z16 b:=⟨_,rfl⟩
 have hf:∀(vk vi vb:Value) (k b:List UInt8),k.length=16->b.length=16->∀(w:World),Bs w w.heap.size vk k->Bs w w.heap.size vi Z16->Bs w w.heap.size vb b->Calls Tryz.prog 53 #[vk,vi,vb] w fun e w'=>∃v',e=.returned (.tuple #[v',.int .i64 0])/\BsS w' (New w w') v' (out k b)/\Below w.heap.size w w':=by
  rw [hout]
  exact fun vk vi vb k b hk hb w h1 h2 h3=>Je vk vi vb k Z16 b 1 hk xC (by omega) w h1 h2 h3
 have HF:=iH hf
 rw [show qn kd sec b=Ku out kd sec b by simp only [qn,Zg,Ku,hout]]
 clear hf hout
 obtain⟨w0,hw0⟩:∃w0,w0=w.alloc (.cells #[.int .i64 kd,.slice A sec.length c] 24):=⟨_,rfl⟩
 have HB0:Hid (Below w.heap.size w w0):=iH (by rw [hw0];exact ju _ _)
 have HW0:=iH hw0
 obtain⟨f0,f1,_⟩:=two (show w0.heap[w.heap.size]?=some (.cells #[.int .i64 kd,.slice A sec.length c] 24 (0,0))by rw [hw0];exact iN)
 have HVA:=iH (hv.lift HB0.out);have HKA:=iH (hK.below HB0.out hK.lt);have HVB:=iH (hb.lift HB0.out)
 clear hw0 hv hK hb
 rcases hp:vPw kd sec with _|_
 ·have R0:Hid (pkW kd sec=(14,[])):=iH (by unfold pkW;rw [iT hp])
  have R:Hid (Ku out kd sec b=(14,[])):=iH (iT hp)
  clear hp
  go_enter Tryz.func19,Tryz.ntmps19
  exact m06
 have R0:Hid (pkW kd sec=(0,kS kd sec)):=iH (by unfold pkW;rw [iF (by rw [hp];simp)])
 by_cases hl:b.length=16
 ·have R:Hid (Ku out kd sec b=(0,out (kS kd sec) b)):=iH ((iF (by rw [hp];simp)).trans (iF (fun h=>h hl)))
  have t1:((b.length:Int) != 16)=false:=by simp;omega
  have HL:=iH hl
  clear hp hl
  have Hm:=Ja
  go_enter Tryz.func19,Tryz.ntmps19
  go_upto_region 1 with fail
  rw [<-HW0.out]
  go_wp2_with(first
   |(go_at_call 53;refine(HF.out _ _ _ (kS kd sec) b (jL _ _) HL.out (wz w1) (HS1.out.keep fun g hg hl=>⟨(jl w1).block g hl,iZ hl (jl w1).size⟩) (BsS.keep (yF w1) fun g hg _=>⟨rfl,hg.2⟩) ((HVB.out.lift HB1.out).lift (jl w1))).mono ?_;rintro e w2 ⟨v2,rfl,hs,hb⟩;have HS2:=iH hs;have HB2:=iH ((jl w1).trans (hb.mono (jl w1).size));clear hs hb)
   |(go_at_call 17;refine(qU kd sec A c w0 HKA.out HVA.out).mono ?_;rw [R0.out];rintro e w1 ⟨v1,rfl,hs,hb⟩;obtain⟨A1,c1,hv1⟩:=Bs.formL hs;subst hv1;have HS1:=iH hs;have HB1:=iH hb;clear hs hb))
  go_ret2
  refine⟨_,by rw [R.out]<;>rfl,?_,(HB0.out.trans (HB1.out.mono HB0.out.size)).trans (HB2.out.mono (HB0.out.trans (HB1.out.mono HB0.out.size)).size)⟩
  rw [R.out]
  exact HS2.out.keep fun g hg _=>⟨rfl,Nat.le_trans (HB0.out.trans (HB1.out.mono HB0.out.size)).size (Nat.le_trans (jl w1).size hg.1),hg.2⟩
 ·have R:Hid (Ku out kd sec b=(2,[])):=iH ((iF (by rw [hp];simp)).trans (iT hl))
  have t1:((b.length:Int) != 16)=true:=by simp;omega
  clear hp hl
  go_enter Tryz.func19,Tryz.ntmps19
  go_upto_region 1 with fail
  rw [<-HW0.out]
  go_wp2_with(go_at_call 17;refine(qU kd sec A c w0 HKA.out HVA.out).mono ?_;rw [R0.out];rintro e w1 ⟨v1,rfl,hs,hb⟩;obtain⟨A1,c1,hv1⟩:=Bs.formL hs;subst hv1;have HS1:=iH hs;have HB1:=iH hb;clear hs hb)
  go_ret2
  exact EB.no0 R.out (HB0.out.trans (HB1.out.mono HB0.out.size))
theorem Yc:
 Calls Tryz.prog 21 #[.agg #[.int .i64 kd,.slice A sec.length c],.slice B b.length d] w (EB (Zg kd sec b) w):=by
 obtain⟨out,hout⟩:∃out:List UInt8->List UInt8->List UInt8,out=fun k b=>zH k Z16 b:=⟨_,rfl⟩
 have hf:∀(vk vi vb:Value) (k b:List UInt8),k.length=16->b.length=16->∀(w:World),Bs w w.heap.size vk k->Bs w w.heap.size vi Z16->Bs w w.heap.size vb b->Calls Tryz.prog 55 #[vk,vi,vb] w fun e w'=>∃v',e=.returned (.tuple #[v',.int .i64 0])/\BsS w' (New w w') v' (out k b)/\Below w.heap.size w w':=by
  rw [hout]
  exact fun vk vi vb k b hk hb w h1 h2 h3=>Ze vk vi vb k Z16 b 1 hk xC (by omega) w h1 h2 h3
 have HF:=iH hf
 rw [show Zg kd sec b=Ku out kd sec b by simp only [qn,Zg,Ku,hout]]
 clear hf hout
 obtain⟨w0,hw0⟩:∃w0,w0=w.alloc (.cells #[.int .i64 kd,.slice A sec.length c] 24):=⟨_,rfl⟩
 have HB0:Hid (Below w.heap.size w w0):=iH (by rw [hw0];exact ju _ _)
 have HW0:=iH hw0
 obtain⟨f0,f1,_⟩:=two (show w0.heap[w.heap.size]?=some (.cells #[.int .i64 kd,.slice A sec.length c] 24 (0,0))by rw [hw0];exact iN)
 have HVA:=iH (hv.lift HB0.out);have HKA:=iH (hK.below HB0.out hK.lt);have HVB:=iH (hb.lift HB0.out)
 clear hw0 hv hK hb
 rcases hp:vPw kd sec with _|_
 ·have R0:Hid (pkW kd sec=(14,[])):=iH (by unfold pkW;rw [iT hp])
  have R:Hid (Ku out kd sec b=(14,[])):=iH (iT hp)
  clear hp
  go_enter Tryz.func21,Tryz.ntmps21
  exact m06
 have R0:Hid (pkW kd sec=(0,kS kd sec)):=iH (by unfold pkW;rw [iF (by rw [hp];simp)])
 by_cases hl:b.length=16
 ·have R:Hid (Ku out kd sec b=(0,out (kS kd sec) b)):=iH ((iF (by rw [hp];simp)).trans (iF (fun h=>h hl)))
  have t1:((b.length:Int) != 16)=false:=by simp;omega
  have HL:=iH hl
  clear hp hl
  have Hm:=Ja
  go_enter Tryz.func21,Tryz.ntmps21
  go_upto_region 1 with fail
  rw [<-HW0.out]
  go_wp2_with(first
   |(go_at_call 55;refine(HF.out _ _ _ (kS kd sec) b (jL _ _) HL.out (wz w1) (HS1.out.keep fun g hg hl=>⟨(jl w1).block g hl,iZ hl (jl w1).size⟩) (BsS.keep (yF w1) fun g hg _=>⟨rfl,hg.2⟩) ((HVB.out.lift HB1.out).lift (jl w1))).mono ?_;rintro e w2 ⟨v2,rfl,hs,hb⟩;have HS2:=iH hs;have HB2:=iH ((jl w1).trans (hb.mono (jl w1).size));clear hs hb)
   |(go_at_call 17;refine(qU kd sec A c w0 HKA.out HVA.out).mono ?_;rw [R0.out];rintro e w1 ⟨v1,rfl,hs,hb⟩;obtain⟨A1,c1,hv1⟩:=Bs.formL hs;subst hv1;have HS1:=iH hs;have HB1:=iH hb;clear hs hb))
  go_ret2
  refine⟨_,by rw [R.out]<;>rfl,?_,(HB0.out.trans (HB1.out.mono HB0.out.size)).trans (HB2.out.mono (HB0.out.trans (HB1.out.mono HB0.out.size)).size)⟩
  rw [R.out]
  exact HS2.out.keep fun g hg _=>⟨rfl,Nat.le_trans (HB0.out.trans (HB1.out.mono HB0.out.size)).size (Nat.le_trans (jl w1).size hg.1),hg.2⟩
 ·have R:Hid (Ku out kd sec b=(2,[])):=iH ((iF (by rw [hp];simp)).trans (iT hl))
  have t1:((b.length:Int) != 16)=true:=by simp;omega
  clear hp hl
  go_enter Tryz.func21,Tryz.ntmps21
  go_upto_region 1 with fail
  rw [<-HW0.out]
  go_wp2_with(go_at_call 17;refine(qU kd sec A c w0 HKA.out HVA.out).mono ?_;rw [R0.out];rintro e w1 ⟨v1,rfl,hs,hb⟩;obtain⟨A1,c1,hv1⟩:=Bs.formL hs;subst hv1;have HS1:=iH hs;have HB1:=iH hb;clear hs hb)
  go_ret2
  exact EB.no0 R.out (HB0.out.trans (HB1.out.mono HB0.out.size))
end
end
end Go.Proofs.YtalmmiojbmpmiaaGreatDoor
