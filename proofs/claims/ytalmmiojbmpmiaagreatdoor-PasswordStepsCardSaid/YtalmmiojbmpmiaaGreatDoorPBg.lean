/- Start on both sides, in all cases; Layer 21: which exchanges are usable, on both sides -/
import Derived.Deep.CutBlock
import Derived.Test.YtalmmiojbmpmiaaGreatDoorPBf
import Derived.Test.YtalmmiojbmpmiaaGreatDoorPz
import Derived.Test.YtalmmiojbmpmiaaGreatDoorPBa
set_option linter.all false
set_option maxRecDepth 100000
set_option maxHeartbeats 4000000
namespace Go.Proofs.YtalmmiojbmpmiaaGreatDoor
open Go.RowKit Go.Deep
theorem m4{P:Prop}(h:P:=by
 go_ret
 rw [R.out]
 exact⟨rfl,HB0.out.trans (HB1.out.mono HB0.out.size)⟩):P:=h
theorem m5{P:Prop}(h:P:=by
 go_ret
 rw [R.out]
 exact⟨rfl,HB0.out.trans (HC.out.mono HB0.out.size)⟩):P:=h
theorem mp{P:Prop}(h:P:=by
 clear hp
 go_wp2_with(go_at_call 48;refine HP.out.mono ?_;rintro e w1 ⟨rfl,hb⟩;have HB1:=iH hb;obtain⟨g0,g1,g2,g3,g4,g5,g6,g7,g8,g9,g10,g11,gf⟩:=j4 (FR.out w1 hb);clear hb)
 go_meet
 exact⟨rfl,HB1.out⟩):P:=h
theorem m05{P:Prop}(h:P:=by
 rcases ho:jk X.own with _|_
 ·have R:Hid (kY X=false):=iH (by unfold kY;rw [ho]<;>rfl)
  have HO:=iH ho
  clear ho
  go_wp2_with(go_at_call 29;refine iR (jK _ _) ?_;try(first|rw [HO.out]|rw [HT.out]|rw [HG.out]))
  go_meet
  exact⟨by rw [R.out],HB1.out⟩
 have HO:=iH ho
 rcases ht:jk X.oth with _|_
 ·have R:Hid (kY X=false):=iH (by unfold kY;rw [ho,ht]<;>rfl)
  have HT:=iH ht
  clear ho ht
  go_wp2_with(go_at_call 29;refine iR (jK _ _) ?_;try(first|rw [HO.out]|rw [HT.out]|rw [HG.out]))
  go_meet
  exact⟨by rw [R.out],HB1.out⟩
 ·have R:Hid (kY X=vS X.k1 X.k2 X.ct):=iH (by unfold kY;rw [ho,ht]<;>rfl)
  have HT:=iH ht
  clear ho ht
  go_wp2_with(first|(go_at_call 29;refine iR (jK _ _) ?_;try(first|rw [HO.out]|rw [HT.out]|rw [HG.out]))|(go_at_call 40;refine(Kl _ X.k1 X.k2 X.ct _ _ ⟨_,_,rfl,HA.out.lift HB1.out,HB.out.lift HB1.out⟩).mono ?_;rintro e w2 ⟨rfl,hb⟩;have HB2:=iH (HB1.out.trans (hb.mono HB1.out.size));clear hb))
  go_meet
  exact⟨by rw [R.out],HB2.out⟩):P:=h
theorem m0k{P:Prop}(h:P:=by
 have e5:(X.pr != 2)=true:=by simp;omega
 have e6:(X.pr != 3)=true:=by simp;omega
 clear hv hb hp
 go_enter Tryz.func76,Tryz.ntmps76
 go_upto_region 1 with fail
 rw [<-HW0.out]
 go_wp2_with(go_at_call 48;refine HP.out.mono ?_;rintro e w1 ⟨rfl,hb⟩;have HB1:=iH hb;obtain⟨g0,g1,g2,g3,g4,g5,g6,g7,g8,g9,g10,g11,gf⟩:=j4 (FR.out w1 hb);clear hb)
 go_ret
 rw [R.out]
 exact⟨rfl,HB0.out.trans (HB1.out.mono HB0.out.size)⟩):P:=h
theorem m1c{P:Prop}(h:P:=by
 go_enter Tryz.func123,Tryz.ntmps123
 go_upto_region 1 with fail
 rw [<-HW0.out]
 go_wp2_with(go_at_call 115;refine iR (kj _ _) ?_;try(first|rw [HO.out]|rw [HT.out]|rw [HG.out]))
 go_ret
 rw [R.out]
 exact⟨rfl,HB0.out⟩):P:=h
def Xe(k1 k2:List UInt8)(n:Int):Int×List UInt8×List UInt8×Int:=
 if ¬(k1.length=16/\k2.length=16)then(2,[],[],0)else if ¬(0<=n/\n<=1099511627776)then(3,[],[],0)else(0,k1,k2,n)
def j20(r:Int×List UInt8×List UInt8×Int)(w:World)(e:Ending)(w':World):Prop:=
 ∃v,e=.returned (.tuple #[v,.int .i64 r.1])/\Vt w' (·<w'.heap.size) v r.2.1 r.2.2.1 r.2.2.2/\Below w.heap.size w w'
section
variable(va vb:Value)(k1 k2:List UInt8)(n:Int)(w:World)(ha:Bs w w.heap.size va k1)(hb:Bs w w.heap.size vb k2)(l1:k1.length<=140737488351232)(l2:k2.length<=140737488351232)
include va vb k1 k2 n w ha hb l1 l2
theorem Yi(h1:¬k1.length=16):
 Calls Tryz.prog 163 #[va,vb,.int .i64 n] w fun e w'=>e=.returned (.tuple #[.agg #[.slice none 0 0,.slice none 0 0,.int .i64 0],.int .i64 2])/\Below w.heap.size w w':=by
 obtain⟨w0,hw0⟩:∃w0,w0=w.alloc (.cells #[.slice none 0 0,.slice none 0 0,.int .i64 0] 46):=⟨_,rfl⟩
 have HB0:Hid (Below w.heap.size w w0):=iH (by rw [hw0];exact iA)
 have HH0:Hid (w0.heap[w.heap.size]?=some (.cells #[.slice none 0 0,.slice none 0 0,.int .i64 0] 46 (0,0))):=iH (by rw [hw0];exact iN)
 have HA:=iH ha;have HB:=iH hb
 obtain⟨A,ca,rfl⟩:=Bs.formL ha
 obtain⟨B,cb,rfl⟩:=Bs.formL hb
 have HW0:=iH hw0
 clear ha hb hw0
 have t1:((k1.length:Int) != 16)=true:=by simp;omega
 clear h1
 go_enter Tryz.func163,Tryz.ntmps163
 go_upto_region 1 with fail
 rw [<-HW0.out]
 clear HW0
 go_upto_block 0 with (first
  |(go_at_call 67;refine(jr _ k2 w1 (HB.out.lift (HB0.out.trans (HB1.out.mono HB0.out.size)))).mono ?_;rintro e w2 ⟨v2,rfl,ho,hb⟩;obtain⟨A2,c2,hv2⟩:=OwnB.form ho;subst hv2;have HO2:=iH (OwnB.rd ho (by omega));have HB2:=iH hb;clear ho hb)
  |(go_at_call 67;refine(jr _ k1 w0 (HA.out.lift HB0.out)).mono ?_;rintro e w1 ⟨v1,rfl,ho,hb⟩;obtain⟨A1,c1,hv1⟩:=OwnB.form ho;subst hv1;have HO1:=iH (OwnB.rd ho (by omega));have HB1:=iH hb;clear ho hb))
 obtain⟨w3,hw3⟩:∃w3,w3=w2.alloc (.cells #[.slice A1 k1.length c1,.slice A2 k2.length c2,.int .i64 n] 46):=⟨_,rfl⟩
 rw [<-hw3]
 have HB3:Hid (Below w2.heap.size w2 w3):=iH (by rw [hw3];exact iA)
 have HH3:Hid (w3.heap[w2.heap.size]?=some (.cells #[.slice A1 k1.length c1,.slice A2 k2.length c2,.int .i64 n] 46 (0,0))):=iH (by rw [hw3];exact iN)
 have HB03:Hid (Below w0.heap.size w0 w3):=iH (HB1.out.trans ((HB2.out.trans (HB3.out.mono HB2.out.size)).mono HB1.out.size))
 clear hw3
 have hz:=((HB03.out).block w.heap.size (iG HH0.out)).trans HH0.out
 obtain⟨z0,z1,z2,zf⟩:=xx hz
 have zf0:=zf 0;have zf1:=zf 1;have zf2:=zf 2
 obtain⟨y0,y1,y2,_⟩:=xx (zr (.slice none 0 0) (.slice none 0 0) (.int .i64 0) hz)
 clear zf hz
 go_wp2_with fail
 refine bodyPost_ret (v:=.tuple #[.agg #[.slice none 0 0,.slice none 0 0,.int .i64 0],.int .i64 2]) (by simp only [Xd]at y0 y1 y2;simp [results,Tryz.results163,go_sem,y0,y1,y2]) rfl ?_
 exact⟨rfl,qh (HB0.out.trans ((HB03.out).mono HB0.out.size)) iL⟩
theorem Yj(h1:k1.length=16)(h2:¬k2.length=16):
 Calls Tryz.prog 163 #[va,vb,.int .i64 n] w fun e w'=>e=.returned (.tuple #[.agg #[.slice none 0 0,.slice none 0 0,.int .i64 0],.int .i64 2])/\Below w.heap.size w w':=by
 obtain⟨w0,hw0⟩:∃w0,w0=w.alloc (.cells #[.slice none 0 0,.slice none 0 0,.int .i64 0] 46):=⟨_,rfl⟩
 have HB0:Hid (Below w.heap.size w w0):=iH (by rw [hw0];exact iA)
 have HH0:Hid (w0.heap[w.heap.size]?=some (.cells #[.slice none 0 0,.slice none 0 0,.int .i64 0] 46 (0,0))):=iH (by rw [hw0];exact iN)
 have HA:=iH ha;have HB:=iH hb
 obtain⟨A,ca,rfl⟩:=Bs.formL ha
 obtain⟨B,cb,rfl⟩:=Bs.formL hb
 have HW0:=iH hw0
 clear ha hb hw0
 have t1:((k1.length:Int) != 16)=false:=by simp;omega
 have t2:((k2.length:Int) != 16)=true:=by simp;omega
 clear h1 h2
 go_enter Tryz.func163,Tryz.ntmps163
 go_upto_region 1 with fail
 rw [<-HW0.out]
 clear HW0
 go_upto_block 0 with (first
  |(go_at_call 67;refine(jr _ k2 w1 (HB.out.lift (HB0.out.trans (HB1.out.mono HB0.out.size)))).mono ?_;rintro e w2 ⟨v2,rfl,ho,hb⟩;obtain⟨A2,c2,hv2⟩:=OwnB.form ho;subst hv2;have HO2:=iH (OwnB.rd ho (by omega));have HB2:=iH hb;clear ho hb)
  |(go_at_call 67;refine(jr _ k1 w0 (HA.out.lift HB0.out)).mono ?_;rintro e w1 ⟨v1,rfl,ho,hb⟩;obtain⟨A1,c1,hv1⟩:=OwnB.form ho;subst hv1;have HO1:=iH (OwnB.rd ho (by omega));have HB1:=iH hb;clear ho hb))
 obtain⟨w3,hw3⟩:∃w3,w3=w2.alloc (.cells #[.slice A1 k1.length c1,.slice A2 k2.length c2,.int .i64 n] 46):=⟨_,rfl⟩
 rw [<-hw3]
 have HB3:Hid (Below w2.heap.size w2 w3):=iH (by rw [hw3];exact iA)
 have HH3:Hid (w3.heap[w2.heap.size]?=some (.cells #[.slice A1 k1.length c1,.slice A2 k2.length c2,.int .i64 n] 46 (0,0))):=iH (by rw [hw3];exact iN)
 have HB03:Hid (Below w0.heap.size w0 w3):=iH (HB1.out.trans ((HB2.out.trans (HB3.out.mono HB2.out.size)).mono HB1.out.size))
 clear hw3
 have hz:=((HB03.out).block w.heap.size (iG HH0.out)).trans HH0.out
 obtain⟨z0,z1,z2,zf⟩:=xx hz
 have zf0:=zf 0;have zf1:=zf 1;have zf2:=zf 2
 obtain⟨y0,y1,y2,_⟩:=xx (zr (.slice none 0 0) (.slice none 0 0) (.int .i64 0) hz)
 clear zf hz
 go_wp2_with fail
 refine bodyPost_ret (v:=.tuple #[.agg #[.slice none 0 0,.slice none 0 0,.int .i64 0],.int .i64 2]) (by simp only [Xd]at y0 y1 y2;simp [results,Tryz.results163,go_sem,y0,y1,y2]) rfl ?_
 exact⟨rfl,qh (HB0.out.trans ((HB03.out).mono HB0.out.size)) iL⟩
theorem Yh(h1:k1.length=16)(h2:k2.length=16)(hn:¬(0<=n/\n<=1099511627776)):
 Calls Tryz.prog 163 #[va,vb,.int .i64 n] w fun e w'=>e=.returned (.tuple #[.agg #[.slice none 0 0,.slice none 0 0,.int .i64 0],.int .i64 3])/\Below w.heap.size w w':=by
 obtain⟨w0,hw0⟩:∃w0,w0=w.alloc (.cells #[.slice none 0 0,.slice none 0 0,.int .i64 0] 46):=⟨_,rfl⟩
 have HB0:Hid (Below w.heap.size w w0):=iH (by rw [hw0];exact iA)
 have HH0:Hid (w0.heap[w.heap.size]?=some (.cells #[.slice none 0 0,.slice none 0 0,.int .i64 0] 46 (0,0))):=iH (by rw [hw0];exact iN)
 have HA:=iH ha;have HB:=iH hb
 obtain⟨A,ca,rfl⟩:=Bs.formL ha
 obtain⟨B,cb,rfl⟩:=Bs.formL hb
 have HW0:=iH hw0
 clear ha hb hw0
 have t1:((k1.length:Int) != 16)=false:=by simp;omega
 have t2:((k2.length:Int) != 16)=false:=by simp;omega
 have HV:Hid (vS k1 k2 n=false):=iH (decide_eq_false fun h=>hn ⟨h.2.2.1,h.2.2.2⟩)
 clear h1 h2 hn
 go_enter Tryz.func163,Tryz.ntmps163
 go_upto_region 1 with fail
 rw [<-HW0.out]
 clear HW0
 go_upto_block 0 with (first
  |(go_at_call 67;refine(jr _ k2 w1 (HB.out.lift (HB0.out.trans (HB1.out.mono HB0.out.size)))).mono ?_;rintro e w2 ⟨v2,rfl,ho,hb⟩;obtain⟨A2,c2,hv2⟩:=OwnB.form ho;subst hv2;have HO2:=iH (OwnB.rd ho (by omega));have HB2:=iH hb;clear ho hb)
  |(go_at_call 67;refine(jr _ k1 w0 (HA.out.lift HB0.out)).mono ?_;rintro e w1 ⟨v1,rfl,ho,hb⟩;obtain⟨A1,c1,hv1⟩:=OwnB.form ho;subst hv1;have HO1:=iH (OwnB.rd ho (by omega));have HB1:=iH hb;clear ho hb))
 obtain⟨w3,hw3⟩:∃w3,w3=w2.alloc (.cells #[.slice A1 k1.length c1,.slice A2 k2.length c2,.int .i64 n] 46):=⟨_,rfl⟩
 rw [<-hw3]
 have HB3:Hid (Below w2.heap.size w2 w3):=iH (by rw [hw3];exact iA)
 have HH3:Hid (w3.heap[w2.heap.size]?=some (.cells #[.slice A1 k1.length c1,.slice A2 k2.length c2,.int .i64 n] 46 (0,0))):=iH (by rw [hw3];exact iN)
 have HB03:Hid (Below w0.heap.size w0 w3):=iH (HB1.out.trans ((HB2.out.trans (HB3.out.mono HB2.out.size)).mono HB1.out.size))
 clear hw3
 obtain⟨p0,p1,p2,_⟩:=xx HH3.out
 go_upto_region 5 with (go_at_call 177;refine(ZY _ k1 k2 n (·<w3.heap.size) w3 ⟨_,_,rfl,HO1.out.lift (HB2.out.trans (HB3.out.mono HB2.out.size)),HO2.out.lift HB3.out⟩).mono ?_;rw [HV.out];rintro e w4 ⟨rfl,hb⟩;have HB04:=iH (HB03.out.trans (hb.mono HB03.out.size));clear hb)
 clear p0 p1 p2
 have hz:=((HB04.out).block w.heap.size (iG HH0.out)).trans HH0.out
 obtain⟨z0,z1,z2,zf⟩:=xx hz
 have zf0:=zf 0;have zf1:=zf 1;have zf2:=zf 2
 obtain⟨y0,y1,y2,_⟩:=xx (zr (.slice none 0 0) (.slice none 0 0) (.int .i64 0) hz)
 clear zf hz
 go_wp2_with fail
 refine bodyPost_ret (v:=.tuple #[.agg #[.slice none 0 0,.slice none 0 0,.int .i64 0],.int .i64 3]) (by simp only [Xd]at y0 y1 y2;simp [results,Tryz.results163,go_sem,y0,y1,y2]) rfl ?_
 exact⟨rfl,qh (HB0.out.trans ((HB04.out).mono HB0.out.size)) iL⟩
theorem j18:Calls Tryz.prog 163 #[va,vb,.int .i64 n] w (j20 (Xe k1 k2 n) w):=by
 by_cases h:k1.length=16/\k2.length=16
 ·by_cases hn:0<=n/\n<=1099511627776
  ·refine(Qe va vb k1 k2 n w ha hb h.1 h.2 hn.1 hn.2).mono ?_
   rintro e w' ⟨v,rfl,⟨A1,c1,B1,d1,rfl,h1,h2⟩,hb⟩
   rw [show Xe k1 k2 n=(0,k1,k2,n) from by unfold Xe;rw [iF (fun g=>g h),iF (fun g=>g hn)]]
   exact⟨_,rfl,⟨_,_,rfl,h1.keep fun _ hs _=>⟨rfl,hs.2⟩,h2.keep fun _ hs _=>⟨rfl,hs.2⟩⟩,hb⟩
  ·refine(Yh va vb k1 k2 n w ha hb l1 l2 h.1 h.2 hn).mono ?_
   rintro e w' ⟨rfl,hb⟩
   rw [show Xe k1 k2 n=(3,[],[],0) from by unfold Xe;rw [iF (fun g=>g h),iT hn]]
   exact⟨_,rfl,⟨_,_,rfl,BsS.nil0 _ _,BsS.nil0 _ _⟩,hb⟩
 ·rw [show Xe k1 k2 n=(2,[],[],0) from by unfold Xe;rw [iT h]]
  have key:Calls Tryz.prog 163 #[va,vb,.int .i64 n] w fun e w'=>e=.returned (.tuple #[.agg #[.slice none 0 0,.slice none 0 0,.int .i64 0],.int .i64 2])/\Below w.heap.size w w':=by
   by_cases h1:k1.length=16
   ·exact Yj va vb k1 k2 n w ha hb l1 l2 h1 (fun h2=>h ⟨h1,h2⟩)
   ·exact Yi va vb k1 k2 n w ha hb l1 l2 h1
  refine key.mono ?_
  rintro e w' ⟨rfl,hb⟩
  exact⟨_,rfl,⟨_,_,rfl,BsS.nil0 _ _,BsS.nil0 _ _⟩,hb⟩
end
theorem zJ(p:Int)(w:World):Calls Tryz.prog 66 #[.int .i64 p] w fun e w'=>e=.returned (.bool (decide (p=2\/p=3)))/\w'=w:=by
 go_enter Tryz.func66,Tryz.ntmps66
 by_cases h:p=2<;>by_cases h2:p=3<;>(first|(have t1:(p==2)=true:=by simp [h])|(have t1:(p==2)=false:=by simp [h]))<;>(first|(have t2:(p==3)=true:=by simp [h2])|(have t2:(p==3)=false:=by simp [h2]))<;>(have R:Hid (decide (p=2\/p=3)=decide (p=2)||decide (p=3)):=iH (by simp [h,h2]);clear R)<;>(have h':=iH h;have h2':=iH h2;clear h h2;go_wp2_with fail;go_ret;exact⟨by simp [h'.out,h2'.out],rfl⟩)
theorem YW(k:Int)(w:World):Calls Tryz.prog 140 #[.int .i64 k] w fun e w'=>e=.returned (.bool (okS k))/\w'=w:=by
 rw [j0g]
 go_enter Tryz.func140,Tryz.ntmps140
 exact m2n
theorem j0n(k1 k2:List UInt8)(n:Int)(aA bA:Option Addr)(ac bc:Nat)(w:World)(h1:Bs w w.heap.size (.slice aA k1.length ac) k1)(h2:Bs w w.heap.size (.slice bA k2.length bc) k2)(l1:k1.length<=140737488351232)(l2:k2.length<=140737488351232):
 Calls Tryz.prog 160 #[.agg #[.slice aA k1.length ac,.slice bA k2.length bc,.int .i64 n]] w fun e w'=>e=.returned (.bool (vS k1 k2 n))/\Below w.heap.size w w':=by
 obtain⟨w0,hw0⟩:∃w0,w0=w.alloc (.cells #[.slice aA k1.length ac,.slice bA k2.length bc,.int .i64 n] 46):=⟨_,rfl⟩
 have HB0:Hid (Below w.heap.size w w0):=iH (by rw [hw0];exact ju _ _)
 obtain⟨f0,f1,f2,_⟩:=xx (show w0.heap[w.heap.size]?=some (.cells #[.slice aA k1.length ac,.slice bA k2.length bc,.int .i64 n] 46 (0,0))by rw [hw0];exact iN)
 have HW0:=iH hw0
 have HS:=iH (j18 _ _ k1 k2 n w0 (h1.lift HB0.out) (h2.lift HB0.out) l1 l2)
 obtain⟨⟨er,q1,q2,q3⟩,hr⟩:∃r,Xe k1 k2 n=r:=⟨_,rfl⟩
 have R:Hid (vS k1 k2 n=(er==0)):=iH (by
  unfold Xe at hr
  unfold vS
  split at hr
  ·rename_i h
   obtain⟨rfl,_⟩:=Prod.mk.inj hr
   exact decide_eq_false (fun x=>h ⟨x.1,x.2.1⟩)
  ·split at hr
   ·rename_i h
    obtain⟨rfl,_⟩:=Prod.mk.inj hr
    exact decide_eq_false (fun x=>h x.2.2)
   ·rename_i h1 h2
    obtain⟨rfl,_⟩:=Prod.mk.inj hr
    exact decide_eq_true ⟨(Decidable.not_not.1 h1).1,(Decidable.not_not.1 h1).2,Decidable.not_not.1 h2⟩)
 rw [hr]at HS
 clear hw0 h1 h2 hr l1 l2
 go_enter Tryz.func160,Tryz.ntmps160
 go_upto_region 1 with fail
 rw [<-HW0.out]
 go_wp2_with(go_at_call 163;refine HS.out.mono ?_;rintro e w1 ⟨v1,rfl,⟨x1,y1,rfl,hx,hy⟩,hb⟩;obtain⟨xA,xc,hp⟩:=Bs.formL hx;subst hp;obtain⟨yA,yc,hp⟩:=Bs.formL hy;subst hp;have HB1:=iH hb;clear hb hx hy)
 go_ret
 rw [R.out]
 exact⟨rfl,HB0.out.trans (Below.mono (by first|exact HB1.out|exact HB1.out.alloc HB1.out.size _|exact qh (HB1.out.alloc HB1.out.size _) HB1.out.size) HB0.out.size)⟩
theorem Xx(X:Exg)(sA nA aA bA:Option Addr)(sc nc ac bc:Nat)(w:World):Calls Tryz.prog 122 #[.agg #[.int .i64 X.kd,.slice sA X.sec.length sc,.int .i64 X.pr,.int .i64 X.st,.slice nA X.non.length nc,.int .i64 X.x,.int .i64 X.g,.int .i64 X.own,.int .i64 X.oth,.slice aA X.k1.length ac,.slice bA X.k2.length bc,.int .i64 X.ct]] w fun e w'=>e=.returned (.bool (kh X))/\Below w.heap.size w w':=by
 obtain⟨w0,hw0⟩:∃w0,w0=w.alloc (.cells #[.int .i64 X.kd,.slice sA X.sec.length sc,.int .i64 X.pr,.int .i64 X.st,.slice nA X.non.length nc,.int .i64 X.x,.int .i64 X.g,.int .i64 X.own,.int .i64 X.oth,.slice aA X.k1.length ac,.slice bA X.k2.length bc,.int .i64 X.ct] 48):=⟨_,rfl⟩
 have HB0:Hid (Below w.heap.size w w0):=iH (by rw [hw0];exact ju _ _)
 have FR:Hid (∀W,Below w0.heap.size w0 W->W.heap[w.heap.size]?=some (.cells #[.int .i64 X.kd,.slice sA X.sec.length sc,.int .i64 X.pr,.int .i64 X.st,.slice nA X.non.length nc,.int .i64 X.x,.int .i64 X.g,.int .i64 X.own,.int .i64 X.oth,.slice aA X.k1.length ac,.slice bA X.k2.length bc,.int .i64 X.ct] 48 (0,0))):=iH (fun W h=>(h.block w.heap.size (by rw [hw0];simp)).trans (by rw [hw0];exact iN))
 have HW0:=iH hw0
 have HP:=iH (kT X.kd X.sec sA sc w0)
 have HM:=iH (zJ X.pr)
 obtain⟨f0,f1,f2,f3,f4,f5,f6,f7,f8,f9,f10,f11,ff⟩:=j4 (FR.out w0 iB)
 clear hw0
 rcases hv:vPw X.kd X.sec with _|_
 ·have R:Hid (kh X=false):=iH (by unfold kh;rw [hv]<;>rfl)
  rw [hv]at HP
  clear hv
  go_enter Tryz.func122,Tryz.ntmps122
  go_upto_region 1 with fail
  rw [<-HW0.out]
  go_wp2_with(go_at_call 45;refine HP.out.mono ?_;rintro e w1 ⟨rfl,hb⟩;have HB1:=iH hb;obtain⟨g0,g1,g2,g3,g4,g5,g6,g7,g8,g9,g10,g11,gf⟩:=j4 (FR.out w1 hb);clear hb)
  exact m4
 ·have R:Hid (kh X=(decide (X.pr=2)||decide (X.pr=3))):=iH (by unfold kh;rw [hv,Bool.true_and,Bool.decide_or])
  rw [hv]at HP
  clear hv
  go_enter Tryz.func122,Tryz.ntmps122
  go_upto_region 1 with fail
  rw [<-HW0.out]
  go_wp2_with(first
   |(go_at_call 45;refine HP.out.mono ?_;rintro e w1 ⟨rfl,hb⟩;have HB1:=iH hb;obtain⟨g0,g1,g2,g3,g4,g5,g6,g7,g8,g9,g10,g11,gf⟩:=j4 (FR.out w1 hb);clear hb)
   |(go_at_call 66;refine iR (HM.out _) ?_))
  exact m4
theorem KK(X:Exg)(sA nA aA bA:Option Addr)(sc nc ac bc:Nat)(w:World)(h1:Bs w w.heap.size (.slice aA X.k1.length ac) X.k1)(h2:Bs w w.heap.size (.slice bA X.k2.length bc) X.k2)(l1:X.k1.length<=140737488351232)(l2:X.k2.length<=140737488351232):Calls Tryz.prog 123 #[.agg #[.int .i64 X.kd,.slice sA X.sec.length sc,.int .i64 X.pr,.int .i64 X.st,.slice nA X.non.length nc,.int .i64 X.x,.int .i64 X.g,.int .i64 X.own,.int .i64 X.oth,.slice aA X.k1.length ac,.slice bA X.k2.length bc,.int .i64 X.ct]] w fun e w'=>e=.returned (.bool (kY X))/\Below w.heap.size w w':=by
 obtain⟨w0,hw0⟩:∃w0,w0=w.alloc (.cells #[.int .i64 X.kd,.slice sA X.sec.length sc,.int .i64 X.pr,.int .i64 X.st,.slice nA X.non.length nc,.int .i64 X.x,.int .i64 X.g,.int .i64 X.own,.int .i64 X.oth,.slice aA X.k1.length ac,.slice bA X.k2.length bc,.int .i64 X.ct] 48):=⟨_,rfl⟩
 have HB0:Hid (Below w.heap.size w w0):=iH (by rw [hw0];exact ju _ _)
 have FR:Hid (∀W,Below w0.heap.size w0 W->W.heap[w.heap.size]?=some (.cells #[.int .i64 X.kd,.slice sA X.sec.length sc,.int .i64 X.pr,.int .i64 X.st,.slice nA X.non.length nc,.int .i64 X.x,.int .i64 X.g,.int .i64 X.own,.int .i64 X.oth,.slice aA X.k1.length ac,.slice bA X.k2.length bc,.int .i64 X.ct] 48 (0,0))):=iH (fun W h=>(h.block w.heap.size (by rw [hw0];simp)).trans (by rw [hw0];exact iN))
 have HW0:=iH hw0
 have HS:=iH (j0n X.k1 X.k2 X.ct aA bA ac bc w0 (h1.lift HB0.out) (h2.lift HB0.out) l1 l2)
 obtain⟨f0,f1,f2,f3,f4,f5,f6,f7,f8,f9,f10,f11,ff⟩:=j4 (FR.out w0 iB)
 clear hw0 h1 h2 l1 l2
 rcases ho:jk X.own with _|_
 ·have R:Hid (kY X=false):=iH (by unfold kY;rw [ho]<;>rfl)
  have HO:=iH ho
  clear ho
  exact m1c
 have HO:=iH ho
 rcases ht:jk X.oth with _|_
 ·have R:Hid (kY X=false):=iH (by unfold kY;rw [ho,ht]<;>rfl)
  have HT:=iH ht
  clear ho ht
  exact m1c
 ·have R:Hid (kY X=vS X.k1 X.k2 X.ct):=iH (by unfold kY;rw [ho,ht]<;>rfl)
  have HT:=iH ht
  clear ho ht
  go_enter Tryz.func123,Tryz.ntmps123
  go_upto_region 1 with fail
  rw [<-HW0.out]
  go_wp2_with(first|(go_at_call 115;refine iR (kj _ _) ?_;try(first|rw [HO.out]|rw [HT.out]|rw [HG.out]))|(go_at_call 160;refine HS.out.mono ?_;rintro e w1 ⟨rfl,hb⟩;have HB1:=iH hb;clear hb))
  exact m4
end Go.Proofs.YtalmmiojbmpmiaaGreatDoor
