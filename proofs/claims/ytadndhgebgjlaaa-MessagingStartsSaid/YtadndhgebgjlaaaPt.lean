/- Start on both sides, in all cases -/
import Derived.Deep.CutBlock
import Derived.Test.YtadndhgebgjlaaaPr
import Derived.Test.YtadndhgebgjlaaaPs
set_option linter.unusedVariables false
set_option linter.unusedSimpArgs false
set_option maxRecDepth 100000
set_option maxHeartbeats 4000000
namespace Go.Proofs.Ytadndhgebgjlaaa
open Go.RowKit Go.Deep
def qC(k1 k2:List UInt8)(n:Int):Int×List UInt8×List UInt8×Int:=
 if ¬(k1.length=16/\k2.length=16)then(2,[],[],0)else if ¬(0<=n/\n<=1099511627776)then(3,[],[],0)else(0,k1,k2,n)
def KF(r:Int×List UInt8×List UInt8×Int)(w:World)(e:Ending)(w':World):Prop:=
 ∃v,e=.returned (.tuple #[v,.int .i64 r.1])/\yk w' (·<w'.heap.size) v r.2.1 r.2.2.1 r.2.2.2/\Below w.heap.size w w'
theorem Jv(va vb:Value)(k1 k2:List UInt8)(n:Int)(w:World)(ha:Bs w w.heap.size va k1)(hb:Bs w w.heap.size vb k2)(l1:k1.length<=140737488351232)(l2:k2.length<=140737488351232)(h1:¬k1.length=16):
 Calls Try.prog 12 #[va,vb,.int .i64 n] w fun e w'=>e=.returned (.tuple #[.agg #[.slice none 0 0,.slice none 0 0,.int .i64 0],.int .i64 2])/\Below w.heap.size w w':=by
 obtain⟨w0,hw0⟩:∃w0,w0=w.alloc (.cells #[.slice none 0 0,.slice none 0 0,.int .i64 0] 29):=⟨_,rfl⟩
 have HB0:Hid (Below w.heap.size w w0):=iH (by rw [hw0];exact iA)
 have HH0:Hid (w0.heap[w.heap.size]?=some (.cells #[.slice none 0 0,.slice none 0 0,.int .i64 0] 29 (0,0))):=iH (by rw [hw0];exact iN)
 have HA:=iH ha;have HB:=iH hb
 obtain⟨A,ca,rfl⟩:=Bs.formL ha
 obtain⟨B,cb,rfl⟩:=Bs.formL hb
 have HW0:=iH hw0
 clear ha hb hw0
 have t1:((k1.length:Int) != 16)=true:=by simp;omega
 clear h1
 go_enter Try.func12,Try.ntmps12
 go_upto_region 1 with fail
 rw [<-HW0.out]
 clear HW0
 go_upto_block 0 with (first
  |(go_at_call 32;refine(jl _ k2 w1 (HB.out.lift (HB0.out.trans (HB1.out.mono HB0.out.size)))).mono ?_;rintro e w2 ⟨v2,rfl,ho,hb⟩;obtain⟨A2,c2,hv2⟩:=OwnB.form ho;subst hv2;have HO2:=iH (OwnB.rd ho (by omega));have HB2:=iH hb;clear ho hb)
  |(go_at_call 32;refine(jl _ k1 w0 (HA.out.lift HB0.out)).mono ?_;rintro e w1 ⟨v1,rfl,ho,hb⟩;obtain⟨A1,c1,hv1⟩:=OwnB.form ho;subst hv1;have HO1:=iH (OwnB.rd ho (by omega));have HB1:=iH hb;clear ho hb))
 obtain⟨w3,hw3⟩:∃w3,w3=w2.alloc (.cells #[.slice A1 k1.length c1,.slice A2 k2.length c2,.int .i64 n] 29):=⟨_,rfl⟩
 rw [<-hw3]
 have HB3:Hid (Below w2.heap.size w2 w3):=iH (by rw [hw3];exact iA)
 have HH3:Hid (w3.heap[w2.heap.size]?=some (.cells #[.slice A1 k1.length c1,.slice A2 k2.length c2,.int .i64 n] 29 (0,0))):=iH (by rw [hw3];exact iN)
 have HB03:Hid (Below w0.heap.size w0 w3):=iH (HB1.out.trans ((HB2.out.trans (HB3.out.mono HB2.out.size)).mono HB1.out.size))
 clear hw3
 have hz:=((HB03.out).block w.heap.size (iG HH0.out)).trans HH0.out
 obtain⟨z0,z1,z2,zf⟩:=jb hz
 have zf0:=zf 0;have zf1:=zf 1;have zf2:=zf 2
 obtain⟨y0,y1,y2,_⟩:=jb (jF (.slice none 0 0) (.slice none 0 0) (.int .i64 0) hz)
 clear zf hz
 go_wp2_with fail
 refine bodyPost_ret (v:=.tuple #[.agg #[.slice none 0 0,.slice none 0 0,.int .i64 0],.int .i64 2]) (by simp only [set3]at y0 y1 y2;simp [results,Try.results12,go_sem,y0,y1,y2]) rfl ?_
 exact⟨rfl,jq (HB0.out.trans ((HB03.out).mono HB0.out.size)) iL⟩
theorem JW(va vb:Value)(k1 k2:List UInt8)(n:Int)(w:World)(ha:Bs w w.heap.size va k1)(hb:Bs w w.heap.size vb k2)(l1:k1.length<=140737488351232)(l2:k2.length<=140737488351232)(h1:k1.length=16)(h2:¬k2.length=16):
 Calls Try.prog 12 #[va,vb,.int .i64 n] w fun e w'=>e=.returned (.tuple #[.agg #[.slice none 0 0,.slice none 0 0,.int .i64 0],.int .i64 2])/\Below w.heap.size w w':=by
 obtain⟨w0,hw0⟩:∃w0,w0=w.alloc (.cells #[.slice none 0 0,.slice none 0 0,.int .i64 0] 29):=⟨_,rfl⟩
 have HB0:Hid (Below w.heap.size w w0):=iH (by rw [hw0];exact iA)
 have HH0:Hid (w0.heap[w.heap.size]?=some (.cells #[.slice none 0 0,.slice none 0 0,.int .i64 0] 29 (0,0))):=iH (by rw [hw0];exact iN)
 have HA:=iH ha;have HB:=iH hb
 obtain⟨A,ca,rfl⟩:=Bs.formL ha
 obtain⟨B,cb,rfl⟩:=Bs.formL hb
 have HW0:=iH hw0
 clear ha hb hw0
 have t1:((k1.length:Int) != 16)=false:=by simp;omega
 have t2:((k2.length:Int) != 16)=true:=by simp;omega
 clear h1 h2
 go_enter Try.func12,Try.ntmps12
 go_upto_region 1 with fail
 rw [<-HW0.out]
 clear HW0
 go_upto_block 0 with (first
  |(go_at_call 32;refine(jl _ k2 w1 (HB.out.lift (HB0.out.trans (HB1.out.mono HB0.out.size)))).mono ?_;rintro e w2 ⟨v2,rfl,ho,hb⟩;obtain⟨A2,c2,hv2⟩:=OwnB.form ho;subst hv2;have HO2:=iH (OwnB.rd ho (by omega));have HB2:=iH hb;clear ho hb)
  |(go_at_call 32;refine(jl _ k1 w0 (HA.out.lift HB0.out)).mono ?_;rintro e w1 ⟨v1,rfl,ho,hb⟩;obtain⟨A1,c1,hv1⟩:=OwnB.form ho;subst hv1;have HO1:=iH (OwnB.rd ho (by omega));have HB1:=iH hb;clear ho hb))
 obtain⟨w3,hw3⟩:∃w3,w3=w2.alloc (.cells #[.slice A1 k1.length c1,.slice A2 k2.length c2,.int .i64 n] 29):=⟨_,rfl⟩
 rw [<-hw3]
 have HB3:Hid (Below w2.heap.size w2 w3):=iH (by rw [hw3];exact iA)
 have HH3:Hid (w3.heap[w2.heap.size]?=some (.cells #[.slice A1 k1.length c1,.slice A2 k2.length c2,.int .i64 n] 29 (0,0))):=iH (by rw [hw3];exact iN)
 have HB03:Hid (Below w0.heap.size w0 w3):=iH (HB1.out.trans ((HB2.out.trans (HB3.out.mono HB2.out.size)).mono HB1.out.size))
 clear hw3
 have hz:=((HB03.out).block w.heap.size (iG HH0.out)).trans HH0.out
 obtain⟨z0,z1,z2,zf⟩:=jb hz
 have zf0:=zf 0;have zf1:=zf 1;have zf2:=zf 2
 obtain⟨y0,y1,y2,_⟩:=jb (jF (.slice none 0 0) (.slice none 0 0) (.int .i64 0) hz)
 clear zf hz
 go_wp2_with fail
 refine bodyPost_ret (v:=.tuple #[.agg #[.slice none 0 0,.slice none 0 0,.int .i64 0],.int .i64 2]) (by simp only [set3]at y0 y1 y2;simp [results,Try.results12,go_sem,y0,y1,y2]) rfl ?_
 exact⟨rfl,jq (HB0.out.trans ((HB03.out).mono HB0.out.size)) iL⟩
theorem K7(va vb:Value)(k1 k2:List UInt8)(n:Int)(w:World)(ha:Bs w w.heap.size va k1)(hb:Bs w w.heap.size vb k2)(l1:k1.length<=140737488351232)(l2:k2.length<=140737488351232)(h1:k1.length=16)(h2:k2.length=16)(hn:¬(0<=n/\n<=1099511627776)):
 Calls Try.prog 12 #[va,vb,.int .i64 n] w fun e w'=>e=.returned (.tuple #[.agg #[.slice none 0 0,.slice none 0 0,.int .i64 0],.int .i64 3])/\Below w.heap.size w w':=by
 obtain⟨w0,hw0⟩:∃w0,w0=w.alloc (.cells #[.slice none 0 0,.slice none 0 0,.int .i64 0] 29):=⟨_,rfl⟩
 have HB0:Hid (Below w.heap.size w w0):=iH (by rw [hw0];exact iA)
 have HH0:Hid (w0.heap[w.heap.size]?=some (.cells #[.slice none 0 0,.slice none 0 0,.int .i64 0] 29 (0,0))):=iH (by rw [hw0];exact iN)
 have HA:=iH ha;have HB:=iH hb
 obtain⟨A,ca,rfl⟩:=Bs.formL ha
 obtain⟨B,cb,rfl⟩:=Bs.formL hb
 have HW0:=iH hw0
 clear ha hb hw0
 have t1:((k1.length:Int) != 16)=false:=by simp;omega
 have t2:((k2.length:Int) != 16)=false:=by simp;omega
 have HV:Hid (vS k1 k2 n=false):=iH (decide_eq_false fun h=>hn ⟨h.2.2.1,h.2.2.2⟩)
 clear h1 h2 hn
 go_enter Try.func12,Try.ntmps12
 go_upto_region 1 with fail
 rw [<-HW0.out]
 clear HW0
 go_upto_block 0 with (first
  |(go_at_call 32;refine(jl _ k2 w1 (HB.out.lift (HB0.out.trans (HB1.out.mono HB0.out.size)))).mono ?_;rintro e w2 ⟨v2,rfl,ho,hb⟩;obtain⟨A2,c2,hv2⟩:=OwnB.form ho;subst hv2;have HO2:=iH (OwnB.rd ho (by omega));have HB2:=iH hb;clear ho hb)
  |(go_at_call 32;refine(jl _ k1 w0 (HA.out.lift HB0.out)).mono ?_;rintro e w1 ⟨v1,rfl,ho,hb⟩;obtain⟨A1,c1,hv1⟩:=OwnB.form ho;subst hv1;have HO1:=iH (OwnB.rd ho (by omega));have HB1:=iH hb;clear ho hb))
 obtain⟨w3,hw3⟩:∃w3,w3=w2.alloc (.cells #[.slice A1 k1.length c1,.slice A2 k2.length c2,.int .i64 n] 29):=⟨_,rfl⟩
 rw [<-hw3]
 have HB3:Hid (Below w2.heap.size w2 w3):=iH (by rw [hw3];exact iA)
 have HH3:Hid (w3.heap[w2.heap.size]?=some (.cells #[.slice A1 k1.length c1,.slice A2 k2.length c2,.int .i64 n] 29 (0,0))):=iH (by rw [hw3];exact iN)
 have HB03:Hid (Below w0.heap.size w0 w3):=iH (HB1.out.trans ((HB2.out.trans (HB3.out.mono HB2.out.size)).mono HB1.out.size))
 clear hw3
 obtain⟨p0,p1,p2,_⟩:=jb HH3.out
 go_upto_region 5 with (go_at_call 25;refine(jn _ k1 k2 n (·<w3.heap.size) w3 ⟨_,_,rfl,HO1.out.lift (HB2.out.trans (HB3.out.mono HB2.out.size)),HO2.out.lift HB3.out⟩).mono ?_;rw [HV.out];rintro e w4 ⟨rfl,hb⟩;have HB04:=iH (HB03.out.trans (hb.mono HB03.out.size));clear hb)
 clear p0 p1 p2
 have hz:=((HB04.out).block w.heap.size (iG HH0.out)).trans HH0.out
 obtain⟨z0,z1,z2,zf⟩:=jb hz
 have zf0:=zf 0;have zf1:=zf 1;have zf2:=zf 2
 obtain⟨y0,y1,y2,_⟩:=jb (jF (.slice none 0 0) (.slice none 0 0) (.int .i64 0) hz)
 clear zf hz
 go_wp2_with fail
 refine bodyPost_ret (v:=.tuple #[.agg #[.slice none 0 0,.slice none 0 0,.int .i64 0],.int .i64 3]) (by simp only [set3]at y0 y1 y2;simp [results,Try.results12,go_sem,y0,y1,y2]) rfl ?_
 exact⟨rfl,jq (HB0.out.trans ((HB04.out).mono HB0.out.size)) iL⟩
theorem Qt(va vb:Value)(k1 k2:List UInt8)(n:Int)(w:World)(ha:Bs w w.heap.size va k1)(hb:Bs w w.heap.size vb k2)(l1:k1.length<=140737488351232)(l2:k2.length<=140737488351232):Calls Try.prog 12 #[va,vb,.int .i64 n] w (KF (qC k1 k2 n) w):=by
 by_cases h:k1.length=16/\k2.length=16
 ·by_cases hn:0<=n/\n<=1099511627776
  ·refine(KI va vb k1 k2 n w ha hb h.1 h.2 hn.1 hn.2).mono ?_
   rintro e w' ⟨v,rfl,⟨A1,c1,B1,d1,rfl,h1,h2⟩,hb⟩
   rw [show qC k1 k2 n=(0,k1,k2,n) from by unfold qC;rw [if_neg (fun g=>g h),if_neg (fun g=>g hn)]]
   exact⟨_,rfl,⟨_,_,rfl,h1.keep fun _ hs _=>⟨rfl,hs.2⟩,h2.keep fun _ hs _=>⟨rfl,hs.2⟩⟩,hb⟩
  ·refine(K7 va vb k1 k2 n w ha hb l1 l2 h.1 h.2 hn).mono ?_
   rintro e w' ⟨rfl,hb⟩
   rw [show qC k1 k2 n=(3,[],[],0) from by unfold qC;rw [if_neg (fun g=>g h),if_pos hn]]
   exact⟨_,rfl,⟨_,_,rfl,BsS.nil0 _ _,BsS.nil0 _ _⟩,hb⟩
 ·rw [show qC k1 k2 n=(2,[],[],0) from by unfold qC;rw [if_pos h]]
  have key:Calls Try.prog 12 #[va,vb,.int .i64 n] w fun e w'=>e=.returned (.tuple #[.agg #[.slice none 0 0,.slice none 0 0,.int .i64 0],.int .i64 2])/\Below w.heap.size w w':=by
   by_cases h1:k1.length=16
   ·exact JW va vb k1 k2 n w ha hb l1 l2 h1 (fun h2=>h ⟨h1,h2⟩)
   ·exact Jv va vb k1 k2 n w ha hb l1 l2 h1
  refine key.mono ?_
  rintro e w' ⟨rfl,hb⟩
  exact⟨_,rfl,⟨_,_,rfl,BsS.nil0 _ _,BsS.nil0 _ _⟩,hb⟩
theorem J2(va vb:Value)(k1 k2:List UInt8)(n:Int)(w:World)(ha:Bs w w.heap.size va k1)(hb:Bs w w.heap.size vb k2)(h1:¬k1.length=16):
 Calls Try.prog 13 #[va,vb,.int .i64 n] w fun e w'=>e=.returned (.tuple #[.agg #[.slice none 0 0,.slice none 0 0,.int .i64 0],.int .i64 2])/\Below w.heap.size w w':=by
 obtain⟨w0,hw0⟩:∃w0,w0=w.alloc (.cells #[.slice none 0 0,.slice none 0 0,.int .i64 0] 29):=⟨_,rfl⟩
 have HB0:Hid (Below w.heap.size w w0):=iH (by rw [hw0];exact iA)
 have HH0:Hid (w0.heap[w.heap.size]?=some (.cells #[.slice none 0 0,.slice none 0 0,.int .i64 0] 29 (0,0))):=iH (by rw [hw0];exact iN)
 have HA:=iH ha;have HB:=iH hb
 obtain⟨A,ca,rfl⟩:=Bs.formL ha
 obtain⟨B,cb,rfl⟩:=Bs.formL hb
 have HW0:=iH hw0
 clear ha hb hw0
 have t1:((k1.length:Int) != 16)=true:=by simp;omega
 clear h1
 go_enter Try.func13,Try.ntmps13
 go_upto_region 1 with fail
 rw [<-HW0.out]
 clear HW0
 have hz:=((Below.refl _ w0).block w.heap.size (iG HH0.out)).trans HH0.out
 obtain⟨z0,z1,z2,zf⟩:=jb hz
 have zf0:=zf 0;have zf1:=zf 1;have zf2:=zf 2
 obtain⟨y0,y1,y2,_⟩:=jb (jF (.slice none 0 0) (.slice none 0 0) (.int .i64 0) hz)
 clear zf hz
 go_wp2_with fail
 refine bodyPost_ret (v:=.tuple #[.agg #[.slice none 0 0,.slice none 0 0,.int .i64 0],.int .i64 2]) (by simp only [set3]at y0 y1 y2;simp [results,Try.results13,go_sem,y0,y1,y2]) rfl ?_
 exact⟨rfl,jq (HB0.out.trans ((Below.refl _ w0).mono HB0.out.size)) iL⟩
theorem Jg(va vb:Value)(k1 k2:List UInt8)(n:Int)(w:World)(ha:Bs w w.heap.size va k1)(hb:Bs w w.heap.size vb k2)(h1:k1.length=16)(h2:¬k2.length=16):
 Calls Try.prog 13 #[va,vb,.int .i64 n] w fun e w'=>e=.returned (.tuple #[.agg #[.slice none 0 0,.slice none 0 0,.int .i64 0],.int .i64 2])/\Below w.heap.size w w':=by
 obtain⟨w0,hw0⟩:∃w0,w0=w.alloc (.cells #[.slice none 0 0,.slice none 0 0,.int .i64 0] 29):=⟨_,rfl⟩
 have HB0:Hid (Below w.heap.size w w0):=iH (by rw [hw0];exact iA)
 have HH0:Hid (w0.heap[w.heap.size]?=some (.cells #[.slice none 0 0,.slice none 0 0,.int .i64 0] 29 (0,0))):=iH (by rw [hw0];exact iN)
 have HA:=iH ha;have HB:=iH hb
 obtain⟨A,ca,rfl⟩:=Bs.formL ha
 obtain⟨B,cb,rfl⟩:=Bs.formL hb
 have HW0:=iH hw0
 clear ha hb hw0
 have t1:((k1.length:Int) != 16)=false:=by simp;omega
 have t2:((k2.length:Int) != 16)=true:=by simp;omega
 clear h1 h2
 go_enter Try.func13,Try.ntmps13
 go_upto_region 1 with fail
 rw [<-HW0.out]
 clear HW0
 have hz:=((Below.refl _ w0).block w.heap.size (iG HH0.out)).trans HH0.out
 obtain⟨z0,z1,z2,zf⟩:=jb hz
 have zf0:=zf 0;have zf1:=zf 1;have zf2:=zf 2
 obtain⟨y0,y1,y2,_⟩:=jb (jF (.slice none 0 0) (.slice none 0 0) (.int .i64 0) hz)
 clear zf hz
 go_wp2_with fail
 refine bodyPost_ret (v:=.tuple #[.agg #[.slice none 0 0,.slice none 0 0,.int .i64 0],.int .i64 2]) (by simp only [set3]at y0 y1 y2;simp [results,Try.results13,go_sem,y0,y1,y2]) rfl ?_
 exact⟨rfl,jq (HB0.out.trans ((Below.refl _ w0).mono HB0.out.size)) iL⟩
theorem yP(va vb:Value)(k1 k2:List UInt8)(n:Int)(w:World)(ha:Bs w w.heap.size va k1)(hb:Bs w w.heap.size vb k2)(h1:k1.length=16)(h2:k2.length=16)(hn:¬(0<=n/\n<=1099511627776)):
 Calls Try.prog 13 #[va,vb,.int .i64 n] w fun e w'=>e=.returned (.tuple #[.agg #[.slice none 0 0,.slice none 0 0,.int .i64 0],.int .i64 3])/\Below w.heap.size w w':=by
 obtain⟨w0,hw0⟩:∃w0,w0=w.alloc (.cells #[.slice none 0 0,.slice none 0 0,.int .i64 0] 29):=⟨_,rfl⟩
 have HB0:Hid (Below w.heap.size w w0):=iH (by rw [hw0];exact iA)
 have HH0:Hid (w0.heap[w.heap.size]?=some (.cells #[.slice none 0 0,.slice none 0 0,.int .i64 0] 29 (0,0))):=iH (by rw [hw0];exact iN)
 have HA:=iH ha;have HB:=iH hb
 obtain⟨A,ca,rfl⟩:=Bs.formL ha
 obtain⟨B,cb,rfl⟩:=Bs.formL hb
 have HW0:=iH hw0
 clear ha hb hw0
 have t1:((k1.length:Int) != 16)=false:=by simp;omega
 have t2:((k2.length:Int) != 16)=false:=by simp;omega
 rcases(by omega:n<0\/(0<=n/\n>1099511627776))with hn|⟨hn,hn2⟩
 ·have g1:decide (n<0)=true:=decide_eq_true hn
  clear h1 h2 hn
  go_enter Try.func13,Try.ntmps13
  go_upto_region 1 with fail
  rw [<-HW0.out]
  clear HW0
  have hz:=((Below.refl _ w0).block w.heap.size (iG HH0.out)).trans HH0.out
  obtain⟨z0,z1,z2,zf⟩:=jb hz
  have zf0:=zf 0;have zf1:=zf 1;have zf2:=zf 2
  obtain⟨y0,y1,y2,_⟩:=jb (jF (.slice none 0 0) (.slice none 0 0) (.int .i64 0) hz)
  clear zf hz
  go_wp2_with fail
  refine bodyPost_ret (v:=.tuple #[.agg #[.slice none 0 0,.slice none 0 0,.int .i64 0],.int .i64 3]) (by simp only [set3]at y0 y1 y2;simp [results,Try.results13,go_sem,y0,y1,y2]) rfl ?_
  exact⟨rfl,jq (HB0.out.trans ((Below.refl _ w0).mono HB0.out.size)) iL⟩
 ·have g1:decide (n<0)=false:=decide_eq_false (by omega)
  have g2:decide (n>1099511627776)=true:=decide_eq_true hn2
  clear h1 h2 hn hn2
  go_enter Try.func13,Try.ntmps13
  go_upto_region 1 with fail
  rw [<-HW0.out]
  clear HW0
  have hz:=((Below.refl _ w0).block w.heap.size (iG HH0.out)).trans HH0.out
  obtain⟨z0,z1,z2,zf⟩:=jb hz
  have zf0:=zf 0;have zf1:=zf 1;have zf2:=zf 2
  obtain⟨y0,y1,y2,_⟩:=jb (jF (.slice none 0 0) (.slice none 0 0) (.int .i64 0) hz)
  clear zf hz
  go_wp2_with fail
  refine bodyPost_ret (v:=.tuple #[.agg #[.slice none 0 0,.slice none 0 0,.int .i64 0],.int .i64 3]) (by simp only [set3]at y0 y1 y2;simp [results,Try.results13,go_sem,y0,y1,y2]) rfl ?_
  exact⟨rfl,jq (HB0.out.trans ((Below.refl _ w0).mono HB0.out.size)) iL⟩
theorem Qj(va vb:Value)(k1 k2:List UInt8)(n:Int)(w:World)(ha:Bs w w.heap.size va k1)(hb:Bs w w.heap.size vb k2):Calls Try.prog 13 #[va,vb,.int .i64 n] w (KF (qC k1 k2 n) w):=by
 by_cases h:k1.length=16/\k2.length=16
 ·by_cases hn:0<=n/\n<=1099511627776
  ·refine(Jw va vb k1 k2 n w ha hb h.1 h.2 hn.1 hn.2).mono ?_
   rintro e w' ⟨v,rfl,⟨A1,c1,B1,d1,rfl,h1,h2⟩,hb⟩
   rw [show qC k1 k2 n=(0,k1,k2,n) from by unfold qC;rw [if_neg (fun g=>g h),if_neg (fun g=>g hn)]]
   exact⟨_,rfl,⟨_,_,rfl,h1.keep fun _ hs _=>⟨rfl,hs.2⟩,h2.keep fun _ hs _=>⟨rfl,hs.2⟩⟩,hb⟩
  ·refine(yP va vb k1 k2 n w ha hb h.1 h.2 hn).mono ?_
   rintro e w' ⟨rfl,hb⟩
   rw [show qC k1 k2 n=(3,[],[],0) from by unfold qC;rw [if_neg (fun g=>g h),if_pos hn]]
   exact⟨_,rfl,⟨_,_,rfl,BsS.nil0 _ _,BsS.nil0 _ _⟩,hb⟩
 ·rw [show qC k1 k2 n=(2,[],[],0) from by unfold qC;rw [if_pos h]]
  have key:Calls Try.prog 13 #[va,vb,.int .i64 n] w fun e w'=>e=.returned (.tuple #[.agg #[.slice none 0 0,.slice none 0 0,.int .i64 0],.int .i64 2])/\Below w.heap.size w w':=by
   by_cases h1:k1.length=16
   ·exact Jg va vb k1 k2 n w ha hb h1 (fun h2=>h ⟨h1,h2⟩)
   ·exact J2 va vb k1 k2 n w ha hb h1
  refine key.mono ?_
  rintro e w' ⟨rfl,hb⟩
  exact⟨_,rfl,⟨_,_,rfl,BsS.nil0 _ _,BsS.nil0 _ _⟩,hb⟩
end Go.Proofs.Ytadndhgebgjlaaa
