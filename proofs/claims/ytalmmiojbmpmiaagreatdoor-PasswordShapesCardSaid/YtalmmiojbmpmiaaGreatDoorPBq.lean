/- Sessions started, both sides; Start on both sides, in all cases -/
import Derived.Deep.CutBlock
import Derived.Test.YtalmmiojbmpmiaaGreatDoorPBa
set_option linter.all false
set_option maxRecDepth 100000
set_option maxHeartbeats 4000000
namespace Go.Proofs.YtalmmiojbmpmiaaGreatDoor
open Go.RowKit Go.Deep
def j1h(w:World)(S:Nat->Prop)(v:Value)(k1 k2:List UInt8)(n:Int):Prop:=∃A c B d,v=.agg #[.slice A 16 c,.slice B 16 d,.int .i64 n]/\BsS w S (.slice A 16 c) k1/\BsS w S (.slice B 16 d) k2
theorem Qm(A B:Option Addr)(c d:Nat)(n:Int)(w:World)(h0:0<=n)(h1:n<=1099511627776):Calls Tryz.prog 177 #[.agg #[.slice A 16 c,.slice B 16 d,.int .i64 n]] w fun e w'=>e=.returned (.bool true)/\Below w.heap.size w w':=by
 go_enter Tryz.func177,Tryz.ntmps177
 go_wp2_with fail
 go_ret
 exact⟨rfl,iA⟩
theorem XW(va vb:Value)(k1 k2:List UInt8)(n:Int)(w:World)(ha:Bs w w.heap.size va k1)(hb:Bs w w.heap.size vb k2)(h1:k1.length=16)(h2:k2.length=16)(h0:0<=n)(hn:n<=1099511627776):
 Calls Tryz.prog 163 #[va,vb,.int .i64 n] w fun e w'=>∃v,e=.returned (.tuple #[v,.int .i64 0])/\j1h w' (New w w') v k1 k2 n/\Below w.heap.size w w':=by
 obtain⟨w0,hw0⟩:∃w0,w0=w.alloc (.cells #[.slice none 0 0,.slice none 0 0,.int .i64 0] 46):=⟨_,rfl⟩
 have hB0:Below w.heap.size w w0:=by rw [hw0];exact iA
 have hh0:w0.heap[w.heap.size]?=some (.cells #[.slice none 0 0,.slice none 0 0,.int .i64 0] 46 (0,0)):=by rw [hw0];exact iN
 have HA:=iH ha;have HB:=iH hb;have H1:=iH h1;have H2:=iH h2
 obtain⟨A,na,ca,rfl⟩:=ha.form
 obtain⟨B,nb,cb,rfl⟩:=hb.form
 obtain rfl:na=16:=by rw [Bs.lenEq ha];exact h1
 obtain rfl:nb=16:=by rw [Bs.lenEq hb];exact h2
 have HW0:=iH hw0;have HB0:=iH hB0;have HH0:=iH hh0
 clear ha hb h1 h2 hw0 hB0 hh0
 go_enter Tryz.func163,Tryz.ntmps163
 go_upto_region 1 with fail
 rw [<-HW0.out]
 clear HW0
 go_upto_region 2 with (first
  |(go_at_call 67;refine(jr _ k2 w1 (HB.out.lift (HB0.out.trans (HB1.out.mono HB0.out.size)))).mono ?_;rintro e w2 ⟨v2,rfl,ho,hb⟩;obtain⟨A2,c2,hv2⟩:=OwnB.form ho;rw [H2.out]at hv2;subst hv2;have HO2:=iH (OwnB.out ho (by rw [H2.out];omega) w1 iL);have HB2:=iH hb;clear ho hb)
  |(go_at_call 67;refine(jr _ k1 w0 (HA.out.lift HB0.out)).mono ?_;rintro e w1 ⟨v1,rfl,ho,hb⟩;obtain⟨A1,c1,hv1⟩:=OwnB.form ho;rw [H1.out]at hv1;subst hv1;have HO1:=iH (OwnB.out ho (by rw [H1.out];omega) w0 iL);have HB1:=iH hb;clear ho hb))
 obtain⟨w3,hw3⟩:∃w3,w3=w2.alloc (.cells #[.slice A1 16 c1,.slice A2 16 c2,.int .i64 n] 46):=⟨_,rfl⟩
 rw [<-hw3]
 have hh3:w3.heap[w2.heap.size]?=some (.cells #[.slice A1 16 c1,.slice A2 16 c2,.int .i64 n] 46 (0,0)):=by rw [hw3];exact iN
 have HB3:Hid (Below w2.heap.size w2 w3):=iH (by rw [hw3];exact iA)
 obtain⟨p0,p1,p2,_⟩:=xw hh3
 have HH3:=iH hh3
 have HV:=iH (Qm A1 A2 c1 c2 n w3 h0 hn)
 clear hw3 hh3
 go_upto_region 6 with (go_at_call 177;refine HV.out.mono ?_;rintro e w4 ⟨rfl,hb⟩;have HB4:=iH hb;clear hb)
 have s0:=HB0.out.size;have s1:=HB1.out.size;have s2:=HB2.out.size;have s3:=HB3.out.size
 have hlt0:=(iG HH0.out)
 have hh4:=(HB4.out.block w2.heap.size (iG HH3.out)).trans HH3.out
 have hz4:=(HB4.out.block w.heap.size (by omega)).trans ((HB3.out.block w.heap.size (by omega)).trans ((HB2.out.block w.heap.size (by omega)).trans ((HB1.out.block w.heap.size hlt0).trans HH0.out)))
 have HZ4:=iH hz4
 obtain⟨q0,q1,q2,_⟩:=xw hh4
 obtain⟨z0,z1,z2,zf⟩:=xw hz4
 have zf0:=zf 0;have zf1:=zf 1;have zf2:=zf 2
 obtain⟨y0,y1,y2,_⟩:=xw (zl (.slice A1 16 c1) (.slice A2 16 c2) (.int .i64 n) HZ4.out)
 clear p0 p1 p2 zf hh4 hz4
 go_wp2_with fail
 refine bodyPost_ret (v:=.tuple #[.agg #[.slice A1 16 c1,.slice A2 16 c2,.int .i64 n],.int .i64 0]) (by simp only [Z6]at y0 y1 y2;simp [results,Tryz.results163,go_sem,y0,y1,y2]) rfl ?_
 have s4:=HB4.out.size
 have hb04:Below w.heap.size w w4:=HB0.out.trans ((HB1.out.trans ((HB2.out.trans ((HB3.out.trans (HB4.out.mono s3)).mono s2)).mono s1)).mono s0)
 have hsz:(Z6 w4 w.heap.size (.slice A1 16 c1) (.slice A2 16 c2) (.int .i64 n)).heap.size=w4.heap.size:=by simp [Z6]
 have hb24:Below w2.heap.size w2 w4:=HB3.out.trans (HB4.out.mono s3)
 refine⟨_,rfl,⟨A1,c1,A2,c2,rfl,?_,?_⟩,kU hb04 iL⟩
 ·refine BsS.keep HO1.out fun g hg hl=>⟨(yD (by have:=hg.1;omega)).trans ((hb24.block g (by have:=hg.2;omega)).trans (HB2.out.block g hg.2)),by have:=hg.1;omega,?_⟩
  show g<(Z6 w4 w.heap.size (.slice A1 16 c1) (.slice A2 16 c2) (.int .i64 n)).heap.size
  rw [hsz];have:=hg.2;omega
 ·refine BsS.keep HO2.out fun g hg hl=>⟨(yD (by have:=hg.1;omega)).trans (hb24.block g hg.2),by have:=hg.1;omega,?_⟩
  show g<(Z6 w4 w.heap.size (.slice A1 16 c1) (.slice A2 16 c2) (.int .i64 n)).heap.size
  rw [hsz];have:=hg.2;omega
def Jt(k1 k2:List UInt8)(n:Int):Int×List UInt8×List UInt8×Int:=
 if ¬(k1.length=16/\k2.length=16)then(2,[],[],0)else if ¬(0<=n/\n<=1099511627776)then(3,[],[],0)else(0,k1,k2,n)
def YQ(r:Int×List UInt8×List UInt8×Int)(w:World)(e:Ending)(w':World):Prop:=
 ∃v,e=.returned (.tuple #[v,.int .i64 r.1])/\YP w' (·<w'.heap.size) v r.2.1 r.2.2.1 r.2.2.2/\Below w.heap.size w w'
theorem Qi(va vb:Value)(k1 k2:List UInt8)(n:Int)(w:World)(ha:Bs w w.heap.size va k1)(hb:Bs w w.heap.size vb k2)(l1:k1.length<=140737488351232)(l2:k2.length<=140737488351232)(h1:¬k1.length=16):
 Calls Tryz.prog 163 #[va,vb,.int .i64 n] w fun e w'=>e=.returned (.tuple #[.agg #[.slice none 0 0,.slice none 0 0,.int .i64 0],.int .i64 2])/\Below w.heap.size w w':=by
 obtain⟨w0,hw0⟩:∃w0,w0=w.alloc (.cells #[.slice none 0 0,.slice none 0 0,.int .i64 0] 46):=⟨_,rfl⟩
 have HB0:Hid (Below w.heap.size w w0):=iH (by rw [hw0];exact iA)
 have HH0:Hid (w0.heap[w.heap.size]?=some (.cells #[.slice none 0 0,.slice none 0 0,.int .i64 0] 46 (0,0))):=iH (by rw [hw0];exact iN)
 have HA:=iH ha;have HB:=iH hb
 obtain⟨A,ca,rfl⟩:=Bs.formL ha
 obtain⟨B,cb,rfl⟩:=Bs.formL hb
 have HW0:=iH hw0
 clear ha hb hw0
 have t1:((k1.length:Int) != 16)=true:=by simp;omega
 clear h1
 go_enter Tryz.func163,Tryz.ntmps163
 go_upto_region 1 with fail
 rw [<-HW0.out]
 clear HW0
 go_upto_block 0 with (first
  |(go_at_call 67;refine(jr _ k2 w1 (HB.out.lift (HB0.out.trans (HB1.out.mono HB0.out.size)))).mono ?_;rintro e w2 ⟨v2,rfl,ho,hb⟩;obtain⟨A2,c2,hv2⟩:=OwnB.form ho;subst hv2;have HO2:=iH (OwnB.rd ho (by omega));have HB2:=iH hb;clear ho hb)
  |(go_at_call 67;refine(jr _ k1 w0 (HA.out.lift HB0.out)).mono ?_;rintro e w1 ⟨v1,rfl,ho,hb⟩;obtain⟨A1,c1,hv1⟩:=OwnB.form ho;subst hv1;have HO1:=iH (OwnB.rd ho (by omega));have HB1:=iH hb;clear ho hb))
 obtain⟨w3,hw3⟩:∃w3,w3=w2.alloc (.cells #[.slice A1 k1.length c1,.slice A2 k2.length c2,.int .i64 n] 46):=⟨_,rfl⟩
 rw [<-hw3]
 have HB3:Hid (Below w2.heap.size w2 w3):=iH (by rw [hw3];exact iA)
 have HH3:Hid (w3.heap[w2.heap.size]?=some (.cells #[.slice A1 k1.length c1,.slice A2 k2.length c2,.int .i64 n] 46 (0,0))):=iH (by rw [hw3];exact iN)
 have HB03:Hid (Below w0.heap.size w0 w3):=iH (HB1.out.trans ((HB2.out.trans (HB3.out.mono HB2.out.size)).mono HB1.out.size))
 clear hw3
 have hz:=((HB03.out).block w.heap.size (iG HH0.out)).trans HH0.out
 obtain⟨z0,z1,z2,zf⟩:=xw hz
 have zf0:=zf 0;have zf1:=zf 1;have zf2:=zf 2
 obtain⟨y0,y1,y2,_⟩:=xw (zl (.slice none 0 0) (.slice none 0 0) (.int .i64 0) hz)
 clear zf hz
 go_wp2_with fail
 refine bodyPost_ret (v:=.tuple #[.agg #[.slice none 0 0,.slice none 0 0,.int .i64 0],.int .i64 2]) (by simp only [Z6]at y0 y1 y2;simp [results,Tryz.results163,go_sem,y0,y1,y2]) rfl ?_
 exact⟨rfl,kU (HB0.out.trans ((HB03.out).mono HB0.out.size)) iL⟩
theorem Qj(va vb:Value)(k1 k2:List UInt8)(n:Int)(w:World)(ha:Bs w w.heap.size va k1)(hb:Bs w w.heap.size vb k2)(l1:k1.length<=140737488351232)(l2:k2.length<=140737488351232)(h1:k1.length=16)(h2:¬k2.length=16):
 Calls Tryz.prog 163 #[va,vb,.int .i64 n] w fun e w'=>e=.returned (.tuple #[.agg #[.slice none 0 0,.slice none 0 0,.int .i64 0],.int .i64 2])/\Below w.heap.size w w':=by
 obtain⟨w0,hw0⟩:∃w0,w0=w.alloc (.cells #[.slice none 0 0,.slice none 0 0,.int .i64 0] 46):=⟨_,rfl⟩
 have HB0:Hid (Below w.heap.size w w0):=iH (by rw [hw0];exact iA)
 have HH0:Hid (w0.heap[w.heap.size]?=some (.cells #[.slice none 0 0,.slice none 0 0,.int .i64 0] 46 (0,0))):=iH (by rw [hw0];exact iN)
 have HA:=iH ha;have HB:=iH hb
 obtain⟨A,ca,rfl⟩:=Bs.formL ha
 obtain⟨B,cb,rfl⟩:=Bs.formL hb
 have HW0:=iH hw0
 clear ha hb hw0
 have t1:((k1.length:Int) != 16)=false:=by simp;omega
 have t2:((k2.length:Int) != 16)=true:=by simp;omega
 clear h1 h2
 go_enter Tryz.func163,Tryz.ntmps163
 go_upto_region 1 with fail
 rw [<-HW0.out]
 clear HW0
 go_upto_block 0 with (first
  |(go_at_call 67;refine(jr _ k2 w1 (HB.out.lift (HB0.out.trans (HB1.out.mono HB0.out.size)))).mono ?_;rintro e w2 ⟨v2,rfl,ho,hb⟩;obtain⟨A2,c2,hv2⟩:=OwnB.form ho;subst hv2;have HO2:=iH (OwnB.rd ho (by omega));have HB2:=iH hb;clear ho hb)
  |(go_at_call 67;refine(jr _ k1 w0 (HA.out.lift HB0.out)).mono ?_;rintro e w1 ⟨v1,rfl,ho,hb⟩;obtain⟨A1,c1,hv1⟩:=OwnB.form ho;subst hv1;have HO1:=iH (OwnB.rd ho (by omega));have HB1:=iH hb;clear ho hb))
 obtain⟨w3,hw3⟩:∃w3,w3=w2.alloc (.cells #[.slice A1 k1.length c1,.slice A2 k2.length c2,.int .i64 n] 46):=⟨_,rfl⟩
 rw [<-hw3]
 have HB3:Hid (Below w2.heap.size w2 w3):=iH (by rw [hw3];exact iA)
 have HH3:Hid (w3.heap[w2.heap.size]?=some (.cells #[.slice A1 k1.length c1,.slice A2 k2.length c2,.int .i64 n] 46 (0,0))):=iH (by rw [hw3];exact iN)
 have HB03:Hid (Below w0.heap.size w0 w3):=iH (HB1.out.trans ((HB2.out.trans (HB3.out.mono HB2.out.size)).mono HB1.out.size))
 clear hw3
 have hz:=((HB03.out).block w.heap.size (iG HH0.out)).trans HH0.out
 obtain⟨z0,z1,z2,zf⟩:=xw hz
 have zf0:=zf 0;have zf1:=zf 1;have zf2:=zf 2
 obtain⟨y0,y1,y2,_⟩:=xw (zl (.slice none 0 0) (.slice none 0 0) (.int .i64 0) hz)
 clear zf hz
 go_wp2_with fail
 refine bodyPost_ret (v:=.tuple #[.agg #[.slice none 0 0,.slice none 0 0,.int .i64 0],.int .i64 2]) (by simp only [Z6]at y0 y1 y2;simp [results,Tryz.results163,go_sem,y0,y1,y2]) rfl ?_
 exact⟨rfl,kU (HB0.out.trans ((HB03.out).mono HB0.out.size)) iL⟩
theorem Qh(va vb:Value)(k1 k2:List UInt8)(n:Int)(w:World)(ha:Bs w w.heap.size va k1)(hb:Bs w w.heap.size vb k2)(l1:k1.length<=140737488351232)(l2:k2.length<=140737488351232)(h1:k1.length=16)(h2:k2.length=16)(hn:¬(0<=n/\n<=1099511627776)):
 Calls Tryz.prog 163 #[va,vb,.int .i64 n] w fun e w'=>e=.returned (.tuple #[.agg #[.slice none 0 0,.slice none 0 0,.int .i64 0],.int .i64 3])/\Below w.heap.size w w':=by
 obtain⟨w0,hw0⟩:∃w0,w0=w.alloc (.cells #[.slice none 0 0,.slice none 0 0,.int .i64 0] 46):=⟨_,rfl⟩
 have HB0:Hid (Below w.heap.size w w0):=iH (by rw [hw0];exact iA)
 have HH0:Hid (w0.heap[w.heap.size]?=some (.cells #[.slice none 0 0,.slice none 0 0,.int .i64 0] 46 (0,0))):=iH (by rw [hw0];exact iN)
 have HA:=iH ha;have HB:=iH hb
 obtain⟨A,ca,rfl⟩:=Bs.formL ha
 obtain⟨B,cb,rfl⟩:=Bs.formL hb
 have HW0:=iH hw0
 clear ha hb hw0
 have t1:((k1.length:Int) != 16)=false:=by simp;omega
 have t2:((k2.length:Int) != 16)=false:=by simp;omega
 have HV:Hid (vS k1 k2 n=false):=iH (decide_eq_false fun h=>hn ⟨h.2.2.1,h.2.2.2⟩)
 clear h1 h2 hn
 go_enter Tryz.func163,Tryz.ntmps163
 go_upto_region 1 with fail
 rw [<-HW0.out]
 clear HW0
 go_upto_block 0 with (first
  |(go_at_call 67;refine(jr _ k2 w1 (HB.out.lift (HB0.out.trans (HB1.out.mono HB0.out.size)))).mono ?_;rintro e w2 ⟨v2,rfl,ho,hb⟩;obtain⟨A2,c2,hv2⟩:=OwnB.form ho;subst hv2;have HO2:=iH (OwnB.rd ho (by omega));have HB2:=iH hb;clear ho hb)
  |(go_at_call 67;refine(jr _ k1 w0 (HA.out.lift HB0.out)).mono ?_;rintro e w1 ⟨v1,rfl,ho,hb⟩;obtain⟨A1,c1,hv1⟩:=OwnB.form ho;subst hv1;have HO1:=iH (OwnB.rd ho (by omega));have HB1:=iH hb;clear ho hb))
 obtain⟨w3,hw3⟩:∃w3,w3=w2.alloc (.cells #[.slice A1 k1.length c1,.slice A2 k2.length c2,.int .i64 n] 46):=⟨_,rfl⟩
 rw [<-hw3]
 have HB3:Hid (Below w2.heap.size w2 w3):=iH (by rw [hw3];exact iA)
 have HH3:Hid (w3.heap[w2.heap.size]?=some (.cells #[.slice A1 k1.length c1,.slice A2 k2.length c2,.int .i64 n] 46 (0,0))):=iH (by rw [hw3];exact iN)
 have HB03:Hid (Below w0.heap.size w0 w3):=iH (HB1.out.trans ((HB2.out.trans (HB3.out.mono HB2.out.size)).mono HB1.out.size))
 clear hw3
 obtain⟨p0,p1,p2,_⟩:=xw HH3.out
 go_upto_region 5 with (go_at_call 177;refine(KW _ k1 k2 n (·<w3.heap.size) w3 ⟨_,_,rfl,HO1.out.lift (HB2.out.trans (HB3.out.mono HB2.out.size)),HO2.out.lift HB3.out⟩).mono ?_;rw [HV.out];rintro e w4 ⟨rfl,hb⟩;have HB04:=iH (HB03.out.trans (hb.mono HB03.out.size));clear hb)
 clear p0 p1 p2
 have hz:=((HB04.out).block w.heap.size (iG HH0.out)).trans HH0.out
 obtain⟨z0,z1,z2,zf⟩:=xw hz
 have zf0:=zf 0;have zf1:=zf 1;have zf2:=zf 2
 obtain⟨y0,y1,y2,_⟩:=xw (zl (.slice none 0 0) (.slice none 0 0) (.int .i64 0) hz)
 clear zf hz
 go_wp2_with fail
 refine bodyPost_ret (v:=.tuple #[.agg #[.slice none 0 0,.slice none 0 0,.int .i64 0],.int .i64 3]) (by simp only [Z6]at y0 y1 y2;simp [results,Tryz.results163,go_sem,y0,y1,y2]) rfl ?_
 exact⟨rfl,kU (HB0.out.trans ((HB04.out).mono HB0.out.size)) iL⟩
theorem Yp(va vb:Value)(k1 k2:List UInt8)(n:Int)(w:World)(ha:Bs w w.heap.size va k1)(hb:Bs w w.heap.size vb k2)(l1:k1.length<=140737488351232)(l2:k2.length<=140737488351232):Calls Tryz.prog 163 #[va,vb,.int .i64 n] w (YQ (Jt k1 k2 n) w):=by
 by_cases h:k1.length=16/\k2.length=16
 ·by_cases hn:0<=n/\n<=1099511627776
  ·refine(XW va vb k1 k2 n w ha hb h.1 h.2 hn.1 hn.2).mono ?_
   rintro e w' ⟨v,rfl,⟨A1,c1,B1,d1,rfl,h1,h2⟩,hb⟩
   rw [show Jt k1 k2 n=(0,k1,k2,n) from by unfold Jt;rw [iF (fun g=>g h),iF (fun g=>g hn)]]
   exact⟨_,rfl,⟨_,_,rfl,h1.keep fun _ hs _=>⟨rfl,hs.2⟩,h2.keep fun _ hs _=>⟨rfl,hs.2⟩⟩,hb⟩
  ·refine(Qh va vb k1 k2 n w ha hb l1 l2 h.1 h.2 hn).mono ?_
   rintro e w' ⟨rfl,hb⟩
   rw [show Jt k1 k2 n=(3,[],[],0) from by unfold Jt;rw [iF (fun g=>g h),iT hn]]
   exact⟨_,rfl,⟨_,_,rfl,BsS.nil0 _ _,BsS.nil0 _ _⟩,hb⟩
 ·rw [show Jt k1 k2 n=(2,[],[],0) from by unfold Jt;rw [iT h]]
  have key:Calls Tryz.prog 163 #[va,vb,.int .i64 n] w fun e w'=>e=.returned (.tuple #[.agg #[.slice none 0 0,.slice none 0 0,.int .i64 0],.int .i64 2])/\Below w.heap.size w w':=by
   by_cases h1:k1.length=16
   ·exact Qj va vb k1 k2 n w ha hb l1 l2 h1 (fun h2=>h ⟨h1,h2⟩)
   ·exact Qi va vb k1 k2 n w ha hb l1 l2 h1
  refine key.mono ?_
  rintro e w' ⟨rfl,hb⟩
  exact⟨_,rfl,⟨_,_,rfl,BsS.nil0 _ _,BsS.nil0 _ _⟩,hb⟩
end Go.Proofs.YtalmmiojbmpmiaaGreatDoor
