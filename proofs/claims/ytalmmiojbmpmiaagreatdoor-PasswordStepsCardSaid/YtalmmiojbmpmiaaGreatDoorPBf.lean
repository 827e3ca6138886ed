/- Sessions started, both sides -/
import Derived.Test.YtalmmiojbmpmiaaGreatDoorPo
set_option linter.all false
set_option maxRecDepth 100000
set_option maxHeartbeats 2000000
namespace Go.Proofs.YtalmmiojbmpmiaaGreatDoor
open Go.RowKit Go.Deep
theorem m2e{P:Prop}(h:P:=by
 show g<(Xd w4 w.heap.size (.slice A1 16 c1) (.slice A2 16 c2) (.int .i64 n)).heap.size
 rw [hsz];have:=hg.2;omega):P:=h
def j69(w:World)(S:Nat->Prop)(v:Value)(k1 k2:List UInt8)(n:Int):Prop:=∃A c B d,v=.agg #[.slice A 16 c,.slice B 16 d,.int .i64 n]/\BsS w S (.slice A 16 c) k1/\BsS w S (.slice B 16 d) k2
theorem Ym(A B:Option Addr)(c d:Nat)(n:Int)(w:World)(h0:0<=n)(h1:n<=1099511627776):Calls Tryz.prog 177 #[.agg #[.slice A 16 c,.slice B 16 d,.int .i64 n]] w fun e w'=>e=.returned (.bool true)/\Below w.heap.size w w':=by
 go_enter Tryz.func177,Tryz.ntmps177
 go_wp2_with fail
 go_ret
 exact⟨rfl,iA⟩
section
variable(va vb:Value)(k1 k2:List UInt8)(n:Int)(w:World)(ha:Bs w w.heap.size va k1)(hb:Bs w w.heap.size vb k2)(h1:k1.length=16)(h2:k2.length=16)(h0:0<=n)(hn:n<=1099511627776)
include va vb k1 k2 n w ha hb h1 h2 h0 hn
theorem Qe:
 Calls Tryz.prog 163 #[va,vb,.int .i64 n] w fun e w'=>∃v,e=.returned (.tuple #[v,.int .i64 0])/\j69 w' (New w w') v k1 k2 n/\Below w.heap.size w w':=by
 obtain⟨w0,hw0⟩:∃w0,w0=w.alloc (.cells #[.slice none 0 0,.slice none 0 0,.int .i64 0] 46):=⟨_,rfl⟩
 have hB0:Below w.heap.size w w0:=by rw [hw0];exact iA
 have hh0:w0.heap[w.heap.size]?=some (.cells #[.slice none 0 0,.slice none 0 0,.int .i64 0] 46 (0,0)):=by rw [hw0];exact iN
 have HA:=iH ha;have HB:=iH hb;have H1:=iH h1;have H2:=iH h2
 obtain⟨A,na,ca,rfl⟩:=ha.form
 obtain⟨B,nb,cb,rfl⟩:=hb.form
 obtain rfl:na=16:=by rw [Bs.lenEq ha];exact h1
 obtain rfl:nb=16:=by rw [Bs.lenEq hb];exact h2
 have HW0:=iH hw0;have HB0:=iH hB0;have HH0:=iH hh0
 clear ha hb h1 h2 hw0 hB0 hh0
 go_enter Tryz.func163,Tryz.ntmps163
 go_upto_region 1 with fail
 rw [<-HW0.out]
 clear HW0
 go_upto_region 2 with (first
  |(go_at_call 67;refine(jr _ k2 w1 (HB.out.lift (HB0.out.trans (HB1.out.mono HB0.out.size)))).mono ?_;rintro e w2 ⟨v2,rfl,ho,hb⟩;obtain⟨A2,c2,hv2⟩:=OwnB.form ho;rw [H2.out]at hv2;subst hv2;have HO2:=iH (OwnB.out ho (by rw [H2.out];omega) w1 iL);have HB2:=iH hb;clear ho hb)
  |(go_at_call 67;refine(jr _ k1 w0 (HA.out.lift HB0.out)).mono ?_;rintro e w1 ⟨v1,rfl,ho,hb⟩;obtain⟨A1,c1,hv1⟩:=OwnB.form ho;rw [H1.out]at hv1;subst hv1;have HO1:=iH (OwnB.out ho (by rw [H1.out];omega) w0 iL);have HB1:=iH hb;clear ho hb))
 obtain⟨w3,hw3⟩:∃w3,w3=w2.alloc (.cells #[.slice A1 16 c1,.slice A2 16 c2,.int .i64 n] 46):=⟨_,rfl⟩
 rw [<-hw3]
 have hh3:w3.heap[w2.heap.size]?=some (.cells #[.slice A1 16 c1,.slice A2 16 c2,.int .i64 n] 46 (0,0)):=by rw [hw3];exact iN
 have HB3:Hid (Below w2.heap.size w2 w3):=iH (by rw [hw3];exact iA)
 obtain⟨p0,p1,p2,_⟩:=xx hh3
 have HH3:=iH hh3
 have HV:=iH (Ym A1 A2 c1 c2 n w3 h0 hn)
 clear hw3 hh3
 go_upto_region 6 with (go_at_call 177;refine HV.out.mono ?_;rintro e w4 ⟨rfl,hb⟩;have HB4:=iH hb;clear hb)
 have s0:=HB0.out.size;have s1:=HB1.out.size;have s2:=HB2.out.size;have s3:=HB3.out.size
 have hlt0:=(iG HH0.out)
 have hh4:=(HB4.out.block w2.heap.size (iG HH3.out)).trans HH3.out
 have hz4:=(HB4.out.block w.heap.size (by omega)).trans ((HB3.out.block w.heap.size (by omega)).trans ((HB2.out.block w.heap.size (by omega)).trans ((HB1.out.block w.heap.size hlt0).trans HH0.out)))
 have HZ4:=iH hz4
 obtain⟨q0,q1,q2,_⟩:=xx hh4
 obtain⟨z0,z1,z2,zf⟩:=xx hz4
 have zf0:=zf 0;have zf1:=zf 1;have zf2:=zf 2
 obtain⟨y0,y1,y2,_⟩:=xx (zr (.slice A1 16 c1) (.slice A2 16 c2) (.int .i64 n) HZ4.out)
 clear p0 p1 p2 zf hh4 hz4
 go_wp2_with fail
 refine bodyPost_ret (v:=.tuple #[.agg #[.slice A1 16 c1,.slice A2 16 c2,.int .i64 n],.int .i64 0]) (by simp only [Xd]at y0 y1 y2;simp [results,Tryz.results163,go_sem,y0,y1,y2]) rfl ?_
 have s4:=HB4.out.size
 have hb04:Below w.heap.size w w4:=HB0.out.trans ((HB1.out.trans ((HB2.out.trans ((HB3.out.trans (HB4.out.mono s3)).mono s2)).mono s1)).mono s0)
 have hsz:(Xd w4 w.heap.size (.slice A1 16 c1) (.slice A2 16 c2) (.int .i64 n)).heap.size=w4.heap.size:=by simp [Xd]
 have hb24:Below w2.heap.size w2 w4:=HB3.out.trans (HB4.out.mono s3)
 refine⟨_,rfl,⟨A1,c1,A2,c2,rfl,?_,?_⟩,qh hb04 iL⟩
 ·refine BsS.keep HO1.out fun g hg hl=>⟨(qV (by have:=hg.1;omega)).trans ((hb24.block g (by have:=hg.2;omega)).trans (HB2.out.block g hg.2)),by have:=hg.1;omega,?_⟩
  exact m2e
 ·refine BsS.keep HO2.out fun g hg hl=>⟨(qV (by have:=hg.1;omega)).trans (hb24.block g hg.2),by have:=hg.1;omega,?_⟩
  exact m2e
theorem Yd:
 Calls Tryz.prog 136 #[va,vb,.int .i64 n] w fun e w'=>∃v,e=.returned (.tuple #[v,.int .i64 0])/\j69 w' (New w w') v k1 k2 n/\Below w.heap.size w w':=by
 obtain⟨w0,hw0⟩:∃w0,w0=w.alloc (.cells #[.slice none 0 0,.slice none 0 0,.int .i64 0] 46):=⟨_,rfl⟩
 have hB0:Below w.heap.size w w0:=by rw [hw0];exact iA
 have hh0:w0.heap[w.heap.size]?=some (.cells #[.slice none 0 0,.slice none 0 0,.int .i64 0] 46 (0,0)):=by rw [hw0];exact iN
 have HA:=iH ha;have HB:=iH hb;have H1:=iH h1;have H2:=iH h2
 obtain⟨A,na,ca,rfl⟩:=ha.form
 obtain⟨B,nb,cb,rfl⟩:=hb.form
 obtain rfl:na=16:=by rw [Bs.lenEq ha];exact h1
 obtain rfl:nb=16:=by rw [Bs.lenEq hb];exact h2
 have HW0:=iH hw0;have HB0:=iH hB0;have HH0:=iH hh0
 have HA0:=iH (HA.out.lift hB0);have HBB0:=iH (HB.out.lift hB0)
 have g1:decide (n<0)=false:=decide_eq_false (by omega)
 have g2:decide (n>1099511627776)=false:=decide_eq_false (by omega)
 clear ha hb h1 h2 hw0 hB0 hh0
 go_enter Tryz.func136,Tryz.ntmps136
 go_upto_region 1 with fail
 rw [<-HW0.out]
 clear HW0
 go_upto_region 5 with fail
 have s0:=HB0.out.size
 have hlt0:=(iG HH0.out)
 go_wp2_with(first
  |(at_builtin;(with_reducible refine j5 rfl (.const (.slice none 0 0)) (.tmp 26) rfl w1.heap.size (.slice none 0 0) [] rfl (OwnB.nil _ _) B 16 cb k2 (fun g=>g<w1.heap.size) rfl HK2.out (by simp only [List.length_nil];rw [H2.out];omega) iL ?_);intro v2 w2 hG;rw [List.nil_append]at hG;obtain⟨A2,c2,hv2⟩:=hG.1.form;rw [H2.out]at hv2;subst hv2;have HO2:=iH (OwnB.out hG.1 (by rw [H2.out];omega) w1 iL);have HB2:=iH hG.2.1;have hz2:=(HB2.out.block w.heap.size (iZ hlt0 HB1.out.size)).trans ((HB1.out.block w.heap.size hlt0).trans HH0.out);have HZ2:=iH hz2;obtain⟨z0,z1,z2,zf⟩:=xx hz2;have zf0:=zf 0;have zf1:=zf 1;have zf2:=zf 2;clear hG hz2 zf)
  |(at_builtin;(with_reducible refine j5 rfl (.const (.slice none 0 0)) (.tmp 24) rfl w0.heap.size (.slice none 0 0) [] rfl (OwnB.nil _ _) A 16 ca k1 (fun g=>g<w0.heap.size) rfl HA0.out (by simp only [List.length_nil];rw [H1.out];omega) iL ?_);intro v1 w1 hG;rw [List.nil_append]at hG;obtain⟨A1,c1,hv1⟩:=hG.1.form;rw [H1.out]at hv1;subst hv1;have HO1:=iH (OwnB.out hG.1 (by rw [H1.out];omega) w0 iL);have HB1:=iH hG.2.1;have HK2:=iH (HBB0.out.lift hG.2.1);clear hG))
 obtain⟨y0,y1,y2,_⟩:=xx (zr (.slice A1 16 c1) (.slice A2 16 c2) (.int .i64 n) HZ2.out)
 refine bodyPost_ret (v:=.tuple #[.agg #[.slice A1 16 c1,.slice A2 16 c2,.int .i64 n],.int .i64 0]) (by simp only [Xd]at y0 y1 y2;simp [results,Tryz.results136,go_sem,y0,y1,y2]) rfl ?_
 have s1:=HB1.out.size;have s2:=HB2.out.size
 have hb02:Below w.heap.size w w2:=HB0.out.trans ((HB1.out.trans (HB2.out.mono s1)).mono s0)
 have hsz:(Xd w2 w.heap.size (.slice A1 16 c1) (.slice A2 16 c2) (.int .i64 n)).heap.size=w2.heap.size:=by simp [Xd]
 refine⟨_,rfl,⟨A1,c1,A2,c2,rfl,?_,?_⟩,qh hb02 iL⟩
 ·refine BsS.keep HO1.out fun g hg hl=>⟨(qV (by have:=hg.1;omega)).trans (HB2.out.block g hg.2),by have:=hg.1;omega,?_⟩
  show g<(Xd w2 w.heap.size (.slice A1 16 c1) (.slice A2 16 c2) (.int .i64 n)).heap.size
  rw [hsz];have:=hg.2;omega
 ·refine BsS.keep HO2.out fun g hg hl=>⟨qV (by have:=hg.1;omega),by have:=hg.1;omega,?_⟩
  show g<(Xd w2 w.heap.size (.slice A1 16 c1) (.slice A2 16 c2) (.int .i64 n)).heap.size
  rw [hsz];exact hg.2
end
end Go.Proofs.YtalmmiojbmpmiaaGreatDoor
