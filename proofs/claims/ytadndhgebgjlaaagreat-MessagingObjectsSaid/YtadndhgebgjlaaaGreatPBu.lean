/- The reference's Wrap -/
import Derived.Test.YtadndhgebgjlaaaGreatPBn
import Derived.Test.YtadndhgebgjlaaaGreatPBq
set_option linter.all false
set_option maxRecDepth 100000
set_option maxHeartbeats 3000000
namespace Go.Proofs.YtadndhgebgjlaaaGreat
open Go.RowKit Go.Deep
theorem m02{P:Prop}(h:P:=by
 exact(.cons (fun _ _ _ _ _ _ h=>h) (.cons (fun _ _ _ _ _ _ h=>h) (.cons (fun _ _ _ _ _ _ h=>h) .nil)))):P:=h
theorem m0r{P:Prop}(h:P:=by
 simp only [List.take_succ_cons,List.take_zero]
 refine(.cons ?_ (.cons ?_ (.cons ?_ .nil)))
 all_goals(intro L v w1 hJ hL hA hF K hK;simp only [jf,Act.put,Nat.zero_add,Nat.reduceAdd,List.setIfInBounds_toArray,List.set_cons_zero,List.set_cons_succ]at hK |-)
 ·obtain⟨c0,c1,c2,c3,c4,c5,_⟩:=j8 ((J6.row hJ NE2.out).trans RL4.out)
  go_simp
  refine hK _ _ (J6.step hJ 0 (by decide)) trivial ?_
  first|exact rfl|exact j5 _
 ·obtain⟨c0,c1,c2,_⟩:=j7 ((J6.row hJ NE3.out).trans RU4.out)
  go_simp
  refine hK _ _ (J6.step hJ 1 (by decide)) trivial ?_
  first|exact rfl|exact j5 _
 ·have e0:v 0=_:=hF 0 (hA 0 (by simp))
  simp only [e0]at hK
  obtain rfl:=J6.old hJ hL
  obtain⟨r0,r1,r2,r3,r4,r5,rf⟩:=j8 RR4.out
  have rf0:=rf 0;have rf1:=rf 1;have rf2:=rf 2;have rf3:=rf 3;have rf4:=rf 4;have rf5:=rf 5;clear rf
  have e0:v 0=_:=hF 0 (hA 0 (by simp))
  simp only [e0]at hK |-
  have hJ2:=iH hJ;have hL2:=iH hL
  clear hJ hL hF hA e0
  go_simp
  exact hK undef _ (J6.store hJ2.out hL2.out) trivial trivial):P:=h
theorem YE(v:Value)(cl ins p1 p2:Int)(data:List UInt8)(ex:Int)(S:Nat->Prop)(w:World)(h:Jm w S v ⟨cl,ins,p1,p2,data,ex⟩)(h0:ql cl=true)(h1:ql ins=true)(h2:ql p1=true)(h3:ql p2=true):
 Calls Tryz.prog 35 #[v] w fun e w'=>∃v',e=.returned v'/\BsS w' (New w w') v' (xB cl ins p1 p2)/\Below w.heap.size w w':=j0j v ⟨cl,ins,p1,p2,data,ex⟩ S w h h0 h1 h2 h3
theorem j3q(k1 N data:List UInt8)(ex:Int):((j6 k1 N data).app (qf ex)).chk 1=0:=by
 have h1:qX 135=true:=by decide
 have h2:jY 135=false:=by decide
 have h3:qX 151=true:=by decide
 have h4:jY 151=false:=by decide
 unfold j6 qf
 split<;>split<;>simp [Ns.app,Ns.chk,Ns.len,h1,h2,h3,h4]
theorem XV(vs vc:Value)(k1 k2:List UInt8)(n:Int)(c:Cm)(w:World)(hs:qs w (·<w.heap.size) vs k1 k2 n)(hc:Jm w (·<w.heap.size) vc c):
 Calls Tryz.prog 14 #[vs,vc] w (yN (qd k1 k2 n c) w):=by
 obtain⟨cl,ins,p1,p2,data,ex⟩:=c
 obtain⟨A1,d1,A2,d2,A3,d3,ws,wq,w2,wa,rfl,rfl,R2,R3,CS,CC,HZA,HB,HWS,HWC,HW2,HW3,H1,H2,H3,HSV,HCV⟩:=j7a hs hc
 clear hs hc
 by_cases v1:vS k1 k2 n=true
 ·have HVS:=iH v1
  by_cases v2:vC ⟨cl,ins,p1,p2,data,ex⟩=true
  ·have HVC:=iH v2
   have VS:=iH (of_decide_eq_true v1)
   have VC:=iH (of_decide_eq_true v2)
   clear v1 v2
   obtain⟨m,hm⟩:∃m:Nat,cl=m:=⟨cl.toNat,by have:=VC.out;simp only at this;omega⟩
   subst hm
   have hm:m<255:=by have:=VC.out;simp only at this;omega
   have a1:=Jr m (by omega)
   have o1:=Vd m (by omega)
   by_cases g1:m / 4 % 4=0
   ·have a2:bits BinOp.and IntKind.i64 (m:Int) 12=0:=by rw [a1,g1]<;>rfl
    have o2:bits BinOp.or IntKind.i64 (m:Int) 12=(m:Int)+12:=by rw [o1];omega
    by_cases g2:m=243
    ·have c1:((m:Int)==243)=true:=by simp;omega
     have R:Hid (qd k1 k2 n ⟨m,ins,p1,p2,data,ex⟩=(14,zC,[],[],0)):=iH (by unfold qd;rw [iF (by rw [HVS.out];simp),iF (by rw [HVC.out];simp),iT (by unfold Jo;rw [g2]<;>rfl)])
     clear g1 g2 a1 o1 hm
     go_enter Tryz.func14,Tryz.ntmps14
     go_upto_region 1 with fail
     rw [<-HWS.out,<-HWC.out,<-HW2.out,<-HW3.out]
     obtain⟨f0,f1,f2⟩:=CS.out wa iB
     go_upto_region 2 with (first
      |(go_at_call 29;have M1:=HBV;go_loud(refine(kt _ _ _ wv (HCV.out wv HBV.out)).mono ?_;rw [HVC.out];rintro e wc ⟨rfl,hb⟩;have hb2:=HBV.out.trans (hb.mono HBV.out.size);have HBC:=iH hb2;clear g0 g1 g2 g3 g4 g5;obtain⟨g0,g1,g2,g3,g4,g5⟩:=CC.out wc hb2;clear f0 f1 f2;obtain⟨f0,f1,f2⟩:=CS.out wc hb2;clear hb hb2))
      |(go_at_call 28;refine(jt _ k1 k2 n _ wa HSV.out).mono ?_;rw [HVS.out];rintro e wv ⟨rfl,hb⟩;have HBV:=iH hb;obtain⟨g0,g1,g2,g3,g4,g5⟩:=CC.out wv hb;clear hb))
     clear f0 f1 f2 g0 g1 g2 g3 g4 g5 a2 o2 c1
     obtain⟨r0,r1,r2,r3,r4,r5,rf⟩:=j8 (R2.out wc HBC.out);have rf0:=rf 0;have rf1:=rf 1;have rf2:=rf 2;have rf3:=rf 3;have rf4:=rf 4;have rf5:=rf 5;clear rf;obtain⟨s0,s1,s2,sf⟩:=j7 (R3.out wc HBC.out);have sf0:=sf 0;have sf1:=sf 1;have sf2:=sf 2;clear sf
     go_wp2_with fail
     obtain⟨q2,q3⟩:=jq (R2.out wc HBC.out) (R3.out wc HBC.out) (.int .i64 0) (.int .i64 0) (.int .i64 0) (.int .i64 0) (.slice none 0 0) (.int .i64 0) (.slice none 0 0) (.slice none 0 0) (.int .i64 0)
     obtain⟨y0,y1,y2,y3,y4,y5,_⟩:=j8 q2
     obtain⟨x0,x1,x2,_⟩:=j7 q3
     refine bodyPost_ret (v:=.tuple #[.agg #[.int .i64 0,.int .i64 0,.int .i64 0,.int .i64 0,.slice none 0 0,.int .i64 0],.agg #[.slice none 0 0,.slice none 0 0,.int .i64 0],.int .i64 14]) (by simp only [set6,set3]at y0 y1 y2 y3 y4 y5 x0 x1 x2;simp [results,Tryz.results14,go_sem,y0,y1,y2,y3,y4,y5,x0,x1,x2]) rfl ?_
     rw [R.out]
     exact⟨_,_,rfl,⟨_,rfl,BsS.nil0 _ _⟩,⟨_,_,rfl,BsS.nil0 _ _,BsS.nil0 _ _⟩,jk (HB.out.trans (Below.mono HBC.out HB.out.size)) (by omega)⟩
    ·have c1:((m:Int)==243)=false:=by simp;omega
     have GC:Hid (Jo (m:Int)=true):=iH (by unfold Jo;rw [Bool.and_eq_true];exact⟨decide_eq_true (by omega),decide_eq_true (by omega)⟩)
     have HM:Hid (m<243):=iH (by omega)
     by_cases g3:n=1099511627776
     ·have t3:(n==1099511627776)=true:=by simp [g3]
      have R:Hid (qd k1 k2 n ⟨m,ins,p1,p2,data,ex⟩=(3,zC,[],[],0)):=iH (by unfold qd;rw [iF (by rw [HVS.out];simp),iF (by rw [HVC.out];simp),iF (by rw [GC.out];simp),iT g3])
      clear g1 g2 g3 a1 o1 hm
      go_enter Tryz.func14,Tryz.ntmps14
      go_upto_region 1 with fail
      rw [<-HWS.out,<-HWC.out,<-HW2.out,<-HW3.out]
      obtain⟨f0,f1,f2⟩:=CS.out wa iB
      go_upto_region 4 with (first
       |(go_at_call 29;have M1:=HBV;go_loud(refine(kt _ _ _ wv (HCV.out wv HBV.out)).mono ?_;rw [HVC.out];rintro e wc ⟨rfl,hb⟩;have hb2:=HBV.out.trans (hb.mono HBV.out.size);have HBC:=iH hb2;clear g0 g1 g2 g3 g4 g5;obtain⟨g0,g1,g2,g3,g4,g5⟩:=CC.out wc hb2;clear f0 f1 f2;obtain⟨f0,f1,f2⟩:=CS.out wc hb2;clear hb hb2))
       |(go_at_call 28;refine(jt _ k1 k2 n _ wa HSV.out).mono ?_;rw [HVS.out];rintro e wv ⟨rfl,hb⟩;have HBV:=iH hb;obtain⟨g0,g1,g2,g3,g4,g5⟩:=CC.out wv hb;clear hb))
      clear f0 f1 f2 g0 g1 g2 g3 g4 g5 a2 o2 c1 t3
      obtain⟨r0,r1,r2,r3,r4,r5,rf⟩:=j8 (R2.out wc HBC.out);have rf0:=rf 0;have rf1:=rf 1;have rf2:=rf 2;have rf3:=rf 3;have rf4:=rf 4;have rf5:=rf 5;clear rf;obtain⟨s0,s1,s2,sf⟩:=j7 (R3.out wc HBC.out);have sf0:=sf 0;have sf1:=sf 1;have sf2:=sf 2;clear sf
      go_wp2_with fail
      obtain⟨q2,q3⟩:=jq (R2.out wc HBC.out) (R3.out wc HBC.out) (.int .i64 0) (.int .i64 0) (.int .i64 0) (.int .i64 0) (.slice none 0 0) (.int .i64 0) (.slice none 0 0) (.slice none 0 0) (.int .i64 0)
      obtain⟨y0,y1,y2,y3,y4,y5,_⟩:=j8 q2
      obtain⟨x0,x1,x2,_⟩:=j7 q3
      refine bodyPost_ret (v:=.tuple #[.agg #[.int .i64 0,.int .i64 0,.int .i64 0,.int .i64 0,.slice none 0 0,.int .i64 0],.agg #[.slice none 0 0,.slice none 0 0,.int .i64 0],.int .i64 3]) (by simp only [set6,set3]at y0 y1 y2 y3 y4 y5 x0 x1 x2;simp [results,Tryz.results14,go_sem,y0,y1,y2,y3,y4,y5,x0,x1,x2]) rfl ?_
      exact mr
     ·have t3:(n==1099511627776)=false:=by simpa using g3
      have LK1:Hid (k1.length=16):=iH VS.out.1
      have LK2:Hid (k2.length=16):=iH VS.out.2.1
      have LD:Hid (data.length<=4096):=iH VC.out.2.2.2.2.2.1
      have HEXP:Hid (ex= -1\/(1<=ex/\ex<=65536)):=iH VC.out.2.2.2.2.2.2
      have OCI:Hid (ql ins=true/\ql p1=true/\ql p2=true):=iH ⟨decide_eq_true VC.out.2.2.1,decide_eq_true VC.out.2.2.2.1,decide_eq_true VC.out.2.2.2.2.1⟩
      obtain⟨N,hN⟩:∃N,Jh (n+1)=N:=⟨_,rfl⟩
      have LN:Hid (N.length=16):=iH (by rw [<-hN]<;>rfl)
      have HNX:Hid (∀(va vb:Value) (w:World),Bs w w.heap.size va k1->Bs w w.heap.size vb k2->Calls Tryz.prog 30 #[.agg #[va,vb,.int .i64 n]] w fun e w'=>∃x y z,e=.returned (.tuple #[.agg #[x,y,.int .i64 (n+1)],z])/\Bs w' w'.heap.size x k1/\Bs w' w'.heap.size y k2/\Bs w' w'.heap.size z N/\Below w.heap.size w w'):=iH (fun va vb w h1 h2=>by rw [<-hN];exact yx va vb k1 k2 VS.out.1 VS.out.2.1 n VS.out.2.2.1 (by have:=VS.out.2.2.2;omega) w h1 h2)
      have R:Hid (qd k1 k2 n ⟨m,ins,p1,p2,data,ex⟩=match x6 k2 N (xB ((m:Int)+12) ins p1 p2) ((j6 k1 N data).app (qf ex))with
       |.error e=>(e,zC,[],[],0)
       |.ok b=>(0,⟨(m:Int)+12,ins,p1,p2,b,65536⟩,k1,k2,n+1)):=iH (by unfold qd;rw [iF (by rw [HVS.out];simp),iF (by rw [HVC.out];simp),iF (by rw [GC.out];simp),iF g3,hN]<;>rfl)
      have G3:=iH g3
      clear hN g1 g2 g3 a1 o1 hm
      go_enter Tryz.func14,Tryz.ntmps14
      go_upto_region 1 with fail
      rw [<-HWS.out,<-HWC.out,<-HW2.out,<-HW3.out]
      obtain⟨f0,f1,f2⟩:=CS.out wa iB
      go_upto_region 6 with (first
       |(go_at_call 30;refine(HNX.out _ _ wc (H1.out.lift HBC.out) (H2.out.lift HBC.out)).mono ?_;rintro e wn ⟨x,y,z,rfl,hx,hy,hz,hb⟩;obtain⟨xA,xc,hp⟩:=Bs.formL hx;subst hp;obtain⟨yA,yc,hp⟩:=Bs.formL hy;subst hp;obtain⟨zA,zc,hp⟩:=Bs.formL hz;subst hp;have HX:=iH hx;have HY:=iH hy;have HZ:=iH hz;have HBN:=iH (HBC.out.trans (hb.mono HBC.out.size));obtain⟨u0,u1,u2,uf⟩:=j7 (xP wn);have uf0:=uf 0;have uf1:=uf 1;have uf2:=uf 2;clear uf hx hy hz hb)
       |(go_at_call 29;have M1:=HBV;go_loud(refine(kt _ _ _ wv (HCV.out wv HBV.out)).mono ?_;rw [HVC.out];rintro e wc ⟨rfl,hb⟩;have hb2:=HBV.out.trans (hb.mono HBV.out.size);have HBC:=iH hb2;clear g0 g1 g2 g3 g4 g5;obtain⟨g0,g1,g2,g3,g4,g5⟩:=CC.out wc hb2;clear f0 f1 f2;obtain⟨f0,f1,f2⟩:=CS.out wc hb2;clear hb hb2))
       |(go_at_call 28;refine(jt _ k1 k2 n _ wa HSV.out).mono ?_;rw [HVS.out];rintro e wv ⟨rfl,hb⟩;have HBV:=iH hb;obtain⟨g0,g1,g2,g3,g4,g5⟩:=CC.out wv hb;clear hb))
      clear u0 u1 u2 uf0 uf1 uf2 g0 g1 g2 g3 g4 g5 f0 f1 f2 a2 c1 t3
      obtain⟨wu,hwu⟩:∃wu,wu=wn.alloc (.cells #[.slice xA k1.length xc,.slice yA k2.length yc,.int .i64 (n+1)] 29):=⟨_,rfl⟩
      rw [<-hwu]
      have hbu:Below wn.heap.size wn wu:=by rw [hwu];exact iA
      have hur:wu.heap[wn.heap.size]?=some (.cells #[.slice xA k1.length xc,.slice yA k2.length yc,.int .i64 (n+1)] 29 (0,0)):=by rw [hwu];exact iN
      have hult:=(iG hur)
      have CU:Hid (∀W,Below wu.heap.size wu W->W.cell? ⟨wn.heap.size,0,none⟩=some (.slice xA k1.length xc)/\W.cell? ⟨wn.heap.size,1,none⟩=some (.slice yA k2.length yc)/\W.cell? ⟨wn.heap.size,2,none⟩=some (.int .i64 (n+1))):=iH fun W h=>(by obtain⟨a,b,c,_⟩:=j7 ((h.block _ hult).trans hur);exact⟨a,b,c⟩)
      have RU:Hid (∀W,Below wu.heap.size wu W->W.heap[wn.heap.size]?=some (.cells #[.slice xA k1.length xc,.slice yA k2.length yc,.int .i64 (n+1)] 29 (0,0))):=iH fun W h=>(h.block _ hult).trans hur
      have HULT:=iH hult
      have HBAU:=iH (HBN.out.trans (hbu.mono HBN.out.size))
      have XU:=iH (HX.out.lift hbu);have YU:=iH (HY.out.lift hbu);have ZU:=iH (HZ.out.lift hbu)
      clear hwu hbu hur hult
      obtain⟨g0,g1,g2,g3,g4,g5⟩:=CC.out wu HBAU.out
      obtain⟨n0,n1,n2,n3,n4,n5,nf⟩:=j8 (x9 wu)
      have nf0:=nf 0;have nf1:=nf 1;have nf2:=nf 2;have nf3:=nf 3;have nf4:=nf 4;have nf5:=nf 5
      clear nf
      have hne:w.heap.size+1<wu.heap.size:=by have:=HZA.out;have:=HBAU.out.size;omega
      go_upto_region 8 with fail
      clear hne
      have hby:Below wu.heap.size wu (wu.alloc (.cells #[.int .i64 ((m:Int)+12),.int .i64 ins,.int .i64 p1,.int .i64 p2,.slice A3 data.length d3,.int .i64 65536] 32)):=iA
      have hry:(wu.alloc (.cells #[.int .i64 ((m:Int)+12),.int .i64 ins,.int .i64 p1,.int .i64 p2,.slice A3 data.length d3,.int .i64 65536] 32)).heap[wu.heap.size]?=some (.cells #[.int .i64 ((m:Int)+12),.int .i64 ins,.int .i64 p1,.int .i64 p2,.slice A3 data.length d3,.int .i64 65536] 32 (0,0)):=iN
      obtain⟨wy,hwy⟩:∃wy,wy=wu.alloc (.cells #[.int .i64 ((m:Int)+12),.int .i64 ins,.int .i64 p1,.int .i64 p2,.slice A3 data.length d3,.int .i64 65536] 32):=⟨_,rfl⟩
      rw [<-hwy]at hby hry |-
      have hylt:=(iG hry)
      have CY:Hid (∀W,Below wy.heap.size wy W->W.cell? ⟨wu.heap.size,0,none⟩=some (.int .i64 ((m:Int)+12))/\W.cell? ⟨wu.heap.size,1,none⟩=some (.int .i64 ins)/\W.cell? ⟨wu.heap.size,2,none⟩=some (.int .i64 p1)/\W.cell? ⟨wu.heap.size,3,none⟩=some (.int .i64 p2)/\W.cell? ⟨wu.heap.size,4,none⟩=some (.slice A3 data.length d3)/\W.cell? ⟨wu.heap.size,5,none⟩=some (.int .i64 65536)):=iH fun W h=>(by obtain⟨a,b,c,d,e,f,_⟩:=j8 ((h.block _ hylt).trans hry);exact⟨a,b,c,d,e,f⟩)
      have RY:Hid (∀W,Below wy.heap.size wy W->W.heap[wu.heap.size]?=some (.cells #[.int .i64 ((m:Int)+12),.int .i64 ins,.int .i64 p1,.int .i64 p2,.slice A3 data.length d3,.int .i64 65536] 32 (0,0))):=iH fun W h=>(h.block _ hylt).trans hry
      have HYL:=iH hylt
      have HBUY:=iH hby
      have HBAY:=iH (HBAU.out.trans (hby.mono HBAU.out.size))
      have KY:=iH (H1.out.lift HBAY.out);have MY:=iH (H2.out.lift HBAY.out);have ZY:=iH (ZU.out.lift hby);have DY:=iH (H3.out.lift HBAY.out)
      clear hby hry hwy hylt n0 n1 n2 n3 n4 n5 nf0 nf1 nf2 nf3 nf4 nf5 g0 g1 g2 g3 g4 g5
      obtain⟨g0,g1,g2,g3,g4,g5⟩:=CC.out wy HBAY.out
      obtain⟨f0,f1,f2⟩:=CS.out wy HBAY.out
      obtain⟨oe,hoe⟩:∃o,decide (ex>256)=o:=⟨_,rfl⟩
      have HOE:=iH hoe
      go_upto_if 57 with (go_at_call 31;refine(KT _ _ _ _ n k1 N data LK1.out LN.out LD.out wy KY.out ZY.out DY.out).mono ?_;rintro e wk ⟨o,rfl,ho,hb⟩;obtain⟨oA,oc,hp⟩:=ho.form;subst hp;have HO:=iH ho;have HBK:=iH hb;clear g0 g1 g2 g3 g4 g5;obtain⟨g0,g1,g2,g3,g4,g5⟩:=CC.out wk (HBAY.out.trans (hb.mono HBAY.out.size));clear ho hb f0 f1 f2)
      clear g0 g1 g2 g3 g4 g5 hoe
      have HCL:Hid ((j6 k1 N data).len<=1000000000000):=iH (by unfold j6;split<;>simp [Ns.len])
      go_cut [10] from 55 to 81 (fun y10 wx=>∃A c,y10=.slice A ((j6 k1 N data).app (qf ex)).len c/\OwnN wx wy.heap.size (.slice A ((j6 k1 N data).app (qf ex)).len c) ((j6 k1 N data).app (qf ex))/\Below wy.heap.size wy wx)
      case first=>
       obtain⟨g0,g1,g2,g3,g4,g5⟩:=CC.out wk (HBAY.out.trans (HBK.out.mono HBAY.out.size))
       by_cases b0:ex= -1
       ·have HEX:Hid ((j6 k1 N data).app (qf ex)=j6 k1 N data):=iH (by unfold qf;rw [iT b0,Ns.app_nil])
        obtain rfl:oe=false:=by rw [<-HOE.out];exact decide_eq_false (by omega)
        have t7:decide (ex>=0)=false:=decide_eq_false (by omega)
        clear b0
        go_wp2_with fail
        go_meet
        exact⟨oA,oc,by rw [HEX.out],by rw [HEX.out];exact HO.out,HBK.out⟩
       ·have be:1<=ex/\ex<=65536:=HEXP.out.resolve_left b0
        have be1:=be.1;have be2:=be.2
        clear be
        by_cases b1:256<ex
        ·obtain rfl:oe=true:=by rw [<-HOE.out];exact decide_eq_true (by omega)
         obtain⟨X7,hX7⟩:∃X,[ofI (ex / 256),ofI ex]=X:=⟨_,rfl⟩
         have HEX:Hid ((j6 k1 N data).app (qf ex)=(j6 k1 N data).app (.cons 151 X7 .nil .nil)):=iH (by unfold qf;rw [iF (by omega),iT (by omega),<-hX7];congr 2;unfold zI;rw [xk (show ex % 65536 / 256 % 256=ex / 256 % 256 by omega),xk (show ex % 65536 % 256=ex % 256 by omega)])
         obtain⟨wx,hwx⟩:∃wx,wx=(wk.alloc (.cells #[U8 (ofI (ex / 256)),U8 (ofI ex)] 5)):=⟨_,rfl⟩
         have hal:Below wk.heap.size wk wx:=by rw [hwx];exact iA
         have hv7:Bs wx wx.heap.size (.slice (some ⟨wk.heap.size,0,none⟩) 2 2) X7:=by
          rw [hwx,<-hX7]
          exact BsS.fresh wk [ofI (ex / 256),ofI ex] #[U8 (ofI (ex / 256)),U8 (ofI ex)] 5 rfl _ (by simp) (by simp)
         have HV7:=iH hv7;have HAL:=iH hal;have HWX:=iH hwx
         clear hX7 hv7 hal hwx b0 b1
         go_wp2_with(first
          |(at_builtin;(with_reducible refine jz rfl (.tmp 58) (.tmp 68) rfl wy.heap.size (.slice oA (j6 k1 N data).len oc) (j6 k1 N data) rfl HO2.out 151 X7 .nil (.slice pA X7.length pc) (.slice none 0 0) _ w2.heap.size rfl rfl j2d HP2.out (NsS.nil0 _ _) HCL.out HBS2.out ?_);intro o3 w3 hg3;have HG:=iH hg3;clear hg3)
          |(go_at_call 32;rw [<-HWX.out];refine(xm 151 _ X7 wx HV7.out).mono ?_;rintro e w2 ⟨pA,pc,rfl,hs,hb⟩;have HO2:=iH ((HO.out.below HAL.out).below hb);have HP2:=iH (qW (HO.out.below HAL.out) hs hb (Nat.le_trans HBK.out.size HAL.out.size));have HB2:=iH (HBK.out.trans ((HAL.out.trans (hb.mono HAL.out.size)).mono HBK.out.size));have HBS2:=iH HB2.out.size;clear hs hb g0 g1 g2 g3 g4 g5))
         go_meet
         obtain⟨o2A,o2c,hp⟩:=HG.out.1.form
         exact⟨o2A,o2c,by rw [HEX.out];exact hp,by rw [HEX.out,<-hp];exact HG.out.1,HB2.out.trans HG.out.2.1⟩
        ·obtain rfl:oe=false:=by rw [<-HOE.out];exact decide_eq_false (by omega)
         have t7:decide (ex>=0)=true:=decide_eq_true (by omega)
         obtain⟨X7,hX7⟩:∃X,[ofI ex]=X:=⟨_,rfl⟩
         have HEX:Hid ((j6 k1 N data).app (qf ex)=(j6 k1 N data).app (.cons 151 X7 .nil .nil)):=iH (by unfold qf;rw [iF (by omega),iF (by omega),<-hX7];congr 2;unfold Ux;rw [xk (show ex % 256 % 256=ex % 256 by omega)])
         obtain⟨wx,hwx⟩:∃wx,wx=(wk.alloc (.cells #[U8 (ofI ex)] 5)):=⟨_,rfl⟩
         have hal:Below wk.heap.size wk wx:=by rw [hwx];exact iA
         have hv7:Bs wx wx.heap.size (.slice (some ⟨wk.heap.size,0,none⟩) 1 1) X7:=by
          rw [hwx,<-hX7]
          exact BsS.fresh wk [ofI ex] #[U8 (ofI ex)] 5 rfl _ (by simp) (by simp)
         have HV7:=iH hv7;have HAL:=iH hal;have HWX:=iH hwx
         clear hX7 hv7 hal hwx b0 b1
         go_wp2_with(first
          |(at_builtin;(with_reducible refine jz rfl (.tmp 73) (.tmp 79) rfl wy.heap.size (.slice oA (j6 k1 N data).len oc) (j6 k1 N data) rfl HO2.out 151 X7 .nil (.slice pA X7.length pc) (.slice none 0 0) _ w2.heap.size rfl rfl j2d HP2.out (NsS.nil0 _ _) HCL.out HBS2.out ?_);intro o3 w3 hg3;have HG:=iH hg3;clear hg3)
          |(go_at_call 32;rw [<-HWX.out];refine(xm 151 _ X7 wx HV7.out).mono ?_;rintro e w2 ⟨pA,pc,rfl,hs,hb⟩;have HO2:=iH ((HO.out.below HAL.out).below hb);have HP2:=iH (qW (HO.out.below HAL.out) hs hb (Nat.le_trans HBK.out.size HAL.out.size));have HB2:=iH (HBK.out.trans ((HAL.out.trans (hb.mono HAL.out.size)).mono HBK.out.size));have HBS2:=iH HB2.out.size;clear hs hb g0 g1 g2 g3 g4 g5))
         go_meet
         obtain⟨o2A,o2c,hp⟩:=HG.out.1.form
         exact⟨o2A,o2c,by rw [HEX.out];exact hp,by rw [HEX.out,<-hp];exact HG.out.1,HB2.out.trans HG.out.2.1⟩
      case rest=>
       obtain⟨lA,lc,rfl,hO,hBX⟩:=hcut
       have HOX:=iH hO;have HBX:=iH hBX;have HBAX:=iH (HBAY.out.trans (hBX.mono HBAY.out.size))
       have MX:=iH (MY.out.lift hBX);have ZX:=iH (ZY.out.lift hBX);have DX:=iH (DY.out.lift hBX)
       clear hO hBX
       obtain⟨H9,hH9⟩:∃H,xB ((m:Int)+12) ins p1 p2=H:=⟨_,rfl⟩
       have LH:Hid (H9.length<=100):=iH (by rw [<-hH9,yj];decide)
       have HHD:Hid (∀(v:Value) (w:World),Jm w (·<w.heap.size) v ⟨(m:Int)+12,ins,p1,p2,data,65536⟩->Calls Tryz.prog 35 #[v] w fun e w'=>∃v',e=.returned v'/\BsS w' (New w w') v' H9/\Below w.heap.size w w'):=iH (fun v w h=>by have hq:=YE v ((m:Int)+12) ins p1 p2 data 65536 _ w h (j4b HM.out) OCI.out.1 OCI.out.2.1 OCI.out.2.2;rw [hH9]at hq;exact hq)
       rw [hH9]at R
       have hLLC:=j3q k1 N data ex
       have hLLA:((j6 k1 N data).app (qf ex)).all<=10:=by unfold j6 qf;split<;>split<;>simp [Ns.app,Ns.all]
       have hsa:=xq k2 N H9 hLLC hLLA
       have HTW:Hid (∀x,x6 k2 N H9 ((j6 k1 N data).app (qf ex))=.error x->x=2):=iH (fun x h=>XX hLLC hLLA h)
       obtain⟨LC,hLC⟩:∃L,((j6 k1 N data).app (qf ex)).app (.cons 142 (kC k2 N H9 (bytesOf (qG ((j6 k1 N data).app (qf ex))))) .nil .nil)=L:=⟨_,rfl⟩
       have hla:LC.all<=20:=by rw [<-hLC,Ns.all_snoc];omega
       have HCD:Hid (∀(vh o:Value) (w:World),Bs w w.heap.size (.slice A2 k2.length d2) k2->Bs w w.heap.size (.slice zA N.length zc) N->Bs w w.heap.size vh H9->NsS w (·<w.heap.size) o ((j6 k1 N data).app (qf ex))->Calls Tryz.prog 34 #[.agg #[.slice A1 k1.length d1,.slice A2 k2.length d2,.int .i64 n],.slice zA N.length zc,vh,o] w fun e w'=>∃o',e=.returned o'/\NsS w' (·<w'.heap.size) o' LC/\Below w.heap.size w w'):=iH (fun vh o w h1 h2 h3 h4=>by rw [<-hLC];exact XM _ _ _ vh o n k2 N H9 ((j6 k1 N data).app (qf ex)) LK2.out LN.out LH.out hLLA w h1 h2 h3 h4)
       have HL2:Hid (((j6 k1 N data).app (qf ex)).len<=2513169434843):=iH (by have:=Ns.len_all ((j6 k1 N data).app (qf ex));omega)
       rw [hLC]at hsa
       obtain⟨r,hr⟩:∃r,qG LC=r:=⟨_,rfl⟩
       rw [hr]at hsa
       have HEN:Hid (∀(v:Value) (w:World),NsS w (·<w.heap.size) v LC->Calls Tryz.prog 33 #[v] w fun e w'=>∃v',e=.returned (.tuple #[v',.int .i64 (jV r)])/\BsS w' (New w w') v' (bytesOf r)/\Below w.heap.size w w'):=iH (fun v w h=>by rw [<-hr];exact xC LC v w h (by omega))
       have HTWO:Hid (∀x,r=.error x->x=2):=iH (fun x h=>HTW.out x (by rw [hsa];exact h))
       rw [hsa]at R
       clear hH9 hLLC hLLA hsa HTW hLC hla hr
       go_upto_region 13 with fail
       refine jc 12 [some 82,some 83,some 84,some 85,some 86,some 87,some 88,some 81,some 89,some 90,some 11,some 12] [[],[],[],[2],[],[0,1,2,3,4],[0,1,2,3,4,5],[0,1,2,3,4,5,6],[0,1,2,3,4,5,6,7],[0,1,2,3,4,5,6,7],[0,1,2,3,4,5,6,7,8],[0,1,2,3,4,5,6,7,8,9,10]]
        (fun _ _ w1=>Below wc.heap.size wc w1) (fun w1 w2=>Below w1.heap.size w1 w2)
        [fun v _=>v 0=.agg #[.slice A1 k1.length d1,.slice A2 k2.length d2,.int .i64 n],
         fun v _=>v 1=.slice zA N.length zc,
         fun v _=>v 2=.agg #[.int .i64 ((m:Int)+12),.int .i64 ins,.int .i64 p1,.int .i64 p2,.slice A3 data.length d3,.int .i64 65536],
         fun v w1=>∃a c,v 3=.slice a (H9).length c/\BsS w1 (New wc w1) (.slice a (H9).length c) (H9),
         fun v _=>v 4=.slice lA ((j6 k1 N data).app (qf ex)).len lc,
         fun v w1=>∃a c,v 5=.slice a LC.len c/\NsS w1 (·<w1.heap.size) (.slice a LC.len c) LC,
         fun v w1=>∃a c,v 6=.tuple #[.slice a ((bytesOf r)).length c,.int .i64 (jV r)]/\BsS w1 (New wc w1) (.slice a ((bytesOf r)).length c) ((bytesOf r)),
         fun v w1=>∃a c,v 7=.tuple #[.slice a ((bytesOf r)).length c,.int .i64 (jV r)]/\BsS w1 (New wc w1) (.slice a ((bytesOf r)).length c) ((bytesOf r)),
         fun v w1=>∃a c,v 8=.slice a ((bytesOf r)).length c/\BsS w1 (New wc w1) (.slice a ((bytesOf r)).length c) ((bytesOf r)),
         fun v _=>v 9=.int .i64 (jV r),
         fun v w1=>∃a c,v 10=.slice a ((bytesOf r)).length c/\BsS w1 (New wc w1) (.slice a ((bytesOf r)).length c) ((bytesOf r)),
         fun v _=>v 11=.int .i64 (jV r)]
        (by kernel_rfl) (by kernel_rfl) (fun _=>iB.drew) ?st ?steps ?tail
       case st=>
        exact(.cons (fun _ _ _ _ _ _ h=>h) (.cons (fun _ _ _ _ _ _ h=>h) (.cons (fun _ _ _ _ _ _ h=>h) (.cons (fun _ _ _ _ _ hr ⟨a,c,e,h⟩=>⟨a,c,e,BsS.keep h fun g hg hl=>⟨hr.block g hl,hg.1,iZ hl hr.size⟩⟩) (.cons (fun _ _ _ _ _ _ h=>h) (.cons (fun _ _ _ _ _ hr ⟨a,c,e,h⟩=>⟨a,c,e,h.keep fun g hg hl=>⟨hr.block g hl,iZ hg hr.size⟩⟩) (.cons (fun _ _ _ _ _ hr ⟨a,c,e,h⟩=>⟨a,c,e,BsS.keep h fun g hg hl=>⟨hr.block g hl,hg.1,iZ hl hr.size⟩⟩) (.cons (fun _ _ _ _ _ hr ⟨a,c,e,h⟩=>⟨a,c,e,BsS.keep h fun g hg hl=>⟨hr.block g hl,hg.1,iZ hl hr.size⟩⟩) (.cons (fun _ _ _ _ _ hr ⟨a,c,e,h⟩=>⟨a,c,e,BsS.keep h fun g hg hl=>⟨hr.block g hl,hg.1,iZ hl hr.size⟩⟩) (.cons (fun _ _ _ _ _ _ h=>h) (.cons (fun _ _ _ _ _ hr ⟨a,c,e,h⟩=>⟨a,c,e,BsS.keep h fun g hg hl=>⟨hr.block g hl,hg.1,iZ hl hr.size⟩⟩) (.cons (fun _ _ _ _ _ _ h=>h) .nil))))))))))))
       case steps=>
        simp only [List.take_succ_cons,List.take_zero]
        refine(.cons ?_ (.cons ?_ (.cons ?_ (.cons ?_ (.cons ?_ (.cons ?_ (.cons ?_ (.cons ?_ (.cons ?_ (.cons ?_ (.cons ?_ (.cons ?_ .nil))))))))))))
        all_goals(intro L v w1 hJ hL hA hF K hK;simp only [jf,Act.put,Nat.zero_add,Nat.reduceAdd,List.setIfInBounds_toArray,List.set_cons_zero,List.set_cons_succ]at hK |-)
        ·obtain⟨c0,c1,c2⟩:=CS.out _ (HBAX.out.trans (hJ.mono HBAX.out.size))
         exact m6
        ·exact m6
        ·obtain⟨c0,c1,c2,c3,c4,c5⟩:=CY.out _ (HBX.out.trans (hJ.mono HBX.out.size))
         exact m6
        ·have e2:v 2=_:=hF 2 (hA 2 (by simp))
         simp only [e2]at hK
         go_simp
         refine(HHD.out (.agg #[.int .i64 ((m:Int)+12),.int .i64 ins,.int .i64 p1,.int .i64 p2,.slice A3 data.length d3,.int .i64 65536]) w1 ⟨_,rfl,DX.out.lift hJ⟩).mono ?_
         rintro e w5 ⟨v5,rfl,ho,hb⟩
         have hx:BsS w5 (New wc w5) v5 (H9):=ho.keep fun g hg _=>⟨rfl,Nat.le_trans hJ.size hg.1,hg.2⟩
         exact m7
        ·exact m6
        ·have e0:v 0=_:=hF 0 (hA 0 (by simp))
         have e1:v 1=_:=hF 1 (hA 1 (by simp))
         have e4:v 4=_:=hF 4 (hA 4 (by simp))
         simp only [e0,e1,e4]at hK
         obtain⟨a3,c3,e3,h3⟩:∃a c,v 3=_/\_:=hF 3 (hA 3 (by simp))
         simp only [e3]at hK
         go_simp
         refine(HCD.out _ _ w1 (MX.out.lift hJ) (ZX.out.lift hJ) (BsS.keep h3 fun g hg _=>⟨rfl,hg.2⟩) ((HOX.out.below hJ).nss HL2.out |>.keep fun g hg _=>⟨rfl,hg.2⟩)).mono ?_
         rintro e w5 ⟨o5,rfl,ho,hb⟩
         obtain⟨a5,c5,hv5⟩:=ho.form3
         subst hv5
         exact hK _ _ (hJ.trans (hb.mono hJ.size)) hb ⟨_,_,rfl,ho⟩
        ·obtain⟨a5,c5,e5,h5⟩:∃a c,v 5=_/\_:=hF 5 (hA 5 (by simp))
         simp only [e5]at hK
         go_simp
         refine(HEN.out _ w1 h5).mono ?_
         rintro e w5 ⟨v5,rfl,ho,hb⟩
         have hx:BsS w5 (New wc w5) v5 (bytesOf r):=ho.keep fun g hg _=>⟨rfl,Nat.le_trans hJ.size hg.1,hg.2⟩
         exact m7
        ·exact mE
        ·exact mg
        ·exact m39
        ·exact ma
        ·have e9:v 9=_:=hF 9 (hA 9 (by simp))
         simp only [e9]at hK
         exact m6
       case tail=>
        intro v w1 hJ hF
        have e0:v 0=_:=hF 0 (by simp)
        have e1:v 1=_:=hF 1 (by simp)
        have e2:v 2=_:=hF 2 (by simp)
        have e4:v 4=_:=hF 4 (by simp)
        have e9:v 9=_:=hF 9 (by simp)
        have e11:v 11=_:=hF 11 (by simp)
        obtain⟨a10,c10,e10,h10⟩:∃a c,v 10=_/\_:=hF 10 (by simp)
        simp only [List.drop_succ_cons,List.drop_zero,jf,Act.put,Nat.zero_add,Nat.reduceAdd,List.setIfInBounds_toArray,List.set_cons_zero,List.set_cons_succ]
        simp only [e10,e11]
        clear e0 e1 e2 e4 e9 e10 e11
        have HV3:=iH (BsS.keep h10 (w':=w1) (S':=(·<w1.heap.size)) fun g hg _=>⟨rfl,hg.2⟩)
        obtain⟨w3,rfl⟩:∃w3:World,w3=w1:=⟨_,rfl⟩
        have hb3x:=HBX.out.trans (hJ.mono HBX.out.size)
        have HB3X:=iH hb3x
        have hrl:=RY.out w3 hb3x
        have RL3:=iH hrl
        have HB3:=iH (HBAY.out.trans (hb3x.mono HBAY.out.size))
        clear h10 hJ hF hb3x
        obtain⟨vA,hvA⟩:∃vA,vA=a10:=⟨_,rfl⟩
        obtain⟨vc,hvc⟩:∃vc,vc=c10:=⟨_,rfl⟩
        rw [<-hvA,<-hvc]at HV3 |-
        clear hvA hvc
        rcases r with x|b
        ·have hx2:=HTWO.out x rfl
         subst hx2
         clear hrl
         rw [show jV (.error 2:Except Int (List UInt8))=2 from rfl]
         go_upto_region 15 with fail
         obtain⟨r0,r1,r2,r3,r4,r5,rf⟩:=j8 (R2.out w3 HB3.out);have rf0:=rf 0;have rf1:=rf 1;have rf2:=rf 2;have rf3:=rf 3;have rf4:=rf 4;have rf5:=rf 5;clear rf;obtain⟨s0,s1,s2,sf⟩:=j7 (R3.out w3 HB3.out);have sf0:=sf 0;have sf1:=sf 1;have sf2:=sf 2;clear sf
         go_wp2_with fail
         obtain⟨q2,q3⟩:=jq (R2.out w3 HB3.out) (R3.out w3 HB3.out) (.int .i64 0) (.int .i64 0) (.int .i64 0) (.int .i64 0) (.slice none 0 0) (.int .i64 0) (.slice none 0 0) (.slice none 0 0) (.int .i64 0)
         obtain⟨y0,y1,y2,y3,y4,y5,_⟩:=j8 q2
         obtain⟨x0,x1,x2,_⟩:=j7 q3
         refine bodyPost_ret (v:=.tuple #[.agg #[.int .i64 0,.int .i64 0,.int .i64 0,.int .i64 0,.slice none 0 0,.int .i64 0],.agg #[.slice none 0 0,.slice none 0 0,.int .i64 0],.int .i64 2]) (by simp only [set6,set3]at y0 y1 y2 y3 y4 y5 x0 x1 x2;simp [results,Tryz.results14,go_sem,y0,y1,y2,y3,y4,y5,x0,x1,x2]) rfl ?_
         exact m29
        ·rw [show jV (.ok b:Except Int (List UInt8))=0 from rfl,show bytesOf (.ok b:Except Int (List UInt8))=b from rfl]
         rw [show bytesOf (.ok b:Except Int (List UInt8))=b from rfl]at HV3
         obtain⟨z0,z1,z2,z3,z4,z5,zf⟩:=j8 hrl
         have zf4:=zf 4
         clear zf hrl
         go_upto_region 17 with fail
         obtain⟨w4,hw4⟩:∃w4,w4=w3.setCell ⟨wu.heap.size,4,none⟩ (.slice vA b.length vc):=⟨_,rfl⟩
         rw [<-hw4]
         clear z0 z1 z2 z3 z4 z5 zf4
         have hbu3:Below wu.heap.size wu w3:=HBUY.out.trans (HB3X.out.mono HBUY.out.size)
         have hb4:Below wu.heap.size wu w4:=by rw [hw4];exact hbu3.setCell iL _
         have h4:Below wa.heap.size wa w4:=HBAU.out.trans (hb4.mono HBAU.out.size)
         obtain⟨wd,hwd⟩:∃wd,wd=w4.drew:=⟨_,rfl⟩
         have HWD:=iH hwd
         have RL4:Hid (wd.heap[wu.heap.size]?=some (.cells #[.int .i64 ((m:Int)+12),.int .i64 ins,.int .i64 p1,.int .i64 p2,.slice vA b.length vc,.int .i64 65536] 32 (0,0))):=iH (by rw [hwd,hw4];exact jg (o:=4) RL3.out)
         have RU4:Hid (wd.heap[wn.heap.size]?=some (.cells #[.slice xA k1.length xc,.slice yA k2.length yc,.int .i64 (n+1)] 29 (0,0))):=iH (by rw [hwd];exact RU.out w4 hb4)
         have RR4:Hid (wd.heap[(w.heap.size+1+1)]?=some (.cells #[.int .i64 0,.int .i64 0,.int .i64 0,.int .i64 0,.slice none 0 0,.int .i64 0] 32 (0,0))):=iH (by rw [hwd];exact R2.out w4 h4)
         have RS4:Hid (wd.heap[(w.heap.size+1+1+1)]?=some (.cells #[.slice none 0 0,.slice none 0 0,.int .i64 0] 29 (0,0))):=iH (by rw [hwd];exact R3.out w4 h4)
         have HB4:Hid (Below w.heap.size w wd):=iH (by rw [hwd];exact(HB.out.trans (h4.mono HB.out.size)).drew)
         have V4:Hid (Bs wd wd.heap.size (.slice vA b.length vc) b):=iH (by have h:=Bs.setr HV3.out (.slice vA b.length vc) RL3.out ZB (k:=4);rw [<-hw4]at h;rw [hwd];exact h)
         have X4:Hid (Bs wd wd.heap.size (.slice xA k1.length xc) k1):=iH (by rw [hwd];exact XU.out.lift hb4.drew)
         have Y4:Hid (Bs wd wd.heap.size (.slice yA k2.length yc) k2):=iH (by rw [hwd];exact YU.out.lift hb4.drew)
         have NE2:Hid (wu.heap.size≠(w.heap.size+1+1)):=iH (by have:=HZA.out;have:=HBAU.out.size;omega)
         have NE3:Hid (wn.heap.size≠(w.heap.size+1+1)):=iH (by have:=HZA.out;have:=HBN.out.size;omega)
         clear hw4 hb4 h4 hwd hbu3
         refine jc 3 [some 97,some 98,none] [[],[],[0]]
          (J6 wd (w.heap.size+1+1) 2 (.int .i64 ((m:Int)+12)) (.int .i64 ins) (.int .i64 p1) (.int .i64 p2) (.slice vA b.length vc) (.int .i64 65536)) (fun _ _=>True)
          [fun v _=>v 0=.agg #[.int .i64 ((m:Int)+12),.int .i64 ins,.int .i64 p1,.int .i64 p2,.slice vA b.length vc,.int .i64 65536],
           fun v _=>v 1=.agg #[.slice xA k1.length xc,.slice yA k2.length yc,.int .i64 (n+1)],
           fun v w1=>True]
          (by kernel_rfl) (by kernel_rfl) (fun _=>HWD.out.symm.trans (iF (by decide)).symm) ?st7 ?steps7 ?tail7
         case st7=>
          exact m02
         case steps7=>
          exact m0r
         case tail7=>
          intro v w1 hJ hF
          have e0:v 0=_:=hF 0 (by simp)
          have e1:v 1=_:=hF 1 (by simp)
          simp only [List.drop_succ_cons,List.drop_zero,jf,Act.put,Nat.zero_add,Nat.reduceAdd,List.setIfInBounds_toArray,List.set_cons_zero,List.set_cons_succ]
          simp only [e1]
          clear e0 e1 hF
          obtain rfl:=J6.all hJ rfl
          have RS5:Hid ((set6 wd (w.heap.size+1+1) (.int .i64 ((m:Int)+12)) (.int .i64 ins) (.int .i64 p1) (.int .i64 p2) (.slice vA b.length vc) (.int .i64 65536)).heap[(w.heap.size+1+1+1)]?=some (.cells #[.slice none 0 0,.slice none 0 0,.int .i64 0] 29 (0,0))):=iH ((jQ (by omega)).trans RS4.out)
          obtain⟨s0,s1,s2,sf⟩:=j7 RS5.out
          have sf0:=sf 0;have sf1:=sf 1;have sf2:=sf 2;clear sf
          obtain⟨w5,hw5⟩:∃w5,w5=set6 wd (w.heap.size+1+1) (.int .i64 ((m:Int)+12)) (.int .i64 ins) (.int .i64 p1) (.int .i64 p2) (.slice vA b.length vc) (.int .i64 65536):=⟨_,rfl⟩
          rw [<-hw5]at s0 s1 s2 sf0 sf1 sf2 |-
          have HW5:=iH hw5
          clear hw5 hJ
          go_wp2_with fail
          have q:=jq (W:=wd) RR4.out RS4.out (.int .i64 ((m:Int)+12)) (.int .i64 ins) (.int .i64 p1) (.int .i64 p2) (.slice vA b.length vc) (.int .i64 65536) (.slice xA k1.length xc) (.slice yA k2.length yc) (.int .i64 (n+1))
          rw [<-HW5.out]at q
          obtain⟨q2,q3⟩:=q
          obtain⟨y0,y1,y2,y3,y4,y5,_⟩:=j8 q2
          obtain⟨x0,x1,x2,_⟩:=j7 q3
          refine bodyPost_ret (v:=.tuple #[.agg #[.int .i64 ((m:Int)+12),.int .i64 ins,.int .i64 p1,.int .i64 p2,.slice vA b.length vc,.int .i64 65536],.agg #[.slice xA k1.length xc,.slice yA k2.length yc,.int .i64 (n+1)],.int .i64 0]) (by simp only [set3]at y0 y1 y2 y3 y4 y5 x0 x1 x2;simp [results,Tryz.results14,go_sem,y0,y1,y2,y3,y4,y5,x0,x1,x2]) rfl ?_
          rw [R.out]
          have hk:=fun(v:Value) (L:List UInt8) (h:Bs wd wd.heap.size v L)=>JA (W:=wd) RR4.out RS4.out (.int .i64 ((m:Int)+12)) (.int .i64 ins) (.int .i64 p1) (.int .i64 p2) (.slice vA b.length vc) (.int .i64 65536) (.slice xA k1.length xc) (.slice yA k2.length yc) (.int .i64 (n+1)) h
          rw [<-HW5.out]at hk
          have hbw:=jk (p:=(w.heap.size+1+1)) (a:=.int .i64 ((m:Int)+12)) (b:=.int .i64 ins) (c:=.int .i64 p1) (d:=.int .i64 p2) (e:=.slice vA b.length vc) (f:=.int .i64 65536) (x:=.slice xA k1.length xc) (y:=.slice yA k2.length yc) (z:=.int .i64 (n+1)) HB4.out (by omega)
          exact mB
   ·have h9:¬((m:Int) / 4 % 4=0):=by omega
    have a2:(((m / 4 % 4*4:Nat):Int) != 0)=true:=by simp;omega
    have R:Hid (qd k1 k2 n ⟨m,ins,p1,p2,data,ex⟩=(14,zC,[],[],0)):=iH (by unfold qd;rw [iF (by rw [HVS.out];simp),iF (by rw [HVC.out];simp),iT (by unfold Jo;rw [Bool.and_eq_false_iff];exact .inl (decide_eq_false (by omega)))])
    obtain⟨z,hz⟩:∃z:Int,((m / 4 % 4*4:Nat):Int)=z:=⟨_,rfl⟩
    rw [hz]at a1 a2
    clear g1 hm o1 hz h9
    go_enter Tryz.func14,Tryz.ntmps14
    go_upto_region 1 with fail
    rw [<-HWS.out,<-HWC.out,<-HW2.out,<-HW3.out]
    obtain⟨f0,f1,f2⟩:=CS.out wa iB
    go_upto_region 2 with (first
     |(go_at_call 29;have M1:=HBV;go_loud(refine(kt _ _ _ wv (HCV.out wv HBV.out)).mono ?_;rw [HVC.out];rintro e wc ⟨rfl,hb⟩;have hb2:=HBV.out.trans (hb.mono HBV.out.size);have HBC:=iH hb2;clear g0 g1 g2 g3 g4 g5;obtain⟨g0,g1,g2,g3,g4,g5⟩:=CC.out wc hb2;clear f0 f1 f2;obtain⟨f0,f1,f2⟩:=CS.out wc hb2;clear hb hb2))
     |(go_at_call 28;refine(jt _ k1 k2 n _ wa HSV.out).mono ?_;rw [HVS.out];rintro e wv ⟨rfl,hb⟩;have HBV:=iH hb;obtain⟨g0,g1,g2,g3,g4,g5⟩:=CC.out wv hb;clear hb))
    clear f0 f1 f2 g0 g1 g2 g3 g4 g5 a1 a2
    obtain⟨r0,r1,r2,r3,r4,r5,rf⟩:=j8 (R2.out wc HBC.out);have rf0:=rf 0;have rf1:=rf 1;have rf2:=rf 2;have rf3:=rf 3;have rf4:=rf 4;have rf5:=rf 5;clear rf;obtain⟨s0,s1,s2,sf⟩:=j7 (R3.out wc HBC.out);have sf0:=sf 0;have sf1:=sf 1;have sf2:=sf 2;clear sf
    go_wp2_with fail
    obtain⟨q2,q3⟩:=jq (R2.out wc HBC.out) (R3.out wc HBC.out) (.int .i64 0) (.int .i64 0) (.int .i64 0) (.int .i64 0) (.slice none 0 0) (.int .i64 0) (.slice none 0 0) (.slice none 0 0) (.int .i64 0)
    obtain⟨y0,y1,y2,y3,y4,y5,_⟩:=j8 q2
    obtain⟨x0,x1,x2,_⟩:=j7 q3
    refine bodyPost_ret (v:=.tuple #[.agg #[.int .i64 0,.int .i64 0,.int .i64 0,.int .i64 0,.slice none 0 0,.int .i64 0],.agg #[.slice none 0 0,.slice none 0 0,.int .i64 0],.int .i64 14]) (by simp only [set6,set3]at y0 y1 y2 y3 y4 y5 x0 x1 x2;simp [results,Tryz.results14,go_sem,y0,y1,y2,y3,y4,y5,x0,x1,x2]) rfl ?_
    rw [R.out]
    exact⟨_,_,rfl,⟨_,rfl,BsS.nil0 _ _⟩,⟨_,_,rfl,BsS.nil0 _ _,BsS.nil0 _ _⟩,jk (HB.out.trans (Below.mono HBC.out HB.out.size)) (by omega)⟩
  ·have HVC:Hid (vC ⟨cl,ins,p1,p2,data,ex⟩=false):=iH (by simpa using v2)
   have R:Hid (qd k1 k2 n ⟨cl,ins,p1,p2,data,ex⟩=(14,zC,[],[],0)):=iH (by unfold qd;rw [iF (by rw [v1];simp),iT HVC.out])
   clear v1 v2
   go_enter Tryz.func14,Tryz.ntmps14
   go_upto_region 1 with fail
   rw [<-HWS.out,<-HWC.out,<-HW2.out,<-HW3.out]
   obtain⟨f0,f1,f2⟩:=CS.out wa iB
   go_upto_region 2 with (first
    |(go_at_call 29;have M1:=HBV;go_loud(refine(kt _ _ _ wv (HCV.out wv HBV.out)).mono ?_;rw [HVC.out];rintro e wc ⟨rfl,hb⟩;have hb2:=HBV.out.trans (hb.mono HBV.out.size);have HBC:=iH hb2;clear g0 g1 g2 g3 g4 g5;obtain⟨g0,g1,g2,g3,g4,g5⟩:=CC.out wc hb2;clear f0 f1 f2;obtain⟨f0,f1,f2⟩:=CS.out wc hb2;clear hb hb2))
    |(go_at_call 28;refine(jt _ k1 k2 n _ wa HSV.out).mono ?_;rw [HVS.out];rintro e wv ⟨rfl,hb⟩;have HBV:=iH hb;obtain⟨g0,g1,g2,g3,g4,g5⟩:=CC.out wv hb;clear hb))
   clear f0 f1 f2 g0 g1 g2 g3 g4 g5
   obtain⟨r0,r1,r2,r3,r4,r5,rf⟩:=j8 (R2.out wc HBC.out);have rf0:=rf 0;have rf1:=rf 1;have rf2:=rf 2;have rf3:=rf 3;have rf4:=rf 4;have rf5:=rf 5;clear rf;obtain⟨s0,s1,s2,sf⟩:=j7 (R3.out wc HBC.out);have sf0:=sf 0;have sf1:=sf 1;have sf2:=sf 2;clear sf
   go_wp2_with fail
   obtain⟨q2,q3⟩:=jq (R2.out wc HBC.out) (R3.out wc HBC.out) (.int .i64 0) (.int .i64 0) (.int .i64 0) (.int .i64 0) (.slice none 0 0) (.int .i64 0) (.slice none 0 0) (.slice none 0 0) (.int .i64 0)
   obtain⟨y0,y1,y2,y3,y4,y5,_⟩:=j8 q2
   obtain⟨x0,x1,x2,_⟩:=j7 q3
   refine bodyPost_ret (v:=.tuple #[.agg #[.int .i64 0,.int .i64 0,.int .i64 0,.int .i64 0,.slice none 0 0,.int .i64 0],.agg #[.slice none 0 0,.slice none 0 0,.int .i64 0],.int .i64 14]) (by simp only [set6,set3]at y0 y1 y2 y3 y4 y5 x0 x1 x2;simp [results,Tryz.results14,go_sem,y0,y1,y2,y3,y4,y5,x0,x1,x2]) rfl ?_
   exact mr
 ·have HVS:Hid (vS k1 k2 n=false):=iH (by simpa using v1)
  have R:Hid (qd k1 k2 n ⟨cl,ins,p1,p2,data,ex⟩=(14,zC,[],[],0)):=iH (by unfold qd;rw [iT HVS.out])
  clear v1
  go_enter Tryz.func14,Tryz.ntmps14
  go_upto_region 1 with fail
  rw [<-HWS.out,<-HWC.out,<-HW2.out,<-HW3.out]
  obtain⟨f0,f1,f2⟩:=CS.out wa iB
  go_upto_region 2 with (go_at_call 28;refine(jt _ k1 k2 n _ wa HSV.out).mono ?_;rw [HVS.out];rintro e wv ⟨rfl,hb⟩;have HBV:=iH hb;obtain⟨g0,g1,g2,g3,g4,g5⟩:=CC.out wv hb;clear hb)
  clear f0 f1 f2 g0 g1 g2 g3 g4 g5
  obtain⟨r0,r1,r2,r3,r4,r5,rf⟩:=j8 (R2.out wv HBV.out);have rf0:=rf 0;have rf1:=rf 1;have rf2:=rf 2;have rf3:=rf 3;have rf4:=rf 4;have rf5:=rf 5;clear rf;obtain⟨s0,s1,s2,sf⟩:=j7 (R3.out wv HBV.out);have sf0:=sf 0;have sf1:=sf 1;have sf2:=sf 2;clear sf
  go_wp2_with fail
  obtain⟨q2,q3⟩:=jq (R2.out wv HBV.out) (R3.out wv HBV.out) (.int .i64 0) (.int .i64 0) (.int .i64 0) (.int .i64 0) (.slice none 0 0) (.int .i64 0) (.slice none 0 0) (.slice none 0 0) (.int .i64 0)
  obtain⟨y0,y1,y2,y3,y4,y5,_⟩:=j8 q2
  obtain⟨x0,x1,x2,_⟩:=j7 q3
  refine bodyPost_ret (v:=.tuple #[.agg #[.int .i64 0,.int .i64 0,.int .i64 0,.int .i64 0,.slice none 0 0,.int .i64 0],.agg #[.slice none 0 0,.slice none 0 0,.int .i64 0],.int .i64 14]) (by simp only [set6,set3]at y0 y1 y2 y3 y4 y5 x0 x1 x2;simp [results,Tryz.results14,go_sem,y0,y1,y2,y3,y4,y5,x0,x1,x2]) rfl ?_
  exact mV
end Go.Proofs.YtadndhgebgjlaaaGreat
