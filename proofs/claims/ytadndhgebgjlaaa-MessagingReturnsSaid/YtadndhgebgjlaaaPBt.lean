/- Layer 19: MessagingReturns -/
import Derived.Deep.CutBlock
import Derived.Test.YtadndhgebgjlaaaPBq
import Derived.Test.YtadndhgebgjlaaaPBr
import Derived.Test.YtadndhgebgjlaaaPBp
set_option linter.unusedVariables false
set_option linter.unnecessarySimpa false
set_option linter.unusedSimpArgs false
set_option maxRecDepth 100000
set_option maxHeartbeats 40000000
namespace Go.Proofs.Ytadndhgebgjlaaa
open Go.RowKit Go.Deep
theorem x8(v:Value)(n:Nat)(w:World)(hv:IntsS w (·<w.heap.size) v n):Calls Try.prog 5 #[v] w fun e w'=>e=.returned (.bool true)/\Below w.heap.size w w':=by
 have HL:=iH (JZ _ v n w hv)
 have HR:=iH (Qx v n w hv)
 obtain⟨va,vc,rfl⟩:=hv.form
 clear hv
 by_cases hn:(n:Int)<=400
 ·have hn1:decide ((n:Int)<=400)=true:=decide_eq_true hn
  rw [hn1]at HL
  clear hn hn1
  obtain⟨p,hp⟩:∃p,w.heap.size=p:=⟨_,rfl⟩
  obtain⟨B,hB⟩:∃B,p+1=B:=⟨_,rfl⟩
  have HR:Hid (Calls Try.prog 8 #[.slice va n vc] w fun e w'=>e=.returned (.pointer (some ⟨p,0,none⟩))/\Die B w' p n/\Below p w w'):=iH (by rw [<-hB,<-hp];exact HR.out)
  have HW:=iH hp
  rw [hp]
  clear hp
  go_enter Try.func5,Try.ntmps5
  go_upto_region 5 with (first
   |(go_at_call 6;refine HL.out.mono ?_;rintro e w' ⟨rfl,hw'⟩;rw [hw'];clear hw' w')
   |(go_at_call 8;refine HR.out.mono ?_;rintro e w1 ⟨rfl,hd,hb⟩;have D1:Hid (DiePost B w1 p n w1):=iH (DiePost.refl hd);have B1:=iH hb;have L1:=hd.le;have L2:=hd.lt;clear hd hb)
   |(go_at_call 9;refine(qs B p n w1 D1.out.1).mono ?_;rintro e w2 ⟨v,k1,k2,m,rfl,⟨ua,ub,rfl,ha,hb⟩,hvs,hd⟩;obtain⟨A1,d1,hp⟩:=Bs.formL ha;subst hp;obtain⟨A2,d2,hp⟩:=Bs.formL hb;subst hp;have D2:=iH hd;have X2:=iH (ha.newO (p:=p) (by omega));have Y2:=iH (hb.newO (p:=p) (by omega));have VS0:=iH hvs;have z2:=hd.2.size;clear ha hb hd hvs))
  obtain⟨wa,hwa⟩:∃u,u=w2.alloc (.cells #[.slice A1 k1.length d1,.slice A2 k2.length d2,.int .i64 m] 29):=⟨_,rfl⟩
  rw [<-hwa]
  have hbw:Below w2.heap.size w2 wa:=by rw [hwa];exact iA
  have S0:Hid (SesAt p wa w2.heap.size k1 k2 m):=iH ⟨_,_,_,_,by rw [hwa];exact iN,X2.out.rollO ((DiePost.refl D2.out.1).below hbw),Y2.out.rollO ((DiePost.refl D2.out.1).below hbw)⟩
  have D0:Hid (DiePost B w1 p n wa):=iH (D2.out.below hbw)
  obtain⟨ga,hga⟩:∃g,w2.heap.size=g:=⟨_,rfl⟩
  rw [hga]at S0 |-
  have neA:ga≠p:=by omega
  have gaz:w1.heap.size<=ga:=by omega
  have hB1:B<=w1.heap.size:=by omega
  clear hwa hbw X2 Y2 D2 hga z2
  obtain⟨sA,sa,sB,sb,hr,hx,hy⟩:=S0.out;obtain⟨s0,s1,s2,sf⟩:=j9 hr;have sf0:=sf 0;have sf1:=sf 1;have sf2:=sf 2;have XS:=iH hx;have YS:=iH hy;have RS:=iH hr;clear sf hr hx hy
  have hvb:=of_decide_eq_true VS0.out
  obtain⟨o31,ho31⟩:∃o,decide (m>1099511627756)=o:=⟨_,rfl⟩
  have HO31:=iH ho31
  go_upto_if 31 with fail
  clear ho31
  go_cut [] from 29 to 32 (fun wx=>DiePost B w1 p n wx/\∃N,SesAt p wx ga k1 k2 N/\vS k1 k2 N=true/\N<=1099511627756)
  case first=>
   by_cases hm:m>1099511627756
   ·obtain rfl:o31=true:=by rw [<-HO31.out];exact decide_eq_true hm
    clear hm
    go_wp2_with fail
    go_meet
    exact⟨D0.out.set hB1 gaz _,0,S0.out.setN 0,decide_eq_true ⟨hvb.1,hvb.2.1,by omega,by omega⟩,by omega⟩
   ·obtain rfl:o31=false:=by rw [<-HO31.out];exact decide_eq_false hm
    have HM:Hid (m<=1099511627756):=iH (by omega)
    clear hm
    go_wp2_with fail
    go_meet
    exact⟨D0.out,m,S0.out,VS0.out,HM.out⟩
  case rest=>
   obtain⟨hd,N0,hs,hv,hn0⟩:=hcut
   have D3:=iH hd;have S3:=iH hs;have V3:=iH hv
   clear hd hs hv hvb s0 s1 s2 sf0 sf1 sf2 XS YS RS S0 D0 VS0
   obtain⟨sA,sa,sB,sb,hr,hx,hy⟩:=S3.out;obtain⟨s0,s1,s2,_⟩:=j9 hr;have Xs:=iH hx;have Ys:=iH hy;clear hr hx hy
   go_upto_region 8 with fail
   obtain⟨wb,hwb⟩:∃u,u=wc.alloc (.cells #[.slice sA k1.length sa,.slice sB k2.length sb,.int .i64 N0] 29):=⟨_,rfl⟩
   rw [<-hwb]
   have hbw:Below wc.heap.size wc wb:=by rw [hwb];exact iA
   have E4:Hid (DiePost B wc p n wb):=iH ((DiePost.refl D3.out.1).below hbw)
   have D4:=iH (D3.out.trans E4.out);have A4:=iH (S3.out.roll E4.out neA)
   have B_4:Hid (SesAt p wb wc.heap.size k1 k2 N0):=iH ⟨_,_,_,_,by rw [hwb];exact iN,Xs.out.rollO E4.out,Ys.out.rollO E4.out⟩
   have gbz:w1.heap.size<=wc.heap.size:=D3.out.2.size
   have gab:ga<wc.heap.size:=by obtain⟨_,_,_,_,h,_⟩:=S3.out;exact(iG h)
   obtain⟨gb,hgb⟩:∃g,wc.heap.size=g:=⟨_,rfl⟩
   rw [hgb]at B_4 gbz gab |-
   have neB_:gb≠p:=by omega
   clear hwb hbw E4 D3 S3 Xs Ys s0 s1 s2 hgb
   go_upto_region 9 with (go_at_call 15;refine(jI B p n 5 wb D4.out.1 (by decide) (by decide)).mono ?_;rintro e w5 ⟨z0,rfl,hz0,hd⟩;have D5:=iH (D4.out.trans hd);have A5:=iH (A4.out.roll hd neA);have B_5:=iH (B_4.out.roll hd neB_);clear hd)
   go_loopg [6] (1+z0) (fun q i wr=>∃N:Int,i=.int .i64 q/\DiePost B w1 p n wr/\SesAt p wr ga k1 k2 N/\SesAt p wr gb k1 k2 N/\vS k1 k2 N=true/\N+2*q<=1099511627766)
   case atStart=>exact⟨N0,by go_num,D5.out,A5.out,B_5.out,V3.out,by omega⟩
   case round=>
    clear D5 A5 B_5 D4 A4 B_4 V3 hz0 hn0
    obtain⟨N,rfl,hD,hA,hB_,hV,hN⟩:=hrel
    have D9:=iH hD;have A9:=iH hA;have B_9:=iH hB_;have HV:=iH hV
    clear hD hA hB_ hV
    have hN0:0<=N:=(of_decide_eq_true HV.out).2.2.1
    by_cases hq:gk=0
    ·subst hq
     go_wp2_with(go_at_call 7;refine(kg _).mono ?_;rintro e wz ⟨rfl,hb⟩;have HZ:=iH hb;clear hb)
     go_ret
     exact⟨rfl,B1.out.grown (D9.out.below HZ.out).2 (by omega) (fun k e=>by injection e with e;omega)⟩
    ·have hq1:0<gk:=by omega
     clear hq
     go_upto_region 12 with (first
      |(go_at_call 15;refine(jI B p n 65536 y2 DA2.out.1 (by decide) (by decide)).mono ?_;rintro e y3 ⟨z,rfl,hz,hd⟩;have DA3:=iH (DA2.out.trans hd);have AA3:=iH (AA2.out.roll hd neA);have BB3:=iH (BB2.out.roll hd neB_);have CX3:=iH (CX2.out.rollO hd);have DX3:=iH (DX2.out.rollO hd);have zy3:=hd.2.size;clear hd)
      |(go_at_call 16;refine(yJ B p n 50 y1 DA1.out.1 (by decide) (by decide)).mono ?_;rintro e y2 ⟨v,d,rfl,hv,hl,hd⟩;obtain⟨A4,d4,hp⟩:=Bs.formL hv;subst hp;have HDL:Hid (d.length<=50):=iH (by omega);have DA2:=iH (DA1.out.trans hd);have AA2:=iH (AA1.out.roll hd neA);have BB2:=iH (BB1.out.roll hd neB_);have CX2:=iH (CX1.out.rollO hd);have DX2:=iH (hv.newO (p:=p) (by have:=DA1.out.2.size;omega));have zy2:=hd.2.size;clear hd hv hl)
      |(go_at_call 10;refine(zr B p n wr D9.out.1).mono ?_;rintro e y1 ⟨v,c,rfl,⟨ud,rfl,hc⟩,hmc,hd⟩;obtain⟨A3,d3,hp⟩:=Bs.formL hc;subst hp;have MC:=iH hmc;have DA1:=iH (D9.out.trans hd);have AA1:=iH (A9.out.roll hd neA);have BB1:=iH (B_9.out.roll hd neB_);have CX1:=iH (hc.newO (p:=p) (by have:=D9.out.2.size;omega));have zy1:=hd.2.size;clear hd hc hmc))
     clear DA1 AA1 BB1 CX1 DA2 AA2 BB2 CX2 DX2 D9 A9 B_9
     obtain⟨u0,hu0⟩:∃u,u=(y3.alloc (.cells #[.int .i64 c.cl,.int .i64 c.ins,.int .i64 c.p1,.int .i64 c.p2,.slice A3 c.data.length d3,.int .i64 c.ex] 32)).alloc (.cells #[.slice A4 d.length d4,.int .i64 (z:Int)] 45):=⟨_,rfl⟩
     rw [<-hu0]
     have hr1:u0.heap[y3.heap.size]?=some (.cells #[.int .i64 c.cl,.int .i64 c.ins,.int .i64 c.p1,.int .i64 c.p2,.slice A3 c.data.length d3,.int .i64 c.ex] 32 (0,0)):=by rw [hu0,Below.heap_alloc _ _ _ (by simp)];exact iN
     have hr2:u0.heap[y3.heap.size+1]?=some (.cells #[.slice A4 d.length d4,.int .i64 (z:Int)] 45 (0,0)):=by
      rw [hu0]
      have h:=heap_alloc_new (y3.alloc (.cells #[.int .i64 c.cl,.int .i64 c.ins,.int .i64 c.p1,.int .i64 c.p2,.slice A3 c.data.length d3,.int .i64 c.ex] 32)) (.cells #[.slice A4 d.length d4,.int .i64 (z:Int)] 45)
      rwa [jG]at h
     have sz0:u0.heap.size=y3.heap.size+1+1:=by rw [hu0];simp
     have hbw:Below y3.heap.size y3 u0:=by rw [hu0];exact(iA).alloc (by simp) _
     clear hu0
     have E0:Hid (DiePost B y3 p n u0):=iH ((DiePost.refl DA3.out.1).below hbw)
     have D0:=iH (DA3.out.trans E0.out);have A0:=iH (AA3.out.roll E0.out neA);have B_0:=iH (BB3.out.roll E0.out neB_)
     obtain⟨gC,hgC⟩:∃g,y3.heap.size=g:=⟨_,rfl⟩
     obtain⟨gR,hgR⟩:∃g,gC+1=g:=⟨_,rfl⟩
     have C0:Hid (CmdAt p u0 gC c):=iH ⟨_,_,by rw [<-hgC];exact hr1,CX3.out.rollO E0.out⟩
     have R0:Hid (RspAt p u0 gR d z):=iH ⟨_,_,by rw [<-hgR,<-hgC];exact hr2,DX3.out.rollO E0.out⟩
     have zu0:u0.heap.size=gC+2:=by omega
     rw [hgC]
     rw [hgR]
     have hpz:p<w1.heap.size:=by omega
     have hDz:=D0.out.2.size
     have neC:gC≠p:=by have:=DA3.out.2.size;omega
     have neR:gR≠p:=by have:=DA3.out.2.size;omega
     clear hr1 hr2 hbw sz0 E0 DA3 AA3 BB3 CX3 DX3 hgC hgR zy1 zy2 zy3
     have hza:ga<gC+2:=by rw [<-zu0];obtain⟨_,_,_,_,h,_⟩:=A0.out;exact(iG h)
     have hzb:gb<gC+2:=by rw [<-zu0];obtain⟨_,_,_,_,h,_⟩:=B_0.out;exact(iG h)
     have hvb:=of_decide_eq_true HV.out
     obtain⟨bx,hw1,hb1,hbxl⟩:=yw (n:=N) HV.out MC.out (by omega)
     have hw2:=yq HV.out (decide_eq_true (by obtain⟨q1,q2,q3,q4,q5,q6⟩:=MC.out;exact⟨by omega,by omega,q2,q3,q4,by omega,q6⟩):vC c=true) (by rcases MC.out.1 with h|h|h<;>rw [h]<;>rfl:yE c.cl=true) (by omega) (by have:=MC.out.2.2.2.2.1;omega) hb1
     have HV1:vS k1 k2 (N+1)=true:=decide_eq_true ⟨hvb.1,hvb.2.1,by omega,by omega⟩
     have hrv:vR d z=true:=decide_eq_true ⟨by have:=HDL.out;omega,by omega,by omega⟩
     obtain⟨bz,hbz,hbzl⟩:=Jt (k2:=k2) (N:=xF (N+1+1)) (head:=[]) (tg:=153) (V:=xq k1 (xF (N+1+1)) d) (M:=kV z) hvb.2.1 (by decide) (by decide) (by decide) (by
      unfold xq
      split
      ·simp
      ·rw [List.length_cons,ZN]
       have:=kP d.length
       have:=HDL.out
       omega) (by simp [kV])
     have hst:stN z=k9 153 (kV z):=(iF (by simp [kV])).symm
     rw [<-kI,<-hst]at hbz
     have hw3:qa k1 k2 (N+1) d (z:Int)=((0:Int),bz,(z:Int),k1,k2,N+1+1):=by
      unfold qa
      rw [iF (by rw [HV1];simp),iF (by rw [hrv];simp),iF (by omega),hbz]
      rfl
     have hw4:=Xk HV1 hrv (by omega) (by have:=HDL.out;omega) hbz
     obtain⟨X,hX⟩:∃X:Cm,X=⟨c.cl+12,c.ins,c.p1,c.p2,bx,65536⟩:=⟨_,rfl⟩
     rw [<-hX]at hw1 hw2
     obtain⟨N2,hN2⟩:∃q:Int,q=N+1+1:=⟨_,rfl⟩
     rw [<-hN2]at hw3 hw4
     have HN2:=iH hN2
     have HW1:=iH hw1;have HW2:=iH hw2;have HW3:=iH hw3;have HW4:=iH hw4
     clear hbxl hbzl hvb hw1 hb1 hw2 HV1 hrv hbz hst hw3 hw4 hX hz hN2
     obtain⟨sA,sa,sB,sb,hr,hx,hy⟩:=A0.out;obtain⟨s0,s1,s2,_⟩:=j9 hr;have Xs:=iH hx;have Ys:=iH hy;clear hr hx hy
     obtain⟨oA,oC,hr,hx⟩:=C0.out;obtain⟨o0,o1,o2,o3,o4,o5,_⟩:=j8 hr;have Xo:=iH hx;clear hr hx
     go_upto_region 13 with (go_at_call 11;refine(q7 _ _ k1 k2 N c u0 ⟨_,_,rfl,Xs.out.lo,Ys.out.lo⟩ ⟨_,rfl,Xo.out.lo⟩).mono ?_;rw [HW1.out];rintro e v1 ⟨v,s,rfl,⟨dd,rfl,hd⟩,⟨x2,y2,rfl,hx,hy⟩,hb⟩;obtain⟨dA2,dc2,hp⟩:=Bs.formL hd;subst hp;obtain⟨xA2,xc2,hp⟩:=Bs.formL hx;subst hp;obtain⟨yA2,yc2,hp⟩:=Bs.formL hy;subst hp;have HB2:=iH hb;have HD2:=iH hd;have HX2:=iH hx;have HY2:=iH hy;obtain⟨hz,hs0⟩:=kK v1;obtain⟨n0,n1,n2,n3,n4,n5,nf⟩:=j8 hz;have nf0:=nf 0;have nf1:=nf 1;have nf2:=nf 2;have nf3:=nf 3;have nf4:=nf 4;have nf5:=nf 5;obtain⟨m0,m1,m2,mf⟩:=j9 hs0;have mf0:=mf 0;have mf1:=mf 1;have mf2:=mf 2;clear nf mf hz hs0;clear hd hx hy hb)
     clear n0 nf0 n1 nf1 n2 nf2 n3 nf3 n4 nf4 n5 nf5 m0 m1 m2 mf0 mf1 mf2 s0 s1 s2 o0 o1 o2 o3 o4 o5
     clear Xs Ys Xo
     obtain⟨u1,hu1⟩:∃u,u=(v1.alloc (.cells #[.int .i64 X.cl,.int .i64 X.ins,.int .i64 X.p1,.int .i64 X.p2,.slice dA2 X.data.length dc2,.int .i64 X.ex] 32)).alloc (.cells #[.slice xA2 k1.length xc2,.slice yA2 k2.length yc2,.int .i64 (N+1)] 29):=⟨_,rfl⟩
     rw [<-hu1]
     have hr1:u1.heap[v1.heap.size]?=some (.cells #[.int .i64 X.cl,.int .i64 X.ins,.int .i64 X.p1,.int .i64 X.p2,.slice dA2 X.data.length dc2,.int .i64 X.ex] 32 (0,0)):=by rw [hu1,Below.heap_alloc _ _ _ (by simp)];exact iN
     have hr2:u1.heap[v1.heap.size+1]?=some (.cells #[.slice xA2 k1.length xc2,.slice yA2 k2.length yc2,.int .i64 (N+1)] 29 (0,0)):=by
      rw [hu1]
      have h:=heap_alloc_new (v1.alloc (.cells #[.int .i64 X.cl,.int .i64 X.ins,.int .i64 X.p1,.int .i64 X.p2,.slice dA2 X.data.length dc2,.int .i64 X.ex] 32)) (.cells #[.slice xA2 k1.length xc2,.slice yA2 k2.length yc2,.int .i64 (N+1)] 29)
      rwa [jG]at h
     have sz1:u1.heap.size=v1.heap.size+1+1:=by rw [hu1];simp
     have hbw:Below v1.heap.size v1 u1:=by rw [hu1];exact(iA).alloc (by simp) _
     clear hu1
     have hbb:=HB2.out.trans (hbw.mono HB2.out.size)
     have E1:Hid (DiePost B u0 p n u1):=iH ((DiePost.refl D0.out.1).below hbb)
     have D1:=iH (D0.out.trans E1.out)
     have zu1:u0.heap.size<=v1.heap.size:=HB2.out.size
     obtain⟨gX_,hgX_⟩:∃g,v1.heap.size=g:=⟨_,rfl⟩
     obtain⟨gP,hgP⟩:∃g,gX_+1=g:=⟨_,rfl⟩
     have X_1:Hid (CmdAt p u1 gX_ X):=iH ⟨_,_,by rw [<-hgX_];exact hr1,(Bs.lift HD2.out hbw).offD D1.out.1⟩
     have P1:Hid (SesAt p u1 gP k1 k2 (N+1)):=iH ⟨_,_,_,_,by rw [<-hgP,<-hgX_];exact hr2,(Bs.lift HX2.out hbw).offD D1.out.1,(Bs.lift HY2.out hbw).offD D1.out.1⟩
     have zv1:u1.heap.size=gX_+2:=by
      have h:=(iG hr2)
      have h3:=sz1
      omega
     rw [hgX_]at zu1 |-
     rw [hgP]
     have neX_:gX_≠p:=by omega
     have luP:gX_<=gP:=by omega
     have neP:gP≠p:=by omega
     clear hr1 hr2 hbw hbb HB2 HD2 HX2 HY2 hgX_ hgP sz1
     have A1:=iH (A0.out.roll E1.out neA)
     have B_1:=iH (B_0.out.roll E1.out neB_)
     have C1:=iH (C0.out.roll E1.out neC)
     have R1:=iH (R0.out.roll E1.out neR)
     clear A0 B_0 C0 R0 D0 E1
     obtain⟨sA,sa,sB,sb,hr,hx,hy⟩:=B_1.out;obtain⟨s0,s1,s2,_⟩:=j9 hr;have Xs:=iH hx;have Ys:=iH hy;clear hr hx hy
     obtain⟨oA,oC,hr,hx⟩:=X_1.out;obtain⟨o0,o1,o2,o3,o4,o5,_⟩:=j8 hr;have Xo:=iH hx;clear hr hx
     go_upto_region 14 with (go_at_call 17;refine(ye _ _ k1 k2 N X u1 ⟨_,_,rfl,Xs.out.lo,Ys.out.lo⟩ ⟨_,rfl,Xo.out.lo⟩).mono ?_;rw [HW2.out];rintro e v2 ⟨v,s,rfl,⟨dd,rfl,hd⟩,⟨x2,y2,rfl,hx,hy⟩,hb⟩;obtain⟨dA2,dc2,hp⟩:=Bs.formL hd;subst hp;obtain⟨xA2,xc2,hp⟩:=Bs.formL hx;subst hp;obtain⟨yA2,yc2,hp⟩:=Bs.formL hy;subst hp;have HB2:=iH hb;have HD2:=iH hd;have HX2:=iH hx;have HY2:=iH hy;obtain⟨hz,hs0⟩:=kK v2;obtain⟨n0,n1,n2,n3,n4,n5,nf⟩:=j8 hz;have nf0:=nf 0;have nf1:=nf 1;have nf2:=nf 2;have nf3:=nf 3;have nf4:=nf 4;have nf5:=nf 5;obtain⟨m0,m1,m2,mf⟩:=j9 hs0;have mf0:=mf 0;have mf1:=mf 1;have mf2:=mf 2;clear nf mf hz hs0;clear hd hx hy hb)
     clear n0 nf0 n1 nf1 n2 nf2 n3 nf3 n4 nf4 n5 nf5 m0 m1 m2 mf0 mf1 mf2 s0 s1 s2 o0 o1 o2 o3 o4 o5
     clear Xs Ys Xo
     obtain⟨u2,hu2⟩:∃u,u=(v2.alloc (.cells #[.int .i64 c.cl,.int .i64 c.ins,.int .i64 c.p1,.int .i64 c.p2,.slice dA2 c.data.length dc2,.int .i64 c.ex] 32)).alloc (.cells #[.slice xA2 k1.length xc2,.slice yA2 k2.length yc2,.int .i64 (N+1)] 29):=⟨_,rfl⟩
     rw [<-hu2]
     have hr1:u2.heap[v2.heap.size]?=some (.cells #[.int .i64 c.cl,.int .i64 c.ins,.int .i64 c.p1,.int .i64 c.p2,.slice dA2 c.data.length dc2,.int .i64 c.ex] 32 (0,0)):=by rw [hu2,Below.heap_alloc _ _ _ (by simp)];exact iN
     have hr2:u2.heap[v2.heap.size+1]?=some (.cells #[.slice xA2 k1.length xc2,.slice yA2 k2.length yc2,.int .i64 (N+1)] 29 (0,0)):=by
      rw [hu2]
      have h:=heap_alloc_new (v2.alloc (.cells #[.int .i64 c.cl,.int .i64 c.ins,.int .i64 c.p1,.int .i64 c.p2,.slice dA2 c.data.length dc2,.int .i64 c.ex] 32)) (.cells #[.slice xA2 k1.length xc2,.slice yA2 k2.length yc2,.int .i64 (N+1)] 29)
      rwa [jG]at h
     have sz2:u2.heap.size=v2.heap.size+1+1:=by rw [hu2];simp
     have hbw:Below v2.heap.size v2 u2:=by rw [hu2];exact(iA).alloc (by simp) _
     clear hu2
     have hbb:=HB2.out.trans (hbw.mono HB2.out.size)
     have E2:Hid (DiePost B u1 p n u2):=iH ((DiePost.refl D1.out.1).below hbb)
     have D2:=iH (D1.out.trans E2.out)
     have zu2:u1.heap.size<=v2.heap.size:=HB2.out.size
     obtain⟨gY_,hgY_⟩:∃g,v2.heap.size=g:=⟨_,rfl⟩
     obtain⟨gQ,hgQ⟩:∃g,gY_+1=g:=⟨_,rfl⟩
     have Y_2:Hid (CmdAt p u2 gY_ c):=iH ⟨_,_,by rw [<-hgY_];exact hr1,(Bs.lift HD2.out hbw).offD D2.out.1⟩
     have Q2:Hid (SesAt p u2 gQ k1 k2 (N+1)):=iH ⟨_,_,_,_,by rw [<-hgQ,<-hgY_];exact hr2,(Bs.lift HX2.out hbw).offD D2.out.1,(Bs.lift HY2.out hbw).offD D2.out.1⟩
     have zv2:u2.heap.size=gY_+2:=by
      have h:=(iG hr2)
      have h3:=sz2
      omega
     rw [hgY_]at zu2 |-
     rw [hgQ]
     have neY_:gY_≠p:=by omega
     have luQ:gY_<=gQ:=by omega
     have neQ:gQ≠p:=by omega
     clear hr1 hr2 hbw hbb HB2 HD2 HX2 HY2 hgY_ hgQ sz2
     have A2:=iH (A1.out.roll E2.out neA)
     have B_2:=iH (B_1.out.roll E2.out neB_)
     have C2:=iH (C1.out.roll E2.out neC)
     have R2:=iH (R1.out.roll E2.out neR)
     have X_2:=iH (X_1.out.roll E2.out neX_)
     have P2:=iH (P1.out.roll E2.out neP)
     clear A1 B_1 C1 R1 X_1 P1 D1 E2
     obtain⟨sA,sa,sB,sb,hr,hx,hy⟩:=Q2.out;obtain⟨s0,s1,s2,_⟩:=j9 hr;have Xs:=iH hx;have Ys:=iH hy;clear hr hx hy
     obtain⟨oA,oC,hr,hx⟩:=R2.out;obtain⟨o0,o1,_⟩:=jk hr;have Xo:=iH hx;clear hr hx
     go_upto_region 15 with (go_at_call 18;refine(Xd _ _ k1 k2 (N+1) d z u2 ⟨_,_,rfl,Xs.out.lo,Ys.out.lo⟩ ⟨_,rfl,Xo.out.lo⟩).mono ?_;rw [HW3.out];rintro e v3 ⟨v,s,rfl,⟨dd,rfl,hd⟩,⟨x2,y2,rfl,hx,hy⟩,hb⟩;obtain⟨dA2,dc2,hp⟩:=Bs.formL hd;subst hp;obtain⟨xA2,xc2,hp⟩:=Bs.formL hx;subst hp;obtain⟨yA2,yc2,hp⟩:=Bs.formL hy;subst hp;have HB2:=iH hb;have HD2:=iH hd;have HX2:=iH hx;have HY2:=iH hy;obtain⟨hz,hs0⟩:=yW v3;obtain⟨n0,n1,nf⟩:=jk hz;have nf0:=nf 0;have nf1:=nf 1;obtain⟨m0,m1,m2,mf⟩:=j9 hs0;have mf0:=mf 0;have mf1:=mf 1;have mf2:=mf 2;clear nf mf hz hs0;clear hd hx hy hb)
     clear n0 nf0 n1 nf1 m0 m1 m2 mf0 mf1 mf2 s0 s1 s2 o0 o1
     clear Xs Ys Xo
     obtain⟨u3,hu3⟩:∃u,u=(v3.alloc (.cells #[.slice dA2 bz.length dc2,.int .i64 (z:Int)] 45)).alloc (.cells #[.slice xA2 k1.length xc2,.slice yA2 k2.length yc2,.int .i64 (N2)] 29):=⟨_,rfl⟩
     rw [<-hu3]
     have hr1:u3.heap[v3.heap.size]?=some (.cells #[.slice dA2 bz.length dc2,.int .i64 (z:Int)] 45 (0,0)):=by rw [hu3,Below.heap_alloc _ _ _ (by simp)];exact iN
     have hr2:u3.heap[v3.heap.size+1]?=some (.cells #[.slice xA2 k1.length xc2,.slice yA2 k2.length yc2,.int .i64 (N2)] 29 (0,0)):=by
      rw [hu3]
      have h:=heap_alloc_new (v3.alloc (.cells #[.slice dA2 bz.length dc2,.int .i64 (z:Int)] 45)) (.cells #[.slice xA2 k1.length xc2,.slice yA2 k2.length yc2,.int .i64 (N2)] 29)
      rwa [jG]at h
     have sz3:u3.heap.size=v3.heap.size+1+1:=by rw [hu3];simp
     have hbw:Below v3.heap.size v3 u3:=by rw [hu3];exact(iA).alloc (by simp) _
     clear hu3
     have hbb:=HB2.out.trans (hbw.mono HB2.out.size)
     have E3:Hid (DiePost B u2 p n u3):=iH ((DiePost.refl D2.out.1).below hbb)
     have D3:=iH (D2.out.trans E3.out)
     have zu3:u2.heap.size<=v3.heap.size:=HB2.out.size
     obtain⟨gZ_,hgZ_⟩:∃g,v3.heap.size=g:=⟨_,rfl⟩
     obtain⟨gU,hgU⟩:∃g,gZ_+1=g:=⟨_,rfl⟩
     have Z_3:Hid (RspAt p u3 gZ_ bz z):=iH ⟨_,_,by rw [<-hgZ_];exact hr1,(Bs.lift HD2.out hbw).offD D3.out.1⟩
     have U3:Hid (SesAt p u3 gU k1 k2 (N2)):=iH ⟨_,_,_,_,by rw [<-hgU,<-hgZ_];exact hr2,(Bs.lift HX2.out hbw).offD D3.out.1,(Bs.lift HY2.out hbw).offD D3.out.1⟩
     have zv3:u3.heap.size=gZ_+2:=by
      have h:=(iG hr2)
      have h3:=sz3
      omega
     rw [hgZ_]at zu3 |-
     rw [hgU]
     have neZ_:gZ_≠p:=by omega
     have luU:gZ_<=gU:=by omega
     have neU:gU≠p:=by omega
     clear hr1 hr2 hbw hbb HB2 HD2 HX2 HY2 hgZ_ hgU sz3
     have A3:=iH (A2.out.roll E3.out neA)
     have B_3:=iH (B_2.out.roll E3.out neB_)
     have C3:=iH (C2.out.roll E3.out neC)
     have R3:=iH (R2.out.roll E3.out neR)
     have X_3:=iH (X_2.out.roll E3.out neX_)
     have P3:=iH (P2.out.roll E3.out neP)
     have Y_3:=iH (Y_2.out.roll E3.out neY_)
     have Q3:=iH (Q2.out.roll E3.out neQ)
     clear A2 B_2 C2 R2 X_2 P2 Y_2 Q2 D2 E3
     obtain⟨sA,sa,sB,sb,hr,hx,hy⟩:=P3.out;obtain⟨s0,s1,s2,_⟩:=j9 hr;have Xs:=iH hx;have Ys:=iH hy;clear hr hx hy
     obtain⟨oA,oC,hr,hx⟩:=Z_3.out;obtain⟨o0,o1,_⟩:=jk hr;have Xo:=iH hx;clear hr hx
     go_upto_region 16 with (go_at_call 19;refine(Zo _ _ k1 k2 (N+1) bz z u3 ⟨_,_,rfl,Xs.out.lo,Ys.out.lo⟩ ⟨_,rfl,Xo.out.lo⟩).mono ?_;rw [HW4.out];rintro e v4 ⟨v,s,rfl,⟨dd,rfl,hd⟩,⟨x2,y2,rfl,hx,hy⟩,hb⟩;obtain⟨dA2,dc2,hp⟩:=Bs.formL hd;subst hp;obtain⟨xA2,xc2,hp⟩:=Bs.formL hx;subst hp;obtain⟨yA2,yc2,hp⟩:=Bs.formL hy;subst hp;have HB2:=iH hb;have HD2:=iH hd;have HX2:=iH hx;have HY2:=iH hy;obtain⟨hz,hs0⟩:=yW v4;obtain⟨n0,n1,nf⟩:=jk hz;have nf0:=nf 0;have nf1:=nf 1;obtain⟨m0,m1,m2,mf⟩:=j9 hs0;have mf0:=mf 0;have mf1:=mf 1;have mf2:=mf 2;clear nf mf hz hs0;clear hd hx hy hb)
     clear n0 nf0 n1 nf1 m0 m1 m2 mf0 mf1 mf2 s0 s1 s2 o0 o1
     clear Xs Ys Xo
     obtain⟨u4,hu4⟩:∃u,u=(v4.alloc (.cells #[.slice dA2 d.length dc2,.int .i64 (z:Int)] 45)).alloc (.cells #[.slice xA2 k1.length xc2,.slice yA2 k2.length yc2,.int .i64 (N2)] 29):=⟨_,rfl⟩
     rw [<-hu4]
     have hr1:u4.heap[v4.heap.size]?=some (.cells #[.slice dA2 d.length dc2,.int .i64 (z:Int)] 45 (0,0)):=by rw [hu4,Below.heap_alloc _ _ _ (by simp)];exact iN
     have hr2:u4.heap[v4.heap.size+1]?=some (.cells #[.slice xA2 k1.length xc2,.slice yA2 k2.length yc2,.int .i64 (N2)] 29 (0,0)):=by
      rw [hu4]
      have h:=heap_alloc_new (v4.alloc (.cells #[.slice dA2 d.length dc2,.int .i64 (z:Int)] 45)) (.cells #[.slice xA2 k1.length xc2,.slice yA2 k2.length yc2,.int .i64 (N2)] 29)
      rwa [jG]at h
     have sz4:u4.heap.size=v4.heap.size+1+1:=by rw [hu4];simp
     have hbw:Below v4.heap.size v4 u4:=by rw [hu4];exact(iA).alloc (by simp) _
     clear hu4
     have hbb:=HB2.out.trans (hbw.mono HB2.out.size)
     have E4:Hid (DiePost B u3 p n u4):=iH ((DiePost.refl D3.out.1).below hbb)
     have D4:=iH (D3.out.trans E4.out)
     have zu4:u3.heap.size<=v4.heap.size:=HB2.out.size
     obtain⟨gW_,hgW_⟩:∃g,v4.heap.size=g:=⟨_,rfl⟩
     obtain⟨gV,hgV⟩:∃g,gW_+1=g:=⟨_,rfl⟩
     have W_4:Hid (RspAt p u4 gW_ d z):=iH ⟨_,_,by rw [<-hgW_];exact hr1,(Bs.lift HD2.out hbw).offD D4.out.1⟩
     have V4:Hid (SesAt p u4 gV k1 k2 (N2)):=iH ⟨_,_,_,_,by rw [<-hgV,<-hgW_];exact hr2,(Bs.lift HX2.out hbw).offD D4.out.1,(Bs.lift HY2.out hbw).offD D4.out.1⟩
     have zv4:u4.heap.size=gW_+2:=by
      have h:=(iG hr2)
      have h3:=sz4
      omega
     rw [hgW_]at zu4 |-
     rw [hgV]
     have neW_:gW_≠p:=by omega
     have luV:gW_<=gV:=by omega
     have neV:gV≠p:=by omega
     clear hr1 hr2 hbw hbb HB2 HD2 HX2 HY2 hgW_ hgV sz4
     have A4:=iH (A3.out.roll E4.out neA)
     have B_4:=iH (B_3.out.roll E4.out neB_)
     have C4:=iH (C3.out.roll E4.out neC)
     have R4:=iH (R3.out.roll E4.out neR)
     have X_4:=iH (X_3.out.roll E4.out neX_)
     have P4:=iH (P3.out.roll E4.out neP)
     have Y_4:=iH (Y_3.out.roll E4.out neY_)
     have Q4:=iH (Q3.out.roll E4.out neQ)
     have Z_4:=iH (Z_3.out.roll E4.out neZ_)
     have U4:=iH (U3.out.roll E4.out neU)
     clear A3 B_3 C3 R3 X_3 P3 Y_3 Q3 Z_3 U3 D3 E4
     obtain⟨yA,yC,hr,hx⟩:=Y_4.out;obtain⟨y0,y1,y2,y3,y4,y5,_⟩:=j8 hr;have Xy:=iH hx;clear hr hx
     obtain⟨cA,cC,hr,hx⟩:=C4.out;obtain⟨c0,c1,c2,c3,c4,c5,_⟩:=j8 hr;have Xc:=iH hx;clear hr hx
     have tN:(N2 != N+2)=false:=by rw [HN2.out];simp;omega
     go_upto_if 115 with (first
      |(go_at_call 14;have M7:=D6;refine(ZT _ _ k1 k2 k1 k2 N2 N2 _ _ w6 ⟨_,_,rfl,Xu.out,Yu.out⟩ ⟨_,_,rfl,Xv.out,Yv.out⟩).mono ?_;rintro e w7 ⟨rfl,hb⟩;rw [decide_eq_true (show N2=N2/\k1=k1/\k2=k2 from⟨rfl,rfl,rfl⟩)];have E7:Hid (DiePost B w6 p n w7):=iH ((DiePost.refl D6.out.1).below hb);have D7:=iH (D6.out.trans E7.out);have A7:=iH (A6.out.roll E7.out neA);have B_7:=iH (B_6.out.roll E7.out neB_);have U7:=iH (U6.out.roll E7.out neU);have V7:=iH (V6.out.roll E7.out neV);clear hb u0 u1 u2 v0 v1 v2 Xu Yu Xv Yv;obtain⟨uA,ua,uB,ub,hr,hx,hy⟩:=U7.out;obtain⟨u0,u1,u2,_⟩:=j9 hr;have Xu:=iH hx;have Yu:=iH hy;clear hr hx hy;obtain⟨aA,aa,aB,ab,hr,hx,hy⟩:=A7.out;obtain⟨a0,a1,a2,_⟩:=j9 hr;have Xa:=iH hx;have Ya:=iH hy;clear hr hx hy)
      |(go_at_call 21;have M6:=D5;refine(KX _ _ d d (z:Int) (z:Int) _ _ w5 ⟨_,rfl,Xs.out⟩ ⟨_,rfl,Xr.out⟩).mono ?_;rintro e w6 ⟨rfl,hb⟩;rw [decide_eq_true (show(z:Int)=z/\d=d from⟨rfl,rfl⟩)];have E6:Hid (DiePost B w5 p n w6):=iH ((DiePost.refl D5.out.1).below hb);have D6:=iH (D5.out.trans E6.out);have A6:=iH (A5.out.roll E6.out neA);have B_6:=iH (B_5.out.roll E6.out neB_);have U6:=iH (U5.out.roll E6.out neU);have V6:=iH (V5.out.roll E6.out neV);clear hb s0 s1 r0 r1 Xs Xr;obtain⟨uA,ua,uB,ub,hr,hx,hy⟩:=U6.out;obtain⟨u0,u1,u2,_⟩:=j9 hr;have Xu:=iH hx;have Yu:=iH hy;clear hr hx hy;obtain⟨vA,va,vB,vb,hr,hx,hy⟩:=V6.out;obtain⟨v0,v1,v2,_⟩:=j9 hr;have Xv:=iH hx;have Yv:=iH hy;clear hr hx hy)
      |(go_at_call 20;refine(KG _ _ c c _ _ u4 ⟨_,rfl,Xy.out⟩ ⟨_,rfl,Xc.out⟩).mono ?_;rintro e w5 ⟨rfl,hb⟩;rw [decide_eq_true (show c.cl=c.cl/\c.ins=c.ins/\c.p1=c.p1/\c.p2=c.p2/\c.ex=c.ex/\c.data=c.data from⟨rfl,rfl,rfl,rfl,rfl,rfl⟩)];have E5:Hid (DiePost B u4 p n w5):=iH ((DiePost.refl D4.out.1).below hb);have D5:=iH (D4.out.trans E5.out);have A5:=iH (A4.out.roll E5.out neA);have B_5:=iH (B_4.out.roll E5.out neB_);have U5:=iH (U4.out.roll E5.out neU);have V5:=iH (V4.out.roll E5.out neV);have R5:=iH (R4.out.roll E5.out neR);have W_5:=iH (W_4.out.roll E5.out neW_);clear hb y0 y1 y2 y3 y4 y5 c0 c1 c2 c3 c4 c5 Xy Xc;obtain⟨sA,sC,hr,hx⟩:=W_5.out;obtain⟨s0,s1,_⟩:=jk hr;have Xs:=iH hx;clear hr hx;obtain⟨rA,rC,hr,hx⟩:=R5.out;obtain⟨r0,r1,_⟩:=jk hr;have Xr:=iH hx;clear hr hx))
     clear u0 u1 u2 a0 a1 a2 Xu Yu Xa Ya
     go_upto_region 18 with fail
     obtain⟨uA,ua,uB,ub,hr,hx,hy⟩:=U7.out;obtain⟨u0,u1,u2,_⟩:=j9 hr;have Xu:=iH hx;have Yu:=iH hy;clear hr hx hy
     obtain⟨vA,va,vB,vb,hr,hx,hy⟩:=V7.out;obtain⟨v0,v1,v2,_⟩:=j9 hr;have Xv:=iH hx;have Yv:=iH hy;clear hr hx hy
     obtain⟨aA,aa,aB,ab,har,_⟩:=A7.out
     obtain⟨bA,ba,bB,bb,hbr,_⟩:=B_7.out
     obtain⟨a0,a1,a2,af⟩:=j9 har
     have af0:=af 0;have af1:=af 1;have af2:=af 2
     obtain⟨b0,b1,b2,bf⟩:=j9 hbr
     have bf0:=bf 0;have bf1:=bf 1;have bf2:=bf 2
     have RA:=iH har;have RB:=iH hbr
     clear af bf har hbr
     have nUa:gU≠ga:=by omega
     have nVa:gV≠ga:=by omega
     have nUb:gU≠gb:=by omega
     have nVb:gV≠gb:=by omega
     obtain⟨w8,hw8⟩:∃u,u=set3 w7 ga (.slice vA k1.length va) (.slice vB k2.length vb) (.int .i64 N2):=⟨_,rfl⟩
     obtain⟨w9,hw9⟩:∃u,u=set3 w8 gb (.slice uA k1.length ua) (.slice uB k2.length ub) (.int .i64 N2):=⟨_,rfl⟩
     have D8:Hid (DiePost B w1 p n w9.drew):=iH (by rw [hw9,hw8];exact((D7.out.set3 hB1 gaz _ _ _).set3 hB1 gbz _ _ _).drew)
     have A8:Hid (SesAt p w9 ga k1 k2 N2):=iH (by
      rw [hw9]
      refine SesAt.other3 ?_ (g':=gb) (by rw [hw8];exact SesAt.other3 B_7.out A7.out (by omega) _ _ _) (by omega) _ _ _
      rw [hw8]
      exact SesAt.fill RA.out K2 Xv.out Yv.out)
     have B8:Hid (SesAt p w9 gb k1 k2 N2):=iH (by
      have hr8:w8.heap[gb]?=w7.heap[gb]? :=by rw [hw8];exact jr (by omega)
      rw [hw9]
      exact SesAt.fill (hr8.trans RB.out) K2 (by rw [hw8];exact qT Xu.out RA.out K2 _ _ _) (by rw [hw8];exact qT Yu.out RA.out K2 _ _ _))
     unfold Go.Proofs.Ytadndhgebgjlaaa.set3 at hw8 hw9
     rw [hw8]at hw9
     have HW9:=iH hw9
     clear hw8 hw9
     go_region_with (fail)
     all_goals(
      rw [<-HW9.out]
      go_wp2_with fail
      go_roundg (gk - 1)
      case measure=>omega
      case rel=>exact⟨N2,by go_num,D8.out,A8.out,B8.out,decide_eq_true (by have h:=of_decide_eq_true HV.out;have:=HN2.out;exact⟨h.1,h.2.1,by omega,by omega⟩),by have:=HN2.out;omega⟩)
 ·have hn1:decide ((n:Int)<=400)=false:=decide_eq_false hn
  rw [hn1]at HL
  clear hn hn1
  go_enter Try.func5,Try.ntmps5
  go_wp2_with(first
   |(go_at_call 6;refine HL.out.mono ?_;rintro e w' ⟨rfl,hw'⟩;rw [hw'];clear hw' w')
   |(go_at_call 7;refine(kg _).mono ?_;rintro e w1 ⟨rfl,hb⟩;have HB:=iH hb;clear hb))
  go_ret
  exact⟨by simp,HB.out⟩
end Go.Proofs.Ytadndhgebgjlaaa
