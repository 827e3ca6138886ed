/- Layer 21: the chip's step, done -/
import Derived.Test.YtalmmiojbmpmiaaGreatDoorPBi
set_option linter.all false
set_option maxRecDepth 100000
set_option maxHeartbeats 16000000
namespace Go.Proofs.YtalmmiojbmpmiaaGreatDoor
open Go.RowKit Go.Deep
theorem yK(X:Exg)(sA nA aA bA:Option Addr)(sc nc ac bc:Nat)(vA eA:Option Addr)(vc ec:Nat)(B s:List UInt8)(w:World)(hK:KD w)(h1:Bs w w.heap.size (.slice sA X.sec.length sc) X.sec)(h2:Bs w w.heap.size (.slice nA X.non.length nc) X.non)(h3:Bs w w.heap.size (.slice aA X.k1.length ac) X.k1)(h4:Bs w w.heap.size (.slice bA X.k2.length bc) X.k2)(h5:Bs w w.heap.size (.slice vA B.length vc) B)(h6:Bs w w.heap.size (.slice eA s.length ec) s)(ls:X.sec.length<=140737488351232)(ln:X.non.length<=140737488351232)(l1:X.k1.length<=140737488351232)(l2:X.k2.length<=140737488351232)(hl:s.length<=140737488351232)(F:Nat)(hF:(X.st=0/\F=71)\/(X.st=1/\F=72)\/(X.st=2/\F=73)\/(X.st=3/\F=74))(hst:0<=X.st/\X.st<=3)(hus:usC X=true)(v:List UInt8)(hv:kw B (zS X.st) (Qd X)=some v)(tag:Int)(htg:128<=tag/\tag<=134)(Y:Exg)(hyst:Y.st=X.st)(dt nx:List UInt8)(hdl:dt.length<=64)(hdo:j7a F X v s tag Y dt nx)(hr:jv X B s=(0,{Y with st:=Y.st+1},jE tag dt,nx)):Calls Tryz.prog 33 #[.agg #[.int .i64 X.kd,.slice sA X.sec.length sc,.int .i64 X.pr,.int .i64 X.st,.slice nA X.non.length nc,.int .i64 X.x,.int .i64 X.g,.int .i64 X.own,.int .i64 X.oth,.slice aA X.k1.length ac,.slice bA X.k2.length bc,.int .i64 X.ct],.slice vA B.length vc,.slice eA s.length ec] w (ExO (jv X B s) w):=by
 obtain⟨U,hU⟩:∃U,jE tag dt=U:=⟨_,rfl⟩
 rw [hU]at hr
 have R:=iH hr
 have HWR:Hid (∀(A:Option Addr) (c:Nat) (W:World),Bs W W.heap.size (.slice A dt.length c) dt->Calls Tryz.prog 75 #[.int .i64 tag,.slice A dt.length c] W (xw U W)):=iH (fun A c W h=>hU▸zu tag htg A c dt W h hdl)
 have HF:=iH hF;have HUS:=iH hus;have HST:=iH hst;have HV:=iH hv;have HDO:=iH hdo
 obtain⟨w0,HW0,HB0,HSZ,FR,FZ,H1,H2,H3,H4,H5,H6⟩:=Za X sA nA aA bA sc nc ac bc h1 h2 h3 h4 h5 h6
 have HK:=iH hK;have HLN:=iH (And.intro ls (And.intro ln (And.intro l1 l2)));have HL:=iH hl
 obtain⟨f0,f1,f2,f3,f4,f5,f6,f7,f8,f9,f10,f11,ff⟩:=j4 (FR.out w0 iB)
 obtain⟨z0,z1,z2,z3,z4,z5,z6,z7,z8,z9,z10,z11,zf⟩:=j4 (FZ.out w0 iB)
 have zf0:=zf 0;have zf1:=zf 1;have zf2:=zf 2;have zf3:=zf 3;have zf4:=zf 4;have zf5:=zf 5;have zf6:=zf 6;have zf7:=zf 7;have zf8:=zf 8;have zf9:=zf 9;have zf10:=zf 10;have zf11:=zf 11
 clear hK h1 h2 h3 h4 h5 h6 ls ln l1 l2 hl zf ff
 have d0:decide (X.st<0)=false:=decide_eq_false (by omega)
 have d3:decide (3<X.st)=false:=decide_eq_false (by omega)
 have hy0:0<=Y.st:=by omega
 have hy3:Y.st<=3:=by omega
 clear hF hus hst hv hdo hr htg hyst hdl hU
 obtain⟨o5,e5⟩:∃o,(X.pr==3)=o:=⟨_,rfl⟩
 cases o5
 all_goals(
  have HP3:=iH e5
  go_enter Tryz.func33,Tryz.ntmps33
  go_upto_region 1 with fail
  rw [<-HW0.out]
  go_upto_region 6 with (go_at_call 68;refine(za X sA nA aA bA sc nc ac bc w0 H3.out H4.out HLN.out.2.2.1 HLN.out.2.2.2).mono ?_;rw [HUS.out];rintro e w1 ⟨rfl,hb⟩;have HB1:=iH hb;clear f0 f1 f2 f3 f4 f5 f6 f7 f8 f9 f10 f11;obtain⟨g0,g1,g2,g3,g4,g5,g6,g7,g8,g9,g10,g11,gf⟩:=j4 (FR.out _ hb);clear z0 zf0 z1 zf1 z2 zf2 z3 zf3 z4 zf4 z5 zf5 z6 zf6 z7 zf7 z8 zf8 z9 zf9 z10 zf10 z11 zf11;obtain⟨z0,z1,z2,z3,z4,z5,z6,z7,z8,z9,z10,z11,zf⟩:=j4 (FZ.out _ hb);have zf0:=zf 0;have zf1:=zf 1;have zf2:=zf 2;have zf3:=zf 3;have zf4:=zf 4;have zf5:=zf 5;have zf6:=zf 6;have zf7:=zf 7;have zf8:=zf 8;have zf9:=zf 9;have zf10:=zf 10;have zf11:=zf 11;clear hb zf gf)
  go_upto_region 8 with fail
  have I0:=j7d;have I1:=j7e;have I2:=j7f;have I3:=j7g
  go_cut [11] from 33 to 41 (fun y wc=>∃q ty,y=.pointer (some ⟨q,0,none⟩)/\wc.heap[q]?=some (.cells #[.int .i64 (j4l X.st),.int .i64 (j16 X)] ty (0,0))/\Below w1.heap.size w1 wc/\q<wc.heap.size)
  case first=>
   exact my
  case rest=>
  obtain⟨q,ty,rfl,hq,hbw,hql⟩:=hcut
  obtain⟨q0,q1,_⟩:=two hq
  have HBC:=iH (HB1.out.trans (hbw.mono HB1.out.size))
  clear hq hbw hql g0 g1 g2 g3 g4 g5 g6 g7 g8 g9 g10 g11 z0 zf0 z1 zf1 z2 zf2 z3 zf3 z4 zf4 z5 zf5 z6 zf6 z7 zf7 z8 zf8 z9 zf9 z10 zf10 z11 zf11 e5
  go_upto_region 12 with (go_at_call 69;refine(Kp X.st HST.out (j16 X) B _ _ (Bs.lift H5.out HBC.out)).mono ?_;rw [Yw,HV.out];rintro e w2 ⟨v2,rfl,hs,hb⟩;obtain⟨A2,c2,hv2⟩:=Bs.formL hs;subst hv2;have GV:=iH hs;have HB2:=iH (HBC.out.trans (hb.mono HBC.out.size));obtain⟨f0,f1,f2,f3,f4,f5,f6,f7,f8,f9,f10,f11,ff⟩:=j4 (FR.out _ HB2.out);obtain⟨z0,z1,z2,z3,z4,z5,z6,z7,z8,z9,z10,z11,zf⟩:=j4 (FZ.out _ HB2.out);have zf0:=zf 0;have zf1:=zf 1;have zf2:=zf 2;have zf3:=zf 3;have zf4:=zf 4;have zf5:=zf 5;have zf6:=zf 6;have zf7:=zf 7;have zf8:=zf 8;have zf9:=zf 9;have zf10:=zf 10;have zf11:=zf 11;clear hs hb ff zf)
  go_upto_region 13 with (go_at_call 70;refine(qX X sA nA aA bA sc nc ac bc w2 (H1.out.lift HB2.out) (H2.out.lift HB2.out) (H3.out.lift HB2.out) (H4.out.lift HB2.out) HLN.out.1 HLN.out.2.1 HLN.out.2.2.1 HLN.out.2.2.2).mono ?_;rintro e w3 ⟨sB,nB,aB,bB,sd,nd,ad,bd,rfl,k1,k2,k3,k4,hb⟩;have HB3:=iH (HB2.out.trans (hb.mono HB2.out.size));have hpz:=PtW.start (FZ.out _ HB3.out);clear f0 f1 f2 f3 f4 f5 f6 f7 f8 f9 f10 f11 z0 zf0 z1 zf1 z2 zf2 z3 zf3 z4 zf4 z5 zf5 z6 zf6 z7 zf7 z8 zf8 z9 zf9 z10 zf10 z11 zf11;obtain⟨f0,f1,f2,f3,f4,f5,f6,f7,f8,f9,f10,f11,ff⟩:=j4 (FR.out _ HB3.out);obtain⟨z0,z1,z2,z3,z4,z5,z6,z7,z8,z9,z10,z11,zf⟩:=j4 hpz.1;have zf0:=zf 0;have zf1:=zf 1;have zf2:=zf 2;have zf3:=zf 3;have zf4:=zf 4;have zf5:=zf 5;have zf6:=zf 6;have zf7:=zf 7;have zf8:=zf 8;have zf9:=zf 9;have zf10:=zf 10;have zf11:=zf 11;have G1:=iH (BsS.madeB (p:=w.heap.size+1) k1 (by have:=HSZ.out;have:=HB2.out.size;omega));have G2:=iH (BsS.madeB (p:=w.heap.size+1) k2 (by have:=HSZ.out;have:=HB2.out.size;omega));have G3:=iH (BsS.madeB (p:=w.heap.size+1) k3 (by have:=HSZ.out;have:=HB2.out.size;omega));have G4:=iH (BsS.madeB (p:=w.heap.size+1) k4 (by have:=HSZ.out;have:=HB2.out.size;omega));have G5:=iH (BsS.onB (BsS.madeB (p:=w.heap.size+1) GV.out (by have:=HSZ.out;have:=HBC.out.size;omega)) hb);have HPZ:=iH hpz;clear k1 k2 k3 k4 hb hpz ff zf)
  obtain⟨w4,hw4⟩:∃z,z=set12 w3 (w.heap.size+1) (.int .i64 X.kd) (.slice sB X.sec.length sd) (.int .i64 X.pr) (.int .i64 X.st) (.slice nB X.non.length nd) (.int .i64 X.x) (.int .i64 X.g) (.int .i64 X.own) (.int .i64 X.oth) (.slice aB X.k1.length ad) (.slice bB X.k2.length bd) (.int .i64 X.ct):=⟨_,rfl⟩
  have hp4:PtW (w.heap.size+1) w3 w4 #[.int .i64 X.kd,.slice sB X.sec.length sd,.int .i64 X.pr,.int .i64 X.st,.slice nB X.non.length nd,.int .i64 X.x,.int .i64 X.g,.int .i64 X.own,.int .i64 X.oth,.slice aB X.k1.length ad,.slice bB X.k2.length bd,.int .i64 X.ct]:=by rw [hw4];exact HPZ.out.set12 (.int .i64 X.kd) (.slice sB X.sec.length sd) (.int .i64 X.pr) (.int .i64 X.st) (.slice nB X.non.length nd) (.int .i64 X.x) (.int .i64 X.g) (.int .i64 X.own) (.int .i64 X.oth) (.slice aB X.k1.length ad) (.slice bB X.k2.length bd) (.int .i64 X.ct)
  have g4:=fun {u:Value} {m:List UInt8} (h:BsS w3 (j7 (w.heap.size+1) w3) u m)=>(by rw [hw4];exact BsS.set12 h (.int .i64 X.kd) (.slice sB X.sec.length sd) (.int .i64 X.pr) (.int .i64 X.st) (.slice nB X.non.length nd) (.int .i64 X.x) (.int .i64 X.g) (.int .i64 X.own) (.int .i64 X.oth) (.slice aB X.k1.length ad) (.slice bB X.k2.length bd) (.int .i64 X.ct):BsS w4 (j7 (w.heap.size+1) w4) u m)
  have J1:=iH (g4 G1.out);have J2:=iH (g4 G2.out);have J3:=iH (g4 G3.out);have J4:=iH (g4 G4.out);have J5:=iH (g4 G5.out)
  have H6w:Hid (BsS w3 (j7 (w.heap.size+1) w3) (.slice eA s.length ec) s):=iH (BsS.keep (BsS.off (H6.out.lift HB3.out) (FZ.out _ HB3.out) QL) fun g hs _=>⟨rfl,hs⟩)
  have J6:=iH (g4 H6w.out)
  have HQ4:=iH hp4
  have hfr4:w4.heap[w.heap.size]?=some (.cells #[.int .i64 X.kd,.slice sA X.sec.length sc,.int .i64 X.pr,.int .i64 X.st,.slice nA X.non.length nc,.int .i64 X.x,.int .i64 X.g,.int .i64 X.own,.int .i64 X.oth,.slice aA X.k1.length ac,.slice bA X.k2.length bc,.int .i64 X.ct] 48 (0,0)):=(hp4.2.1.block w.heap.size (by have:=HSZ.out;have:=HB3.out.size;omega) (by intro e;injection e with e;omega)).trans (FR.out _ HB3.out)
  unfold Go.Proofs.YtalmmiojbmpmiaaGreatDoor.set12 at hw4
  rw [<-hw4]
  clear hw4 hp4 g4 f0 f1 f2 f3 f4 f5 f6 f7 f8 f9 f10 f11 z0 zf0 z1 zf1 z2 zf2 z3 zf3 z4 zf4 z5 zf5 z6 zf6 z7 zf7 z8 zf8 z9 zf9 z10 zf10 z11 zf11
  obtain⟨f0,f1,f2,f3,f4,f5,f6,f7,f8,f9,f10,f11,ff⟩:=j4 hfr4
  clear hfr4 ff
  have HK4:Hid (∀W,Below (w.heap.size+1) w4 W->KD W):=iH (fun W h=>HK.out.below (((HB0.out.trans (HB3.out.mono HB0.out.size)).mono iL).trans ((HQ4.out.2.2.mono (Nat.le_succ _)).trans (h.mono (Nat.le_succ _)))) HK.out.lt)
  have I0:=j82;have I1:=j83;have I2:=j84;have I3:=j85
  have HCF:∀(args:Array Value) (W:World),Sem.run Tryz.prog (callFunc F args) W=.ok (.enter F args) W:=by rcases HF.out with ⟨_,rfl⟩|⟨_,rfl⟩|⟨_,rfl⟩|⟨_,rfl⟩<;>(intro args W;kernel_rfl)
  go_cut [14] from 56 to 59 (fun y wc=>y=.func (.func F) #[] #[]/\wc=w4)
  case first=>
   exact m1t
  case rest=>
  obtain⟨rfl,hwc⟩:=hcut
  have hwc:=hwc.symm
  subst hwc
  clear I0 I1 I2 I3
  go_upto_region 15 with (refine(HDO.out (w.heap.size+1) sB nB aB bB sd nd ad bd A2 eA c2 ec _ HK4.out HQ4.out.1 J1.out J2.out J3.out J4.out J5.out J6.out HL.out).mono ?_;rintro e w5 ⟨dA,dc,nA1,nc1,rfl,⟨sY,nY,aY,bY,sy,ny,ay,by_,hpt,k1,k2,k3,k4⟩,hd,hn⟩;have HPT:=iH hpt;obtain⟨p0,p1,p2,p3,p4,p5,p6,p7,p8,p9,p10,p11,pf⟩:=j4 hpt.1;have pf3:=pf 3;have K1:=iH k1;have K2:=iH k2;have K3:=iH k3;have K4:=iH k4;have KD1:=iH hd;have KN:=iH hn;clear hpt k1 k2 k3 k4 hd hn pf)
  go_upto_region 18 with fail
  obtain⟨w6,hw6⟩:∃z,z=w5.setCell ⟨w.heap.size+1,3,none⟩ (.int .i64 (Y.st+1)):=⟨_,rfl⟩
  rw [<-hw6]
  have hp6:PtW (w.heap.size+1) w4 w6 #[.int .i64 Y.kd,.slice sY Y.sec.length sy,.int .i64 Y.pr,.int .i64 (Y.st+1),.slice nY Y.non.length ny,.int .i64 Y.x,.int .i64 Y.g,.int .i64 Y.own,.int .i64 Y.oth,.slice aY Y.k1.length ay,.slice bY Y.k2.length by_,.int .i64 Y.ct]:=by rw [hw6];exact HPT.out.set 3 _
  have HP6:=iH hp6
  have D6:Hid (BsS w6 (j7 (w.heap.size+1) w6) _ _):=iH (by rw [hw6];exact BsS.setP KD1.out 3 _)
  have N6:Hid (BsS w6 (j7 (w.heap.size+1) w6) _ _):=iH (by rw [hw6];exact BsS.setP KN.out 3 _)
  have L1:Hid (BsS w6 (j7 (w.heap.size+1) w6) _ _):=iH (by rw [hw6];exact BsS.setP K1.out 3 _)
  have L2:Hid (BsS w6 (j7 (w.heap.size+1) w6) _ _):=iH (by rw [hw6];exact BsS.setP K2.out 3 _)
  have L3:Hid (BsS w6 (j7 (w.heap.size+1) w6) _ _):=iH (by rw [hw6];exact BsS.setP K3.out 3 _)
  have L4:Hid (BsS w6 (j7 (w.heap.size+1) w6) _ _):=iH (by rw [hw6];exact BsS.setP K4.out 3 _)
  clear hw6 hp6 p0 p1 p2 p3 p4 p5 p6 p7 p8 p9 p10 p11 pf3 f0 f1 f2 f3 f4 f5 f6 f7 f8 f9 f10 f11 q0 q1
  refine j9 7 [some 77,some 78,some 79,some 80,some 81,none,some 7] [[],[],[],[1,2],[],[0,1,2,3],[0,1,2,3,5]]
   (fun _ _ w1=>PtW (w.heap.size+1) w6 w1 #[.int .i64 Y.kd,.slice sY Y.sec.length sy,.int .i64 Y.pr,.int .i64 (Y.st+1),.slice nY Y.non.length ny,.int .i64 Y.x,.int .i64 Y.g,.int .i64 Y.own,.int .i64 Y.oth,.slice aY Y.k1.length ay,.slice bY Y.k2.length by_,.int .i64 Y.ct]) (fun w1 w2=>w1.grownBy w2 (some (w.heap.size+1)))
   [.v (.agg #[.int .i64 Y.kd,.slice sY Y.sec.length sy,.int .i64 Y.pr,.int .i64 (Y.st+1),.slice nY Y.non.length ny,.int .i64 Y.x,.int .i64 Y.g,.int .i64 Y.own,.int .i64 Y.oth,.slice aY Y.k1.length ay,.slice bY Y.k2.length by_,.int .i64 Y.ct]),
    .v (.int .i64 tag),
    .v (.slice dA dt.length dc),
    .p (fun v w1=>∃A c,v 3=.slice A U.length c/\BsS w1 (j7 (w.heap.size+1) w1) (.slice A U.length c) U) (fun _ _ _ _ _ hr ⟨A,c,h1,h2⟩=>⟨A,c,h1,h2.grownP hr⟩),
    .v (.slice nA1 nx.length nc1),
    .q fun v=>True,
    .q fun v=>∃A c,v 3=.slice A U.length c/\v 6=.slice A U.length c]
   (by kernel_rfl) (by kernel_rfl) rfl (fun _=>(PtW.start HP6.out.1).drew) ?steps ?tail
  case steps=>
   simp only [List.take_succ_cons,List.take_zero]
   repeat' (with_reducible first|exact StepsRG.nil|refine StepsRG.cons ?_ ?_)
   all_goals(intro L v w1 hJ hL hF hD K hK;simp only [jb,Act.put,Nat.zero_add,Nat.reduceAdd,List.setIfInBounds_toArray,List.set_cons_zero,List.set_cons_succ,↓jP,List.getD_cons_zero,List.getD_cons_succ,Nat.reduceEqDiff,↓reduceIte]at hD hK |-)
   all_goals try((try simp only [hD]at hK |-);go_simp;refine hK _ _ hJ (World.grownBy.refl _ _) ?_;first|exact rfl|exact jf _)
   ·obtain⟨q0,q1,q2,q3,q4,q5,q6,q7,q8,q9,q10,q11,qf⟩:=j4 hJ.1
    go_simp
    refine hK _ _ hJ (World.grownBy.refl _ _) ?_
    first|exact rfl|exact jf _
   ·simp only [hD]at hK |-
    go_simp
    refine(HWR.out dA dc w1 (D6.out.grownP hJ.2.1).loB).mono ?_
    rintro e wk ⟨A3,c3,rfl,hs,hb⟩
    refine hK _ _ (hJ.call hb) (jH hb) ⟨_,_,rfl,?_⟩
    exact hs.madeB hJ.lt
   ·simp only [hD]at hK |-
    obtain⟨q0,q1,q2,q3,q4,q5,q6,q7,q8,q9,q10,q11,qf⟩:=j4 hJ.1
    have qf0:=qf 0;have qf1:=qf 1;have qf2:=qf 2;have qf3:=qf 3;have qf4:=qf 4;have qf5:=qf 5;have qf6:=qf 6;have qf7:=qf 7;have qf8:=qf 8;have qf9:=qf 9;have qf10:=qf 10;have qf11:=qf 11
    have HJq:=iH hJ
    clear hJ hL hF qf
    go_simp
    exact hK undef _ (HJq.out.set12 (.int .i64 Y.kd) (.slice sY Y.sec.length sy) (.int .i64 Y.pr) (.int .i64 (Y.st+1)) (.slice nY Y.non.length ny) (.int .i64 Y.x) (.int .i64 Y.g) (.int .i64 Y.own) (.int .i64 Y.oth) (.slice aY Y.k1.length ay) (.slice bY Y.k2.length by_) (.int .i64 Y.ct)) ((PtW.start HJq.out.1).set12 (.int .i64 Y.kd) (.slice sY Y.sec.length sy) (.int .i64 Y.pr) (.int .i64 (Y.st+1)) (.slice nY Y.non.length ny) (.int .i64 Y.x) (.int .i64 Y.g) (.int .i64 Y.own) (.int .i64 Y.oth) (.slice aY Y.k1.length ay) (.slice bY Y.k2.length by_) (.int .i64 Y.ct)).2.1 trivial
   ·simp only [hD]at hK |-
    obtain⟨A,c,e3,_⟩:∃A c,v 3=_/\_:=hF 3 (by simp)
    simp only [e3]at hK
    go_simp
    exact hK _ _ hJ (World.grownBy.refl _ _) ⟨A,c,e3,rfl⟩
  case tail=>
   intro v w1 hJ hF hD
   simp only [jZ]at hD
   obtain⟨e0,e1,e2,e4, -⟩:=hD
   simp only [List.drop_succ_cons,List.drop_zero,jb,Act.put,Nat.zero_add,Nat.reduceAdd,List.setIfInBounds_toArray,List.set_cons_zero,List.set_cons_succ]
   obtain⟨A7,c7,e3,hu⟩:∃A c,v 3=_/\_:=hF 3 (by simp)
   obtain⟨A8,c8,e3b,e6⟩:∃A c,v 3=_/\v 6=_:=hF 6 (by simp)
   obtain⟨rfl,_,rfl⟩:=Value.slice.inj (e3.symm.trans e3b)
   simp only [e0,e1,e2,e3,e4,e6]
   have HP7:=iH hJ;have HU:=iH hu
   obtain⟨y0,y1,y2,y3,y4,y5,y6,y7,y8,y9,y10,y11,yf⟩:=j4 hJ.1
   clear hJ hF hu e0 e1 e2 e3 e3b e4 e6
   go_wp2_with fail
   refine bodyPost_ret (v:=.tuple #[.agg #[.int .i64 Y.kd,.slice sY Y.sec.length sy,.int .i64 Y.pr,.int .i64 (Y.st+1),.slice nY Y.non.length ny,.int .i64 Y.x,.int .i64 Y.g,.int .i64 Y.own,.int .i64 Y.oth,.slice aY Y.k1.length ay,.slice bY Y.k2.length by_,.int .i64 Y.ct],.slice A7 U.length c7,.slice nA1 nx.length nc1,.int .i64 0]) (by simp [results,Tryz.results33,go_sem,y0,y1,y2,y3,y4,y5,y6,y7,y8,y9,y10,y11]) rfl ?_
   have hfin:∀ {u:Value} {m:List UInt8},BsS w6 (j7 (w.heap.size+1) w6) u m->Bs w1 w1.heap.size u m:=fun {u m} h=>(h.grownP HP7.out.2.1).loB
   have hbel:Below w.heap.size w w1:=(HB0.out.trans (HB3.out.mono HB0.out.size)).trans (Below.mono ((HQ4.out.2.2.trans HP6.out.2.2).trans HP7.out.2.2) (Nat.le_succ _))
   rw [R.out]
   exact⟨_,_,_,_,_,rfl,⟨_,_,_,_,rfl,hfin L1.out,hfin L2.out,hfin L3.out,hfin L4.out⟩,HU.out.loB,hfin N6.out,hbel⟩)
end Go.Proofs.YtalmmiojbmpmiaaGreatDoor
