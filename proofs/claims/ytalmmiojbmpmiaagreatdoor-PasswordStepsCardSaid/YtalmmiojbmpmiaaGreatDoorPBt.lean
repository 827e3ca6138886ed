/- Layer 21: terminalMap; Layer 21: terminalKey; Layer 21: the terminal's step in all cases -/
import Derived.Test.YtalmmiojbmpmiaaGreatDoorPBs
import Derived.Test.YtalmmiojbmpmiaaGreatDoorPBo
set_option linter.all false
set_option maxRecDepth 100000
set_option maxHeartbeats 4000000
namespace Go.Proofs.YtalmmiojbmpmiaaGreatDoor
open Go.RowKit Go.Deep
theorem mX{P:Prop}(h:P:=by
 simp only [List.take_succ_cons,List.take_zero]
 repeat' (with_reducible first|exact StepsRG.nil|refine StepsRG.cons ?_ ?_)
 all_goals(intro L v w1 hJ hL hF hD K hK;simp only [jb,Act.put,Nat.zero_add,Nat.reduceAdd,List.setIfInBounds_toArray,List.set_cons_zero,List.set_cons_succ,↓jP,List.getD_cons_zero,List.getD_cons_succ,Nat.reduceEqDiff,↓reduceIte]at hD hK |-)
 all_goals(first
  |((try simp only [hD]at hK |-);have hJ2:=iH hJ;go_simp;exact hK _ _ (hjx (by decide) hJ2.out) (World.grownBy.refl _ _) rfl)
  |((try simp only [hD]at hK |-);have hJ2:=iH hJ;obtain⟨u,hp,_⟩:=hJ;obtain⟨q0,q1,q2,q3,q4,q5,q6,q7,q8,q9,q10,q11,qf⟩:=j4 hp.1;go_simp;exact hK _ _ (hjx (by decide) hJ2.out) (World.grownBy.refl _ _) rfl)
  |skip)
 ·simp only [hD]at hK |-
  go_simp
  refine(HGE.out _ w1 (Gn0.out.grownP (by obtain⟨u,hp,_⟩:=hJ;exact hp.2.1)).loB).mono ?_
  rintro e wk ⟨rfl,hwk⟩
  subst hwk
  exact hK _ _ (hjx (by decide) hJ) (World.grownBy.refl _ _) rfl
 ·simp only [hD]at hK |-
  obtain⟨u,hp,_⟩:=hJ
  obtain⟨q0,q1,q2,q3,q4,q5,q6,q7,q8,q9,q10,q11,qf⟩:=j4 hp.1
  have qx:=qf 6
  have HPQ:=iH hp
  clear hp qf
  go_simp
  exact hK undef _ ⟨_,HPQ.out.set 6 _,fun _=>rfl⟩ ((PtW.start HPQ.out.1).set 6 _).2.1 trivial):P:=h
section
variable(P:Nat)(X:Exg)(sA nA aA bA:Option Addr)(sc nc ac bc:Nat)(vA eA:Option Addr)(vc ec:Nat)(v s:List UInt8)(w:World)(hK:∀W,Below P w W->KD W)(hr:w.heap[P]?=some (.cells #[.int .i64 X.kd,.slice sA X.sec.length sc,.int .i64 X.pr,.int .i64 X.st,.slice nA X.non.length nc,.int .i64 X.x,.int .i64 X.g,.int .i64 X.own,.int .i64 X.oth,.slice aA X.k1.length ac,.slice bA X.k2.length bc,.int .i64 X.ct] 48 (0,0)))(h1:BsS w (j7 P w) (.slice sA X.sec.length sc) X.sec)(h2:BsS w (j7 P w) (.slice nA X.non.length nc) X.non)(h3:BsS w (j7 P w) (.slice aA X.k1.length ac) X.k1)(h4:BsS w (j7 P w) (.slice bA X.k2.length bc) X.k2)(h5:BsS w (j7 P w) (.slice vA v.length vc) v)(h6:BsS w (j7 P w) (.slice eA s.length ec) s)(hl:s.length<=140737488351232)
include P X sA nA aA bA sc nc ac bc vA eA vc ec v s w hK hr h1 h2 h3 h4 h5 h6 hl
theorem Ys(hp:X.pr=3)(N:List UInt8)(hrv:Zg X.kd X.sec v=(0,N))(gi:Int)(hi:yG N (js s 16)=(0,gi)):
 Calls Tryz.prog 90 #[.pointer (some ⟨P,0,none⟩),.slice vA v.length vc,.slice eA s.length ec] w (yI P w 129 {X with non:=N,g:=gi} (js s 16) (sdW s)):=by
 have HRV:=iH (Q7 X.kd X.sec sA sc v vA vc w (hK w iB) h1.loB h5.loB)
 rw [hrv]at HRV
 have t1:(X.pr==3)=true:=by simp [hp]
 have hr16:(js s 16).length=16:=by unfold js;rw [List.length_take,je];omega
 have HDR:=iH (fun W k (h:Bs W W.heap.size (.slice eA s.length ec) s)=>QB 16 (by omega) (by omega) _ s W k h (by omega))
 obtain⟨rr,hrr⟩:∃r,js s 16=r:=⟨_,rfl⟩
 rw [hrr]at HDR hi hr16 |-
 have HIN:=iH (fun(a b:Value) W k h1 h2=>XV N rr a b W k h1 h2)
 rw [hi]at HIN
 have HR16:=iH hr16
 clear hi hp hrv hrr hr16
 have HP0:Hid (PtW P w w #[.int .i64 X.kd,.slice sA X.sec.length sc,.int .i64 X.pr,.int .i64 X.st,.slice nA X.non.length nc,.int .i64 X.x,.int .i64 X.g,.int .i64 X.own,.int .i64 X.oth,.slice aA X.k1.length ac,.slice bA X.k2.length bc,.int .i64 X.ct]):=iH (PtW.start hr)
 have HK:=iH hK;have Gs0:=iH h1;have Gn0:=iH h2;have Ga0:=iH h3;have Gb0:=iH h4;have Gv0:=iH h5;have Ge0:=iH h6;have HL:=iH hl
 obtain⟨f0,f1,f2,f3,f4,f5,f6,f7,f8,f9,f10,f11,ff⟩:=j4 hr
 clear hK hr h1 h2 h3 h4 h5 h6 hl
 go_enter Tryz.func90,Tryz.ntmps90
 go_upto_region 2 with (go_at_call 20;refine HRV.out.mono ?_;rintro e w1 ⟨v1,rfl,hs,hb⟩;obtain⟨A1,c1,hv1⟩:=Bs.formL hs;subst hv1;have GN1:=iH (hs.madeB HP0.out.lt);have Gs1:=iH (Gs0.out.onB hb);have Gn1:=iH (Gn0.out.onB hb);have Ga1:=iH (Ga0.out.onB hb);have Gb1:=iH (Gb0.out.onB hb);have Gv1:=iH (Gv0.out.onB hb);have Ge1:=iH (Ge0.out.onB hb);have hp:=HP0.out.call hb;have HP1:=iH hp;obtain⟨g0,g1,g2,g3,g4,g5,g6,g7,g8,g9,g10,g11,gf⟩:=j4 hp.1;clear hp f0 f1 f2 f3 f4 f5 f6 f7 f8 f9 f10 f11 ff;have gx:=gf 4;clear hb hs gf)
 obtain⟨w2,hw⟩:∃z,z=w1.setCell ⟨P,4,none⟩ (.slice A1 N.length c1):=⟨_,rfl⟩
 rw [<-hw]
 have hp:PtW P w w2 #[.int .i64 X.kd,.slice sA X.sec.length sc,.int .i64 X.pr,.int .i64 X.st,.slice A1 N.length c1,.int .i64 X.x,.int .i64 X.g,.int .i64 X.own,.int .i64 X.oth,.slice aA X.k1.length ac,.slice bA X.k2.length bc,.int .i64 X.ct]:=by rw [hw];exact HP1.out.set 4 _
 have Gs2:Hid (BsS w2 (j7 P w2) _ _):=iH (by rw [hw];exact BsS.setP Gs1.out 4 _)
 have Gn2:Hid (BsS w2 (j7 P w2) _ _):=iH (by rw [hw];exact BsS.setP Gn1.out 4 _)
 have Ga2:Hid (BsS w2 (j7 P w2) _ _):=iH (by rw [hw];exact BsS.setP Ga1.out 4 _)
 have Gb2:Hid (BsS w2 (j7 P w2) _ _):=iH (by rw [hw];exact BsS.setP Gb1.out 4 _)
 have Gv2:Hid (BsS w2 (j7 P w2) _ _):=iH (by rw [hw];exact BsS.setP Gv1.out 4 _)
 have Ge2:Hid (BsS w2 (j7 P w2) _ _):=iH (by rw [hw];exact BsS.setP Ge1.out 4 _)
 have GN2:Hid (BsS w2 (j7 P w2) _ _):=iH (by rw [hw];exact BsS.setP GN1.out 4 _)
 have HP2:=iH hp
 obtain⟨f0,f1,f2,f3,f4,f5,f6,f7,f8,f9,f10,f11,ff⟩:=j4 hp.1
 clear hw hp g0 g1 g2 g3 g4 g5 g6 g7 g8 g9 g10 g11 gx
 clear ff
 go_upto_region 5 with (first
  |(go_at_call 27;refine(HIN.out _ _ w3 (HK.out w3 HP3.out.2.2) GN3.out.loB GR3.out.loB).mono ?_;rintro e w4 ⟨rfl,hb⟩;have GR4:=iH (GR3.out.onB hb);have GX4:=iH (GX3.out.onB hb);have Gs4:=iH (Gs3.out.onB hb);have Gn4:=iH (Gn3.out.onB hb);have Ga4:=iH (Ga3.out.onB hb);have Gb4:=iH (Gb3.out.onB hb);have Gv4:=iH (Gv3.out.onB hb);have Ge4:=iH (Ge3.out.onB hb);have GN4:=iH (GN3.out.onB hb);have hp:=HP3.out.call hb;have HP4:=iH hp;obtain⟨f0,f1,f2,f3,f4,f5,f6,f7,f8,f9,f10,f11,ff⟩:=j4 hp.1;have fx:=ff 6;clear hp hb ff g0 g1 g2 g3 g4 g5 g6 g7 g8 g9 g10 g11)
  |(go_at_call 125;refine(HDR.out w2 (HK.out w2 HP2.out.2.2) Ge2.out.loB).mono ?_;rintro e w3 ⟨A3,c3,B3,d3,rfl,ha,hbx,hb⟩;have GR3:=iH (ha.madeB HP2.out.lt);have GX3:=iH (hbx.madeB HP2.out.lt);have Gs3:=iH (Gs2.out.onB hb);have Gn3:=iH (Gn2.out.onB hb);have Ga3:=iH (Ga2.out.onB hb);have Gb3:=iH (Gb2.out.onB hb);have Gv3:=iH (Gv2.out.onB hb);have Ge3:=iH (Ge2.out.onB hb);have GN3:=iH (GN2.out.onB hb);have hp:=HP2.out.call hb;have HP3:=iH hp;obtain⟨g0,g1,g2,g3,g4,g5,g6,g7,g8,g9,g10,g11,gf⟩:=j4 hp.1;clear hp hb ha hbx gf f0 f1 f2 f3 f4 f5 f6 f7 f8 f9 f10 f11))
 go_upto_region 6 with fail
 obtain⟨w5,hw⟩:∃z,z=w4.setCell ⟨P,6,none⟩ (.int .i64 gi):=⟨_,rfl⟩
 rw [<-hw]
 have hp:PtW P w w5 #[.int .i64 X.kd,.slice sA X.sec.length sc,.int .i64 X.pr,.int .i64 X.st,.slice A1 N.length c1,.int .i64 X.x,.int .i64 gi,.int .i64 X.own,.int .i64 X.oth,.slice aA X.k1.length ac,.slice bA X.k2.length bc,.int .i64 X.ct]:=by rw [hw];exact HP4.out.set 6 _
 have Gs5:Hid (BsS w5 (j7 P w5) _ _):=iH (by rw [hw];exact BsS.setP Gs4.out 6 _)
 have Gn5:Hid (BsS w5 (j7 P w5) _ _):=iH (by rw [hw];exact BsS.setP Gn4.out 6 _)
 have Ga5:Hid (BsS w5 (j7 P w5) _ _):=iH (by rw [hw];exact BsS.setP Ga4.out 6 _)
 have Gb5:Hid (BsS w5 (j7 P w5) _ _):=iH (by rw [hw];exact BsS.setP Gb4.out 6 _)
 have Gv5:Hid (BsS w5 (j7 P w5) _ _):=iH (by rw [hw];exact BsS.setP Gv4.out 6 _)
 have Ge5:Hid (BsS w5 (j7 P w5) _ _):=iH (by rw [hw];exact BsS.setP Ge4.out 6 _)
 have GN5:Hid (BsS w5 (j7 P w5) _ _):=iH (by rw [hw];exact BsS.setP GN4.out 6 _)
 have GR5:Hid (BsS w5 (j7 P w5) _ _):=iH (by rw [hw];exact BsS.setP GR4.out 6 _)
 have GX5:Hid (BsS w5 (j7 P w5) _ _):=iH (by rw [hw];exact BsS.setP GX4.out 6 _)
 have HP5:=iH hp
 obtain⟨g0,g1,g2,g3,g4,g5,g6,g7,g8,g9,g10,g11,gf⟩:=j4 hp.1
 clear hw hp f0 f1 f2 f3 f4 f5 f6 f7 f8 f9 f10 f11 fx
 go_wp2_with fail
 refine bodyPost_ret (v:=.tuple #[.int .i64 129,.slice A3 16 c3,.slice B3 32 d3,.int .i64 0]) (by simp [results,Tryz.results90,go_sem]) rfl ?_
 have hx:(sdW s).length=32:=je _
 have x5:BsS w5 (j7 P w5) (.slice B3 (sdW s).length d3) (sdW s):=by rw [hx];exact GX5.out
 have r5:BsS w5 (j7 P w5) (.slice A3 rr.length c3) rr:=by rw [HR16.out];exact GR5.out
 exact⟨A3,c3,B3,d3,by rw [hx,HR16.out],⟨_,_,_,_,_,_,_,_,HP5.out,Gs5.out,GN5.out,Ga5.out,Gb5.out⟩,r5,x5⟩
theorem Yr(hp:X.pr=2)(N:List UInt8)(hrv:Zg X.kd X.sec v=(0,N)):
 Calls Tryz.prog 90 #[.pointer (some ⟨P,0,none⟩),.slice vA v.length vc,.slice eA s.length ec] w (yI P w 129 {X with non:=N,x:=jY s} (jc (jN 4 (jY s))) (sdW s)):=by
 have HRV:=iH (Q7 X.kd X.sec sA sc v vA vc w (hK w iB) h1.loB h5.loB)
 rw [hrv]at HRV
 have t1:(X.pr==3)=false:=by simp [hp]
 have HSE:=iH (fun W k (h:Bs W W.heap.size (.slice eA s.length ec) s)=>xe _ s W k h (by omega))
 unfold KI at HSE
 have hks:=yy s
 obtain⟨ks,hk⟩:∃ks,jY s=ks:=⟨_,rfl⟩
 rw [hk]at HSE hks |-
 have HPB:=iH (XS ks hks)
 obtain⟨G,hG⟩:∃G,jN 4 ks=G:=⟨_,rfl⟩
 have hge:jk G=true:=by rw [<-hG];exact k9 4 ks xJ hks
 rw [hG]at HPB |-
 have HEN:=iH (kR G hge)
 clear hG hge
 clear hp hrv hk hks
 have HP0:Hid (PtW P w w #[.int .i64 X.kd,.slice sA X.sec.length sc,.int .i64 X.pr,.int .i64 X.st,.slice nA X.non.length nc,.int .i64 X.x,.int .i64 X.g,.int .i64 X.own,.int .i64 X.oth,.slice aA X.k1.length ac,.slice bA X.k2.length bc,.int .i64 X.ct]):=iH (PtW.start hr)
 have HK:=iH hK;have Gs0:=iH h1;have Gn0:=iH h2;have Ga0:=iH h3;have Gb0:=iH h4;have Gv0:=iH h5;have Ge0:=iH h6;have HL:=iH hl
 obtain⟨f0,f1,f2,f3,f4,f5,f6,f7,f8,f9,f10,f11,ff⟩:=j4 hr
 clear hK hr h1 h2 h3 h4 h5 h6 hl
 go_enter Tryz.func90,Tryz.ntmps90
 go_upto_region 2 with (go_at_call 20;refine HRV.out.mono ?_;rintro e w1 ⟨v1,rfl,hs,hb⟩;obtain⟨A1,c1,hv1⟩:=Bs.formL hs;subst hv1;have GN1:=iH (hs.madeB HP0.out.lt);have Gs1:=iH (Gs0.out.onB hb);have Gn1:=iH (Gn0.out.onB hb);have Ga1:=iH (Ga0.out.onB hb);have Gb1:=iH (Gb0.out.onB hb);have Gv1:=iH (Gv0.out.onB hb);have Ge1:=iH (Ge0.out.onB hb);have hp:=HP0.out.call hb;have HP1:=iH hp;obtain⟨g0,g1,g2,g3,g4,g5,g6,g7,g8,g9,g10,g11,gf⟩:=j4 hp.1;clear hp f0 f1 f2 f3 f4 f5 f6 f7 f8 f9 f10 f11 ff;have gx:=gf 4;clear hb hs gf)
 obtain⟨w2,hw⟩:∃z,z=w1.setCell ⟨P,4,none⟩ (.slice A1 N.length c1):=⟨_,rfl⟩
 rw [<-hw]
 have hp:PtW P w w2 #[.int .i64 X.kd,.slice sA X.sec.length sc,.int .i64 X.pr,.int .i64 X.st,.slice A1 N.length c1,.int .i64 X.x,.int .i64 X.g,.int .i64 X.own,.int .i64 X.oth,.slice aA X.k1.length ac,.slice bA X.k2.length bc,.int .i64 X.ct]:=by rw [hw];exact HP1.out.set 4 _
 have Gs2:Hid (BsS w2 (j7 P w2) _ _):=iH (by rw [hw];exact BsS.setP Gs1.out 4 _)
 have Gn2:Hid (BsS w2 (j7 P w2) _ _):=iH (by rw [hw];exact BsS.setP Gn1.out 4 _)
 have Ga2:Hid (BsS w2 (j7 P w2) _ _):=iH (by rw [hw];exact BsS.setP Ga1.out 4 _)
 have Gb2:Hid (BsS w2 (j7 P w2) _ _):=iH (by rw [hw];exact BsS.setP Gb1.out 4 _)
 have Gv2:Hid (BsS w2 (j7 P w2) _ _):=iH (by rw [hw];exact BsS.setP Gv1.out 4 _)
 have Ge2:Hid (BsS w2 (j7 P w2) _ _):=iH (by rw [hw];exact BsS.setP Ge1.out 4 _)
 have GN2:Hid (BsS w2 (j7 P w2) _ _):=iH (by rw [hw];exact BsS.setP GN1.out 4 _)
 have HP2:=iH hp
 obtain⟨f0,f1,f2,f3,f4,f5,f6,f7,f8,f9,f10,f11,ff⟩:=j4 hp.1
 clear hw hp g0 g1 g2 g3 g4 g5 g6 g7 g8 g9 g10 g11 gx
 clear ff
 go_upto_region 8 with (go_at_call 127;refine(HSE.out w2 (HK.out w2 HP2.out.2.2) Ge2.out.loB).mono ?_;rintro e w3 ⟨B1,d1,rfl,hbx,hb⟩;have GX3:=iH (hbx.madeB HP2.out.lt);have Gs3:=iH (Gs2.out.onB hb);have Gn3:=iH (Gn2.out.onB hb);have Ga3:=iH (Ga2.out.onB hb);have Gb3:=iH (Gb2.out.onB hb);have Gv3:=iH (Gv2.out.onB hb);have Ge3:=iH (Ge2.out.onB hb);have GN3:=iH (GN2.out.onB hb);have hp:=HP2.out.call hb;have HP3:=iH hp;obtain⟨g0,g1,g2,g3,g4,g5,g6,g7,g8,g9,g10,g11,gf⟩:=j4 hp.1;have gx:=gf 5;clear hp hb hbx gf f0 f1 f2 f3 f4 f5 f6 f7 f8 f9 f10 f11)
 go_upto_region 9 with fail
 obtain⟨w4,hw⟩:∃z,z=w3.setCell ⟨P,5,none⟩ (.int .i64 ks):=⟨_,rfl⟩
 rw [<-hw]
 have hp:PtW P w w4 #[.int .i64 X.kd,.slice sA X.sec.length sc,.int .i64 X.pr,.int .i64 X.st,.slice A1 N.length c1,.int .i64 ks,.int .i64 X.g,.int .i64 X.own,.int .i64 X.oth,.slice aA X.k1.length ac,.slice bA X.k2.length bc,.int .i64 X.ct]:=by rw [hw];exact HP3.out.set 5 _
 have Gs4:Hid (BsS w4 (j7 P w4) _ _):=iH (by rw [hw];exact BsS.setP Gs3.out 5 _)
 have Gn4:Hid (BsS w4 (j7 P w4) _ _):=iH (by rw [hw];exact BsS.setP Gn3.out 5 _)
 have Ga4:Hid (BsS w4 (j7 P w4) _ _):=iH (by rw [hw];exact BsS.setP Ga3.out 5 _)
 have Gb4:Hid (BsS w4 (j7 P w4) _ _):=iH (by rw [hw];exact BsS.setP Gb3.out 5 _)
 have Gv4:Hid (BsS w4 (j7 P w4) _ _):=iH (by rw [hw];exact BsS.setP Gv3.out 5 _)
 have Ge4:Hid (BsS w4 (j7 P w4) _ _):=iH (by rw [hw];exact BsS.setP Ge3.out 5 _)
 have GN4:Hid (BsS w4 (j7 P w4) _ _):=iH (by rw [hw];exact BsS.setP GN3.out 5 _)
 have GX4:Hid (BsS w4 (j7 P w4) _ _):=iH (by rw [hw];exact BsS.setP GX3.out 5 _)
 have HP4:=iH hp
 obtain⟨f0,f1,f2,f3,f4,f5,f6,f7,f8,f9,f10,f11,ff⟩:=j4 hp.1
 clear hw hp g0 g1 g2 g3 g4 g5 g6 g7 g8 g9 g10 g11 gx
 go_wp2_with(first
  |(go_at_call 128;refine iR (HPB.out _) ?_)
  |(go_at_call 129;refine(HEN.out w4).mono ?_;rintro e w5 ⟨A3,c3,rfl,hs,hb⟩;have GE3:=iH (hs.madeB HP4.out.lt);have Gs5:=iH (Gs4.out.onB hb);have Gn5:=iH (Gn4.out.onB hb);have Ga5:=iH (Ga4.out.onB hb);have Gb5:=iH (Gb4.out.onB hb);have Gv5:=iH (Gv4.out.onB hb);have Ge5:=iH (Ge4.out.onB hb);have GN5:=iH (GN4.out.onB hb);have GX5:=iH (GX4.out.onB hb);have hp:=HP4.out.call hb;have HP5:=iH hp;obtain⟨g0,g1,g2,g3,g4,g5,g6,g7,g8,g9,g10,g11,gf⟩:=j4 hp.1;clear hp f0 f1 f2 f3 f4 f5 f6 f7 f8 f9 f10 f11 ff;clear hs hb))
 refine bodyPost_ret (v:=.tuple #[.int .i64 129,.slice A3 4 c3,.slice B1 32 d1,.int .i64 0]) (by simp [results,Tryz.results90,go_sem]) rfl ?_
 have hx:(sdW s).length=32:=je _
 have x3:BsS w5 (j7 P w5) (.slice B1 (sdW s).length d1) (sdW s):=by rw [hx];exact GX5.out
 exact⟨A3,c3,B1,d1,by rw [hx]<;>rfl,⟨_,_,_,_,_,_,_,_,HP5.out,Gs5.out,GN5.out,Ga5.out,Gb5.out⟩,GE3.out,x3⟩
theorem Yq(hp:X.pr=3)(hg:jk X.g=true):
 Calls Tryz.prog 91 #[.pointer (some ⟨P,0,none⟩),.slice vA v.length vc,.slice eA s.length ec] w (yI P w 131 {X with x:=jY s,own:=jN X.g (jY s)} (jc (jN X.g (jY s))) (sdW s)):=by
 have t1:(X.pr==2)=false:=by simp [hp]
 have HPU:=iH (zl P X sA nA aA bA sc nc ac bc w hK hr eA ec s h6 hl hg)
 have hks:=yy s
 obtain⟨ks,hk⟩:∃ks,jY s=ks:=⟨_,rfl⟩
 rw [hk]at HPU hks |-
 obtain⟨G,hG⟩:∃G,jN X.g ks=G:=⟨_,rfl⟩
 have hge:jk G=true:=by rw [<-hG];exact k9 X.g ks hg hks
 rw [hG]at HPU |-
 have HEN:=iH (kR G hge)
 clear hk hks hG hge hg hp
 have HP0:Hid (PtW P w w #[.int .i64 X.kd,.slice sA X.sec.length sc,.int .i64 X.pr,.int .i64 X.st,.slice nA X.non.length nc,.int .i64 X.x,.int .i64 X.g,.int .i64 X.own,.int .i64 X.oth,.slice aA X.k1.length ac,.slice bA X.k2.length bc,.int .i64 X.ct]):=iH (PtW.start hr)
 have HK:=iH hK;have Gs0:=iH h1;have Gn0:=iH h2;have Ga0:=iH h3;have Gb0:=iH h4;have Gv0:=iH h5;have Ge0:=iH h6;have HL:=iH hl
 obtain⟨f0,f1,f2,f3,f4,f5,f6,f7,f8,f9,f10,f11,ff⟩:=j4 hr
 clear hK hr h1 h2 h3 h4 h5 h6 hl
 go_enter Tryz.func91,Tryz.ntmps91
 go_wp2_with(first
  |(go_at_call 130;refine HPU.out.mono ?_;rintro e w1 ⟨B1,d1,rfl,hq,hx⟩;have HP1:=iH hq;have GX1:=iH hx;have Gs1:=iH (Gs0.out.grownP hq.2.1);have Gn1:=iH (Gn0.out.grownP hq.2.1);have Ga1:=iH (Ga0.out.grownP hq.2.1);have Gb1:=iH (Gb0.out.grownP hq.2.1);have Gv1:=iH (Gv0.out.grownP hq.2.1);have Ge1:=iH (Ge0.out.grownP hq.2.1);obtain⟨g0,g1,g2,g3,g4,g5,g6,g7,g8,g9,g10,g11,gf⟩:=j4 hq.1;clear hq hx f0 f1 f2 f3 f4 f5 f6 f7 f8 f9 f10 f11 ff)
  |(go_at_call 129;refine(HEN.out w1).mono ?_;rintro e w3 ⟨A3,c3,rfl,hs,hb⟩;have GE3:=iH (hs.madeB HP1.out.lt);have HP3:=iH (HP1.out.call hb);have Gs3:=iH (Gs1.out.onB hb);have Gn3:=iH (Gn1.out.onB hb);have Ga3:=iH (Ga1.out.onB hb);have Gb3:=iH (Gb1.out.onB hb);have Gv3:=iH (Gv1.out.onB hb);have Ge3:=iH (Ge1.out.onB hb);have GX3:=iH (GX1.out.onB hb);clear hs hb))
 refine bodyPost_ret (v:=.tuple #[.int .i64 131,.slice A3 4 c3,.slice B1 32 d1,.int .i64 0]) (by simp [results,Tryz.results91,go_sem]) rfl ?_
 have hx:(sdW s).length=32:=je _
 have x3:BsS w3 (j7 P w3) (.slice B1 (sdW s).length d1) (sdW s):=by rw [hx];exact GX3.out
 exact⟨A3,c3,B1,d1,by rw [hx]<;>rfl,⟨_,_,_,_,_,_,_,_,HP3.out,Gs3.out,Gn3.out,Ga3.out,Gb3.out⟩,GE3.out,x3⟩
theorem Yo(hp:X.pr=2)(er o:Int)(hd:jd v=(er,o))(he:(er != 0)=true):
 Calls Tryz.prog 91 #[.pointer (some ⟨P,0,none⟩),.slice vA v.length vc,.slice eA s.length ec] w (JG P w er):=by
 have HD:=iH (jX v _ _ w h5)
 rw [hd]at HD
 have t1:(X.pr==2)=true:=by simp [hp]
 clear hd hp
 have HP0:Hid (PtW P w w #[.int .i64 X.kd,.slice sA X.sec.length sc,.int .i64 X.pr,.int .i64 X.st,.slice nA X.non.length nc,.int .i64 X.x,.int .i64 X.g,.int .i64 X.own,.int .i64 X.oth,.slice aA X.k1.length ac,.slice bA X.k2.length bc,.int .i64 X.ct]):=iH (PtW.start hr)
 have HK:=iH hK;have Gs0:=iH h1;have Gn0:=iH h2;have Ga0:=iH h3;have Gb0:=iH h4;have Gv0:=iH h5;have Ge0:=iH h6;have HL:=iH hl
 obtain⟨f0,f1,f2,f3,f4,f5,f6,f7,f8,f9,f10,f11,ff⟩:=j4 hr
 clear hK hr h1 h2 h3 h4 h5 h6 hl
 go_enter Tryz.func91,Tryz.ntmps91
 go_wp2_with(go_at_call 126;refine iR HD.out ?_)
 refine bodyPost_ret (v:=.tuple #[.int .i64 0,.slice none 0 0,.slice none 0 0,.int .i64 er]) (by simp [results,Tryz.results91,go_sem]) rfl ?_
 exact⟨rfl,_,_,_,_,_,_,_,_,_,_,_,_,HP0.out⟩
theorem Yp(hp:X.pr=2)(o:Int)(hd:jd v=(0,o))(er zg:Int)(hg:qQ X.non X.x o=(er,zg))(he:(er != 0)=true):
 Calls Tryz.prog 91 #[.pointer (some ⟨P,0,none⟩),.slice vA v.length vc,.slice eA s.length ec] w (JG P w er):=by
 have HD:=iH (jX v _ _ w h5)
 rw [hd]at HD
 have t1:(X.pr==2)=true:=by simp [hp]
 have HGE:=iH (fun(u:Value) (W:World) h=>xg X.non u X.x o W h)
 rw [hg]at HGE
 obtain⟨val,rfl⟩:∃l,l=v:=⟨_,rfl⟩
 clear hd hp hg
 have HP0:Hid (PtW P w w #[.int .i64 X.kd,.slice sA X.sec.length sc,.int .i64 X.pr,.int .i64 X.st,.slice nA X.non.length nc,.int .i64 X.x,.int .i64 X.g,.int .i64 X.own,.int .i64 X.oth,.slice aA X.k1.length ac,.slice bA X.k2.length bc,.int .i64 X.ct]):=iH (PtW.start hr)
 have HK:=iH hK;have Gs0:=iH h1;have Gn0:=iH h2;have Ga0:=iH h3;have Gb0:=iH h4;have Gv0:=iH h5;have Ge0:=iH h6;have HL:=iH hl
 obtain⟨f0,f1,f2,f3,f4,f5,f6,f7,f8,f9,f10,f11,ff⟩:=j4 hr
 clear hK hr h1 h2 h3 h4 h5 h6 hl
 go_enter Tryz.func91,Tryz.ntmps91
 go_upto_region 5 with (go_at_call 126;refine iR HD.out ?_)
 have hjx:∀ {L:Nat->Bool} {i:Nat} {wz:World},i≠16->(∃u,PtW P w wz #[.int .i64 X.kd,.slice sA X.sec.length sc,.int .i64 X.pr,.int .i64 X.st,.slice nA X.non.length nc,.int .i64 X.x,u,.int .i64 X.own,.int .i64 X.oth,.slice aA X.k1.length ac,.slice bA X.k2.length bc,.int .i64 X.ct]/\(L 16=true->u=.int .i64 zg))->∃u,PtW P w wz #[.int .i64 X.kd,.slice sA X.sec.length sc,.int .i64 X.pr,.int .i64 X.st,.slice nA X.non.length nc,.int .i64 X.x,u,.int .i64 X.own,.int .i64 X.oth,.slice aA X.k1.length ac,.slice bA X.k2.length bc,.int .i64 X.ct]/\(KG L i 16=true->u=.int .i64 zg):=fun {L i wz} hi ⟨u,h1,h2⟩=>⟨u,h1,fun h=>h2 (by unfold KG at h;rwa [iF (fun e=>hi e.symm)]at h)⟩
 refine j9 17 [some 27,some 28,some 29,some 30,some 31,some 32,some 33,some 34,some 35,some 36,some 37,some 26,some 38,some 39,some 40,some 41,none] [[],[],[1],[1,2],[1,2,3],[],[5],[5,6],[5,6,7],[],[1,2,3,4,5,6,7,8,9],[1,2,3,4,5,6,7,8,9,10],[1,2,3,4,5,6,7,8,9,10,11],[1,2,3,4,5,6,7,8,9,10,11],[0,1,2,3,4,5,6,7,8,9,10,11,12],[0,1,2,3,4,5,6,7,8,9,10,11,12,14],[0,1,2,3,4,5,6,7,8,9,10,11,12,14,15]]
  (fun L _ w1=>∃u,PtW P w w1 #[.int .i64 X.kd,.slice sA X.sec.length sc,.int .i64 X.pr,.int .i64 X.st,.slice nA X.non.length nc,.int .i64 X.x,u,.int .i64 X.own,.int .i64 X.oth,.slice aA X.k1.length ac,.slice bA X.k2.length bc,.int .i64 X.ct]/\(L 16=true->u=.int .i64 zg)) (fun w1 w2=>w1.grownBy w2 (some P))
  [.v (.pointer (some ⟨P,0,none⟩)),
   .v (.pointer (some ⟨P,0,none⟩)),
   .v (.pointer (some ⟨P,0,none⟩)),
   .v (.pointer (some ⟨P,4,none⟩)),
   .v (.slice nA X.non.length nc),
   .v (.pointer (some ⟨P,0,none⟩)),
   .v (.pointer (some ⟨P,0,none⟩)),
   .v (.pointer (some ⟨P,5,none⟩)),
   .v (.int .i64 X.x),
   .v (.int .i64 o),
   .v (.tuple #[.int .i64 zg,.int .i64 er]),
   .v (.tuple #[.int .i64 zg,.int .i64 er]),
   .v (.int .i64 zg),
   .v (.int .i64 er),
   .v (.pointer (some ⟨P,0,none⟩)),
   .v (.pointer (some ⟨P,6,none⟩)),
   .q fun v=>True]
  (by kernel_rfl) (by kernel_rfl) rfl (fun _=>⟨_,HP0.out.drew,fun h=>by cases h⟩) ?steps ?tail
 case steps=>
  exact mX
 case tail=>
  intro v w1 hJ hF hD
  simp only [jZ]at hD
  obtain⟨e0,e1,e2,e3,e4,e5,e6,e7,e8,e9,e10,e11,e12,e13,e14,e15, -⟩:=hD
  simp only [List.drop_succ_cons,List.drop_zero,jb,Act.put,Nat.zero_add,Nat.reduceAdd,List.setIfInBounds_toArray,List.set_cons_zero,List.set_cons_succ]
  simp only [e13]
  obtain⟨u,hp,hu⟩:=hJ
  obtain rfl:=hu rfl
  have HP3:=iH hp;have Gs3:=iH (Gs0.out.grownP hp.2.1);have Gn3:=iH (Gn0.out.grownP hp.2.1);have Ga3:=iH (Ga0.out.grownP hp.2.1);have Gb3:=iH (Gb0.out.grownP hp.2.1);have Gv3:=iH (Gv0.out.grownP hp.2.1);have Ge3:=iH (Ge0.out.grownP hp.2.1)
  obtain⟨g0,g1,g2,g3,g4,g5,g6,g7,g8,g9,g10,g11,gf⟩:=j4 hp.1
  clear hF hp hu e13 f0 f1 f2 f3 f4 f5 f6 f7 f8 f9 f10 f11 ff
  go_wp2_with fail
  refine bodyPost_ret (v:=.tuple #[.int .i64 0,.slice none 0 0,.slice none 0 0,.int .i64 er]) (by simp [results,Tryz.results91,go_sem]) rfl ?_
  exact⟨rfl,_,_,_,_,_,_,_,_,_,_,_,_,HP3.out⟩
theorem Yn(hp:X.pr=2)(o:Int)(hd:jd v=(0,o))(gi:Int)(hg:qQ X.non X.x o=(0,gi))(hge:jk gi=true):
 Calls Tryz.prog 91 #[.pointer (some ⟨P,0,none⟩),.slice vA v.length vc,.slice eA s.length ec] w (yI P w 131 {X with g:=gi,x:=jY s,own:=jN gi (jY s)} (jc (jN gi (jY s))) (sdW s)):=by
 have HD:=iH (jX v _ _ w h5)
 rw [hd]at HD
 have t1:(X.pr==2)=true:=by simp [hp]
 have HGE:=iH (fun(u:Value) (W:World) h=>xg X.non u X.x o W h)
 rw [hg]at HGE
 obtain⟨Y,hY⟩:∃Y:Exg,Y= {X with g:=gi}:=⟨_,rfl⟩
 have hYg:Y.g=gi:=by rw [hY]
 have hye:jk Y.g=true:=by rw [hYg];exact hge
 have HPU:=iH (fun(W:World) k h hs=>zl P Y sA nA aA bA sc nc ac bc W k h eA ec s hs hl hye)
 rw [hYg]at HPU
 clear hye hYg
 have hks:=yy s
 obtain⟨ks,hk⟩:∃ks,jY s=ks:=⟨_,rfl⟩
 rw [hk]at HPU hks |-
 obtain⟨G,hG⟩:∃G,jN gi ks=G:=⟨_,rfl⟩
 have hge2:jk G=true:=by rw [<-hG];exact k9 gi ks hge hks
 rw [hG]at HPU |-
 simp only [hY]at HPU
 clear hY
 have HEN:=iH (kR G hge2)
 obtain⟨val,rfl⟩:∃l,l=v:=⟨_,rfl⟩
 clear hd hp hg hk hks hG hge hge2
 have HP0:Hid (PtW P w w #[.int .i64 X.kd,.slice sA X.sec.length sc,.int .i64 X.pr,.int .i64 X.st,.slice nA X.non.length nc,.int .i64 X.x,.int .i64 X.g,.int .i64 X.own,.int .i64 X.oth,.slice aA X.k1.length ac,.slice bA X.k2.length bc,.int .i64 X.ct]):=iH (PtW.start hr)
 have HK:=iH hK;have Gs0:=iH h1;have Gn0:=iH h2;have Ga0:=iH h3;have Gb0:=iH h4;have Gv0:=iH h5;have Ge0:=iH h6;have HL:=iH hl
 obtain⟨f0,f1,f2,f3,f4,f5,f6,f7,f8,f9,f10,f11,ff⟩:=j4 hr
 clear hK hr h1 h2 h3 h4 h5 h6 hl
 go_enter Tryz.func91,Tryz.ntmps91
 go_upto_region 5 with (go_at_call 126;refine iR HD.out ?_)
 have hjx:∀ {L:Nat->Bool} {i:Nat} {wz:World},i≠16->(∃u,PtW P w wz #[.int .i64 X.kd,.slice sA X.sec.length sc,.int .i64 X.pr,.int .i64 X.st,.slice nA X.non.length nc,.int .i64 X.x,u,.int .i64 X.own,.int .i64 X.oth,.slice aA X.k1.length ac,.slice bA X.k2.length bc,.int .i64 X.ct]/\(L 16=true->u=.int .i64 gi))->∃u,PtW P w wz #[.int .i64 X.kd,.slice sA X.sec.length sc,.int .i64 X.pr,.int .i64 X.st,.slice nA X.non.length nc,.int .i64 X.x,u,.int .i64 X.own,.int .i64 X.oth,.slice aA X.k1.length ac,.slice bA X.k2.length bc,.int .i64 X.ct]/\(KG L i 16=true->u=.int .i64 gi):=fun {L i wz} hi ⟨u,h1,h2⟩=>⟨u,h1,fun h=>h2 (by unfold KG at h;rwa [iF (fun e=>hi e.symm)]at h)⟩
 refine j9 17 [some 27,some 28,some 29,some 30,some 31,some 32,some 33,some 34,some 35,some 36,some 37,some 26,some 38,some 39,some 40,some 41,none] [[],[],[1],[1,2],[1,2,3],[],[5],[5,6],[5,6,7],[],[1,2,3,4,5,6,7,8,9],[1,2,3,4,5,6,7,8,9,10],[1,2,3,4,5,6,7,8,9,10,11],[1,2,3,4,5,6,7,8,9,10,11],[0,1,2,3,4,5,6,7,8,9,10,11,12],[0,1,2,3,4,5,6,7,8,9,10,11,12,14],[0,1,2,3,4,5,6,7,8,9,10,11,12,14,15]]
  (fun L _ w1=>∃u,PtW P w w1 #[.int .i64 X.kd,.slice sA X.sec.length sc,.int .i64 X.pr,.int .i64 X.st,.slice nA X.non.length nc,.int .i64 X.x,u,.int .i64 X.own,.int .i64 X.oth,.slice aA X.k1.length ac,.slice bA X.k2.length bc,.int .i64 X.ct]/\(L 16=true->u=.int .i64 gi)) (fun w1 w2=>w1.grownBy w2 (some P))
  [.v (.pointer (some ⟨P,0,none⟩)),
   .v (.pointer (some ⟨P,0,none⟩)),
   .v (.pointer (some ⟨P,0,none⟩)),
   .v (.pointer (some ⟨P,4,none⟩)),
   .v (.slice nA X.non.length nc),
   .v (.pointer (some ⟨P,0,none⟩)),
   .v (.pointer (some ⟨P,0,none⟩)),
   .v (.pointer (some ⟨P,5,none⟩)),
   .v (.int .i64 X.x),
   .v (.int .i64 o),
   .v (.tuple #[.int .i64 gi,.int .i64 0]),
   .v (.tuple #[.int .i64 gi,.int .i64 0]),
   .v (.int .i64 gi),
   .v (.int .i64 0),
   .v (.pointer (some ⟨P,0,none⟩)),
   .v (.pointer (some ⟨P,6,none⟩)),
   .q fun v=>True]
  (by kernel_rfl) (by kernel_rfl) rfl (fun _=>⟨_,HP0.out.drew,fun h=>by cases h⟩) ?steps ?tail
 case steps=>
  exact mX
 case tail=>
  intro v w1 hJ hF hD
  simp only [jZ]at hD
  obtain⟨e0,e1,e2,e3,e4,e5,e6,e7,e8,e9,e10,e11,e12,e13,e14,e15, -⟩:=hD
  simp only [List.drop_succ_cons,List.drop_zero,jb,Act.put,Nat.zero_add,Nat.reduceAdd,List.setIfInBounds_toArray,List.set_cons_zero,List.set_cons_succ]
  simp only [e13]
  obtain⟨u,hp,hu⟩:=hJ
  obtain rfl:=hu rfl
  have HP3:=iH hp;have Gs3:=iH (Gs0.out.grownP hp.2.1);have Gn3:=iH (Gn0.out.grownP hp.2.1);have Ga3:=iH (Ga0.out.grownP hp.2.1);have Gb3:=iH (Gb0.out.grownP hp.2.1);have Gv3:=iH (Gv0.out.grownP hp.2.1);have Ge3:=iH (Ge0.out.grownP hp.2.1)
  obtain⟨g0,g1,g2,g3,g4,g5,g6,g7,g8,g9,g10,g11,gf⟩:=j4 hp.1
  clear hF hp hu e13 f0 f1 f2 f3 f4 f5 f6 f7 f8 f9 f10 f11 ff
  obtain⟨wm,rfl⟩:∃z:World,z=w1:=⟨_,rfl⟩
  go_wp2_with(first
   |(go_at_call 130;refine(HPU.out wm (fun W h=>HK.out W (HP3.out.2.2.trans h)) HP3.out.1 Ge3.out).mono ?_;rintro e w5 ⟨B1,d1,rfl,hq,hx⟩;have hq:PtW P wm w5 #[.int .i64 X.kd,.slice sA X.sec.length sc,.int .i64 X.pr,.int .i64 X.st,.slice nA X.non.length nc,.int .i64 ks,.int .i64 gi,.int .i64 G,.int .i64 X.oth,.slice aA X.k1.length ac,.slice bA X.k2.length bc,.int .i64 X.ct]:=hq;have HP5:Hid (PtW P w w5 #[.int .i64 X.kd,.slice sA X.sec.length sc,.int .i64 X.pr,.int .i64 X.st,.slice nA X.non.length nc,.int .i64 ks,.int .i64 gi,.int .i64 G,.int .i64 X.oth,.slice aA X.k1.length ac,.slice bA X.k2.length bc,.int .i64 X.ct]):=iH (HP3.out.trans hq);have GX5:=iH hx;have Gs5:=iH (Gs3.out.grownP hq.2.1);have Gn5:=iH (Gn3.out.grownP hq.2.1);have Ga5:=iH (Ga3.out.grownP hq.2.1);have Gb5:=iH (Gb3.out.grownP hq.2.1);have Gv5:=iH (Gv3.out.grownP hq.2.1);have Ge5:=iH (Ge3.out.grownP hq.2.1);obtain⟨p0,p1,p2,p3,p4,p5,p6,p7,p8,p9,p10,p11,pf⟩:=j4 hq.1;clear hq hx g0 g1 g2 g3 g4 g5 g6 g7 g8 g9 g10 g11 gf)
   |(go_at_call 129;refine(HEN.out w5).mono ?_;rintro e w6 ⟨A3,c3,rfl,hs,hb⟩;have GE6:=iH (hs.madeB HP5.out.lt);have HP6:=iH (HP5.out.call hb);have Gs6:=iH (Gs5.out.onB hb);have Gn6:=iH (Gn5.out.onB hb);have Ga6:=iH (Ga5.out.onB hb);have Gb6:=iH (Gb5.out.onB hb);have Gv6:=iH (Gv5.out.onB hb);have Ge6:=iH (Ge5.out.onB hb);have GX6:=iH (GX5.out.onB hb);clear hs hb))
  refine bodyPost_ret (v:=.tuple #[.int .i64 131,.slice A3 4 c3,.slice B1 32 d1,.int .i64 0]) (by simp [results,Tryz.results91,go_sem]) rfl ?_
  have hx:(sdW s).length=32:=je _
  have x3:BsS w6 (j7 P w6) (.slice B1 (sdW s).length d1) (sdW s):=by rw [hx];exact GX6.out
  exact⟨A3,c3,B1,d1,by rw [hx]<;>rfl,⟨_,_,_,_,_,_,_,_,HP6.out,Gs6.out,Gn6.out,Ga6.out,Gb6.out⟩,GE6.out,x3⟩
end
theorem qF{X:Exg}(h:usT X=true):vPw X.kd X.sec=true/\(X.pr=2\/X.pr=3)/\(X.st=2->X.non.length=16/\(X.pr=2->okS X.x=true)/\(X.pr=3->jk X.g=true))/\(X.st=3->X.non.length=16/\jk X.g=true/\jk X.own=true/\okS X.x=true)/\(X.st=4->jk X.own=true/\jk X.oth=true/\X.k2.length=16):=by
 unfold usT kh at h
 simp only [Bool.and_eq_true,decide_eq_true_eq]at h
 obtain⟨⟨hp,hpr⟩,h1⟩:=h
 refine⟨hp,hpr,fun q=> ?_,fun q=> ?_,fun q=> ?_⟩
 ·rw [iT q]at h1
  simp only [Bool.and_eq_true,decide_eq_true_eq]at h1
  obtain⟨a,b⟩:=h1
  exact⟨a,fun p=>by rwa [iT p]at b,fun p=>by rwa [iF (by omega)]at b⟩
 ·rw [iF (by omega),iT q]at h1
  simp only [Bool.and_eq_true,decide_eq_true_eq]at h1
  obtain⟨⟨⟨a,b⟩,c⟩,d⟩:=h1
  exact⟨a,b,c,d⟩
 ·rw [iF (by omega),iF (by omega),iT q]at h1
  unfold kY vS at h1
  simp only [Bool.and_eq_true,decide_eq_true_eq]at h1
  obtain⟨⟨a,b⟩,c⟩:=h1
  exact⟨a,b,c.2.1⟩
theorem j4h(k n:List UInt8)(h:n.length=16):(zH k Z16 n).length=16:=by rw [j3b _ _ _ (m:=1) (by omega),j6q]
theorem j5p{X:Exg}{B:List UInt8}(h:¬X.st=0):Xs X B=kw B (126+2*X.st) (U3 X):=by unfold Xs;rw [iF h]
theorem Zf{X:Exg}{B v:List UInt8}(q:X.st=1)(h:kw B (126+2*X.st) (U3 X)=some v):v.length=16:=by
 have hs:U3 X=16:=by unfold U3;rw [iT q]
 exact m30
theorem XM{n:List UInt8}{k o gi:Int}(h:qQ n k o=(0,gi)):jk gi=true:=by
 unfold qQ at h
 split at h
 ·cases h
 ·split at h
  ·cases h
  ·split at h
   ·cases h
   ·split at h
    ·cases h
    ·rename_i h1 h2 h3
     injection h with _ h
     rw [<-h]
     exact j2l n k o (by simpa using h1) (by simpa using h2) h3
theorem j6k(s:List UInt8):(js s 16).length=16:=by unfold js;rw [List.length_take,je];omega
theorem j3v(X:Exg)(sA nA aA bA:Option Addr)(sc nc ac bc:Nat)(vA eA:Option Addr)(vc ec:Nat)(B s:List UInt8)(w:World)(hK:KD w)(h1:Bs w w.heap.size (.slice sA X.sec.length sc) X.sec)(h2:Bs w w.heap.size (.slice nA X.non.length nc) X.non)(h3:Bs w w.heap.size (.slice aA X.k1.length ac) X.k1)(h4:Bs w w.heap.size (.slice bA X.k2.length bc) X.k2)(h5:Bs w w.heap.size (.slice vA B.length vc) B)(h6:Bs w w.heap.size (.slice eA s.length ec) s)(ls:X.sec.length<=140737488351232)(ln:X.non.length<=140737488351232)(l1:X.k1.length<=140737488351232)(l2:X.k2.length<=140737488351232)(hl:s.length<=140737488351232):Calls Tryz.prog 35 #[.agg #[.int .i64 X.kd,.slice sA X.sec.length sc,.int .i64 X.pr,.int .i64 X.st,.slice nA X.non.length nc,.int .i64 X.x,.int .i64 X.g,.int .i64 X.own,.int .i64 X.oth,.slice aA X.k1.length ac,.slice bA X.k2.length bc,.int .i64 X.ct],.slice vA B.length vc,.slice eA s.length ec] w (ExO (jn X B s) w):=by
 by_cases hst:X.st<0\/4<X.st
 ·exact Vg X sA nA aA bA sc nc ac bc vA eA vc ec B s w hK h1 h2 h3 h4 h5 h6 ls ln l1 l2 hl hst
 have hst:0<=X.st/\X.st<=4:=by omega
 rcases hus:usT X with _|_
 ·exact Zs X sA nA aA bA sc nc ac bc vA eA vc ec B s w hK h1 h2 h3 h4 h5 h6 ls ln l1 l2 hl hst hus
 rcases hv:Xs X B with _|v
 ·exact j1e X sA nA aA bA sc nc ac bc vA eA vc ec B s w hK h1 h2 h3 h4 h5 h6 ls ln l1 l2 hl hst hus hv
 obtain⟨hp,hpr,hk2,hk3,hk4⟩:=qF hus
 by_cases q:X.st=0
 ·have hv0:B.length=0/\v= []:=by
   unfold Xs at hv
   rw [iT q]at hv
   split at hv
   ·rename_i h;injection hv with hv;exact⟨h,hv.symm⟩
   ·cases hv
  obtain⟨hB,rfl⟩:=hv0
  have hr:jn X B s=(0,{X with st:=X.st+1},jE 0 [],s):=by
   unfold jn
   rw [iF (by omega),iF (by rw [hus];simp),iT q,iF (by omega),q]
   rfl
  exact zQ X sA nA aA bA sc nc ac bc vA eA vc ec B s w hK h1 h2 h3 h4 h5 h6 ls ln l1 l2 hl 89 (.inl ⟨q,rfl⟩) hst (by omega) hus [] hv (-1) X rfl [] s (jE 0 []) (fun A c W _=>Kt _ W) (fun P sA nA aA bA sc nc ac bc vA eA vc ec w k r h1 h2 h3 h4 h5 h6 h7=>Vy P X sA nA aA bA sc nc ac bc vA eA vc ec [] s w k r h1 h2 h3 h4 h5 h6 h7) hr
 have hv2:=hv
 rw [j5p q]at hv2
 have hq:X.st=1\/X.st=2\/X.st=3\/X.st=4:=by omega
 rcases hq with q|q|q|q
 ·have hl16:=Zf q hv2
  have hrv:Zg X.kd X.sec v=(0,zH (kS X.kd X.sec) Z16 v):=by
   unfold Zg
   rw [iF (by rw [hp];simp),iF (by omega)]
  obtain⟨N,hN⟩:∃N,zH (kS X.kd X.sec) Z16 v=N:=⟨_,rfl⟩
  have hNl:N.length=16:=by rw [<-hN];exact j4h _ _ hl16
  rw [hN]at hrv
  by_cases hp3:X.pr=3
  ·obtain⟨gi,hi⟩:∃g,yG N (js s 16)=(0,g):=⟨_,by unfold yG;rw [iF (fun x=>x ⟨hNl,j6k s⟩)]⟩
   have hr:jn X B s=(0,{({X with non:=N,g:=gi}:Exg)with st:=X.st+1},jE 129 (js s 16),sdW s):=by
    unfold jn;rw [iF (by omega),iF (by rw [hus];simp),iF (by omega),hv2];simp only [];rw [iT q,iT hp3,hrv,hi,q]<;>rfl
   exact zQ X sA nA aA bA sc nc ac bc vA eA vc ec B s w hK h1 h2 h3 h4 h5 h6 ls ln l1 l2 hl 90 (.inr (.inl ⟨q,rfl⟩)) hst (by omega) hus v hv 129 {X with non:=N,g:=gi} rfl (js s 16) (sdW s) (jE 129 (js s 16)) (fun A c W h=>zu 129 ⟨by omega,by omega⟩ A c _ W h (by rw [j6k];omega)) (fun P sA nA aA bA sc nc ac bc vA eA vc ec w k r h1 h2 h3 h4 h5 h6 h7=>Ys P X sA nA aA bA sc nc ac bc vA eA vc ec v s w k r h1 h2 h3 h4 h5 h6 h7 hp3 N hrv gi hi) hr
  have hp2:X.pr=2:=by omega
  have hr:jn X B s=(0,{({X with non:=N,x:=jY s}:Exg)with st:=X.st+1},jE 129 (jc (jN 4 (jY s))),sdW s):=by
   unfold jn;rw [iF (by omega),iF (by rw [hus];simp),iF (by omega),hv2];simp only [];rw [iT q,iF hp3,hrv,q]<;>rfl
  exact zQ X sA nA aA bA sc nc ac bc vA eA vc ec B s w hK h1 h2 h3 h4 h5 h6 ls ln l1 l2 hl 90 (.inr (.inl ⟨q,rfl⟩)) hst (by omega) hus v hv 129 {X with non:=N,x:=jY s} rfl (jc (jN 4 (jY s))) (sdW s) (jE 129 (jc (jN 4 (jY s)))) (fun A c W h=>zu 129 ⟨by omega,by omega⟩ A c _ W h (by simp [jc])) (fun P sA nA aA bA sc nc ac bc vA eA vc ec w k r h1 h2 h3 h4 h5 h6 h7=>Yr P X sA nA aA bA sc nc ac bc vA eA vc ec v s w k r h1 h2 h3 h4 h5 h6 h7 hp2 N hrv) hr
 ·obtain⟨hn,hx,hg⟩:=hk2 q
  by_cases hp3:X.pr=3
  ·have hn2:¬X.pr=2:=by omega
   have hr:jn X B s=(0,{({X with x:=jY s,own:=jN X.g (jY s)}:Exg)with st:=X.st+1},jE 131 (jc (jN X.g (jY s))),sdW s):=by
    unfold jn;rw [iF (by omega),iF (by rw [hus];simp),iF (by omega),hv2];simp only [];rw [iF (by omega),iT q,iF (fun x=>hn2 x.1),iF (fun x=>hn2 x.1),iF hn2,q]<;>rfl
   exact zQ X sA nA aA bA sc nc ac bc vA eA vc ec B s w hK h1 h2 h3 h4 h5 h6 ls ln l1 l2 hl 91 (.inr (.inr (.inl ⟨q,rfl⟩))) hst (by omega) hus v hv 131 {X with x:=jY s,own:=jN X.g (jY s)} rfl (jc (jN X.g (jY s))) (sdW s) (jE 131 (jc (jN X.g (jY s)))) (fun A c W h=>zu 131 ⟨by omega,by omega⟩ A c _ W h (by simp [jc])) (fun P sA nA aA bA sc nc ac bc vA eA vc ec w k r h1 h2 h3 h4 h5 h6 h7=>Yq P X sA nA aA bA sc nc ac bc vA eA vc ec v s w k r h1 h2 h3 h4 h5 h6 h7 hp3 (hg hp3)) hr
  have hp2:X.pr=2:=by omega
  obtain⟨⟨er,o⟩,hde⟩:∃r,jd v=r:=⟨_,rfl⟩
  by_cases he:er=0
  ·subst he
   obtain⟨⟨er,gi⟩,hge⟩:∃r,qQ X.non X.x o=r:=⟨_,rfl⟩
   by_cases he:er=0
   ·subst he
    have hr:jn X B s=(0,{({X with g:=gi,x:=jY s,own:=jN gi (jY s)}:Exg)with st:=X.st+1},jE 131 (jc (jN gi (jY s))),sdW s):=by
     unfold jn;rw [iF (by omega),iF (by rw [hus];simp),iF (by omega),hv2];simp only [];rw [iF (by omega),iT q,hde];simp only [];rw [hge,iF (by simp),iF (by simp),iT hp2,q]<;>rfl
    exact zQ X sA nA aA bA sc nc ac bc vA eA vc ec B s w hK h1 h2 h3 h4 h5 h6 ls ln l1 l2 hl 91 (.inr (.inr (.inl ⟨q,rfl⟩))) hst (by omega) hus v hv 131 {X with g:=gi,x:=jY s,own:=jN gi (jY s)} rfl (jc (jN gi (jY s))) (sdW s) (jE 131 (jc (jN gi (jY s)))) (fun A c W h=>zu 131 ⟨by omega,by omega⟩ A c _ W h (by simp [jc])) (fun P sA nA aA bA sc nc ac bc vA eA vc ec w k r h1 h2 h3 h4 h5 h6 h7=>Yn P X sA nA aA bA sc nc ac bc vA eA vc ec v s w k r h1 h2 h3 h4 h5 h6 h7 hp2 o hde gi hge (XM hge)) hr
   ·have hr:jn X B s=jI er:=by
     unfold jn;rw [iF (by omega),iF (by rw [hus];simp),iF (by omega),hv2];simp only [];rw [iF (by omega),iT q,hde];simp only [];rw [hge,iF (by simp),iT ⟨hp2,he⟩]
    exact yB X sA nA aA bA sc nc ac bc vA eA vc ec B s w hK h1 h2 h3 h4 h5 h6 ls ln l1 l2 hl 91 (.inr (.inr (.inl ⟨q,rfl⟩))) hst hus v hv er (qc he) (fun P sA nA aA bA sc nc ac bc vA eA vc ec w k r h1 h2 h3 h4 h5 h6 h7=>Yp P X sA nA aA bA sc nc ac bc vA eA vc ec v s w k r h1 h2 h3 h4 h5 h6 h7 hp2 o hde er gi hge (qc he)) hr
  ·have hr:jn X B s=jI er:=by
    unfold jn;rw [iF (by omega),iF (by rw [hus];simp),iF (by omega),hv2];simp only [];rw [iF (by omega),iT q,hde];simp only [];rw [iT ⟨hp2,he⟩]
   exact yB X sA nA aA bA sc nc ac bc vA eA vc ec B s w hK h1 h2 h3 h4 h5 h6 ls ln l1 l2 hl 91 (.inr (.inr (.inl ⟨q,rfl⟩))) hst hus v hv er (qc he) (fun P sA nA aA bA sc nc ac bc vA eA vc ec w k r h1 h2 h3 h4 h5 h6 h7=>Yo P X sA nA aA bA sc nc ac bc vA eA vc ec v s w k r h1 h2 h3 h4 h5 h6 h7 hp2 er o hde (qc he)) hr
 ·obtain⟨hn,hg,ho,hx⟩:=hk3 q
  obtain⟨⟨er,o⟩,hde⟩:∃r,jd v=r:=⟨_,rfl⟩
  by_cases he:er=0
  ·subst he
   by_cases heq:o=X.own
   ·have hr:jn X B s=jI 10:=by
     unfold jn;rw [iF (by omega),iF (by rw [hus];simp),iF (by omega),hv2];simp only [];rw [iF (by omega),iF (by omega),iT q,hde];simp only [];rw [iF (by simp),iT heq]
    exact yB X sA nA aA bA sc nc ac bc vA eA vc ec B s w hK h1 h2 h3 h4 h5 h6 ls ln l1 l2 hl 92 (.inr (.inr (.inr (.inl ⟨q,rfl⟩)))) hst hus v hv 10 (by decide) (fun P sA nA aA bA sc nc ac bc vA eA vc ec w k r h1 h2 h3 h4 h5 h6 h7=>KH P X sA nA aA bA sc nc ac bc vA eA vc ec v s w k r h1 h2 h3 h4 h5 h6 h7 o hde heq) hr
   ·have hys:(kr X o).2.st=X.st:=by unfold kr;rw [iF heq]
    have hk:(kr X o).2.k2.length=16:=by unfold kr;rw [iF heq];exact jL _ _
    have hr:jn X B s=(0,{(kr X o).2 with st:=(kr X o).2.st+1},jE 133 (tkW (kr X o).2 o),s):=by
     rw [hys];unfold jn;rw [iF (by omega),iF (by rw [hus];simp),iF (by omega),hv2];simp only [];rw [iF (by omega),iF (by omega),iT q,hde];simp only [];rw [iF (by simp),iF heq,q]<;>rfl
    exact zQ X sA nA aA bA sc nc ac bc vA eA vc ec B s w hK h1 h2 h3 h4 h5 h6 ls ln l1 l2 hl 92 (.inr (.inr (.inr (.inl ⟨q,rfl⟩)))) hst (by omega) hus v hv 133 _ hys (tkW (kr X o).2 o) s (jE 133 (tkW (kr X o).2 o)) (fun A c W h=>zu 133 ⟨by omega,by omega⟩ A c _ W h (by rw [tkl _ _ hk];omega)) (fun P sA nA aA bA sc nc ac bc vA eA vc ec w k r h1 h2 h3 h4 h5 h6 h7=>Xi P X sA nA aA bA sc nc ac bc vA eA vc ec v s w k r h1 h2 h3 h4 h5 h6 h7 o hx hde heq) hr
  ·have hr:jn X B s=jI er:=by
    unfold jn;rw [iF (by omega),iF (by rw [hus];simp),iF (by omega),hv2];simp only [];rw [iF (by omega),iF (by omega),iT q,hde];simp only [];rw [iT he]
   exact yB X sA nA aA bA sc nc ac bc vA eA vc ec B s w hK h1 h2 h3 h4 h5 h6 ls ln l1 l2 hl 92 (.inr (.inr (.inr (.inl ⟨q,rfl⟩)))) hst hus v hv er (qc he) (fun P sA nA aA bA sc nc ac bc vA eA vc ec w k r h1 h2 h3 h4 h5 h6 h7=>Xj P X sA nA aA bA sc nc ac bc vA eA vc ec v s w k r h1 h2 h3 h4 h5 h6 h7 er o hde (qc he) (by simp [he])) hr
 ·obtain⟨ho,ht,hk2⟩:=hk4 q
  by_cases hvt:v=tkW X X.own
  ·have hr:jn X B s=(0,{X with st:=X.st+1},[],s):=by
    unfold jn;rw [iF (by omega),iF (by rw [hus];simp),iF (by omega),hv2];simp only [];rw [iF (by omega),iF (by omega),iF (by omega),iF (fun x=>x hvt),q]<;>rfl
   exact j1f X sA nA aA bA sc nc ac bc vA eA vc ec B s w hK h1 h2 h3 h4 h5 h6 ls ln l1 l2 hl 93 (.inr (.inr (.inr (.inr (⟨q,rfl⟩))))) hst q hus v hv (-1) X rfl [] s (jE 0 []) (fun A c W _=>Kt _ W) (fun P sA nA aA bA sc nc ac bc vA eA vc ec w k r h1 h2 h3 h4 h5 h6 h7=>Xk P X sA nA aA bA sc nc ac bc vA eA vc ec v s w k r h1 h2 h3 h4 h5 h6 h7 hk2 ho hvt) hr
  ·have hr:jn X B s=jI 21:=by
    unfold jn;rw [iF (by omega),iF (by rw [hus];simp),iF (by omega),hv2];simp only [];rw [iF (by omega),iF (by omega),iF (by omega),iT hvt]
   exact yB X sA nA aA bA sc nc ac bc vA eA vc ec B s w hK h1 h2 h3 h4 h5 h6 ls ln l1 l2 hl 93 (.inr (.inr (.inr (.inr (⟨q,rfl⟩))))) hst hus v hv 21 (by decide) (fun P sA nA aA bA sc nc ac bc vA eA vc ec w k r h1 h2 h3 h4 h5 h6 h7=>Xl P X sA nA aA bA sc nc ac bc vA eA vc ec v s w k r h1 h2 h3 h4 h5 h6 h7 hk2 ho hvt) hr
end Go.Proofs.YtalmmiojbmpmiaaGreatDoor
