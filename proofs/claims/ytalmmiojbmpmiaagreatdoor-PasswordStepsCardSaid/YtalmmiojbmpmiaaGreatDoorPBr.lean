/- Layer 21: public, agree, code; Layer 21: code, chipCheck, terminalCheck -/
import Derived.Test.YtalmmiojbmpmiaaGreatDoorPBq
import Derived.Test.YtalmmiojbmpmiaaGreatDoorPBb
import Derived.Test.YtalmmiojbmpmiaaGreatDoorPBf
set_option linter.all false
set_option maxRecDepth 100000
set_option maxHeartbeats 4000000
namespace Go.Proofs.YtalmmiojbmpmiaaGreatDoor
open Go.RowKit Go.Deep
theorem mh{P:Prop}(h:P:=by
 go_simp
 exact hK _ _ hJ iB ⟨A5,c5,e5,rfl⟩):P:=h
theorem mn{P:Prop}(h:P:=by
 simp only [List.take_succ_cons,List.take_zero]
 repeat' (with_reducible first|exact StepsRG.nil|refine StepsRG.cons ?_ ?_)
 all_goals(intro L v w1 hJ hL hF hD K hK;simp only [jb,Act.put,Nat.zero_add,Nat.reduceAdd,List.setIfInBounds_toArray,List.set_cons_zero,List.set_cons_succ,↓jP,List.getD_cons_zero,List.getD_cons_succ,Nat.reduceEqDiff,↓reduceIte]at hD hK |-)
 all_goals(first
  |((try simp only [hD]at hK |-);go_simp;refine hK _ _ hJ iB ?_;first|exact rfl|exact jf _)
  |(have hp:=HP0.out.call hJ;(try simp only [hD]at hK |-);obtain⟨q0,q1,q2,q3,q4,q5,q6,q7,q8,q9,q10,q11,qf⟩:=j4 hp.1;go_simp;refine hK _ _ hJ iB ?_;first|exact rfl|exact jf _)
  |skip)
 ·simp only [hD]at hK |-
  go_simp
  refine(HCO.out w1 (Gb0.out.onB hJ).loB).mono ?_
  rintro e wk ⟨A8,c8,rfl,hs,hb⟩
  exact hK _ _ (hJ.trans (hb.mono hJ.size)) hb ⟨_,_,rfl,hs⟩
 ·simp only [hD]at hK |-
  obtain⟨A8,c8,e8,hz⟩:∃A8 c8,v 8=_/\_:=hF 8 (by simp)
  simp only [e8]at hK |-
  go_simp
  refine(xZ _ _ val T _ _ w1 (Gv0.out.onB hJ) hz).mono ?_
  rintro e wk ⟨rfl,hwk⟩
  subst hwk
  rw [HBB.out]
  exact hK _ _ hJ iB rfl):P:=h
theorem m0b{P:Prop}(h:P:=by
 intro v w1 hJ hF hD
 simp only [jZ]at hD
 obtain⟨e0,e1,e2,e3, -⟩:=hD
 simp only [List.drop_succ_cons,List.drop_zero,jb,Act.put,Nat.zero_add,Nat.reduceAdd,List.setIfInBounds_toArray,List.set_cons_zero,List.set_cons_succ]
 obtain⟨A5,c5,e5,hs⟩:∃A5 c5,v 5=_/\_:=hF 5 (by simp)
 obtain⟨A6,c6,e5b,e9⟩:∃A6 c6,v 5=_/\v 9=_:=hF 9 (by simp)
 have hq:=Yt (e5.symm.trans e5b)
 obtain⟨rfl,_,rfl⟩:=Value.slice.inj hq
 have e8:v 8=_:=hF 8 (by simp)
 simp only [e8,e9]
 have HS:=iH hs;have HJ:=iH hJ
 clear hJ hF hs e0 e1 e2 e3 e5 e5b e8 e9 hq
 go_wp2_with fail
 go_ret
 exact⟨_,_,rfl,HS.out,HB0.out.trans (HJ.out.mono HB0.out.size)⟩):P:=h
theorem m1h{P:Prop}(h:P:=by
 simp only [hD]at hK |-
 go_simp
 refine(HEN.out w1).mono ?_
 rintro e wk ⟨A4,c4,rfl,hs,hb⟩
 refine hK _ _ (hJ.trans (hb.mono hJ.size)) hb ⟨_,_,rfl,?_⟩
 exact hs.keep fun g hg _=>⟨rfl,hg.2⟩):P:=h
theorem m1l{P:Prop}(h:P:=by
 rintro e wk ⟨v5,rfl,hs,hb⟩
 obtain⟨A5,c5,hv⟩:=Bs.formL hs
 rw [HT8.out]at hv
 subst hv
 rw [HT.out]at hs
 exact hK _ _ (hJ.trans (hb.mono hJ.size)) hb ⟨_,_,rfl,hs⟩):P:=h
theorem m1r{P:Prop}(h:P:=by
 simp only [hD]at hK |-
 obtain⟨q0,q1,q2,q3,q4,q5,q6,q7,q8,q9,q10,q11,qf⟩:=j4 (FR.out w1 hJ)
 go_simp
 refine hK _ _ hJ iB ?_
 first|exact rfl|exact jf _):P:=h
theorem m1x{P:Prop}(h:P:=by
 simp only [hD]at hK |-
 obtain⟨A5,c5,e5,e6⟩:∃A5 c5,v 5=_/\v 6=_:=hF 6 (by simp)
 simp only [e5,e6]at hK |-
 go_simp
 exact hK _ _ hJ iB rfl):P:=h
theorem j2p(x k:Int)(hx:0<x/\x<2147483579)(hk:0<=k/\k<=1073741789)(w:World):Calls Tryz.prog 57 #[.int .i64 x,.int .i64 k] w fun e w'=>e=.returned (.tuple #[.int .i64 (jN x k),.int .i64 0])/\w'=w:=by
 obtain⟨a,rfl⟩:∃a:Nat,x=a:=⟨x.toNat,by omega⟩
 obtain⟨b,rfl⟩:∃b:Nat,k=b:=⟨k.toNat,by omega⟩
 exact KW a b (by omega) (by omega) (by omega) w
theorem XS(k:Int)(hk:okS k=true)(w:World):Calls Tryz.prog 128 #[.int .i64 k] w fun e w'=>e=.returned (.tuple #[.int .i64 (jN 4 k),.int .i64 0])/\w'=w:=by
 have:=Jc hk
 obtain⟨b,rfl⟩:∃b:Nat,k=b:=⟨k.toNat,by omega⟩
 exact XR b (by omega) (by omega) w
theorem j2s(k x:Int)(hk:okS k=true)(hx:jk x=true)(w:World):Calls Tryz.prog 56 #[.int .i64 k,.int .i64 x] w fun e w'=>e=.returned (.tuple #[.int .i64 (jN x k),.int .i64 0])/\w'=w:=by
 have:=Jc hk;have:=jD hx
 obtain⟨b,rfl⟩:∃b:Nat,k=b:=⟨k.toNat,by omega⟩
 obtain⟨a,rfl⟩:∃a:Nat,x=a:=⟨x.toNat,by omega⟩
 exact JT b a (by omega) (by omega) hx w
section
variable(P:Nat)(X:Exg)(sA nA aA bA:Option Addr)(sc nc ac bc:Nat)(w:World)(hK:∀W,Below P w W->KD W)(hr:w.heap[P]?=some (.cells #[.int .i64 X.kd,.slice sA X.sec.length sc,.int .i64 X.pr,.int .i64 X.st,.slice nA X.non.length nc,.int .i64 X.x,.int .i64 X.g,.int .i64 X.own,.int .i64 X.oth,.slice aA X.k1.length ac,.slice bA X.k2.length bc,.int .i64 X.ct] 48 (0,0)))
include P X sA nA aA bA sc nc ac bc w hK hr
theorem zl(eA:Option Addr)(ec:Nat)(s:List UInt8)(h6:BsS w (j7 P w) (.slice eA s.length ec) s)(hl:s.length<=140737488351232)(hg:jk X.g=true):
 Calls Tryz.prog 130 #[.pointer (some ⟨P,0,none⟩),.slice eA s.length ec] w fun e w'=>∃B d,e=.returned (.slice B 32 d)/\PtW P w w' #[.int .i64 X.kd,.slice sA X.sec.length sc,.int .i64 X.pr,.int .i64 X.st,.slice nA X.non.length nc,.int .i64 (jY s),.int .i64 X.g,.int .i64 (jN X.g (jY s)),.int .i64 X.oth,.slice aA X.k1.length ac,.slice bA X.k2.length bc,.int .i64 X.ct]/\BsS w' (j7 P w') (.slice B 32 d) (sdW s):=by
 have HS:=iH (xe _ s w (hK w iB) h6.loB (by omega))
 have hsk:=Jc (yy s)
 unfold KI at HS
 obtain⟨ks,hKK⟩:∃ks,jY s=ks:=⟨_,rfl⟩
 rw [hKK]at hsk HS |-
 clear hKK
 have HPW0:=iH (j2p X.g ks (jD hg) ⟨Int.le_of_lt hsk.1,Int.le_of_lt hsk.2⟩)
 obtain⟨G,hG⟩:∃G,jN X.g ks=G:=⟨_,rfl⟩
 rw [hG]at HPW0 |-
 have HPW:=HPW0
 have HP0:Hid (PtW P w w #[.int .i64 X.kd,.slice sA X.sec.length sc,.int .i64 X.pr,.int .i64 X.st,.slice nA X.non.length nc,.int .i64 X.x,.int .i64 X.g,.int .i64 X.own,.int .i64 X.oth,.slice aA X.k1.length ac,.slice bA X.k2.length bc,.int .i64 X.ct]):=iH (PtW.start hr)
 obtain⟨f0,f1,f2,f3,f4,f5,f6,f7,f8,f9,f10,f11,ff⟩:=j4 hr
 clear hr hK h6 hl hg hsk HPW0 hG
 go_enter Tryz.func130,Tryz.ntmps130
 go_upto_region 2 with (go_at_call 127;refine HS.out.mono ?_;rintro e w1 ⟨B1,d1,rfl,hb,hbw⟩;have GX1:=iH (hb.madeB HP0.out.lt);have hp:=HP0.out.call hbw;have HP1:=iH hp;obtain⟨g0,g1,g2,g3,g4,g5,g6,g7,g8,g9,g10,g11,gf⟩:=j4 hp.1;have gx:=gf 5;clear hb hbw hp gf f0 f1 f2 f3 f4 f5 f6 f7 f8 f9 f10 f11 ff)
 obtain⟨w2,hw⟩:∃z,z=w1.setCell ⟨P,5,none⟩ (.int .i64 ks):=⟨_,rfl⟩
 rw [<-hw]
 have hp:PtW P w w2 #[.int .i64 X.kd,.slice sA X.sec.length sc,.int .i64 X.pr,.int .i64 X.st,.slice nA X.non.length nc,.int .i64 ks,.int .i64 X.g,.int .i64 X.own,.int .i64 X.oth,.slice aA X.k1.length ac,.slice bA X.k2.length bc,.int .i64 X.ct]:=by rw [hw];exact HP1.out.set 5 _
 have GX2:Hid (BsS w2 (j7 P w2) _ _):=iH (by rw [hw];exact BsS.setP GX1.out 5 _)
 have HP2:=iH hp
 obtain⟨f0,f1,f2,f3,f4,f5,f6,f7,f8,f9,f10,f11,ff⟩:=j4 hp.1
 clear hw hp g0 g1 g2 g3 g4 g5 g6 g7 g8 g9 g10 g11 gx
 have hjx:∀ {L:Nat->Bool} {i:Nat} {wz:World},i≠15->(∃u,PtW P w2 wz #[.int .i64 X.kd,.slice sA X.sec.length sc,.int .i64 X.pr,.int .i64 X.st,.slice nA X.non.length nc,.int .i64 ks,.int .i64 X.g,u,.int .i64 X.oth,.slice aA X.k1.length ac,.slice bA X.k2.length bc,.int .i64 X.ct]/\(L 15=true->u=.int .i64 G))->∃u,PtW P w2 wz #[.int .i64 X.kd,.slice sA X.sec.length sc,.int .i64 X.pr,.int .i64 X.st,.slice nA X.non.length nc,.int .i64 ks,.int .i64 X.g,u,.int .i64 X.oth,.slice aA X.k1.length ac,.slice bA X.k2.length bc,.int .i64 X.ct]/\(KG L i 15=true->u=.int .i64 G):=fun {L i wz} hi ⟨u,h1,h2⟩=>⟨u,h1,fun h=>h2 (by unfold KG at h;rwa [iF (fun e=>hi e.symm)]at h)⟩
 refine j9 16 [some 14,some 15,some 16,some 17,some 18,some 19,some 20,some 21,some 22,some 23,some 13,some 24,some 25,some 26,some 27,none] [[],[],[1],[1,2],[1,2,3],[],[5],[5,6],[5,6,7],[1,2,3,4,5,6,7,8],[1,2,3,4,5,6,7,8,9],[1,2,3,4,5,6,7,8,9,10],[1,2,3,4,5,6,7,8,9,10],[0,1,2,3,4,5,6,7,8,9,10,11],[0,1,2,3,4,5,6,7,8,9,10,11,13],[0,1,2,3,4,5,6,7,8,9,10,11,13,14]]
  (fun L _ w1=>∃u,PtW P w2 w1 #[.int .i64 X.kd,.slice sA X.sec.length sc,.int .i64 X.pr,.int .i64 X.st,.slice nA X.non.length nc,.int .i64 ks,.int .i64 X.g,u,.int .i64 X.oth,.slice aA X.k1.length ac,.slice bA X.k2.length bc,.int .i64 X.ct]/\(L 15=true->u=.int .i64 G)) (fun w1 w2=>w1.grownBy w2 (some P))
  [.v (.pointer (some ⟨P,0,none⟩)),
   .v (.pointer (some ⟨P,0,none⟩)),
   .v (.pointer (some ⟨P,0,none⟩)),
   .v (.pointer (some ⟨P,6,none⟩)),
   .v (.int .i64 X.g),
   .v (.pointer (some ⟨P,0,none⟩)),
   .v (.pointer (some ⟨P,0,none⟩)),
   .v (.pointer (some ⟨P,5,none⟩)),
   .v (.int .i64 ks),
   .v (.tuple #[.int .i64 G,.int .i64 0]),
   .v (.tuple #[.int .i64 G,.int .i64 0]),
   .v (.int .i64 G),
   .v (.int .i64 0),
   .v (.pointer (some ⟨P,0,none⟩)),
   .v (.pointer (some ⟨P,7,none⟩)),
   .q fun v=>True]
  (by kernel_rfl) (by kernel_rfl) rfl (fun _=>⟨_,(PtW.start HP2.out.1).drew,fun h=>by cases h⟩) ?steps ?tail
 case steps=>
  simp only [List.take_succ_cons,List.take_zero]
  repeat' (with_reducible first|exact StepsRG.nil|refine StepsRG.cons ?_ ?_)
  all_goals(intro L v w1 hJ hL hF hD K hK;simp only [jb,Act.put,Nat.zero_add,Nat.reduceAdd,List.setIfInBounds_toArray,List.set_cons_zero,List.set_cons_succ,↓jP,List.getD_cons_zero,List.getD_cons_succ,Nat.reduceEqDiff,↓reduceIte]at hD hK |-)
  all_goals(first
   |((try simp only [hD]at hK |-);have hJ2:=iH hJ;go_simp;exact hK _ _ (hjx (by decide) hJ2.out) (World.grownBy.refl _ _) rfl)
   |((try simp only [hD]at hK |-);have hJ2:=iH hJ;obtain⟨u,hp,_⟩:=hJ;obtain⟨q0,q1,q2,q3,q4,q5,q6,q7,q8,q9,q10,q11,qf⟩:=j4 hp.1;go_simp;exact hK _ _ (hjx (by decide) hJ2.out) (World.grownBy.refl _ _) rfl)
   |skip)
  ·simp only [hD]at hK |-
   go_simp
   refine(HPW.out w1).mono ?_
   rintro e wk ⟨rfl,hwk⟩
   subst hwk
   exact hK _ _ (hjx (by decide) hJ) (World.grownBy.refl _ _) rfl
  ·simp only [hD]at hK |-
   obtain⟨u,hp,_⟩:=hJ
   obtain⟨q0,q1,q2,q3,q4,q5,q6,q7,q8,q9,q10,q11,qf⟩:=j4 hp.1
   have qx:=qf 7
   have HPQ:=iH hp
   clear hp qf
   go_simp
   exact hK undef _ ⟨_,HPQ.out.set 7 _,fun _=>rfl⟩ ((PtW.start HPQ.out.1).set 7 _).2.1 trivial
 case tail=>
  intro v w1 hJ hF hD
  simp only [jZ]at hD
  obtain⟨e0,e1,e2,e3,e4,e5,e6,e7,e8,e9,e10,e11,e12,e13,e14, -⟩:=hD
  simp only [List.drop_succ_cons,List.drop_zero,jb,Act.put,Nat.zero_add,Nat.reduceAdd,List.setIfInBounds_toArray,List.set_cons_zero,List.set_cons_succ]
  obtain⟨u,hp,hu⟩:=hJ
  obtain rfl:=hu rfl
  have HP3:=iH hp;have GX3:=iH (GX2.out.grownP hp.2.1)
  clear hF hp hu f0 f1 f2 f3 f4 f5 f6 f7 f8 f9 f10 f11 ff
  go_wp2_with fail
  go_ret
  exact⟨_,_,rfl,HP2.out.trans HP3.out,GX3.out⟩
theorem KJ(o:Int)(ho:o=X.own):Calls Tryz.prog 131 #[.pointer (some ⟨P,0,none⟩),.int .i64 o] w fun e w'=>e=.returned (.int .i64 10)/\w'=w:=by
 obtain⟨f0,f1,f2,f3,f4,f5,f6,f7,f8,f9,f10,f11,ff⟩:=j4 hr
 have t1:(o==X.own)=true:=by simp [ho]
 clear hr hK ho ff
 go_enter Tryz.func131,Tryz.ntmps131
 go_wp2_with fail
 go_ret
 exact⟨rfl,rfl⟩
theorem Xu(o:Int)(ho:¬o=X.own)(hx:okS X.x=true)(hoe:jk o=true):
 Calls Tryz.prog 131 #[.pointer (some ⟨P,0,none⟩),.int .i64 o] w fun e w'=>∃aB bB ad bd,e=.returned (.int .i64 0)/\PtW P w w' #[.int .i64 X.kd,.slice sA X.sec.length sc,.int .i64 X.pr,.int .i64 X.st,.slice nA X.non.length nc,.int .i64 X.x,.int .i64 X.g,.int .i64 X.own,.int .i64 o,.slice aB 16 ad,.slice bB 16 bd,.int .i64 0]/\BsS w' (j7 P w') (.slice aB 16 ad) (zw (jc (jN o X.x)) 1)/\BsS w' (j7 P w') (.slice bB 16 bd) (zw (jc (jN o X.x)) 2):=by
 have HSH:=iH (j2s X.x o hx hoe)
 have hel:=k9 o X.x hoe hx
 obtain⟨H,hH⟩:∃H,jN o X.x=H:=⟨_,rfl⟩
 rw [hH]at HSH hel |-
 have HEN:=iH (kR H hel)
 have HK:=iH hK
 have HP0:Hid (PtW P w w #[.int .i64 X.kd,.slice sA X.sec.length sc,.int .i64 X.pr,.int .i64 X.st,.slice nA X.non.length nc,.int .i64 X.x,.int .i64 X.g,.int .i64 X.own,.int .i64 X.oth,.slice aA X.k1.length ac,.slice bA X.k2.length bc,.int .i64 X.ct]):=iH (PtW.start hr)
 obtain⟨f0,f1,f2,f3,f4,f5,f6,f7,f8,f9,f10,f11,ff⟩:=j4 hr
 have fx:=ff 8
 have t1:(o==X.own)=false:=by simp [ho]
 clear hr hK ho hx hoe hel hH ff
 go_enter Tryz.func131,Tryz.ntmps131
 go_upto_region 4 with fail
 obtain⟨w1,hw⟩:∃z,z=w.setCell ⟨P,8,none⟩ (.int .i64 o):=⟨_,rfl⟩
 rw [<-hw]
 have hp:PtW P w w1 #[.int .i64 X.kd,.slice sA X.sec.length sc,.int .i64 X.pr,.int .i64 X.st,.slice nA X.non.length nc,.int .i64 X.x,.int .i64 X.g,.int .i64 X.own,.int .i64 o,.slice aA X.k1.length ac,.slice bA X.k2.length bc,.int .i64 X.ct]:=by rw [hw];exact HP0.out.set 8 _
 have HP1:=iH hp
 obtain⟨g0,g1,g2,g3,g4,g5,g6,g7,g8,g9,g10,g11,gf⟩:=j4 hp.1
 clear hw hp f0 f1 f2 f3 f4 f5 f6 f7 f8 f9 f10 f11 fx
 clear gf
 go_upto_region 8 with (first
  |(go_at_call 56;refine iR (HSH.out _) ?_)
  |(go_at_call 129;refine(HEN.out _).mono ?_;rintro e w2 ⟨A2,c2,rfl,hs,hb⟩;have GE2:=iH (hs.madeB HP1.out.lt);have hp:=HP1.out.call hb;have HP2:=iH hp;clear hs hb hp)
  |(go_at_call 47;refine(Jq 2 (by omega) (by omega) _ (jc H) w3 (HK.out w3 HP3.out.2.2) GE3.out.loB (by simp [jc])).mono ?_;rintro e w4 ⟨v4,rfl,hs,hb⟩;obtain⟨A4,c4,hv4⟩:=Bs.formL hs;rw [jL]at hv4;subst hv4;have GB4:=iH (hs.madeB HP3.out.lt);have GA4:=iH (GA3.out.onB hb);have hp:=HP3.out.call hb;have HP4:=iH hp;clear hs hb hp)
  |(go_at_call 47;refine(Jq 1 (by omega) (by omega) _ (jc H) w2 (HK.out w2 HP2.out.2.2) GE2.out.loB (by simp [jc])).mono ?_;rintro e w3 ⟨v3,rfl,hs,hb⟩;obtain⟨A3,c3,hv3⟩:=Bs.formL hs;rw [jL]at hv3;subst hv3;have GA3:=iH (hs.madeB HP2.out.lt);have GE3:=iH (GE2.out.onB hb);have hp:=HP2.out.call hb;have HP3:=iH hp;clear hs hb hp))
 go_upto_region 9 with (go_at_call 163;refine(Qe _ _ _ _ 0 w4 GA4.out.loB GB4.out.loB (jL _ _) (jL _ _) (by omega) (by omega)).mono ?_;rintro e w5 ⟨v5,rfl,⟨aB,ad,bB,bd,rfl,k1,k2⟩,hb⟩;have GA5:=iH (k1.madeB HP4.out.lt);have GB5:=iH (k2.madeB HP4.out.lt);have hp:=HP4.out.call hb;have HP5:=iH hp;obtain⟨f0,f1,f2,f3,f4,f5,f6,f7,f8,f9,f10,f11,ff⟩:=j4 hp.1;have x9:=ff 9;have x10:=ff 10;have x11:=ff 11;clear k1 k2 hb hp ff g0 g1 g2 g3 g4 g5 g6 g7 g8 g9 g10 g11)
 obtain⟨w6,hw⟩:∃z,z=((w5.setCell ⟨P,9,none⟩ (.slice aB 16 ad)).setCell ⟨P,10,none⟩ (.slice bB 16 bd)).setCell ⟨P,11,none⟩ (.int .i64 0):=⟨_,rfl⟩
 rw [<-hw]
 have hp:PtW P w w6 #[.int .i64 X.kd,.slice sA X.sec.length sc,.int .i64 X.pr,.int .i64 X.st,.slice nA X.non.length nc,.int .i64 X.x,.int .i64 X.g,.int .i64 X.own,.int .i64 o,.slice aB 16 ad,.slice bB 16 bd,.int .i64 0]:=by rw [hw];exact((HP5.out.set 9 _).set 10 _).set 11 _
 have GA6:BsS w6 (j7 P w6) (.slice aB 16 ad) (zw (jc H) 1):=by rw [hw];exact((BsS.setP GA5.out 9 _).setP 10 _).setP 11 _
 have GB6:BsS w6 (j7 P w6) (.slice bB 16 bd) (zw (jc H) 2):=by rw [hw];exact((BsS.setP GB5.out 9 _).setP 10 _).setP 11 _
 have HQ:=iH (And.intro hp (And.intro GA6 GB6))
 clear hw hp GA6 GB6 f0 f1 f2 f3 f4 f5 f6 f7 f8 f9 f10 f11 x9 x10 x11
 go_wp2_with fail
 go_ret
 exact⟨_,_,_,_,rfl,HQ.out.1,HQ.out.2.1,HQ.out.2.2⟩
end
theorem Yt{a b c d:Value}(h:Value.tuple #[a,b]=.tuple #[c,d]):a=c:=by
 injection h with h
 have:=congrArg (fun x:Array Value=>x[0]?) h
 simpa using this
theorem KP(X:Exg)(sA nA aA bA:Option Addr)(sc nc ac bc:Nat)(p:Int)(hp:jk p=true)(h2:X.k2.length=16)(w:World)(hv:Bs w w.heap.size (.slice bA X.k2.length bc) X.k2):Calls Tryz.prog 133 #[.agg #[.int .i64 X.kd,.slice sA X.sec.length sc,.int .i64 X.pr,.int .i64 X.st,.slice nA X.non.length nc,.int .i64 X.x,.int .i64 X.g,.int .i64 X.own,.int .i64 X.oth,.slice aA X.k1.length ac,.slice bA X.k2.length bc,.int .i64 X.ct],.int .i64 p] w fun e w'=>∃A c,e=.returned (.slice A 8 c)/\Bs w' w'.heap.size (.slice A 8 c) (tkW X p)/\Below w.heap.size w w':=by
 obtain⟨w0,hw0⟩:∃w0,w0=w.alloc (.cells #[.int .i64 X.kd,.slice sA X.sec.length sc,.int .i64 X.pr,.int .i64 X.st,.slice nA X.non.length nc,.int .i64 X.x,.int .i64 X.g,.int .i64 X.own,.int .i64 X.oth,.slice aA X.k1.length ac,.slice bA X.k2.length bc,.int .i64 X.ct] 48):=⟨_,rfl⟩
 have HB0:Hid (Below w.heap.size w w0):=iH (by rw [hw0];exact ju _ _)
 have FR:Hid (∀W,Below w0.heap.size w0 W->W.heap[w.heap.size]?=some (.cells #[.int .i64 X.kd,.slice sA X.sec.length sc,.int .i64 X.pr,.int .i64 X.st,.slice nA X.non.length nc,.int .i64 X.x,.int .i64 X.g,.int .i64 X.own,.int .i64 X.oth,.slice aA X.k1.length ac,.slice bA X.k2.length bc,.int .i64 X.ct] 48 (0,0))):=iH (fun W h=>(h.block w.heap.size (by rw [hw0];simp)).trans (by rw [hw0];exact iN))
 have HW0:=iH hw0
 have HEN:=iH (kR p hp)
 obtain⟨T,hT⟩:∃T,tkW X p=T:=⟨_,rfl⟩
 rw [hT]
 have HT:Hid ((qP X.k2 (jc p)).take 8=T):=iH hT
 have HT8:Hid (((qP X.k2 (jc p)).take 8).length=8):=iH (by rw [List.length_take,xF h2]<;>rfl)
 have HK2:=iH h2;have HV:=iH (hv.lift HB0.out)
 clear hw0 hT h2 hv hp
 go_enter Tryz.func133,Tryz.ntmps133
 go_upto_region 1 with fail
 rw [<-HW0.out]
 refine j9 10 [some 8,some 9,some 10,some 11,some 12,some 13,some 7,some 14,some 15,some 5] [[],[0],[0,1],[],[3],[0,1,2,3,4],[0,1,2,3,4,5],[0,1,2,3,4,5,6],[0,1,2,3,4,5,6],[0,1,2,3,4,5,6,7]]
  (fun _ _ w1=>Below w0.heap.size w0 w1) (fun w1 w2=>Below w1.heap.size w1 w2)
  [.v (.pointer (some ⟨w.heap.size,9,none⟩)),
   .v (.pointer (some ⟨w.heap.size,10,none⟩)),
   .v (.slice bA X.k2.length bc),
   .v (.int .i64 p),
   .p (fun v w1=>∃A4 c4,v 4=.slice A4 4 c4/\Bs w1 w1.heap.size (.slice A4 4 c4) (jc p)) (fun _ _ _ _ _ hr ⟨A,c,h1,h2⟩=>⟨A,c,h1,h2.lift hr⟩),
   .p (fun v w1=>∃A5 c5,v 5=.tuple #[.slice A5 8 c5,.int .i64 0]/\Bs w1 w1.heap.size (.slice A5 8 c5) T) (fun _ _ _ _ _ hr ⟨A,c,h1,h2⟩=>⟨A,c,h1,Bs.lift h2 hr⟩),
   .q fun v=>∃A5 c5,v 5=.tuple #[.slice A5 8 c5,.int .i64 0]/\v 6=.tuple #[.slice A5 8 c5,.int .i64 0],
   .q fun v=>∃A5 c5,v 5=.tuple #[.slice A5 8 c5,.int .i64 0]/\v 7=.slice A5 8 c5,
   .q fun v=>v 8=.int .i64 0,
   .q fun v=>∃A5 c5,v 5=.tuple #[.slice A5 8 c5,.int .i64 0]/\v 9=.slice A5 8 c5]
  (by kernel_rfl) (by kernel_rfl) rfl (fun _=>iB.drew) ?steps ?tail
 case steps=>
  simp only [List.take_succ_cons,List.take_zero]
  repeat' (with_reducible first|exact StepsRG.nil|refine StepsRG.cons ?_ ?_)
  all_goals(intro L v w1 hJ hL hF hD K hK;simp only [jb,Act.put,Nat.zero_add,Nat.reduceAdd,List.setIfInBounds_toArray,List.set_cons_zero,List.set_cons_succ,↓jP,List.getD_cons_zero,List.getD_cons_succ,Nat.reduceEqDiff,↓reduceIte]at hD hK |-)
  all_goals try((try simp only [hD]at hK |-);go_simp;refine hK _ _ hJ iB ?_;first|exact rfl|exact jf _)
  ·exact m1r
  ·exact m1h
  ·simp only [hD]at hK |-
   obtain⟨A4,c4,e4,hz⟩:∃A4 c4,v 4=_/\_:=hF 4 (by simp)
   simp only [e4]at hK |-
   go_simp
   refine(Un _ _ X.k2 (jc p) HK2.out (by simp [jc]) w1 (Bs.lift HV.out hJ) hz).mono ?_
   exact m1l
  ·simp only [hD]at hK |-
   obtain⟨A5,c5,e5,_⟩:∃A5 c5,v 5=_/\_:=hF 5 (by simp)
   simp only [e5]at hK |-
   exact mh
  ·simp only [hD]at hK |-
   obtain⟨A5,c5,e5,e6⟩:∃A5 c5,v 5=_/\v 6=_:=hF 6 (by simp)
   simp only [e5,e6]at hK |-
   exact mh
  ·exact m1x
  ·simp only [hD]at hK |-
   obtain⟨A5,c5,e5,e7⟩:∃A5 c5,v 5=_/\v 7=_:=hF 7 (by simp)
   simp only [e5,e7]at hK |-
   exact mh
 case tail=>
  exact m0b
theorem j8a(X:Exg)(sA nA aA bA:Option Addr)(sc nc ac bc:Nat):∀(i:Nat) (x:UInt8),#[.int .i64 X.kd,.slice sA X.sec.length sc,.int .i64 X.pr,.int .i64 X.st,.slice nA X.non.length nc,.int .i64 X.x,.int .i64 X.g,.int .i64 X.own,.int .i64 X.oth,.slice aA X.k1.length ac,.slice bA X.k2.length bc,.int .i64 X.ct][i]? ≠some (U8 x):=by
 intro i x
 rcases i with _|_|_|_|_|_|_|_|_|_|_|_|i
 all_goals simp
section
variable(P:Nat)(X:Exg)(sA nA aA bA:Option Addr)(sc nc ac bc:Nat)(vA eA:Option Addr)(vc ec:Nat)(val s:List UInt8)(w:World)(hK:∀W,Below P w W->KD W)(hr:w.heap[P]?=some (.cells #[.int .i64 X.kd,.slice sA X.sec.length sc,.int .i64 X.pr,.int .i64 X.st,.slice nA X.non.length nc,.int .i64 X.x,.int .i64 X.g,.int .i64 X.own,.int .i64 X.oth,.slice aA X.k1.length ac,.slice bA X.k2.length bc,.int .i64 X.ct] 48 (0,0)))(h1:BsS w (j7 P w) (.slice sA X.sec.length sc) X.sec)(h2:BsS w (j7 P w) (.slice nA X.non.length nc) X.non)(h3:BsS w (j7 P w) (.slice aA X.k1.length ac) X.k1)(h4:BsS w (j7 P w) (.slice bA X.k2.length bc) X.k2)(h5:BsS w (j7 P w) (.slice vA val.length vc) val)(h6:BsS w (j7 P w) (.slice eA s.length ec) s)(hl:s.length<=140737488351232)(hk2:X.k2.length=16)(ho:jk X.own=true)
include P X sA nA aA bA sc nc ac bc vA eA vc ec val s w hK hr h1 h2 h3 h4 h5 h6 hl hk2 ho
theorem Qx(hq:¬val=tkW X X.own):Calls Tryz.prog 74 #[.pointer (some ⟨P,0,none⟩),.slice vA val.length vc,.slice eA s.length ec] w (JG P w 21):=by
 have HCO:=iH (fun W h=>KP X sA nA aA bA sc nc ac bc X.own ho hk2 W h)
 obtain⟨T,hT⟩:∃T,tkW X X.own=T:=⟨_,rfl⟩
 rw [hT]at HCO hq
 have HBB:Hid (decide (val=T)=false):=iH (decide_eq_false hq)
 clear hk2 ho hq hT
 have HP0:Hid (PtW P w w #[.int .i64 X.kd,.slice sA X.sec.length sc,.int .i64 X.pr,.int .i64 X.st,.slice nA X.non.length nc,.int .i64 X.x,.int .i64 X.g,.int .i64 X.own,.int .i64 X.oth,.slice aA X.k1.length ac,.slice bA X.k2.length bc,.int .i64 X.ct]):=iH (PtW.start hr)
 have HK:=iH hK;have Gs0:=iH h1;have Gn0:=iH h2;have Ga0:=iH h3;have Gb0:=iH h4;have Gv0:=iH h5;have Ge0:=iH h6;have HL:=iH hl
 obtain⟨f0,f1,f2,f3,f4,f5,f6,f7,f8,f9,f10,f11,ff⟩:=j4 hr
 clear hK hr h1 h2 h3 h4 h5 h6 hl
 go_enter Tryz.func74,Tryz.ntmps74
 go_upto_region 1 with fail
 refine j9 11 [some 10,some 11,some 12,some 13,some 14,some 15,some 16,some 17,some 18,some 19,some 20] [[],[],[1],[1,2],[],[4],[4,5],[4,5,6],[1,2,3,4,5,6,7],[0,1,2,3,4,5,6,7,8],[0,1,2,3,4,5,6,7,8,9]]
  (fun _ _ w1=>Below w.heap.size w w1) (fun w1 w2=>Below w1.heap.size w1 w2)
  [.v (.slice vA val.length vc),
   .v (.pointer (some ⟨P,0,none⟩)),
   .v (.pointer (some ⟨P,0,none⟩)),
   .v (.agg #[.int .i64 X.kd,.slice sA X.sec.length sc,.int .i64 X.pr,.int .i64 X.st,.slice nA X.non.length nc,.int .i64 X.x,.int .i64 X.g,.int .i64 X.own,.int .i64 X.oth,.slice aA X.k1.length ac,.slice bA X.k2.length bc,.int .i64 X.ct]),
   .v (.pointer (some ⟨P,0,none⟩)),
   .v (.pointer (some ⟨P,0,none⟩)),
   .v (.pointer (some ⟨P,7,none⟩)),
   .v (.int .i64 X.own),
   .p (fun v w1=>∃A8 c8,v 8=.slice A8 8 c8/\Bs w1 w1.heap.size (.slice A8 8 c8) T) (fun _ _ _ _ _ hr ⟨A,c,h1,h2⟩=>⟨A,c,h1,Bs.lift h2 hr⟩),
   .v (.bool false),
   .v (.bool true)]
  (by kernel_rfl) (by kernel_rfl) rfl (fun _=>iB.drew) ?steps ?tail
 case steps=>
  exact mn
 case tail=>
  intro v w1 hJ hF hD
  simp only [jZ]at hD
  obtain⟨e0,e1,e2,e3,e4,e5,e6,e7,e9,e10, -⟩:=hD
  simp only [List.drop_succ_cons,List.drop_zero,jb,Act.put,Nat.zero_add,Nat.reduceAdd,List.setIfInBounds_toArray,List.set_cons_zero,List.set_cons_succ]
  simp only [e0,e1,e2,e3,e4,e5,e6,e7,e9,e10]
  have hp:=HP0.out.call hJ
  have HP1:=iH hp;have HJ:=iH hJ
  obtain⟨p0,p1,p2,p3,p4,p5,p6,p7,p8,p9,p10,p11,pf⟩:=j4 hp.1
  have Gs1:=iH (Gs0.out.onB hJ);have Gn1:=iH (Gn0.out.onB hJ);have Ga1:=iH (Ga0.out.onB hJ);have Gb1:=iH (Gb0.out.onB hJ);have Gv1:=iH (Gv0.out.onB hJ);have Ge1:=iH (Ge0.out.onB hJ)
  clear hJ hF hp e0 e1 e2 e3 e4 e5 e6 e7 e9 e10 f0 f1 f2 f3 f4 f5 f6 f7 f8 f9 f10 f11 ff
  go_wp2_with fail
  refine bodyPost_ret (v:=.tuple #[.int .i64 0,.slice none 0 0,.slice none 0 0,.int .i64 21]) (by simp [results,Tryz.results74,go_sem]) rfl ?_
  exact⟨rfl,_,_,_,_,_,_,_,_,_,_,_,_,HP1.out⟩
theorem Xl(hq:¬val=tkW X X.own):Calls Tryz.prog 93 #[.pointer (some ⟨P,0,none⟩),.slice vA val.length vc,.slice eA s.length ec] w (JG P w 21):=by
 have HCO:=iH (fun W h=>KP X sA nA aA bA sc nc ac bc X.own ho hk2 W h)
 obtain⟨T,hT⟩:∃T,tkW X X.own=T:=⟨_,rfl⟩
 rw [hT]at HCO hq
 have HBB:Hid (decide (val=T)=false):=iH (decide_eq_false hq)
 clear hk2 ho hq hT
 have HP0:Hid (PtW P w w #[.int .i64 X.kd,.slice sA X.sec.length sc,.int .i64 X.pr,.int .i64 X.st,.slice nA X.non.length nc,.int .i64 X.x,.int .i64 X.g,.int .i64 X.own,.int .i64 X.oth,.slice aA X.k1.length ac,.slice bA X.k2.length bc,.int .i64 X.ct]):=iH (PtW.start hr)
 have HK:=iH hK;have Gs0:=iH h1;have Gn0:=iH h2;have Ga0:=iH h3;have Gb0:=iH h4;have Gv0:=iH h5;have Ge0:=iH h6;have HL:=iH hl
 obtain⟨f0,f1,f2,f3,f4,f5,f6,f7,f8,f9,f10,f11,ff⟩:=j4 hr
 clear hK hr h1 h2 h3 h4 h5 h6 hl
 go_enter Tryz.func93,Tryz.ntmps93
 go_upto_region 1 with fail
 refine j9 11 [some 10,some 11,some 12,some 13,some 14,some 15,some 16,some 17,some 18,some 19,some 20] [[],[],[1],[1,2],[],[4],[4,5],[4,5,6],[1,2,3,4,5,6,7],[0,1,2,3,4,5,6,7,8],[0,1,2,3,4,5,6,7,8,9]]
  (fun _ _ w1=>Below w.heap.size w w1) (fun w1 w2=>Below w1.heap.size w1 w2)
  [.v (.slice vA val.length vc),
   .v (.pointer (some ⟨P,0,none⟩)),
   .v (.pointer (some ⟨P,0,none⟩)),
   .v (.agg #[.int .i64 X.kd,.slice sA X.sec.length sc,.int .i64 X.pr,.int .i64 X.st,.slice nA X.non.length nc,.int .i64 X.x,.int .i64 X.g,.int .i64 X.own,.int .i64 X.oth,.slice aA X.k1.length ac,.slice bA X.k2.length bc,.int .i64 X.ct]),
   .v (.pointer (some ⟨P,0,none⟩)),
   .v (.pointer (some ⟨P,0,none⟩)),
   .v (.pointer (some ⟨P,7,none⟩)),
   .v (.int .i64 X.own),
   .p (fun v w1=>∃A8 c8,v 8=.slice A8 8 c8/\Bs w1 w1.heap.size (.slice A8 8 c8) T) (fun _ _ _ _ _ hr ⟨A,c,h1,h2⟩=>⟨A,c,h1,Bs.lift h2 hr⟩),
   .v (.bool false),
   .v (.bool true)]
  (by kernel_rfl) (by kernel_rfl) rfl (fun _=>iB.drew) ?steps ?tail
 case steps=>
  exact mn
 case tail=>
  intro v w1 hJ hF hD
  simp only [jZ]at hD
  obtain⟨e0,e1,e2,e3,e4,e5,e6,e7,e9,e10, -⟩:=hD
  simp only [List.drop_succ_cons,List.drop_zero,jb,Act.put,Nat.zero_add,Nat.reduceAdd,List.setIfInBounds_toArray,List.set_cons_zero,List.set_cons_succ]
  simp only [e0,e1,e2,e3,e4,e5,e6,e7,e9,e10]
  have hp:=HP0.out.call hJ
  have HP1:=iH hp;have HJ:=iH hJ
  obtain⟨p0,p1,p2,p3,p4,p5,p6,p7,p8,p9,p10,p11,pf⟩:=j4 hp.1
  have Gs1:=iH (Gs0.out.onB hJ);have Gn1:=iH (Gn0.out.onB hJ);have Ga1:=iH (Ga0.out.onB hJ);have Gb1:=iH (Gb0.out.onB hJ);have Gv1:=iH (Gv0.out.onB hJ);have Ge1:=iH (Ge0.out.onB hJ)
  clear hJ hF hp e0 e1 e2 e3 e4 e5 e6 e7 e9 e10 f0 f1 f2 f3 f4 f5 f6 f7 f8 f9 f10 f11 ff
  go_wp2_with fail
  refine bodyPost_ret (v:=.tuple #[.int .i64 0,.slice none 0 0,.slice none 0 0,.int .i64 21]) (by simp [results,Tryz.results93,go_sem]) rfl ?_
  exact⟨rfl,_,_,_,_,_,_,_,_,_,_,_,_,HP1.out⟩
theorem Xk(hq:val=tkW X X.own):Calls Tryz.prog 93 #[.pointer (some ⟨P,0,none⟩),.slice vA val.length vc,.slice eA s.length ec] w (yI P w (-1) X [] s):=by
 have HCO:=iH (fun W h=>KP X sA nA aA bA sc nc ac bc X.own ho hk2 W h)
 obtain⟨T,hT⟩:∃T,tkW X X.own=T:=⟨_,rfl⟩
 rw [hT]at HCO hq
 have HBB:Hid (decide (val=T)=true):=iH (decide_eq_true hq)
 clear hk2 ho hq hT
 have HP0:Hid (PtW P w w #[.int .i64 X.kd,.slice sA X.sec.length sc,.int .i64 X.pr,.int .i64 X.st,.slice nA X.non.length nc,.int .i64 X.x,.int .i64 X.g,.int .i64 X.own,.int .i64 X.oth,.slice aA X.k1.length ac,.slice bA X.k2.length bc,.int .i64 X.ct]):=iH (PtW.start hr)
 have HK:=iH hK;have Gs0:=iH h1;have Gn0:=iH h2;have Ga0:=iH h3;have Gb0:=iH h4;have Gv0:=iH h5;have Ge0:=iH h6;have HL:=iH hl
 obtain⟨f0,f1,f2,f3,f4,f5,f6,f7,f8,f9,f10,f11,ff⟩:=j4 hr
 clear hK hr h1 h2 h3 h4 h5 h6 hl
 go_enter Tryz.func93,Tryz.ntmps93
 go_upto_region 1 with fail
 refine j9 11 [some 10,some 11,some 12,some 13,some 14,some 15,some 16,some 17,some 18,some 19,some 20] [[],[],[1],[1,2],[],[4],[4,5],[4,5,6],[1,2,3,4,5,6,7],[0,1,2,3,4,5,6,7,8],[0,1,2,3,4,5,6,7,8,9]]
  (fun _ _ w1=>Below w.heap.size w w1) (fun w1 w2=>Below w1.heap.size w1 w2)
  [.v (.slice vA val.length vc),
   .v (.pointer (some ⟨P,0,none⟩)),
   .v (.pointer (some ⟨P,0,none⟩)),
   .v (.agg #[.int .i64 X.kd,.slice sA X.sec.length sc,.int .i64 X.pr,.int .i64 X.st,.slice nA X.non.length nc,.int .i64 X.x,.int .i64 X.g,.int .i64 X.own,.int .i64 X.oth,.slice aA X.k1.length ac,.slice bA X.k2.length bc,.int .i64 X.ct]),
   .v (.pointer (some ⟨P,0,none⟩)),
   .v (.pointer (some ⟨P,0,none⟩)),
   .v (.pointer (some ⟨P,7,none⟩)),
   .v (.int .i64 X.own),
   .p (fun v w1=>∃A8 c8,v 8=.slice A8 8 c8/\Bs w1 w1.heap.size (.slice A8 8 c8) T) (fun _ _ _ _ _ hr ⟨A,c,h1,h2⟩=>⟨A,c,h1,Bs.lift h2 hr⟩),
   .v (.bool true),
   .v (.bool false)]
  (by kernel_rfl) (by kernel_rfl) rfl (fun _=>iB.drew) ?steps ?tail
 case steps=>
  exact mn
 case tail=>
  intro v w1 hJ hF hD
  simp only [jZ]at hD
  obtain⟨e0,e1,e2,e3,e4,e5,e6,e7,e9,e10, -⟩:=hD
  simp only [List.drop_succ_cons,List.drop_zero,jb,Act.put,Nat.zero_add,Nat.reduceAdd,List.setIfInBounds_toArray,List.set_cons_zero,List.set_cons_succ]
  simp only [e0,e1,e2,e3,e4,e5,e6,e7,e9,e10]
  have hp:=HP0.out.call hJ
  have HP1:=iH hp;have HJ:=iH hJ
  obtain⟨p0,p1,p2,p3,p4,p5,p6,p7,p8,p9,p10,p11,pf⟩:=j4 hp.1
  have Gs1:=iH (Gs0.out.onB hJ);have Gn1:=iH (Gn0.out.onB hJ);have Ga1:=iH (Ga0.out.onB hJ);have Gb1:=iH (Gb0.out.onB hJ);have Gv1:=iH (Gv0.out.onB hJ);have Ge1:=iH (Ge0.out.onB hJ)
  clear hJ hF hp e0 e1 e2 e3 e4 e5 e6 e7 e9 e10 f0 f1 f2 f3 f4 f5 f6 f7 f8 f9 f10 f11 ff
  go_wp2_with(go_at_call 67;refine(jr _ s w1 Ge1.out.loB).mono ?_;rintro e w2 ⟨v2,rfl,ho,hb⟩;obtain⟨cA,cc,hv2⟩:=OwnB.form ho;subst hv2;have HC:Hid (BsS w2 (j7 P w2) (.slice cA s.length cc) s):=iH (BsS.madeB (OwnB.out ho (by have:=HL.out;omega) w1 iL) HP1.out.lt);have Gs2:=iH (Gs1.out.onB hb);have Gn2:=iH (Gn1.out.onB hb);have Ga2:=iH (Ga1.out.onB hb);have Gb2:=iH (Gb1.out.onB hb);have Gv2:=iH (Gv1.out.onB hb);have Ge2:=iH (Ge1.out.onB hb);have hp:=HP1.out.call hb;have HP2:=iH hp;obtain⟨g0,g1,g2,g3,g4,g5,g6,g7,g8,g9,g10,g11,gf⟩:=j4 hp.1;clear hp p0 p1 p2 p3 p4 p5 p6 p7 p8 p9 p10 p11 pf;clear ho hb)
  refine bodyPost_ret (v:=.tuple #[.int .i64 (-1),.slice none 0 0,.slice cA s.length cc,.int .i64 0]) (by simp [results,Tryz.results93,go_sem]) rfl ?_
  exact⟨_,_,_,_,rfl,⟨_,_,_,_,_,_,_,_,HP2.out,Gs2.out,Gn2.out,Ga2.out,Gb2.out⟩,kH _ _,HC.out⟩
end
end Go.Proofs.YtalmmiojbmpmiaaGreatDoor
