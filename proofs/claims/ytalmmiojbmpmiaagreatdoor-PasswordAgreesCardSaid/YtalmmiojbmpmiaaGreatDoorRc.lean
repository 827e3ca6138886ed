/- Layer 21: public, agree, code; Layer 21: the chip agrees -/
import Derived.Test.YtalmmiojbmpmiaaGreatDoorRa
set_option linter.all false
set_option maxRecDepth 100000
set_option maxHeartbeats 4000000
namespace Go.Proofs.YtalmmiojbmpmiaaGreatDoor
open Go.RowKit Go.Deep
theorem gpower_i(x k:Int)(hx:0<x/\x<2147483579)(hk:0<=k/\k<=1073741789)(w:World):Calls Tryz.prog 57 #[.int .i64 x,.int .i64 k] w fun e w'=>e=.returned (.tuple #[.int .i64 (zZ x k),.int .i64 0])/\w'=w:=by
 obtain⟨a,rfl⟩:∃a:Nat,x=a:=⟨x.toNat,by omega⟩
 obtain⟨b,rfl⟩:∃b:Nat,k=b:=⟨k.toNat,by omega⟩
 exact Xs a b (by omega) (by omega) (by omega) w
theorem gpublic_i(k:Int)(hk:okS k=true)(w:World):Calls Tryz.prog 128 #[.int .i64 k] w fun e w'=>e=.returned (.tuple #[.int .i64 (zZ 4 k),.int .i64 0])/\w'=w:=by
 have:=ZV hk
 obtain⟨b,rfl⟩:∃b:Nat,k=b:=⟨k.toNat,by omega⟩
 exact gpublic_good b (by omega) (by omega) w
theorem gshare_i(k x:Int)(hk:okS k=true)(hx:jx x=true)(w:World):Calls Tryz.prog 56 #[.int .i64 k,.int .i64 x] w fun e w'=>e=.returned (.tuple #[.int .i64 (zZ x k),.int .i64 0])/\w'=w:=by
 have:=ZV hk;have:=kO hx
 obtain⟨b,rfl⟩:∃b:Nat,k=b:=⟨k.toNat,by omega⟩
 obtain⟨a,rfl⟩:∃a:Nat,x=a:=⟨x.toNat,by omega⟩
 exact KQ b a (by omega) (by omega) hx w
theorem public_any(P:Nat)(X:Exg)(sA nA aA bA:Option Addr)(sc nc ac bc:Nat)(w:World)(hK:∀W,Below P w W->KD W)(hr:w.heap[P]?=some (.cells #[.int .i64 X.kd,.slice sA X.sec.length sc,.int .i64 X.pr,.int .i64 X.st,.slice nA X.non.length nc,.int .i64 X.x,.int .i64 X.g,.int .i64 X.own,.int .i64 X.oth,.slice aA X.k1.length ac,.slice bA X.k2.length bc,.int .i64 X.ct] 48 (0,0))) (eA:Option Addr) (ec:Nat) (s:List UInt8) (h6:BsS w (jL P w) (.slice eA s.length ec) s) (hl:s.length<=140737488351232) (hg:jx X.g=true):
 Calls Tryz.prog 130 #[.pointer (some ⟨P,0,none⟩),.slice eA s.length ec] w fun e w'=>∃B d,e=.returned (.slice B 32 d)/\PtW P w w' #[.int .i64 X.kd,.slice sA X.sec.length sc,.int .i64 X.pr,.int .i64 X.st,.slice nA X.non.length nc,.int .i64 (XS s),.int .i64 X.g,.int .i64 (zZ X.g (XS s)),.int .i64 X.oth,.slice aA X.k1.length ac,.slice bA X.k2.length bc,.int .i64 X.ct]/\BsS w' (jL P w') (.slice B 32 d) (sdW s):=by
 have HS:=iH (dsecret_any _ s w (hK w iB) h6.loB (by omega))
 have hsk:=ZV (scr_ok s)
 unfold SecOut at HS
 obtain⟨ks,hKK⟩:∃ks,XS s=ks:=⟨_,rfl⟩
 rw [hKK]at hsk HS |-
 clear hKK
 have HPW0:=iH (gpower_i X.g ks (kO hg) ⟨Int.le_of_lt hsk.1,Int.le_of_lt hsk.2⟩)
 obtain⟨G,hG⟩:∃G,zZ X.g ks=G:=⟨_,rfl⟩
 rw [hG]at HPW0 |-
 have HPW:=HPW0
 have HP0:Hid (PtW P w w #[.int .i64 X.kd,.slice sA X.sec.length sc,.int .i64 X.pr,.int .i64 X.st,.slice nA X.non.length nc,.int .i64 X.x,.int .i64 X.g,.int .i64 X.own,.int .i64 X.oth,.slice aA X.k1.length ac,.slice bA X.k2.length bc,.int .i64 X.ct]):=iH (PtW.start hr)
 obtain⟨f0,f1,f2,f3,f4,f5,f6,f7,f8,f9,f10,f11,ff⟩:=jy hr
 clear hr hK h6 hl hg hsk HPW0 hG
 go_enter Tryz.func130,Tryz.ntmps130
 go_upto_region 2 with (go_at_call 127;refine HS.out.mono ?_;rintro e w1 ⟨B1,d1,rfl,hb,hbw⟩;have GX1:=iH (hb.madeB HP0.out.lt);have hp:=HP0.out.call hbw;have HP1:=iH hp;obtain⟨g0,g1,g2,g3,g4,g5,g6,g7,g8,g9,g10,g11,gf⟩:=jy hp.1;have gx:=gf 5;clear hb hbw hp gf f0 f1 f2 f3 f4 f5 f6 f7 f8 f9 f10 f11 ff)
 obtain⟨w2,hw⟩:∃z,z=w1.setCell ⟨P,5,none⟩ (.int .i64 ks):=⟨_,rfl⟩
 rw [<-hw]
 have hp:PtW P w w2 #[.int .i64 X.kd,.slice sA X.sec.length sc,.int .i64 X.pr,.int .i64 X.st,.slice nA X.non.length nc,.int .i64 ks,.int .i64 X.g,.int .i64 X.own,.int .i64 X.oth,.slice aA X.k1.length ac,.slice bA X.k2.length bc,.int .i64 X.ct]:=by rw [hw];exact HP1.out.set 5 _
 have GX2:Hid (BsS w2 (jL P w2) _ _):=iH (by rw [hw];exact BsS.setP GX1.out 5 _)
 have HP2:=iH hp
 obtain⟨f0,f1,f2,f3,f4,f5,f6,f7,f8,f9,f10,f11,ff⟩:=jy hp.1
 clear hw hp g0 g1 g2 g3 g4 g5 g6 g7 g8 g9 g10 g11 gx
 have hjx:∀ {L:Nat->Bool} {i:Nat} {wz:World},i≠15->(∃u,PtW P w2 wz #[.int .i64 X.kd,.slice sA X.sec.length sc,.int .i64 X.pr,.int .i64 X.st,.slice nA X.non.length nc,.int .i64 ks,.int .i64 X.g,u,.int .i64 X.oth,.slice aA X.k1.length ac,.slice bA X.k2.length bc,.int .i64 X.ct]/\(L 15=true->u=.int .i64 G))->∃u,PtW P w2 wz #[.int .i64 X.kd,.slice sA X.sec.length sc,.int .i64 X.pr,.int .i64 X.st,.slice nA X.non.length nc,.int .i64 ks,.int .i64 X.g,u,.int .i64 X.oth,.slice aA X.k1.length ac,.slice bA X.k2.length bc,.int .i64 X.ct]/\(VP L i 15=true->u=.int .i64 G):=fun {L i wz} hi ⟨u,h1,h2⟩=>⟨u,h1,fun h=>h2 (by unfold VP at h;rwa [iF (fun e=>hi e.symm)]at h)⟩
 refine jg 16 [some 14,some 15,some 16,some 17,some 18,some 19,some 20,some 21,some 22,some 23,some 13,some 24,some 25,some 26,some 27,none] [[],[],[1],[1,2],[1,2,3],[],[5],[5,6],[5,6,7],[1,2,3,4,5,6,7,8],[1,2,3,4,5,6,7,8,9],[1,2,3,4,5,6,7,8,9,10],[1,2,3,4,5,6,7,8,9,10],[0,1,2,3,4,5,6,7,8,9,10,11],[0,1,2,3,4,5,6,7,8,9,10,11,13],[0,1,2,3,4,5,6,7,8,9,10,11,13,14]]
  (fun L _ w1=>∃u,PtW P w2 w1 #[.int .i64 X.kd,.slice sA X.sec.length sc,.int .i64 X.pr,.int .i64 X.st,.slice nA X.non.length nc,.int .i64 ks,.int .i64 X.g,u,.int .i64 X.oth,.slice aA X.k1.length ac,.slice bA X.k2.length bc,.int .i64 X.ct]/\(L 15=true->u=.int .i64 G)) (fun w1 w2=>w1.grownBy w2 (some P))
  [fun v _=>v 0=.pointer (some ⟨P,0,none⟩),
   fun v _=>v 1=.pointer (some ⟨P,0,none⟩),
   fun v _=>v 2=.pointer (some ⟨P,0,none⟩),
   fun v _=>v 3=.pointer (some ⟨P,6,none⟩),
   fun v _=>v 4=.int .i64 X.g,
   fun v _=>v 5=.pointer (some ⟨P,0,none⟩),
   fun v _=>v 6=.pointer (some ⟨P,0,none⟩),
   fun v _=>v 7=.pointer (some ⟨P,5,none⟩),
   fun v _=>v 8=.int .i64 ks,
   fun v _=>v 9=.tuple #[.int .i64 G,.int .i64 0],
   fun v _=>v 10=.tuple #[.int .i64 G,.int .i64 0],
   fun v _=>v 11=.int .i64 G,
   fun v _=>v 12=.int .i64 0,
   fun v _=>v 13=.pointer (some ⟨P,0,none⟩),
   fun v _=>v 14=.pointer (some ⟨P,7,none⟩),
   fun v w1=>True]
  (by kernel_rfl) (by kernel_rfl) (fun _=>⟨_,(PtW.start HP2.out.1).drew,fun h=>by cases h⟩) ?st ?steps ?tail
 case st=>
  exact(.cons (fun _ _ _ _ _ _ h=>h) (.cons (fun _ _ _ _ _ _ h=>h) (.cons (fun _ _ _ _ _ _ h=>h) (.cons (fun _ _ _ _ _ _ h=>h) (.cons (fun _ _ _ _ _ _ h=>h) (.cons (fun _ _ _ _ _ _ h=>h) (.cons (fun _ _ _ _ _ _ h=>h) (.cons (fun _ _ _ _ _ _ h=>h) (.cons (fun _ _ _ _ _ _ h=>h) (.cons (fun _ _ _ _ _ _ h=>h) (.cons (fun _ _ _ _ _ _ h=>h) (.cons (fun _ _ _ _ _ _ h=>h) (.cons (fun _ _ _ _ _ _ h=>h) (.cons (fun _ _ _ _ _ _ h=>h) (.cons (fun _ _ _ _ _ _ h=>h) (.cons (fun _ _ _ _ _ _ h=>h) .nil))))))))))))))))
 case steps=>
  simp only [List.take_succ_cons,List.take_zero]
  refine(.cons ?_ (.cons ?_ (.cons ?_ (.cons ?_ (.cons ?_ (.cons ?_ (.cons ?_ (.cons ?_ (.cons ?_ (.cons ?_ (.cons ?_ (.cons ?_ (.cons ?_ (.cons ?_ (.cons ?_ (.cons ?_ .nil))))))))))))))))
  all_goals(intro L v w1 hJ hL hA hF K hK;simp only [ja,Act.put,Nat.zero_add,Nat.reduceAdd,List.setIfInBounds_toArray,List.set_cons_zero,List.set_cons_succ]at hK |-)
  ·have hJ2:=iH hJ
   go_simp
   exact hK _ _ (hjx (by decide) hJ2.out) (World.grownBy.refl _ _) rfl
  ·have hJ2:=iH hJ
   go_simp
   exact hK _ _ (hjx (by decide) hJ2.out) (World.grownBy.refl _ _) rfl
  ·have e1:v 1=.pointer (some ⟨P,0,none⟩):=hF 1 (hA 1 (by simp))
   simp only [e1]at hK
   have hJ2:=iH hJ
   go_simp
   exact hK _ _ (hjx (by decide) hJ2.out) (World.grownBy.refl _ _) rfl
  ·have e2:v 2=.pointer (some ⟨P,0,none⟩):=hF 2 (hA 2 (by simp))
   simp only [e2]at hK
   have hJ2:=iH hJ
   go_simp
   exact hK _ _ (hjx (by decide) hJ2.out) (World.grownBy.refl _ _) rfl
  ·have e3:v 3=.pointer (some ⟨P,6,none⟩):=hF 3 (hA 3 (by simp))
   simp only [e3]at hK
   have hJ2:=iH hJ
   obtain⟨u,hp,_⟩:=hJ
   obtain⟨q0,q1,q2,q3,q4,q5,q6,q7,q8,q9,q10,q11,qf⟩:=jy hp.1
   go_simp
   exact hK _ _ (hjx (by decide) hJ2.out) (World.grownBy.refl _ _) rfl
  ·have hJ2:=iH hJ
   go_simp
   exact hK _ _ (hjx (by decide) hJ2.out) (World.grownBy.refl _ _) rfl
  ·have e5:v 5=.pointer (some ⟨P,0,none⟩):=hF 5 (hA 5 (by simp))
   simp only [e5]at hK
   have hJ2:=iH hJ
   go_simp
   exact hK _ _ (hjx (by decide) hJ2.out) (World.grownBy.refl _ _) rfl
  ·have e6:v 6=.pointer (some ⟨P,0,none⟩):=hF 6 (hA 6 (by simp))
   simp only [e6]at hK
   have hJ2:=iH hJ
   go_simp
   exact hK _ _ (hjx (by decide) hJ2.out) (World.grownBy.refl _ _) rfl
  ·have e7:v 7=.pointer (some ⟨P,5,none⟩):=hF 7 (hA 7 (by simp))
   simp only [e7]at hK
   have hJ2:=iH hJ
   obtain⟨u,hp,_⟩:=hJ
   obtain⟨q0,q1,q2,q3,q4,q5,q6,q7,q8,q9,q10,q11,qf⟩:=jy hp.1
   go_simp
   exact hK _ _ (hjx (by decide) hJ2.out) (World.grownBy.refl _ _) rfl
  ·have e4:v 4=.int .i64 X.g:=hF 4 (hA 4 (by simp))
   have e8:v 8=.int .i64 ks:=hF 8 (hA 8 (by simp))
   simp only [e4,e8]at hK
   simp only [e4,e8]
   go_simp
   refine(HPW.out w1).mono ?_
   rintro e wk ⟨rfl,hwk⟩
   subst hwk
   exact hK _ _ (hjx (by decide) hJ) (World.grownBy.refl _ _) rfl
  ·have e9:v 9=.tuple #[.int .i64 G,.int .i64 0]:=hF 9 (hA 9 (by simp))
   simp only [e9]at hK
   have hJ2:=iH hJ
   go_simp
   exact hK _ _ (hjx (by decide) hJ2.out) (World.grownBy.refl _ _) rfl
  ·have e10:v 10=.tuple #[.int .i64 G,.int .i64 0]:=hF 10 (hA 10 (by simp))
   simp only [e10]at hK
   have hJ2:=iH hJ
   go_simp
   exact hK _ _ (hjx (by decide) hJ2.out) (World.grownBy.refl _ _) rfl
  ·have e10:v 10=.tuple #[.int .i64 G,.int .i64 0]:=hF 10 (hA 10 (by simp))
   simp only [e10]at hK
   have hJ2:=iH hJ
   go_simp
   exact hK _ _ (hjx (by decide) hJ2.out) (World.grownBy.refl _ _) rfl
  ·have e0:v 0=.pointer (some ⟨P,0,none⟩):=hF 0 (hA 0 (by simp))
   simp only [e0]at hK
   have hJ2:=iH hJ
   go_simp
   exact hK _ _ (hjx (by decide) hJ2.out) (World.grownBy.refl _ _) rfl
  ·have e13:v 13=.pointer (some ⟨P,0,none⟩):=hF 13 (hA 13 (by simp))
   simp only [e13]at hK
   have hJ2:=iH hJ
   go_simp
   exact hK _ _ (hjx (by decide) hJ2.out) (World.grownBy.refl _ _) rfl
  ·have e14:v 14=.pointer (some ⟨P,7,none⟩):=hF 14 (hA 14 (by simp))
   have e11:v 11=.int .i64 G:=hF 11 (hA 11 (by simp))
   simp only [e14,e11]at hK
   have e11:v 11=.int .i64 G:=hF 11 (hA 11 (by simp))
   have e14:v 14=.pointer (some ⟨P,7,none⟩):=hF 14 (hA 14 (by simp))
   simp only [e11,e14]
   obtain⟨u,hp,_⟩:=hJ
   obtain⟨q0,q1,q2,q3,q4,q5,q6,q7,q8,q9,q10,q11,qf⟩:=jy hp.1
   have qxQ9:=qf 7
   have HPQ:=iH hp
   clear hp qf
   go_simp
   exact hK undef _ ⟨_,HPQ.out.set 7 _,fun _=>rfl⟩ ((PtW.start HPQ.out.1).set 7 _).2.1 trivial
 case tail=>
  intro v w1 hJ hF
  have e0:v 0=.pointer (some ⟨P,0,none⟩):=hF 0 (by simp)
  have e1:v 1=.pointer (some ⟨P,0,none⟩):=hF 1 (by simp)
  have e2:v 2=.pointer (some ⟨P,0,none⟩):=hF 2 (by simp)
  have e3:v 3=.pointer (some ⟨P,6,none⟩):=hF 3 (by simp)
  have e4:v 4=.int .i64 X.g:=hF 4 (by simp)
  have e5:v 5=.pointer (some ⟨P,0,none⟩):=hF 5 (by simp)
  have e6:v 6=.pointer (some ⟨P,0,none⟩):=hF 6 (by simp)
  have e7:v 7=.pointer (some ⟨P,5,none⟩):=hF 7 (by simp)
  have e8:v 8=.int .i64 ks:=hF 8 (by simp)
  have e9:v 9=.tuple #[.int .i64 G,.int .i64 0]:=hF 9 (by simp)
  have e10:v 10=.tuple #[.int .i64 G,.int .i64 0]:=hF 10 (by simp)
  have e11:v 11=.int .i64 G:=hF 11 (by simp)
  have e12:v 12=.int .i64 0:=hF 12 (by simp)
  have e13:v 13=.pointer (some ⟨P,0,none⟩):=hF 13 (by simp)
  have e14:v 14=.pointer (some ⟨P,7,none⟩):=hF 14 (by simp)
  simp only [List.drop_succ_cons,List.drop_zero,ja,Act.put,Nat.zero_add,Nat.reduceAdd,List.setIfInBounds_toArray,List.set_cons_zero,List.set_cons_succ]
  obtain⟨u,hp,hu⟩:=hJ
  obtain rfl:=hu rfl
  have HP3:=iH hp;have GX3:=iH (GX2.out.grownP hp.2.1)
  clear hF hp hu f0 f1 f2 f3 f4 f5 f6 f7 f8 f9 f10 f11 ff
  go_wp2_with fail
  go_ret
  exact⟨_,_,rfl,HP2.out.trans HP3.out,GX3.out⟩
theorem agree_same(P:Nat)(X:Exg)(sA nA aA bA:Option Addr)(sc nc ac bc:Nat)(w:World)(hK:∀W,Below P w W->KD W)(hr:w.heap[P]?=some (.cells #[.int .i64 X.kd,.slice sA X.sec.length sc,.int .i64 X.pr,.int .i64 X.st,.slice nA X.non.length nc,.int .i64 X.x,.int .i64 X.g,.int .i64 X.own,.int .i64 X.oth,.slice aA X.k1.length ac,.slice bA X.k2.length bc,.int .i64 X.ct] 48 (0,0))) (o:Int) (ho:o=X.own):Calls Tryz.prog 131 #[.pointer (some ⟨P,0,none⟩),.int .i64 o] w fun e w'=>e=.returned (.int .i64 10)/\w'=w:=by
 obtain⟨f0,f1,f2,f3,f4,f5,f6,f7,f8,f9,f10,f11,ff⟩:=jy hr
 have t1:(o==X.own)=true:=by simp [ho]
 clear hr hK ho ff
 go_enter Tryz.func131,Tryz.ntmps131
 go_wp2_with fail
 go_ret
 exact⟨rfl,rfl⟩
theorem agree_any(P:Nat)(X:Exg)(sA nA aA bA:Option Addr)(sc nc ac bc:Nat)(w:World)(hK:∀W,Below P w W->KD W)(hr:w.heap[P]?=some (.cells #[.int .i64 X.kd,.slice sA X.sec.length sc,.int .i64 X.pr,.int .i64 X.st,.slice nA X.non.length nc,.int .i64 X.x,.int .i64 X.g,.int .i64 X.own,.int .i64 X.oth,.slice aA X.k1.length ac,.slice bA X.k2.length bc,.int .i64 X.ct] 48 (0,0))) (o:Int) (ho:¬o=X.own) (hx:okS X.x=true) (hoe:jx o=true):
 Calls Tryz.prog 131 #[.pointer (some ⟨P,0,none⟩),.int .i64 o] w fun e w'=>∃aB bB ad bd,e=.returned (.int .i64 0)/\PtW P w w' #[.int .i64 X.kd,.slice sA X.sec.length sc,.int .i64 X.pr,.int .i64 X.st,.slice nA X.non.length nc,.int .i64 X.x,.int .i64 X.g,.int .i64 X.own,.int .i64 o,.slice aB 16 ad,.slice bB 16 bd,.int .i64 0]/\BsS w' (jL P w') (.slice aB 16 ad) (ZB (kg (zZ o X.x)) 1)/\BsS w' (jL P w') (.slice bB 16 bd) (ZB (kg (zZ o X.x)) 2):=by
 have HSH:=iH (gshare_i X.x o hx hoe)
 have hel:=xe o X.x hoe hx
 obtain⟨H,hH⟩:∃H,zZ o X.x=H:=⟨_,rfl⟩
 rw [hH]at HSH hel |-
 have HEN:=iH (encoded_any H hel)
 have HK:=iH hK
 have HP0:Hid (PtW P w w #[.int .i64 X.kd,.slice sA X.sec.length sc,.int .i64 X.pr,.int .i64 X.st,.slice nA X.non.length nc,.int .i64 X.x,.int .i64 X.g,.int .i64 X.own,.int .i64 X.oth,.slice aA X.k1.length ac,.slice bA X.k2.length bc,.int .i64 X.ct]):=iH (PtW.start hr)
 obtain⟨f0,f1,f2,f3,f4,f5,f6,f7,f8,f9,f10,f11,ff⟩:=jy hr
 have fx:=ff 8
 have t1:(o==X.own)=false:=by simp [ho]
 clear hr hK ho hx hoe hel hH ff
 go_enter Tryz.func131,Tryz.ntmps131
 go_upto_region 4 with fail
 obtain⟨w1,hw⟩:∃z,z=w.setCell ⟨P,8,none⟩ (.int .i64 o):=⟨_,rfl⟩
 rw [<-hw]
 have hp:PtW P w w1 #[.int .i64 X.kd,.slice sA X.sec.length sc,.int .i64 X.pr,.int .i64 X.st,.slice nA X.non.length nc,.int .i64 X.x,.int .i64 X.g,.int .i64 X.own,.int .i64 o,.slice aA X.k1.length ac,.slice bA X.k2.length bc,.int .i64 X.ct]:=by rw [hw];exact HP0.out.set 8 _
 have HP1:=iH hp
 obtain⟨g0,g1,g2,g3,g4,g5,g6,g7,g8,g9,g10,g11,gf⟩:=jy hp.1
 clear hw hp f0 f1 f2 f3 f4 f5 f6 f7 f8 f9 f10 f11 fx
 clear gf
 go_upto_region 8 with (first
  |(go_at_call 56;refine(HSH.out _).mono ?_;rintro e w' ⟨rfl,hw'⟩;rw [hw'];clear hw' w')
  |(go_at_call 129;refine(HEN.out _).mono ?_;rintro e w2 ⟨A2,c2,rfl,hs,hb⟩;have GE2:=iH (hs.madeB HP1.out.lt);have hp:=HP1.out.call hb;have HP2:=iH hp;clear hs hb hp)
  |(go_at_call 47;refine(QB 2 (by omega) (by omega) _ (kg H) w3 (HK.out w3 HP3.out.2.2) GE3.out.loB (by simp [kg])).mono ?_;rintro e w4 ⟨v4,rfl,hs,hb⟩;obtain⟨A4,c4,hv4⟩:=Bs.formL hs;rw [zh]at hv4;subst hv4;have GB4:=iH (hs.madeB HP3.out.lt);have GA4:=iH (GA3.out.onB hb);have hp:=HP3.out.call hb;have HP4:=iH hp;clear hs hb hp)
  |(go_at_call 47;refine(QB 1 (by omega) (by omega) _ (kg H) w2 (HK.out w2 HP2.out.2.2) GE2.out.loB (by simp [kg])).mono ?_;rintro e w3 ⟨v3,rfl,hs,hb⟩;obtain⟨A3,c3,hv3⟩:=Bs.formL hs;rw [zh]at hv3;subst hv3;have GA3:=iH (hs.madeB HP2.out.lt);have GE3:=iH (GE2.out.onB hb);have hp:=HP2.out.call hb;have HP3:=iH hp;clear hs hb hp))
 go_upto_region 9 with (go_at_call 163;refine(XW _ _ _ _ 0 w4 GA4.out.loB GB4.out.loB (zh _ _) (zh _ _) (by omega) (by omega)).mono ?_;rintro e w5 ⟨v5,rfl,⟨aB,ad,bB,bd,rfl,k1,k2⟩,hb⟩;have GA5:=iH (k1.madeB HP4.out.lt);have GB5:=iH (k2.madeB HP4.out.lt);have hp:=HP4.out.call hb;have HP5:=iH hp;obtain⟨f0,f1,f2,f3,f4,f5,f6,f7,f8,f9,f10,f11,ff⟩:=jy hp.1;have x9Q9:=ff 9;have x10:=ff 10;have x11:=ff 11;clear k1 k2 hb hp ff g0 g1 g2 g3 g4 g5 g6 g7 g8 g9 g10 g11)
 obtain⟨w6,hw⟩:∃z,z=((w5.setCell ⟨P,9,none⟩ (.slice aB 16 ad)).setCell ⟨P,10,none⟩ (.slice bB 16 bd)).setCell ⟨P,11,none⟩ (.int .i64 0):=⟨_,rfl⟩
 rw [<-hw]
 have hp:PtW P w w6 #[.int .i64 X.kd,.slice sA X.sec.length sc,.int .i64 X.pr,.int .i64 X.st,.slice nA X.non.length nc,.int .i64 X.x,.int .i64 X.g,.int .i64 X.own,.int .i64 o,.slice aB 16 ad,.slice bB 16 bd,.int .i64 0]:=by rw [hw];exact((HP5.out.set 9 _).set 10 _).set 11 _
 have GA6:BsS w6 (jL P w6) (.slice aB 16 ad) (ZB (kg H) 1):=by rw [hw];exact((BsS.setP GA5.out 9 _).setP 10 _).setP 11 _
 have GB6:BsS w6 (jL P w6) (.slice bB 16 bd) (ZB (kg H) 2):=by rw [hw];exact((BsS.setP GB5.out 9 _).setP 10 _).setP 11 _
 have HQ:=iH (And.intro hp (And.intro GA6 GB6))
 clear hw hp GA6 GB6 f0 f1 f2 f3 f4 f5 f6 f7 f8 f9 f10 f11 x9Q9 x10 x11
 go_wp2_with fail
 go_ret
 exact⟨_,_,_,_,rfl,HQ.out.1,HQ.out.2.1,HQ.out.2.2⟩
theorem decode_ok{v:List UInt8}{o:Int}(h:jF v=(0,o)):jx o=true:=by
 unfold jF at h
 split at h
 ·cases h
 ·split at h
  ·cases h
  ·rename_i h1
   obtain⟨_,rfl⟩:=Prod.mk.inj h
   simpa using h1
theorem chipAgree_err(P:Nat)(X:Exg)(sA nA aA bA:Option Addr)(sc nc ac bc:Nat)(vA eA:Option Addr)(vc ec:Nat)(v s:List UInt8)(w:World)(hK:∀W,Below P w W->KD W)(hr:w.heap[P]?=some (.cells #[.int .i64 X.kd,.slice sA X.sec.length sc,.int .i64 X.pr,.int .i64 X.st,.slice nA X.non.length nc,.int .i64 X.x,.int .i64 X.g,.int .i64 X.own,.int .i64 X.oth,.slice aA X.k1.length ac,.slice bA X.k2.length bc,.int .i64 X.ct] 48 (0,0))) (h1:BsS w (jL P w) (.slice sA X.sec.length sc) X.sec) (h2:BsS w (jL P w) (.slice nA X.non.length nc) X.non) (h3:BsS w (jL P w) (.slice aA X.k1.length ac) X.k1) (h4:BsS w (jL P w) (.slice bA X.k2.length bc) X.k2) (h5:BsS w (jL P w) (.slice vA v.length vc) v) (h6:BsS w (jL P w) (.slice eA s.length ec) s) (hl:s.length<=140737488351232) (er o:Int) (hd:jF v=(er,o)) (he:(er != 0)=true):
 Calls Tryz.prog 73 #[.pointer (some ⟨P,0,none⟩),.slice vA v.length vc,.slice eA s.length ec] w (StepE P w er):=by
 have HD:=iH (decode_any v _ _ w h5)
 rw [hd]at HD
 clear hd
 have HP0:Hid (PtW P w w #[.int .i64 X.kd,.slice sA X.sec.length sc,.int .i64 X.pr,.int .i64 X.st,.slice nA X.non.length nc,.int .i64 X.x,.int .i64 X.g,.int .i64 X.own,.int .i64 X.oth,.slice aA X.k1.length ac,.slice bA X.k2.length bc,.int .i64 X.ct]):=iH (PtW.start hr)
 have HK:=iH hK;have Gs0:=iH h1;have Gn0:=iH h2;have Ga0:=iH h3;have Gb0:=iH h4;have Gv0:=iH h5;have Ge0:=iH h6;have HL:=iH hl
 obtain⟨f0,f1,f2,f3,f4,f5,f6,f7,f8,f9,f10,f11,ff⟩:=jy hr
 clear hK hr h1 h2 h3 h4 h5 h6 hl
 go_enter Tryz.func73,Tryz.ntmps73
 go_wp2_with(go_at_call 126;refine HD.out.mono ?_;rintro e w' ⟨rfl,hw'⟩;rw [hw'];clear hw' w')
 refine bodyPost_ret (v:=.tuple #[.int .i64 0,.slice none 0 0,.slice none 0 0,.int .i64 er]) (by simp [results,Tryz.results73,go_sem]) rfl ?_
 exact⟨rfl,_,_,_,_,_,_,_,_,_,_,_,_,HP0.out⟩
theorem chipAgree_same(P:Nat)(X:Exg)(sA nA aA bA:Option Addr)(sc nc ac bc:Nat)(vA eA:Option Addr)(vc ec:Nat)(v s:List UInt8)(w:World)(hK:∀W,Below P w W->KD W)(hr:w.heap[P]?=some (.cells #[.int .i64 X.kd,.slice sA X.sec.length sc,.int .i64 X.pr,.int .i64 X.st,.slice nA X.non.length nc,.int .i64 X.x,.int .i64 X.g,.int .i64 X.own,.int .i64 X.oth,.slice aA X.k1.length ac,.slice bA X.k2.length bc,.int .i64 X.ct] 48 (0,0))) (h1:BsS w (jL P w) (.slice sA X.sec.length sc) X.sec) (h2:BsS w (jL P w) (.slice nA X.non.length nc) X.non) (h3:BsS w (jL P w) (.slice aA X.k1.length ac) X.k1) (h4:BsS w (jL P w) (.slice bA X.k2.length bc) X.k2) (h5:BsS w (jL P w) (.slice vA v.length vc) v) (h6:BsS w (jL P w) (.slice eA s.length ec) s) (hl:s.length<=140737488351232) (o:Int) (hg:jx X.g=true) (hd:jF v=(0,o)) (hne:o=zZ X.g (XS s)):
 Calls Tryz.prog 73 #[.pointer (some ⟨P,0,none⟩),.slice vA v.length vc,.slice eA s.length ec] w (StepE P w 10):=by
 have HD:=iH (decode_any v _ _ w h5)
 rw [hd]at HD
 have HPU:=iH (public_any P X sA nA aA bA sc nc ac bc w hK hr eA ec s h6 hl hg)
 have hoe:=decode_ok hd
 have hks:=scr_ok s
 obtain⟨ks,hk⟩:∃ks,XS s=ks:=⟨_,rfl⟩
 rw [hk]at HPU hks hne
 obtain⟨G,hG⟩:∃G,zZ X.g ks=G:=⟨_,rfl⟩
 have hge:jx G=true:=by rw [<-hG];exact xe X.g ks hg hks
 rw [hG]at HPU hne
 have HAG:Hid (∀W,W.heap[P]?=some (.cells #[.int .i64 X.kd,.slice sA X.sec.length sc,.int .i64 X.pr,.int .i64 X.st,.slice nA X.non.length nc,.int .i64 ks,.int .i64 X.g,.int .i64 G,.int .i64 X.oth,.slice aA X.k1.length ac,.slice bA X.k2.length bc,.int .i64 X.ct] 48 (0,0))->(∀W',Below P W W'->KD W')->Calls Tryz.prog 131 #[.pointer (some ⟨P,0,none⟩),.int .i64 o] W fun e w'=>e=.returned (.int .i64 10)/\w'=W):=iH (fun W h k=>agree_same P {X with x:=ks,own:=G} sA nA aA bA sc nc ac bc W k h o hne)
 clear hk hG hd hne hoe hks hge hg
 have HP0:Hid (PtW P w w #[.int .i64 X.kd,.slice sA X.sec.length sc,.int .i64 X.pr,.int .i64 X.st,.slice nA X.non.length nc,.int .i64 X.x,.int .i64 X.g,.int .i64 X.own,.int .i64 X.oth,.slice aA X.k1.length ac,.slice bA X.k2.length bc,.int .i64 X.ct]):=iH (PtW.start hr)
 have HK:=iH hK;have Gs0:=iH h1;have Gn0:=iH h2;have Ga0:=iH h3;have Gb0:=iH h4;have Gv0:=iH h5;have Ge0:=iH h6;have HL:=iH hl
 obtain⟨f0,f1,f2,f3,f4,f5,f6,f7,f8,f9,f10,f11,ff⟩:=jy hr
 clear hK hr h1 h2 h3 h4 h5 h6 hl
 go_enter Tryz.func73,Tryz.ntmps73
 go_wp2_with(first
  |(go_at_call 126;refine HD.out.mono ?_;rintro e w' ⟨rfl,hw'⟩;rw [hw'];clear hw' w')
  |(go_at_call 130;refine HPU.out.mono ?_;rintro e w1 ⟨B1,d1,rfl,hq,hx⟩;have HP1:=iH hq;have GX1:=iH hx;have Gs1:=iH (Gs0.out.grownP hq.2.1);have Gn1:=iH (Gn0.out.grownP hq.2.1);have Ga1:=iH (Ga0.out.grownP hq.2.1);have Gb1:=iH (Gb0.out.grownP hq.2.1);have Gv1:=iH (Gv0.out.grownP hq.2.1);have Ge1:=iH (Ge0.out.grownP hq.2.1);obtain⟨g0,g1,g2,g3,g4,g5,g6,g7,g8,g9,g10,g11,gf⟩:=jy hq.1;clear hq hx f0 f1 f2 f3 f4 f5 f6 f7 f8 f9 f10 f11 ff)
  |(go_at_call 131;refine(HAG.out w1 HP1.out.1 (fun W' h=>HK.out W' (HP1.out.2.2.trans h))).mono ?_;rintro e w' ⟨rfl,hw'⟩;rw [hw'];clear hw' w'))
 refine bodyPost_ret (v:=.tuple #[.int .i64 0,.slice none 0 0,.slice none 0 0,.int .i64 10]) (by simp [results,Tryz.results73,go_sem]) rfl ?_
 exact⟨rfl,_,_,_,_,_,_,_,_,_,_,_,_,HP1.out⟩
theorem chipAgree_any(P:Nat)(X:Exg)(sA nA aA bA:Option Addr)(sc nc ac bc:Nat)(vA eA:Option Addr)(vc ec:Nat)(v s:List UInt8)(w:World)(hK:∀W,Below P w W->KD W)(hr:w.heap[P]?=some (.cells #[.int .i64 X.kd,.slice sA X.sec.length sc,.int .i64 X.pr,.int .i64 X.st,.slice nA X.non.length nc,.int .i64 X.x,.int .i64 X.g,.int .i64 X.own,.int .i64 X.oth,.slice aA X.k1.length ac,.slice bA X.k2.length bc,.int .i64 X.ct] 48 (0,0))) (h1:BsS w (jL P w) (.slice sA X.sec.length sc) X.sec) (h2:BsS w (jL P w) (.slice nA X.non.length nc) X.non) (h3:BsS w (jL P w) (.slice aA X.k1.length ac) X.k1) (h4:BsS w (jL P w) (.slice bA X.k2.length bc) X.k2) (h5:BsS w (jL P w) (.slice vA v.length vc) v) (h6:BsS w (jL P w) (.slice eA s.length ec) s) (hl:s.length<=140737488351232) (o:Int) (hg:jx X.g=true) (hd:jF v=(0,o)) (hne:¬o=zZ X.g (XS s)):
 Calls Tryz.prog 73 #[.pointer (some ⟨P,0,none⟩),.slice vA v.length vc,.slice eA s.length ec] w (Vg P w 132 (Zb {X with x:=XS s,own:=zZ X.g (XS s)} o).2 (kg (zZ X.g (XS s))) (sdW s)):=by
 have HD:=iH (decode_any v _ _ w h5)
 rw [hd]at HD
 have HPU:=iH (public_any P X sA nA aA bA sc nc ac bc w hK hr eA ec s h6 hl hg)
 have hoe:=decode_ok hd
 have hks:=scr_ok s
 obtain⟨ks,hk⟩:∃ks,XS s=ks:=⟨_,rfl⟩
 rw [hk]at HPU hks hne |-
 obtain⟨G,hG⟩:∃G,zZ X.g ks=G:=⟨_,rfl⟩
 have hge:jx G=true:=by rw [<-hG];exact xe X.g ks hg hks
 rw [hG]at HPU hne |-
 have hagw:(Zb {X with x:=ks,own:=G} o).2= {X with x:=ks,own:=G,oth:=o,k1:=ZB (kg (zZ o ks)) 1,k2:=ZB (kg (zZ o ks)) 2,ct:=0}:=by unfold Zb;rw [iF hne]
 rw [hagw]
 have HAG:Hid (∀W,W.heap[P]?=some (.cells #[.int .i64 X.kd,.slice sA X.sec.length sc,.int .i64 X.pr,.int .i64 X.st,.slice nA X.non.length nc,.int .i64 ks,.int .i64 X.g,.int .i64 G,.int .i64 X.oth,.slice aA X.k1.length ac,.slice bA X.k2.length bc,.int .i64 X.ct] 48 (0,0))->(∀W',Below P W W'->KD W')->Calls Tryz.prog 131 #[.pointer (some ⟨P,0,none⟩),.int .i64 o] W fun e w'=>∃aB bB ad bd,e=.returned (.int .i64 0)/\PtW P W w' #[.int .i64 X.kd,.slice sA X.sec.length sc,.int .i64 X.pr,.int .i64 X.st,.slice nA X.non.length nc,.int .i64 ks,.int .i64 X.g,.int .i64 G,.int .i64 o,.slice aB 16 ad,.slice bB 16 bd,.int .i64 0]/\BsS w' (jL P w') (.slice aB 16 ad) (ZB (kg (zZ o ks)) 1)/\BsS w' (jL P w') (.slice bB 16 bd) (ZB (kg (zZ o ks)) 2)):=iH (fun W h k=>agree_any P {X with x:=ks,own:=G} sA nA aA bA sc nc ac bc W k h o hne hks hoe)
 have HEN:=iH (encoded_any G hge)
 have HKL:=iH (And.intro (zh (kg (zZ o ks)) 1) (zh (kg (zZ o ks)) 2))
 obtain⟨K1,hK1⟩:∃k,ZB (kg (zZ o ks)) 1=k:=⟨_,rfl⟩
 obtain⟨K2,hK2⟩:∃k,ZB (kg (zZ o ks)) 2=k:=⟨_,rfl⟩
 rw [hK1,hK2]at HAG HKL |-
 clear hk hG hd hne hoe hks hge hg hagw hK1 hK2
 have HP0:Hid (PtW P w w #[.int .i64 X.kd,.slice sA X.sec.length sc,.int .i64 X.pr,.int .i64 X.st,.slice nA X.non.length nc,.int .i64 X.x,.int .i64 X.g,.int .i64 X.own,.int .i64 X.oth,.slice aA X.k1.length ac,.slice bA X.k2.length bc,.int .i64 X.ct]):=iH (PtW.start hr)
 have HK:=iH hK;have Gs0:=iH h1;have Gn0:=iH h2;have Ga0:=iH h3;have Gb0:=iH h4;have Gv0:=iH h5;have Ge0:=iH h6;have HL:=iH hl
 obtain⟨f0,f1,f2,f3,f4,f5,f6,f7,f8,f9,f10,f11,ff⟩:=jy hr
 clear hK hr h1 h2 h3 h4 h5 h6 hl
 go_enter Tryz.func73,Tryz.ntmps73
 go_wp2_with(first
  |(go_at_call 126;refine HD.out.mono ?_;rintro e w' ⟨rfl,hw'⟩;rw [hw'];clear hw' w')
  |(go_at_call 130;refine HPU.out.mono ?_;rintro e w1 ⟨B1,d1,rfl,hq,hx⟩;have HP1:=iH hq;have GX1:=iH hx;have Gs1:=iH (Gs0.out.grownP hq.2.1);have Gn1:=iH (Gn0.out.grownP hq.2.1);have Ga1:=iH (Ga0.out.grownP hq.2.1);have Gb1:=iH (Gb0.out.grownP hq.2.1);have Gv1:=iH (Gv0.out.grownP hq.2.1);have Ge1:=iH (Ge0.out.grownP hq.2.1);obtain⟨g0,g1,g2,g3,g4,g5,g6,g7,g8,g9,g10,g11,gf⟩:=jy hq.1;clear hq hx f0 f1 f2 f3 f4 f5 f6 f7 f8 f9 f10 f11 ff)
  |(go_at_call 131;refine(HAG.out w1 HP1.out.1 (fun W' h=>HK.out W' (HP1.out.2.2.trans h))).mono ?_;rintro e w2 ⟨aB,bB,ad,bd,rfl,hq,k1,k2⟩;have HP2:=iH (HP1.out.trans hq);have GA2:=iH k1;have GB2:=iH k2;have Gs2:=iH (Gs1.out.grownP hq.2.1);have Gn2:=iH (Gn1.out.grownP hq.2.1);have Ga2:=iH (Ga1.out.grownP hq.2.1);have Gb2:=iH (Gb1.out.grownP hq.2.1);have Gv2:=iH (Gv1.out.grownP hq.2.1);have Ge2:=iH (Ge1.out.grownP hq.2.1);have GX2:=iH (GX1.out.grownP hq.2.1);obtain⟨f0,f1,f2,f3,f4,f5,f6,f7,f8,f9,f10,f11,ff⟩:=jy hq.1;clear hq k1 k2 g0 g1 g2 g3 g4 g5 g6 g7 g8 g9 g10 g11 gf)
  |(go_at_call 129;refine(HEN.out w2).mono ?_;rintro e w3 ⟨A3,c3,rfl,hs,hb⟩;have GE3:=iH (hs.madeB HP2.out.lt);have HP3:=iH (HP2.out.call hb);have GA3:=iH (GA2.out.onB hb);have GB3:=iH (GB2.out.onB hb);have Gs3:=iH (Gs2.out.onB hb);have Gn3:=iH (Gn2.out.onB hb);have Ga3:=iH (Ga2.out.onB hb);have Gb3:=iH (Gb2.out.onB hb);have Gv3:=iH (Gv2.out.onB hb);have Ge3:=iH (Ge2.out.onB hb);have GX3:=iH (GX2.out.onB hb);clear hs hb))
 refine bodyPost_ret (v:=.tuple #[.int .i64 132,.slice A3 4 c3,.slice B1 32 d1,.int .i64 0]) (by simp [results,Tryz.results73,go_sem]) rfl ?_
 have hx:(sdW s).length=32:=ji _
 have x3:BsS w3 (jL P w3) (.slice B1 (sdW s).length d1) (sdW s):=by rw [hx];exact GX3.out
 have q3:=HP3.out
 have a3:BsS w3 (jL P w3) (.slice aB K1.length ad) K1:=by rw [HKL.out.1];exact GA3.out
 have b3:BsS w3 (jL P w3) (.slice bB K2.length bd) K2:=by rw [HKL.out.2];exact GB3.out
 have q4:PtW P w w3 #[.int .i64 X.kd,.slice sA X.sec.length sc,.int .i64 X.pr,.int .i64 X.st,.slice nA X.non.length nc,.int .i64 ks,.int .i64 X.g,.int .i64 G,.int .i64 o,.slice aB K1.length ad,.slice bB K2.length bd,.int .i64 0]:=by rw [HKL.out.1,HKL.out.2];exact q3
 exact⟨A3,c3,B1,d1,by rw [hx]<;>rfl,⟨_,_,_,_,_,_,_,_,q4,Gs3.out,Gn3.out,a3,b3⟩,GE3.out,x3⟩
end Go.Proofs.YtalmmiojbmpmiaaGreatDoor
