/- Layer 21: the reference's TerminalStep; Layer 21: PasswordSteps -/
import Derived.Test.YtalmmiojbmpmiaaGreatDoorPBx
import Derived.Test.YtalmmiojbmpmiaaGreatDoorPBp
import Derived.Test.YtalmmiojbmpmiaaGreatDoorPBu
import Derived.Test.YtalmmiojbmpmiaaGreatDoorPBj
import Derived.Test.YtalmmiojbmpmiaaGreatDoorPBw
import Derived.Test.YtalmmiojbmpmiaaGreatDoorPBt
set_option linter.all false
set_option maxRecDepth 100000
set_option maxHeartbeats 64000000
namespace Go.Proofs.YtalmmiojbmpmiaaGreatDoor
open Go.RowKit Go.Deep
theorem mJ{P:Prop}(h:P:=by
 go_simp
 exact hK _ _ hJ iB ⟨A9,c9,e9,rfl⟩):P:=h
theorem m0l{P:Prop}(h:P:=by
 unfold Go.Proofs.YtalmmiojbmpmiaaGreatDoor.set12 at y hbel
 refine bodyPost_ret (v:=.tuple #[.agg #[.int .i64 0,.slice none 0 0,.int .i64 0,.int .i64 0,.slice none 0 0,.int .i64 0,.int .i64 0,.int .i64 0,.int .i64 0,.slice none 0 0,.slice none 0 0,.int .i64 0],.slice none 0 0,.slice none 0 0,.int .i64 1]) (by simp [results,Tryz.results36,go_sem,y]) rfl ?_
 exact ExO.err R.out hbel.out):P:=h
theorem j3q(X:Exg)(h:1<=X.st/\X.st<=4)(B:List UInt8)(v:Value)(w:World)(hv:Bs w w.heap.size v B):Calls Tryz.prog 78 #[v,.int .i64 (126+2*X.st),.int .i64 (JB X.pr X.st true)] w (ValOut (kw B (126+2*X.st) (U3 X)) w):=by
 have e:JB X.pr X.st true=((U3 X:Nat):Int):=by
  unfold JB U3
  by_cases h1:X.st=1
  ·rw [iT h1,iT h1]<;>rfl
  ·by_cases h2:X.st=2
   ·rw [iF h1,iF h1,iT h2,iT h2];split<;>rfl
   ·rw [iF h1,iF h1,iF h2,iF h2];split<;>rfl
 rw [e]
 exact Zx (126+2*X.st) (by omega) _ B v w hv
theorem j3j(X:Exg)(sA nA aA bA:Option Addr)(sc nc ac bc:Nat)(o:Int)(ho:¬o=X.own)(hoe:0<=o/\o<2147483579)(hx:0<=X.x/\X.x<=1073741789)(KA KB:List UInt8)(ha:zw (jc (jN o X.x)) 1=KA)(hb:zw (jc (jN o X.x)) 2=KB)(w:World)(hK:KR w):Calls Tryz.prog 84 #[.agg #[.int .i64 X.kd,.slice sA X.sec.length sc,.int .i64 X.pr,.int .i64 X.st,.slice nA X.non.length nc,.int .i64 X.x,.int .i64 X.g,.int .i64 X.own,.int .i64 X.oth,.slice aA X.k1.length ac,.slice bA X.k2.length bc,.int .i64 X.ct],.int .i64 o] w fun e w'=>∃aB bB ad bd,e=.returned (.tuple #[.agg #[.int .i64 X.kd,.slice sA X.sec.length sc,.int .i64 X.pr,.int .i64 X.st,.slice nA X.non.length nc,.int .i64 X.x,.int .i64 X.g,.int .i64 X.own,.int .i64 o,.slice aB KA.length ad,.slice bB KB.length bd,.int .i64 0],.int .i64 0])/\BsS w' (New w w') (.slice aB KA.length ad) KA/\BsS w' (New w w') (.slice bB KB.length bd) KB/\Below w.heap.size w w':=by
 have la:KA.length=16:=by rw [<-ha];exact jL _ _
 have lb:KB.length=16:=by rw [<-hb];exact jL _ _
 rw [la,lb,<-ha,<-hb]
 exact Q5 X sA nA aA bA sc nc ac bc o ho hoe hx w hK
section
variable(X:Exg)(sA nA aA bA:Option Addr)(sc nc ac bc:Nat)(vA eA:Option Addr)(vc ec:Nat)(B s:List UInt8)(w:World)(hK:KR w)(h1:Bs w w.heap.size (.slice sA X.sec.length sc) X.sec)(h2:Bs w w.heap.size (.slice nA X.non.length nc) X.non)(h3:Bs w w.heap.size (.slice aA X.k1.length ac) X.k1)(h4:Bs w w.heap.size (.slice bA X.k2.length bc) X.k2)(h5:Bs w w.heap.size (.slice vA B.length vc) B)(h6:Bs w w.heap.size (.slice eA s.length ec) s)(ls:X.sec.length<=140737488351232)(ln:X.non.length<=140737488351232)(l1:X.k1.length<=140737488351232)(l2:X.k2.length<=140737488351232)(hl:s.length<=140737488351232)
include X sA nA aA bA sc nc ac bc vA eA vc ec B s w hK h1 h2 h3 h4 h5 h6 ls ln l1 l2 hl
theorem Ye(hst:X.st<0\/4<X.st):Calls Tryz.prog 36 #[.agg #[.int .i64 X.kd,.slice sA X.sec.length sc,.int .i64 X.pr,.int .i64 X.st,.slice nA X.non.length nc,.int .i64 X.x,.int .i64 X.g,.int .i64 X.own,.int .i64 X.oth,.slice aA X.k1.length ac,.slice bA X.k2.length bc,.int .i64 X.ct],.slice vA B.length vc,.slice eA s.length ec] w (ExO (jn X B s) w):=by
 have R:Hid (jn X B s=jI 23):=iH (by unfold jn;rw [iT hst])
 obtain⟨w0,HW0,HB0,HSZ,FR,FZ,H1,H2,H3,H4,H5,H6⟩:=Za X sA nA aA bA sc nc ac bc h1 h2 h3 h4 h5 h6
 have HK:=iH hK;have HLN:=iH (And.intro ls (And.intro ln (And.intro l1 l2)));have HL:=iH hl
 obtain⟨f0,f1,f2,f3,f4,f5,f6,f7,f8,f9,f10,f11,ff⟩:=j4 (FR.out w0 iB)
 obtain⟨z0,z1,z2,z3,z4,z5,z6,z7,z8,z9,z10,z11,zf⟩:=j4 (FZ.out w0 iB)
 have zf0:=zf 0;have zf1:=zf 1;have zf2:=zf 2;have zf3:=zf 3;have zf4:=zf 4;have zf5:=zf 5;have zf6:=zf 6;have zf7:=zf 7;have zf8:=zf 8;have zf9:=zf 9;have zf10:=zf 10;have zf11:=zf 11
 clear hK h1 h2 h3 h4 h5 h6 ls ln l1 l2 hl zf ff
 rcases hst with hst|hst
 all_goals
  go_enter Tryz.func36,Tryz.ntmps36
  go_upto_region 1 with fail
  rw [<-HW0.out]
  go_wp2_with fail
  obtain⟨y0,y1,y2,y3,y4,y5,y6,y7,y8,y9,y10,y11,yf⟩:=j4 ((PtW.start (FZ.out w0 iB)).set12 (.int .i64 0) (.slice none 0 0) (.int .i64 0) (.int .i64 0) (.slice none 0 0) (.int .i64 0) (.int .i64 0) (.int .i64 0) (.int .i64 0) (.slice none 0 0) (.slice none 0 0) (.int .i64 0)).1
  unfold Go.Proofs.YtalmmiojbmpmiaaGreatDoor.set12 at y0 y1 y2 y3 y4 y5 y6 y7 y8 y9 y10 y11
  refine bodyPost_ret (v:=.tuple #[.agg #[.int .i64 0,.slice none 0 0,.int .i64 0,.int .i64 0,.slice none 0 0,.int .i64 0,.int .i64 0,.int .i64 0,.int .i64 0,.slice none 0 0,.slice none 0 0,.int .i64 0],.slice none 0 0,.slice none 0 0,.int .i64 23]) (by simp [results,Tryz.results36,go_sem,y0,y1,y2,y3,y4,y5,y6,y7,y8,y9,y10,y11]) rfl ?_
  exact ExO.err R.out ((HB0.out.trans (iB.mono HB0.out.size)).trans (Below.mono (((PtW.start (FZ.out _ iB)).set12 (.int .i64 0) (.slice none 0 0) (.int .i64 0) (.int .i64 0) (.slice none 0 0) (.int .i64 0) (.int .i64 0) (.int .i64 0) (.int .i64 0) (.slice none 0 0) (.slice none 0 0) (.int .i64 0)).2.2) (Nat.le_succ _)))
theorem Xb(hst:0<=X.st/\X.st<=4)(hus:usT X=false):Calls Tryz.prog 36 #[.agg #[.int .i64 X.kd,.slice sA X.sec.length sc,.int .i64 X.pr,.int .i64 X.st,.slice nA X.non.length nc,.int .i64 X.x,.int .i64 X.g,.int .i64 X.own,.int .i64 X.oth,.slice aA X.k1.length ac,.slice bA X.k2.length bc,.int .i64 X.ct],.slice vA B.length vc,.slice eA s.length ec] w (ExO (jn X B s) w):=by
 have R:Hid (jn X B s=jI 14):=iH (by unfold jn;rw [iF (by omega),iT hus])
 have HUS:=iH hus
 obtain⟨w0,HW0,HB0,HSZ,FR,FZ,H1,H2,H3,H4,H5,H6⟩:=Za X sA nA aA bA sc nc ac bc h1 h2 h3 h4 h5 h6
 have HK:=iH hK;have HLN:=iH (And.intro ls (And.intro ln (And.intro l1 l2)));have HL:=iH hl
 obtain⟨f0,f1,f2,f3,f4,f5,f6,f7,f8,f9,f10,f11,ff⟩:=j4 (FR.out w0 iB)
 obtain⟨z0,z1,z2,z3,z4,z5,z6,z7,z8,z9,z10,z11,zf⟩:=j4 (FZ.out w0 iB)
 have zf0:=zf 0;have zf1:=zf 1;have zf2:=zf 2;have zf3:=zf 3;have zf4:=zf 4;have zf5:=zf 5;have zf6:=zf 6;have zf7:=zf 7;have zf8:=zf 8;have zf9:=zf 9;have zf10:=zf 10;have zf11:=zf 11
 clear hK h1 h2 h3 h4 h5 h6 ls ln l1 l2 hl zf ff
 clear hus
 go_enter Tryz.func36,Tryz.ntmps36
 go_upto_region 1 with fail
 rw [<-HW0.out]
 go_upto_region 4 with (go_at_call 76;refine(U1 X sA nA aA bA sc nc ac bc w0 H3.out H4.out HLN.out.2.2.1 HLN.out.2.2.2).mono ?_;rw [HUS.out];rintro e w1 ⟨rfl,hb⟩;have HB1:=iH hb;clear f0 f1 f2 f3 f4 f5 f6 f7 f8 f9 f10 f11;obtain⟨g0,g1,g2,g3,g4,g5,g6,g7,g8,g9,g10,g11,gf⟩:=j4 (FR.out _ hb);clear z0 zf0 z1 zf1 z2 zf2 z3 zf3 z4 zf4 z5 zf5 z6 zf6 z7 zf7 z8 zf8 z9 zf9 z10 zf10 z11 zf11;obtain⟨z0,z1,z2,z3,z4,z5,z6,z7,z8,z9,z10,z11,zf⟩:=j4 (FZ.out _ hb);have zf0:=zf 0;have zf1:=zf 1;have zf2:=zf 2;have zf3:=zf 3;have zf4:=zf 4;have zf5:=zf 5;have zf6:=zf 6;have zf7:=zf 7;have zf8:=zf 8;have zf9:=zf 9;have zf10:=zf 10;have zf11:=zf 11;clear hb zf gf)
 go_wp2_with fail
 obtain⟨y0,y1,y2,y3,y4,y5,y6,y7,y8,y9,y10,y11,yf⟩:=j4 ((PtW.start (FZ.out w1 HB1.out)).set12 (.int .i64 0) (.slice none 0 0) (.int .i64 0) (.int .i64 0) (.slice none 0 0) (.int .i64 0) (.int .i64 0) (.int .i64 0) (.int .i64 0) (.slice none 0 0) (.slice none 0 0) (.int .i64 0)).1
 unfold Go.Proofs.YtalmmiojbmpmiaaGreatDoor.set12 at y0 y1 y2 y3 y4 y5 y6 y7 y8 y9 y10 y11
 refine bodyPost_ret (v:=.tuple #[.agg #[.int .i64 0,.slice none 0 0,.int .i64 0,.int .i64 0,.slice none 0 0,.int .i64 0,.int .i64 0,.int .i64 0,.int .i64 0,.slice none 0 0,.slice none 0 0,.int .i64 0],.slice none 0 0,.slice none 0 0,.int .i64 14]) (by simp [results,Tryz.results36,go_sem,y0,y1,y2,y3,y4,y5,y6,y7,y8,y9,y10,y11]) rfl ?_
 exact mo
theorem j3o(hst:0<=X.st/\X.st<=4)(hus:usT X=true):Calls Tryz.prog 36 #[.agg #[.int .i64 X.kd,.slice sA X.sec.length sc,.int .i64 X.pr,.int .i64 X.st,.slice nA X.non.length nc,.int .i64 X.x,.int .i64 X.g,.int .i64 X.own,.int .i64 X.oth,.slice aA X.k1.length ac,.slice bA X.k2.length bc,.int .i64 X.ct],.slice vA B.length vc,.slice eA s.length ec] w (ExO (jn X B s) w):=by
 obtain⟨r,hr⟩:∃r,kw B (126+2*X.st) (U3 X)=r:=⟨_,rfl⟩
 obtain⟨VB,hVB⟩:∃l,r.getD []=l:=⟨_,rfl⟩
 obtain⟨IB,hIB⟩:∃b,r.isSome=b:=⟨_,rfl⟩
 have HV:=iH hr;have HVB:=iH hVB;have HIB:=iH hIB
 have HST:Hid (0<=X.st/\X.st<=4):=iH (by omega)
 have HUS:=iH hus
 obtain⟨w0,HW0,HB0,HSZ,FR,FZ,H1,H2,H3,H4,H5,H6⟩:=Za X sA nA aA bA sc nc ac bc h1 h2 h3 h4 h5 h6
 have HK:=iH hK;have HLN:=iH (And.intro ls (And.intro ln (And.intro l1 l2)));have HL:=iH hl
 have f:=j4 (FR.out w0 iB)
 clear hK h1 h2 h3 h4 h5 h6 ls ln l1 l2 hl
 have d0:decide (X.st<0)=false:=decide_eq_false (by have:=HST.out;omega)
 have d3:decide (4<X.st)=false:=decide_eq_false (by have:=HST.out;omega)
 have hs0:0<=X.st:=HST.out.1
 have hs3:X.st<=4:=HST.out.2
 clear hus hst hr hVB hIB
 go_enter Tryz.func36,Tryz.ntmps36
 go_upto_region 1 with fail
 rw [<-HW0.out]
 go_upto_region 5 with (go_at_call 76;refine(U1 X sA nA aA bA sc nc ac bc w0 H3.out H4.out HLN.out.2.2.1 HLN.out.2.2.2).mono ?_;rw [HUS.out];rintro e w1 ⟨rfl,hb⟩;have HB1:=iH hb;clear f;have f:=j4 (FR.out _ hb);clear hb)
 go_upto_region 6 with (go_at_call 77;refine(Kc X sA nA aA bA sc nc ac bc w1 (H1.out.lift HB1.out) (H2.out.lift HB1.out) (H3.out.lift HB1.out) (H4.out.lift HB1.out) HLN.out.1 HLN.out.2.1 HLN.out.2.2.1 HLN.out.2.2.2).mono ?_;rintro e w3 ⟨sB,nB,aB,bB,sd,nd,ad,bd,rfl,k1,k2,k3,k4,hb⟩;have M1:=iH k1;have M2:=iH k2;have M3:=iH k3;have M4:=iH k4;have HB13:=iH hb;have HB3:=iH (HB1.out.trans (hb.mono HB1.out.size));clear k1 k2 k3 k4 hb f;have k:=j4 (show(w3.alloc (.cells #[.int .i64 0,.slice none 0 0,.int .i64 0,.int .i64 0,.slice none 0 0,.int .i64 0,.int .i64 0,.int .i64 0,.int .i64 0,.slice none 0 0,.slice none 0 0,.int .i64 0] 48)).heap[w3.heap.size]?=some (.cells #[.int .i64 0,.slice none 0 0,.int .i64 0,.int .i64 0,.slice none 0 0,.int .i64 0,.int .i64 0,.int .i64 0,.int .i64 0,.slice none 0 0,.slice none 0 0,.int .i64 0] 48 (0,0)) from iN))
 have hz3:w.heap.size+2<=w3.heap.size:=by have:=HSZ.out;have:=HB3.out.size;omega
 have hz1:w.heap.size+1<w1.heap.size:=by have:=HSZ.out;have:=HB1.out.size;omega
 have hL:∀x∈([(.slice sB X.sec.length sd,X.sec),(.slice nB X.non.length nd,X.non),(.slice aB X.k1.length ad,X.k1),(.slice bB X.k2.length bd,X.k2),(.slice sA X.sec.length sc,X.sec),(.slice nA X.non.length nc,X.non),(.slice aA X.k1.length ac,X.k1),(.slice bA X.k2.length bc,X.k2),(.slice vA B.length vc,B),(.slice eA s.length ec,s)]:List (Value×List UInt8)),BsS w3 (j7 (w.heap.size+1) w3) x.1 x.2:=by
  exact m0a
 obtain⟨w4,hw⟩:∃z,z=w3.alloc (.cells #[.int .i64 X.kd,.slice sB X.sec.length sd,.int .i64 X.pr,.int .i64 X.st,.slice nB X.non.length nd,.int .i64 X.x,.int .i64 X.g,.int .i64 X.own,.int .i64 X.oth,.slice aB X.k1.length ad,.slice bB X.k2.length bd,.int .i64 X.ct] 48):=⟨_,rfl⟩
 have hs:RS w w3.heap.size #[.int .i64 X.kd,.slice sA X.sec.length sc,.int .i64 X.pr,.int .i64 X.st,.slice nA X.non.length nc,.int .i64 X.x,.int .i64 X.g,.int .i64 X.own,.int .i64 X.oth,.slice aA X.k1.length ac,.slice bA X.k2.length bc,.int .i64 X.ct] #[.int .i64 X.kd,.slice sB X.sec.length sd,.int .i64 X.pr,.int .i64 X.st,.slice nB X.non.length nd,.int .i64 X.x,.int .i64 X.g,.int .i64 X.own,.int .i64 X.oth,.slice aB X.k1.length ad,.slice bB X.k2.length bd,.int .i64 X.ct] [(.slice sB X.sec.length sd,X.sec),(.slice nB X.non.length nd,X.non),(.slice aB X.k1.length ad,X.k1),(.slice bB X.k2.length bd,X.k2),(.slice sA X.sec.length sc,X.sec),(.slice nA X.non.length nc,X.non),(.slice aA X.k1.length ac,X.k1),(.slice bA X.k2.length bc,X.k2),(.slice vA B.length vc,B),(.slice eA s.length ec,s)] w4:=by rw [hw];exact(RS.start (HB0.out.trans (HB3.out.mono HB0.out.size)) (FR.out _ HB3.out) (FZ.out _ HB3.out) hz3 hL)
 rw [<-hw]
 obtain⟨gy,hgy⟩:∃g,g=w3.heap.size:=⟨_,rfl⟩
 rw [<-hgy]at hs |-
 have S4:=iH hs
 clear hw hs hgy hL hz3 hz1 k
 have f:=j4 S4.out.rx;have g:=j4 S4.out.ry
 go_upto_region 7 with fail
 obtain⟨w5,hw⟩:∃z,z=w4.setCell ⟨gy,3,none⟩ (.int .i64 (X.st+1)):=⟨_,rfl⟩
 rw [<-hw]
 have S5:Hid (RS w gy _ #[.int .i64 X.kd,.slice sB X.sec.length sd,.int .i64 X.pr,.int .i64 (X.st+1),.slice nB X.non.length nd,.int .i64 X.x,.int .i64 X.g,.int .i64 X.own,.int .i64 X.oth,.slice aB X.k1.length ad,.slice bB X.k2.length bd,.int .i64 X.ct] _ w5):=iH (by rw [hw];exact S4.out.set 3 _)
 clear f g;clear hw
 have f:=j4 S5.out.rx;have g:=j4 S5.out.ry
 go_upto_region 8 with (at_builtin;(with_reducible refine j5 rfl (.const (.slice none 0 0)) (.tmp 39) rfl w5.heap.size (.slice none 0 0) [] rfl (OwnB.nil _ _) eA s.length ec s _ rfl (S5.out.at 9 rfl) (by have:=HL.out;simp;omega) iL ?_);intro v6 w6 hgr;rw [List.nil_append]at hgr;obtain⟨eB,ed,hv6⟩:=hgr.1.form;subst hv6;have S6:=iH ((S5.out.on hgr.2.1).add S5.out.lt (hgr.1.out (by have:=HL.out;omega) w5 iL));clear f g;clear hgr;have f:=j4 S6.out.rx;have g:=j4 S6.out.ry)
 by_cases q:X.st=0
 ·have b0:(X.st==0)=true:=by simp [q]
  have hus:=HUS.out
  by_cases hB:B.length=0
  rotate_left
  ·have R:Hid (jn X B s=jI 1):=iH (by unfold jn;rw [iF (by omega),iF (by rw [hus];simp),iT q,iT hB])
   have tB:decide (0<B.length)=true:=decide_eq_true (by omega)
   have tB2:decide ((0:Int)<(B.length:Int))=true:=decide_eq_true (by omega)
   clear hus q hB
   go_upto_region 10 with fail
   clear f g;have z:=j4 S6.out.rz
   go_wp2_with fail
   have y:=j4 ((PtW.start S6.out.rz).set12 (.int .i64 0) (.slice none 0 0) (.int .i64 0) (.int .i64 0) (.slice none 0 0) (.int .i64 0) (.int .i64 0) (.int .i64 0) (.int .i64 0) (.slice none 0 0) (.slice none 0 0) (.int .i64 0)).1
   have hbel:=iH (S6.out.bel.trans (Below.mono (((PtW.start S6.out.rz).set12 (.int .i64 0) (.slice none 0 0) (.int .i64 0) (.int .i64 0) (.slice none 0 0) (.int .i64 0) (.int .i64 0) (.int .i64 0) (.int .i64 0) (.slice none 0 0) (.slice none 0 0) (.int .i64 0)).2.2) (Nat.le_succ _)))
   exact m0l
  ·obtain⟨U,hU⟩:∃U,jE 0 []=U:=⟨_,rfl⟩
   have R:Hid (jn X B s=(0,⟨X.kd,X.sec,X.pr,X.st+1,X.non,X.x,X.g,X.own,X.oth,X.k1,X.k2,X.ct⟩,U,s)):=iH (by unfold jn;rw [iF (by omega),iF (by rw [hus];simp),iT q,iF (by omega),hU,q]<;>rfl)
   have HU0:Hid (∀W,Calls Tryz.prog 86 #[.int .i64 0,.slice none 0 0] W (xw U W)):=iH (fun W=>by rw [<-hU];exact j1p _ W)
   have tB:decide (0<B.length)=false:=decide_eq_false (by omega)
   have tB2:decide ((0:Int)<(B.length:Int))=false:=decide_eq_false (by omega)
   clear hus q hB hU
   go_upto_region 11 with fail
   clear f g;have N9:=iH (S6.out.offP 0 rfl);have L0:=iH (S6.out.offP 1 rfl);have L1:=iH (S6.out.offP 2 rfl);have L2:=iH (S6.out.offP 3 rfl);have L3:=iH (S6.out.offP 4 rfl)
   refine j9 7 [some 48,some 49,some 50,none,some 7,some 8,some 9] [[],[],[],[0,1],[0,1,3],[0,1,2,3,4],[0,1,2,3,4,5]]
    (fun _ _ w1=>PtA (w.heap.size+1) w6 w1) (fun w1 w2=>RO (w.heap.size+1) #[.int .i64 X.kd,.slice sB X.sec.length sd,.int .i64 X.pr,.int .i64 (X.st+1),.slice nB X.non.length nd,.int .i64 X.x,.int .i64 X.g,.int .i64 X.own,.int .i64 X.oth,.slice aB X.k1.length ad,.slice bB X.k2.length bd,.int .i64 X.ct] w1 w2)
    [.v (.agg #[.int .i64 X.kd,.slice sB X.sec.length sd,.int .i64 X.pr,.int .i64 (X.st+1),.slice nB X.non.length nd,.int .i64 X.x,.int .i64 X.g,.int .i64 X.own,.int .i64 X.oth,.slice aB X.k1.length ad,.slice bB X.k2.length bd,.int .i64 X.ct]),
     .p (fun v w1=>∃A c,v 1=.slice A U.length c/\BsS w1 (j7 (w.heap.size+1) w1) (.slice A U.length c) U) (fun _ _ _ _ _ hr ⟨A,c,h1,h2⟩=>⟨A,c,h1,h2.grownP hr.1⟩),
     .v (.slice eB s.length ed),
     .p (fun v w1=>w1.heap[w.heap.size+1]?=some (.cells #[.int .i64 X.kd,.slice sB X.sec.length sd,.int .i64 X.pr,.int .i64 (X.st+1),.slice nB X.non.length nd,.int .i64 X.x,.int .i64 X.g,.int .i64 X.own,.int .i64 X.oth,.slice aB X.k1.length ad,.slice bB X.k2.length bd,.int .i64 X.ct] 48 (0,0))) (fun _ _ _ _ _ hr h=>hr.2 h),
     .q fun v=>∃A c,v 1=.slice A U.length c/\v 4=.slice A U.length c,
     .v (.slice eB s.length ed),
     .v (.int .i64 0)]
    (by kernel_rfl) (by kernel_rfl) rfl (fun _=>⟨_,_,_,_,_,_,_,_,_,_,_,_,(PtW.start S6.out.rz).drew⟩) ?steps ?tail
   case steps=>
    simp only [List.take_succ_cons,List.take_zero]
    repeat' (with_reducible first|exact StepsRG.nil|refine StepsRG.cons ?_ ?_)
    all_goals(intro L v w1 hJ hL hF hD K hK;simp only [jb,Act.put,Nat.zero_add,Nat.reduceAdd,List.setIfInBounds_toArray,List.set_cons_zero,List.set_cons_succ,↓jP,List.getD_cons_zero,List.getD_cons_succ,Nat.reduceEqDiff,↓reduceIte]at hD hK |-)
    all_goals try(have q:=j4 ((hJ.gr.block _ S6.out.lt (by intro e;injection e with e;have:=S6.out.gy2;omega)).trans S6.out.ry);(try simp only [hD]at hK |-);go_simp;refine hK _ _ hJ ⟨World.grownBy.refl _ _,id⟩ ?_;first|exact rfl|exact jf _)
    ·go_simp
     refine(HU0.out w1).mono ?_
     exact mU
    ·exact mV
    ·simp only [hD]at hK |-
     obtain⟨A,c,e1,_⟩:∃A c,v 1=_/\_:=hF 1 (by simp)
     simp only [e1]at hK |-
     go_simp
     exact hK _ _ hJ ⟨World.grownBy.refl _ _,id⟩ ⟨A,c,e1,rfl⟩
   case tail=>
    intro v w1 hJ hF hD
    simp only [jZ]at hD
    obtain⟨e0,e2,e5,e6, -⟩:=hD
    simp only [List.drop_succ_cons,List.drop_zero,jb,Act.put,Nat.zero_add,Nat.reduceAdd,List.setIfInBounds_toArray,List.set_cons_zero,List.set_cons_succ]
    obtain⟨A7,c7,e1,hu⟩:∃A c,v 1=_/\_:=hF 1 (by simp)
    obtain⟨A8,c8,e1b,e4⟩:∃A c,v 1=_/\v 4=_:=hF 4 (by simp)
    obtain⟨rfl,_,rfl⟩:=Value.slice.inj (e1.symm.trans e1b)
    have h8:w1.heap[w.heap.size+1]?=some (.cells #[.int .i64 X.kd,.slice sB X.sec.length sd,.int .i64 X.pr,.int .i64 (X.st+1),.slice nB X.non.length nd,.int .i64 X.x,.int .i64 X.g,.int .i64 X.own,.int .i64 X.oth,.slice aB X.k1.length ad,.slice bB X.k2.length bd,.int .i64 X.ct] 48 (0,0)):=hF 3 (by simp)
    simp only [e0,e1,e2,e4,e5,e6]
    have HP7:=iH hJ;have HU:=iH hu
    have y:=j4 h8
    clear hJ hF hu h8 e0 e1 e1b e2 e4 e5 e6
    go_wp2_with fail
    refine bodyPost_ret (v:=.tuple #[.agg #[.int .i64 X.kd,.slice sB X.sec.length sd,.int .i64 X.pr,.int .i64 (X.st+1),.slice nB X.non.length nd,.int .i64 X.x,.int .i64 X.g,.int .i64 X.own,.int .i64 X.oth,.slice aB X.k1.length ad,.slice bB X.k2.length bd,.int .i64 X.ct],.slice A7 U.length c7,.slice eB s.length ed,.int .i64 0]) (by simp [results,Tryz.results36,go_sem,y]) rfl ?_
    have hfin:∀ {u:Value} {m:List UInt8},BsS w6 (j7 (w.heap.size+1) w6) u m->Bs w1 w1.heap.size u m:=fun {u m} h=>(h.grownP HP7.out.gr).loB
    have hbel:Below w.heap.size w w1:=S6.out.bel.trans (HP7.out.bel.mono (Nat.le_succ _))
    exact m6
 have b0:(X.st==0)=false:=by simp [q]
 have HQ0:=iH q
 have HVC:Hid (∀v w,Bs w w.heap.size v B->Calls Tryz.prog 78 #[v,.int .i64 (126+2*X.st),.int .i64 (JB X.pr X.st true)] w fun e w'=>∃v',e=.returned (.tuple #[v',.bool IB])/\BsS w' (New w w') v' VB/\Below w.heap.size w w'):=iH (fun v w h=>by
  have h:=j3q X (by have:=HST.out;omega) B v w h
  rw [HV.out]at h
  unfold ValOut at h
  rw [HVB.out,HIB.out]at h
  exact h)
 clear q
 go_upto_region 12 with fail
 clear f g
 refine j9 15 [some 52,some 53,some 54,some 55,some 56,some 57,some 58,some 59,some 60,some 61,some 51,some 62,some 63,some 12,some 13] [[],[],[1],[1,2],[1,2,3],[],[],[6],[5,6,7],[0,1,2,3,4,5,6,7,8],[0,1,2,3,4,5,6,7,8,9],[0,1,2,3,4,5,6,7,8,9,10],[0,1,2,3,4,5,6,7,8,9,10],[0,1,2,3,4,5,6,7,8,9,10,11],[0,1,2,3,4,5,6,7,8,9,10,11,12,13]]
  (fun _ _ w1=>Below w6.heap.size w6 w1) (fun w1 w2=>Below w1.heap.size w1 w2)
  [.v (.slice vA B.length vc),
   .v (.pointer (some ⟨w.heap.size,3,none⟩)),
   .v (.int .i64 X.st),
   .v (.int .i64 (2*X.st)),
   .v (.int .i64 (126+2*X.st)),
   .v (.agg #[.int .i64 X.kd,.slice sA X.sec.length sc,.int .i64 X.pr,.int .i64 X.st,.slice nA X.non.length nc,.int .i64 X.x,.int .i64 X.g,.int .i64 X.own,.int .i64 X.oth,.slice aA X.k1.length ac,.slice bA X.k2.length bc,.int .i64 X.ct]),
   .v (.pointer (some ⟨w.heap.size,3,none⟩)),
   .v (.int .i64 X.st),
   .v (.int .i64 (JB X.pr X.st true)),
   .p (fun v w1=>∃A9 c9,v 9=.tuple #[.slice A9 (List.length VB) c9,.bool IB]/\BsS w1 (New w6 w1) (.slice A9 (List.length VB) c9) VB) (fun _ _ _ _ _ hr ⟨A,c,h1,h2⟩=>⟨A,c,h1,h2.keep fun g hg hl=>⟨hr.block g hl,hg.1,iZ hl hr.size⟩⟩),
   .q fun v=>∃A9 c9,v 9=.tuple #[.slice A9 (List.length VB) c9,.bool IB]/\v 10=.tuple #[.slice A9 (List.length VB) c9,.bool IB],
   .q fun v=>∃A9 c9,v 9=.tuple #[.slice A9 (List.length VB) c9,.bool IB]/\v 11=.slice A9 (List.length VB) c9,
   .q fun v=>v 12=.bool IB,
   .q fun v=>∃A9 c9,v 9=.tuple #[.slice A9 (List.length VB) c9,.bool IB]/\v 13=.slice A9 (List.length VB) c9,
   .q fun v=>v 14=.bool IB]
  (by kernel_rfl) (by kernel_rfl) rfl (fun _=>iB.drew) ?stepsv ?tailv
 case stepsv=>
  simp only [List.take_succ_cons,List.take_zero]
  repeat' (with_reducible first|exact StepsRG.nil|refine StepsRG.cons ?_ ?_)
  all_goals(intro L v w1 hJ hL hF hD K hK;simp only [jb,Act.put,Nat.zero_add,Nat.reduceAdd,List.setIfInBounds_toArray,List.set_cons_zero,List.set_cons_succ,↓jP,List.getD_cons_zero,List.getD_cons_succ,Nat.reduceEqDiff,↓reduceIte]at hD hK |-)
  all_goals try(have q:=j4 ((hJ.block _ (lt_of_block S6.out.rx)).trans S6.out.rx);(try simp only [hD]at hK |-);go_simp;refine hK _ _ hJ iB ?_;first|exact rfl|exact jf _|exact xu (by have:=HST.out;omega))
  ·simp only [hD]at hK |-
   go_simp
   refine(Qa X sA nA aA bA sc nc ac bc X.st true w1).mono ?_
   rintro e wk ⟨rfl,hb⟩
   exact hK _ _ (hJ.trans (hb.mono hJ.size)) hb rfl
  ·simp only [hD]at hK |-
   go_simp
   refine(HVC.out _ w1 (Bs.lift (S6.out.lo 9 rfl) hJ)).mono ?_
   rintro e wk ⟨v9,rfl,hs,hb⟩
   obtain⟨A9,c9,hp⟩:=Bs.formL hs
   subst hp
   exact hK _ _ (hJ.trans (hb.mono hJ.size)) hb ⟨_,_,rfl,hs.keep fun g hg _=>⟨rfl,Nat.le_trans hJ.size hg.1,hg.2⟩⟩
  ·simp only [hD]at hK |-
   obtain⟨A9,c9,e9,_⟩:∃A9 c9,v 9=_/\_:=hF 9 (by simp)
   simp only [e9]at hK |-
   exact mJ
  ·simp only [hD]at hK |-
   obtain⟨A9,c9,e9,e10⟩:∃A9 c9,v 9=_/\v 10=_:=hF 10 (by simp)
   simp only [e9,e10]at hK |-
   exact mJ
  ·simp only [hD]at hK |-
   obtain⟨A9,c9,e9,e10⟩:∃A9 c9,v 9=_/\v 10=_:=hF 10 (by simp)
   simp only [e9,e10]at hK |-
   go_simp
   exact hK _ _ hJ iB rfl
  ·simp only [hD]at hK |-
   obtain⟨A9,c9,e9,e11⟩:∃A9 c9,v 9=_/\v 11=_:=hF 11 (by simp)
   simp only [e9,e11]at hK |-
   exact mJ
  ·simp only [hD]at hK |-
   have e12:v 12=_:=hF 12 (by simp)
   simp only [e12]at hK |-
   go_simp
   exact hK _ _ hJ iB rfl
 intro v w1 hJ hF hD
 simp only [jZ]at hD
 obtain⟨e0,e1,e2,e3,e4,e5,e6,e7,e8, -⟩:=hD
 simp only [List.drop_succ_cons,List.drop_zero,jb,Act.put,Nat.zero_add,Nat.reduceAdd,List.setIfInBounds_toArray,List.set_cons_zero,List.set_cons_succ]
 obtain⟨A9,c9,e9,hs⟩:∃A9 c9,v 9=_/\_:=hF 9 (by simp)
 obtain⟨A8,c8,e9b,e13⟩:∃A8 c8,v 9=_/\v 13=_:=hF 13 (by simp)
 have hq:=Yt (e9.symm.trans e9b)
 obtain⟨rfl,_,rfl⟩:=Value.slice.inj hq
 have e14:v 14=_:=hF 14 (by simp)
 obtain⟨A7,c7,_,e11⟩:∃A7 c7,v 9=_/\v 11=_:=hF 11 (by simp)
 have e12:v 12=_:=hF 12 (by simp)
 obtain⟨A6,c6,_,e10⟩:∃A6 c6,v 9=_/\v 10=_:=hF 10 (by simp)
 simp only [e0,e1,e2,e3,e4,e5,e6,e7,e8,e9,e10,e11,e12,e13,e14]
 have S7:=iH ((S6.out.on hJ).add S6.out.lt hs)
 clear hJ hF hs hq e0 e1 e2 e3 e4 e5 e6 e7 e8 e9 e9b e10 e11 e12 e13 e14
 obtain⟨w7,hwx⟩:∃z,z=w1:=⟨_,rfl⟩
 rw [<-hwx]at S7 |-
 clear hwx
 have f:=j4 S7.out.rx;have g:=j4 S7.out.ry
 rcases r with _|val
 ·obtain rfl:IB=false:=HIB.out.symm
  have R:Hid (jn X B s=jI 1):=iH (by have hus:=HUS.out;have hst:=HST.out;have q:=HQ0.out;unfold jn;rw [iF (by omega),iF (by rw [hus];simp),iF (by omega),HV.out])
  go_upto_region 14 with fail
  clear f g;have z:=j4 S7.out.rz
  go_wp2_with fail
  have y:=j4 ((PtW.start S7.out.rz).set12 (.int .i64 0) (.slice none 0 0) (.int .i64 0) (.int .i64 0) (.slice none 0 0) (.int .i64 0) (.int .i64 0) (.int .i64 0) (.int .i64 0) (.slice none 0 0) (.slice none 0 0) (.int .i64 0)).1
  have hbel:=iH (S7.out.bel.trans (Below.mono (((PtW.start S7.out.rz).set12 (.int .i64 0) (.slice none 0 0) (.int .i64 0) (.int .i64 0) (.slice none 0 0) (.int .i64 0) (.int .i64 0) (.int .i64 0) (.int .i64 0) (.slice none 0 0) (.slice none 0 0) (.int .i64 0)).2.2) (Nat.le_succ _)))
  exact m0l
 obtain rfl:IB=true:=HIB.out.symm
 obtain rfl:val=VB:=HVB.out
 have hq:X.st=1\/X.st=2\/X.st=3\/X.st=4:=by have:=HST.out;have:=HQ0.out;omega
 clear HIB HVB HVC HQ0
 rcases hq with q|q|q|q
 ·have hus:=HUS.out;have hv:=HV.out
  obtain⟨N,hN⟩:∃N,zH (kS X.kd X.sec) Z16 val=N:=⟨_,rfl⟩
  have hl16:val.length=16:=Zf q hv
  have hNl:N.length=16:=by rw [<-hN];exact j4h _ _ hl16
  have hp:vPw X.kd X.sec=true:=(qF hus).1
  have hrv:Zg X.kd X.sec val=(0,N):=by
   unfold Zg
   rw [iF (by rw [hp];simp),iF (by omega),hN]
  have HRV:=iH hrv
  have b1:(X.st==1)=true:=by simp;omega
  have HNL:=iH hNl
  have HQX:=iH q
  clear hus hv q hN hl16 hNl hp hrv
  go_upto_region 23 with (go_at_call 21;refine(Yc X.kd X.sec sA sc val A9 c9 w7 (HK.out.below S7.out.bel HK.out.lt) (S7.out.lo 6 rfl) (S7.out.lo 0 rfl)).mono ?_;rw [HRV.out];rintro e w8 ⟨v10,rfl,hs,hb⟩;obtain⟨A10,c10,hp⟩:=Bs.formL hs;subst hp;have S8:=iH ((S7.out.on hb).add S7.out.lt hs);clear f g;clear hb hs;have f:=j4 S8.out.rx;have g:=j4 S8.out.ry)
  obtain⟨w9,hw⟩:∃z,z=w8.setCell ⟨gy,4,none⟩ (.slice A10 N.length c10):=⟨_,rfl⟩
  rw [<-hw]
  have S9:Hid (RS w gy _ #[.int .i64 X.kd,.slice sB X.sec.length sd,.int .i64 X.pr,.int .i64 (X.st+1),.slice A10 N.length c10,.int .i64 X.x,.int .i64 X.g,.int .i64 X.own,.int .i64 X.oth,.slice aB X.k1.length ad,.slice bB X.k2.length bd,.int .i64 X.ct] _ w9):=iH (by rw [hw];exact S8.out.set 4 _)
  clear f g;clear hw
  have f:=j4 S9.out.rx;have g:=j4 S9.out.ry
  skip
  clear f g;have f:=j4 S9.out.rx;have g:=j4 S9.out.ry
  have q:=HQX.out;have hrv:=HRV.out;have hNl:=HNL.out
  have hus:=HUS.out;have hv:=HV.out
  obtain⟨SD,hSD⟩:∃l,sdW s=l:=⟨_,rfl⟩
  obtain⟨DN,hDN⟩:∃l,js s 16=l:=⟨_,rfl⟩
  obtain⟨SK,hKK⟩:∃k,jY s=k:=⟨_,rfl⟩
  have DRW:=iH (xP s DN SD hDN hSD HL.out)
  have SEC:=iH (qp s SD SK hKK hSD HL.out)
  have hDL:DN.length=16:=by rw [<-hDN];exact xd s
  have hKI:0<=SK/\SK<=1073741789:=by rw [<-hKK];exact Jf s
  by_cases hp3:X.pr=3
  ·obtain⟨gi,hi⟩:∃g,yG N DN=(0,g):=⟨_,by unfold yG;rw [iF (fun x=>x ⟨hNl,hDL⟩)]⟩
   have HI:=iH hi
   have tp:(X.pr==3)=true:=by simp [hp3]
   obtain⟨U,hU⟩:∃U,jE 129 DN=U:=⟨_,rfl⟩
   have HWR:Hid (∀(A:Option Addr) (c:Nat) (W:World),Bs W W.heap.size (.slice A DN.length c) DN->Calls Tryz.prog 86 #[.int .i64 (127+2*X.st),.slice A DN.length c] W (xw U W)):=iH (by rw [show 127+2*X.st=129 by omega,<-hU];exact fun A c W h=>ql 129 ⟨by omega,by omega⟩ A c DN W h)
   have R:Hid (jn X B s=(0,⟨X.kd,X.sec,X.pr,X.st+1,N,X.x,gi,X.own,X.oth,X.k1,X.k2,X.ct⟩,U,SD)):=iH (by unfold jn;rw [iF (by omega),iF (by rw [hus];simp),iF (by omega),hv];simp only [];rw [iT q,iT hp3,hrv,hDN];simp only [];rw [hi,hSD,hU,q]<;>rfl)
   clear hus hv q hU hi hp3 hNl hrv hSD hDN hKK hDL hKI
   go_upto_region 25 with (go_at_call 80;refine(DRW.out _ w9 (HK.out.below S9.out.bel HK.out.lt) (S9.out.lo 12 rfl)).mono ?_;rintro e w10 ⟨A11,c11,B9,d9,rfl,h1,h2,hb⟩;have S10:=iH (((S9.out.on hb).add S9.out.lt h2).add S9.out.lt h1);clear f g;clear hb h2 h1;have f:=j4 S10.out.rx;have g:=j4 S10.out.ry)
   go_upto_region 47 with (go_at_call 28;refine(Q8 N DN _ _ w10 (HK.out.below S10.out.bel HK.out.lt) (S10.out.lo 2 rfl) (S10.out.lo 0 rfl)).mono ?_;rw [HI.out];rintro e w11 ⟨rfl,hb⟩;have S11:=iH (S10.out.on hb);clear f g;clear hb;have f:=j4 S11.out.rx;have g:=j4 S11.out.ry)
   obtain⟨w12,hw⟩:∃z,z=w11.setCell ⟨gy,6,none⟩ (.int .i64 gi):=⟨_,rfl⟩
   rw [<-hw]
   have S12:Hid (RS w gy _ #[.int .i64 X.kd,.slice sB X.sec.length sd,.int .i64 X.pr,.int .i64 (X.st+1),.slice A10 N.length c10,.int .i64 X.x,.int .i64 gi,.int .i64 X.own,.int .i64 X.oth,.slice aB X.k1.length ad,.slice bB X.k2.length bd,.int .i64 X.ct] _ w12):=iH (by rw [hw];exact S11.out.set 6 _)
   clear f g;clear hw
   have f:=j4 S12.out.rx;have g:=j4 S12.out.ry
   clear f g;have D9:=iH (S12.out.offP 0 rfl);have N9:=iH (S12.out.offP 1 rfl);have L0:=iH (S12.out.offP 5 rfl);have L1:=iH (S12.out.offP 2 rfl);have L2:=iH (S12.out.offP 7 rfl);have L3:=iH (S12.out.offP 8 rfl)
   refine j9 12 [some 184,some 185,some 186,some 187,some 188,some 189,some 190,some 191,none,some 7,some 8,some 9] [[],[],[1],[1,2],[1,2,3],[],[1,2,3,4,5],[],[0,1,2,3,4,5,6],[0,1,2,3,4,5,6,8],[0,1,2,3,4,5,6,7,8,9],[0,1,2,3,4,5,6,7,8,9,10]]
    (fun _ _ w1=>PtA (w.heap.size+1) w12 w1) (fun w1 w2=>RO (w.heap.size+1) #[.int .i64 X.kd,.slice sB X.sec.length sd,.int .i64 X.pr,.int .i64 (X.st+1),.slice A10 N.length c10,.int .i64 X.x,.int .i64 gi,.int .i64 X.own,.int .i64 X.oth,.slice aB X.k1.length ad,.slice bB X.k2.length bd,.int .i64 X.ct] w1 w2)
    [.v (.agg #[.int .i64 X.kd,.slice sB X.sec.length sd,.int .i64 X.pr,.int .i64 (X.st+1),.slice A10 N.length c10,.int .i64 X.x,.int .i64 gi,.int .i64 X.own,.int .i64 X.oth,.slice aB X.k1.length ad,.slice bB X.k2.length bd,.int .i64 X.ct]),
     .v (.pointer (some ⟨w.heap.size,3,none⟩)),
     .v (.int .i64 X.st),
     .v (.int .i64 (2*X.st)),
     .v (.int .i64 (127+2*X.st)),
     .v (.slice A11 DN.length c11),
     .p (fun v w1=>∃A c,v 6=.slice A U.length c/\BsS w1 (j7 (w.heap.size+1) w1) (.slice A U.length c) U) (fun _ _ _ _ _ hr ⟨A,c,h1,h2⟩=>⟨A,c,h1,h2.grownP hr.1⟩),
     .v (.slice B9 SD.length d9),
     .p (fun v w1=>w1.heap[w.heap.size+1]?=some (.cells #[.int .i64 X.kd,.slice sB X.sec.length sd,.int .i64 X.pr,.int .i64 (X.st+1),.slice A10 N.length c10,.int .i64 X.x,.int .i64 gi,.int .i64 X.own,.int .i64 X.oth,.slice aB X.k1.length ad,.slice bB X.k2.length bd,.int .i64 X.ct] 48 (0,0))) (fun _ _ _ _ _ hr h=>hr.2 h),
     .q fun v=>∃A c,v 6=.slice A U.length c/\v 9=.slice A U.length c,
     .v (.slice B9 SD.length d9),
     .v (.int .i64 0)]
    (by kernel_rfl) (by kernel_rfl) rfl (fun _=>⟨_,_,_,_,_,_,_,_,_,_,_,_,(PtW.start S12.out.rz).drew⟩) ?steps ?tail
   case steps=>
    simp only [List.take_succ_cons,List.take_zero]
    repeat' (with_reducible first|exact StepsRG.nil|refine StepsRG.cons ?_ ?_)
    all_goals(intro L v w1 hJ hL hF hD K hK;simp only [jb,Act.put,Nat.zero_add,Nat.reduceAdd,List.setIfInBounds_toArray,List.set_cons_zero,List.set_cons_succ,↓jP,List.getD_cons_zero,List.getD_cons_succ,Nat.reduceEqDiff,↓reduceIte]at hD hK |-)
    all_goals try(have q:=j4 ((hJ.gr.block _ S12.out.lt (by intro e;injection e with e;have:=S12.out.gy2;omega)).trans S12.out.ry);have q1x:=j4 ((hJ.gr.block _ (lt_of_block S12.out.rx) (by intro e;injection e with e;omega)).trans S12.out.rx);(try simp only [hD]at hK |-);go_simp;refine hK _ _ hJ ⟨World.grownBy.refl _ _,id⟩ ?_;first|exact rfl|exact jf _|exact xu (by have:=HST.out;omega))
    ·exact m8
    ·simp only [hD]at hK |-
     obtain⟨a0,a1,a2,a3,a4,a5,a6,a7,a8,a9,a10,a11,hp⟩:=hJ
     have q:=j4 hp.1
     have HJq:=iH hp
     clear hp hL hF
     go_simp
     exact hK undef _ ⟨_,_,_,_,_,_,_,_,_,_,_,_,HJq.out.set12 (.int .i64 X.kd) (.slice sB X.sec.length sd) (.int .i64 X.pr) (.int .i64 (X.st+1)) (.slice A10 N.length c10) (.int .i64 X.x) (.int .i64 gi) (.int .i64 X.own) (.int .i64 X.oth) (.slice aB X.k1.length ad) (.slice bB X.k2.length bd) (.int .i64 X.ct)⟩ ⟨((PtW.start HJq.out.1).set12 (.int .i64 X.kd) (.slice sB X.sec.length sd) (.int .i64 X.pr) (.int .i64 (X.st+1)) (.slice A10 N.length c10) (.int .i64 X.x) (.int .i64 gi) (.int .i64 X.own) (.int .i64 X.oth) (.slice aB X.k1.length ad) (.slice bB X.k2.length bd) (.int .i64 X.ct)).2.1,fun _=>((PtW.start HJq.out.1).set12 (.int .i64 X.kd) (.slice sB X.sec.length sd) (.int .i64 X.pr) (.int .i64 (X.st+1)) (.slice A10 N.length c10) (.int .i64 X.x) (.int .i64 gi) (.int .i64 X.own) (.int .i64 X.oth) (.slice aB X.k1.length ad) (.slice bB X.k2.length bd) (.int .i64 X.ct)).1⟩ ((PtW.start HJq.out.1).set12 (.int .i64 X.kd) (.slice sB X.sec.length sd) (.int .i64 X.pr) (.int .i64 (X.st+1)) (.slice A10 N.length c10) (.int .i64 X.x) (.int .i64 gi) (.int .i64 X.own) (.int .i64 X.oth) (.slice aB X.k1.length ad) (.slice bB X.k2.length bd) (.int .i64 X.ct)).1
    ·exact m7
   case tail=>
    intro v w1 hJ hF hD
    simp only [jZ]at hD
    obtain⟨e0,e1,e2,e3,e4,e5,e7,e10,e11, -⟩:=hD
    simp only [List.drop_succ_cons,List.drop_zero,jb,Act.put,Nat.zero_add,Nat.reduceAdd,List.setIfInBounds_toArray,List.set_cons_zero,List.set_cons_succ]
    obtain⟨A7,c7,e6,hu⟩:∃A c,v 6=_/\_:=hF 6 (by simp)
    obtain⟨A8x,c8x,e6b,e9⟩:∃A c,v 6=_/\v 9=_:=hF 9 (by simp)
    obtain⟨rfl,_,rfl⟩:=Value.slice.inj (e6.symm.trans e6b)
    have h8:w1.heap[w.heap.size+1]?=some (.cells #[.int .i64 X.kd,.slice sB X.sec.length sd,.int .i64 X.pr,.int .i64 (X.st+1),.slice A10 N.length c10,.int .i64 X.x,.int .i64 gi,.int .i64 X.own,.int .i64 X.oth,.slice aB X.k1.length ad,.slice bB X.k2.length bd,.int .i64 X.ct] 48 (0,0)):=hF 8 (by simp)
    simp only [e0,e1,e2,e3,e4,e5,e6,e7,e9,e10,e11]
    have HP7:=iH hJ;have HU:=iH hu
    have y:=j4 h8
    clear hJ hF hu h8 e0 e1 e2 e3 e4 e5 e6 e6b e7 e9 e10 e11
    go_wp2_with fail
    refine bodyPost_ret (v:=.tuple #[.agg #[.int .i64 X.kd,.slice sB X.sec.length sd,.int .i64 X.pr,.int .i64 (X.st+1),.slice A10 N.length c10,.int .i64 X.x,.int .i64 gi,.int .i64 X.own,.int .i64 X.oth,.slice aB X.k1.length ad,.slice bB X.k2.length bd,.int .i64 X.ct],.slice A7 U.length c7,.slice B9 SD.length d9,.int .i64 0]) (by simp [results,Tryz.results36,go_sem,y]) rfl ?_
    have hfin:∀ {u:Value} {m:List UInt8},BsS w12 (j7 (w.heap.size+1) w12) u m->Bs w1 w1.heap.size u m:=fun {u m} h=>(h.grownP HP7.out.gr).loB
    have hbel:Below w.heap.size w w1:=S12.out.bel.trans (HP7.out.bel.mono (Nat.le_succ _))
    exact m6
  ·have tp:(X.pr==3)=false:=by simp [hp3]
   obtain⟨G,hG⟩:∃g,jN 4 SK=g:=⟨_,rfl⟩
   have hgi:=zG 4 SK
   rw [hG]at hgi
   have HPW:=iH (Kk 4 SK ⟨by omega,by omega⟩ hKI)
   rw [hG]at HPW
   have HEN:=iH (zK G hgi)
   obtain⟨U,hU⟩:∃U,jE 129 (jc G)=U:=⟨_,rfl⟩
   have HWR:Hid (∀(A:Option Addr) (c:Nat) (W:World),Bs W W.heap.size (.slice A 4 c) (jc G)->Calls Tryz.prog 86 #[.int .i64 (127+2*X.st),.slice A 4 c] W (xw U W)):=iH (by rw [show 127+2*X.st=129 by omega,<-hU];exact fun A c W h=>ql 129 ⟨by omega,by omega⟩ A c (jc G) W h)
   have R:Hid (jn X B s=(0,⟨X.kd,X.sec,X.pr,X.st+1,N,SK,X.g,X.own,X.oth,X.k1,X.k2,X.ct⟩,U,SD)):=iH (by unfold jn;rw [iF (by omega),iF (by rw [hus];simp),iF (by omega),hv];simp only [];rw [iT q,iF hp3,hrv,hKK,hG,hSD,hU,q]<;>rfl)
   clear hus hv q hU hp3 hNl hrv hSD hDN hKK hDL hKI hG hgi
   go_upto_region 27 with (go_at_call 82;refine(SEC.out _ w9 (HK.out.below S9.out.bel HK.out.lt) (S9.out.lo 12 rfl)).mono ?_;rintro e w10 ⟨B9,d9,rfl,h2,hb⟩;have S10:=iH ((S9.out.on hb).add S9.out.lt h2);clear f g;clear hb h2;have f:=j4 S10.out.rx;have g:=j4 S10.out.ry)
   obtain⟨w11,hw⟩:∃z,z=w10.setCell ⟨gy,5,none⟩ (.int .i64 SK):=⟨_,rfl⟩
   rw [<-hw]
   have S11:Hid (RS w gy _ #[.int .i64 X.kd,.slice sB X.sec.length sd,.int .i64 X.pr,.int .i64 (X.st+1),.slice A10 N.length c10,.int .i64 SK,.int .i64 X.g,.int .i64 X.own,.int .i64 X.oth,.slice aB X.k1.length ad,.slice bB X.k2.length bd,.int .i64 X.ct] _ w11):=iH (by rw [hw];exact S10.out.set 5 _)
   clear f g;clear hw
   have f:=j4 S11.out.rx;have g:=j4 S11.out.ry
   go_upto_region 47 with (first|(go_at_call 83;refine(HEN.out _).mono ?_;rintro e w12 ⟨A12,c12,rfl,hs,hb⟩;have S12:=iH ((S11.out.on hb).add S11.out.lt hs);clear f g;clear hb hs;have f:=j4 S12.out.rx;have g:=j4 S12.out.ry)|(go_at_call 61;refine(HPW.out _).mono ?_;rintro e w' ⟨rfl,hw⟩;rw [hw];clear hw w'))
   clear f g;have D9:=iH (S12.out.offP 0 rfl);have N9:=iH (S12.out.offP 1 rfl);have L0:=iH (S12.out.offP 5 rfl);have L1:=iH (S12.out.offP 2 rfl);have L2:=iH (S12.out.offP 7 rfl);have L3:=iH (S12.out.offP 8 rfl)
   refine j9 12 [some 184,some 185,some 186,some 187,some 188,some 189,some 190,some 191,none,some 7,some 8,some 9] [[],[],[1],[1,2],[1,2,3],[],[1,2,3,4,5],[],[0,1,2,3,4,5,6],[0,1,2,3,4,5,6,8],[0,1,2,3,4,5,6,7,8,9],[0,1,2,3,4,5,6,7,8,9,10]]
    (fun _ _ w1=>PtA (w.heap.size+1) w12 w1) (fun w1 w2=>RO (w.heap.size+1) #[.int .i64 X.kd,.slice sB X.sec.length sd,.int .i64 X.pr,.int .i64 (X.st+1),.slice A10 N.length c10,.int .i64 SK,.int .i64 X.g,.int .i64 X.own,.int .i64 X.oth,.slice aB X.k1.length ad,.slice bB X.k2.length bd,.int .i64 X.ct] w1 w2)
    [.v (.agg #[.int .i64 X.kd,.slice sB X.sec.length sd,.int .i64 X.pr,.int .i64 (X.st+1),.slice A10 N.length c10,.int .i64 SK,.int .i64 X.g,.int .i64 X.own,.int .i64 X.oth,.slice aB X.k1.length ad,.slice bB X.k2.length bd,.int .i64 X.ct]),
     .v (.pointer (some ⟨w.heap.size,3,none⟩)),
     .v (.int .i64 X.st),
     .v (.int .i64 (2*X.st)),
     .v (.int .i64 (127+2*X.st)),
     .v (.slice A12 4 c12),
     .p (fun v w1=>∃A c,v 6=.slice A U.length c/\BsS w1 (j7 (w.heap.size+1) w1) (.slice A U.length c) U) (fun _ _ _ _ _ hr ⟨A,c,h1,h2⟩=>⟨A,c,h1,h2.grownP hr.1⟩),
     .v (.slice B9 SD.length d9),
     .p (fun v w1=>w1.heap[w.heap.size+1]?=some (.cells #[.int .i64 X.kd,.slice sB X.sec.length sd,.int .i64 X.pr,.int .i64 (X.st+1),.slice A10 N.length c10,.int .i64 SK,.int .i64 X.g,.int .i64 X.own,.int .i64 X.oth,.slice aB X.k1.length ad,.slice bB X.k2.length bd,.int .i64 X.ct] 48 (0,0))) (fun _ _ _ _ _ hr h=>hr.2 h),
     .q fun v=>∃A c,v 6=.slice A U.length c/\v 9=.slice A U.length c,
     .v (.slice B9 SD.length d9),
     .v (.int .i64 0)]
    (by kernel_rfl) (by kernel_rfl) rfl (fun _=>⟨_,_,_,_,_,_,_,_,_,_,_,_,(PtW.start S12.out.rz).drew⟩) ?steps ?tail
   case steps=>
    simp only [List.take_succ_cons,List.take_zero]
    repeat' (with_reducible first|exact StepsRG.nil|refine StepsRG.cons ?_ ?_)
    all_goals(intro L v w1 hJ hL hF hD K hK;simp only [jb,Act.put,Nat.zero_add,Nat.reduceAdd,List.setIfInBounds_toArray,List.set_cons_zero,List.set_cons_succ,↓jP,List.getD_cons_zero,List.getD_cons_succ,Nat.reduceEqDiff,↓reduceIte]at hD hK |-)
    all_goals try(have q:=j4 ((hJ.gr.block _ S12.out.lt (by intro e;injection e with e;have:=S12.out.gy2;omega)).trans S12.out.ry);have q1x:=j4 ((hJ.gr.block _ (lt_of_block S12.out.rx) (by intro e;injection e with e;omega)).trans S12.out.rx);(try simp only [hD]at hK |-);go_simp;refine hK _ _ hJ ⟨World.grownBy.refl _ _,id⟩ ?_;first|exact rfl|exact jf _|exact xu (by have:=HST.out;omega))
    ·exact m8
    ·simp only [hD]at hK |-
     obtain⟨a0,a1,a2,a3,a4,a5,a6,a7,a8,a9,a10,a11,hp⟩:=hJ
     have q:=j4 hp.1
     have HJq:=iH hp
     clear hp hL hF
     go_simp
     exact hK undef _ ⟨_,_,_,_,_,_,_,_,_,_,_,_,HJq.out.set12 (.int .i64 X.kd) (.slice sB X.sec.length sd) (.int .i64 X.pr) (.int .i64 (X.st+1)) (.slice A10 N.length c10) (.int .i64 SK) (.int .i64 X.g) (.int .i64 X.own) (.int .i64 X.oth) (.slice aB X.k1.length ad) (.slice bB X.k2.length bd) (.int .i64 X.ct)⟩ ⟨((PtW.start HJq.out.1).set12 (.int .i64 X.kd) (.slice sB X.sec.length sd) (.int .i64 X.pr) (.int .i64 (X.st+1)) (.slice A10 N.length c10) (.int .i64 SK) (.int .i64 X.g) (.int .i64 X.own) (.int .i64 X.oth) (.slice aB X.k1.length ad) (.slice bB X.k2.length bd) (.int .i64 X.ct)).2.1,fun _=>((PtW.start HJq.out.1).set12 (.int .i64 X.kd) (.slice sB X.sec.length sd) (.int .i64 X.pr) (.int .i64 (X.st+1)) (.slice A10 N.length c10) (.int .i64 SK) (.int .i64 X.g) (.int .i64 X.own) (.int .i64 X.oth) (.slice aB X.k1.length ad) (.slice bB X.k2.length bd) (.int .i64 X.ct)).1⟩ ((PtW.start HJq.out.1).set12 (.int .i64 X.kd) (.slice sB X.sec.length sd) (.int .i64 X.pr) (.int .i64 (X.st+1)) (.slice A10 N.length c10) (.int .i64 SK) (.int .i64 X.g) (.int .i64 X.own) (.int .i64 X.oth) (.slice aB X.k1.length ad) (.slice bB X.k2.length bd) (.int .i64 X.ct)).1
    ·exact m7
   case tail=>
    intro v w1 hJ hF hD
    simp only [jZ]at hD
    obtain⟨e0,e1,e2,e3,e4,e5,e7,e10,e11, -⟩:=hD
    simp only [List.drop_succ_cons,List.drop_zero,jb,Act.put,Nat.zero_add,Nat.reduceAdd,List.setIfInBounds_toArray,List.set_cons_zero,List.set_cons_succ]
    obtain⟨A7,c7,e6,hu⟩:∃A c,v 6=_/\_:=hF 6 (by simp)
    obtain⟨A8x,c8x,e6b,e9⟩:∃A c,v 6=_/\v 9=_:=hF 9 (by simp)
    obtain⟨rfl,_,rfl⟩:=Value.slice.inj (e6.symm.trans e6b)
    have h8:w1.heap[w.heap.size+1]?=some (.cells #[.int .i64 X.kd,.slice sB X.sec.length sd,.int .i64 X.pr,.int .i64 (X.st+1),.slice A10 N.length c10,.int .i64 SK,.int .i64 X.g,.int .i64 X.own,.int .i64 X.oth,.slice aB X.k1.length ad,.slice bB X.k2.length bd,.int .i64 X.ct] 48 (0,0)):=hF 8 (by simp)
    simp only [e0,e1,e2,e3,e4,e5,e6,e7,e9,e10,e11]
    have HP7:=iH hJ;have HU:=iH hu
    have y:=j4 h8
    clear hJ hF hu h8 e0 e1 e2 e3 e4 e5 e6 e6b e7 e9 e10 e11
    go_wp2_with fail
    refine bodyPost_ret (v:=.tuple #[.agg #[.int .i64 X.kd,.slice sB X.sec.length sd,.int .i64 X.pr,.int .i64 (X.st+1),.slice A10 N.length c10,.int .i64 SK,.int .i64 X.g,.int .i64 X.own,.int .i64 X.oth,.slice aB X.k1.length ad,.slice bB X.k2.length bd,.int .i64 X.ct],.slice A7 U.length c7,.slice B9 SD.length d9,.int .i64 0]) (by simp [results,Tryz.results36,go_sem,y]) rfl ?_
    have hfin:∀ {u:Value} {m:List UInt8},BsS w12 (j7 (w.heap.size+1) w12) u m->Bs w1 w1.heap.size u m:=fun {u m} h=>(h.grownP HP7.out.gr).loB
    have hbel:Below w.heap.size w w1:=S12.out.bel.trans (HP7.out.bel.mono (Nat.le_succ _))
    exact m6
 ·have hus:=HUS.out;have hv:=HV.out
  by_cases hp3:X.pr=3
  ·have hg:=((qF hus).2.2.1 q).2.2 hp3
   have tq:(X.pr==2)=false:=by simp [hp3]
   have hn2:¬X.pr=2:=by omega
   obtain⟨SD,hSD⟩:∃l,sdW s=l:=⟨_,rfl⟩
   obtain⟨DN,hDN⟩:∃l,js s 16=l:=⟨_,rfl⟩
   obtain⟨SK,hKK⟩:∃k,jY s=k:=⟨_,rfl⟩
   have DRW:=iH (xP s DN SD hDN hSD HL.out)
   have SEC:=iH (qp s SD SK hKK hSD HL.out)
   have hDL:DN.length=16:=by rw [<-hDN];exact xd s
   have hKI:0<=SK/\SK<=1073741789:=by rw [<-hKK];exact Jf s
   obtain⟨OW,hOW⟩:∃g,jN X.g SK=g:=⟨_,rfl⟩
   have hgi:=zG X.g SK
   rw [hOW]at hgi
   have hxg:0<=X.g/\X.g<2147483579:=by have:=jD hg;omega
   have HPW:=iH (Kk X.g SK hxg hKI)
   rw [hOW]at HPW
   have HEN:=iH (zK OW hgi)
   obtain⟨U,hU⟩:∃U,jE 131 (jc OW)=U:=⟨_,rfl⟩
   have HWR:Hid (∀(A:Option Addr) (c:Nat) (W:World),Bs W W.heap.size (.slice A 4 c) (jc OW)->Calls Tryz.prog 86 #[.int .i64 (127+2*X.st),.slice A 4 c] W (xw U W)):=iH (by rw [show 127+2*X.st=131 by omega,<-hU];exact fun A c W h=>ql 131 ⟨by omega,by omega⟩ A c (jc OW) W h)
   have R:Hid (jn X B s=(0,⟨X.kd,X.sec,X.pr,X.st+1,X.non,SK,X.g,OW,X.oth,X.k1,X.k2,X.ct⟩,U,SD)):=iH (by unfold jn;rw [iF (by omega),iF (by rw [hus];simp),iF (by omega),hv];simp only [];rw [iF (by omega),iT q,iF (fun x=>hn2 x.1),iF (fun x=>hn2 x.1),iF hn2,hKK,hOW,hSD,hU,q]<;>rfl)
   have b1:(X.st==1)=false:=by simp;omega
   have b2:(X.st==2)=true:=by simp;omega
   clear hus hv q hp3 hn2 hg hSD hDN hKK hDL hKI hOW hgi hxg hU
   go_upto_region 37 with (go_at_call 82;refine(SEC.out _ w7 (HK.out.below S7.out.bel HK.out.lt) (S7.out.lo 11 rfl)).mono ?_;rintro e w8 ⟨B9,d9,rfl,h2,hb⟩;have S8:=iH ((S7.out.on hb).add S7.out.lt h2);clear f g;clear hb h2;have f:=j4 S8.out.rx;have g:=j4 S8.out.ry)
   obtain⟨w9,hw⟩:∃z,z=w8.setCell ⟨gy,5,none⟩ (.int .i64 SK):=⟨_,rfl⟩
   rw [<-hw]
   have S9:Hid (RS w gy _ #[.int .i64 X.kd,.slice sB X.sec.length sd,.int .i64 X.pr,.int .i64 (X.st+1),.slice nB X.non.length nd,.int .i64 SK,.int .i64 X.g,.int .i64 X.own,.int .i64 X.oth,.slice aB X.k1.length ad,.slice bB X.k2.length bd,.int .i64 X.ct] _ w9):=iH (by rw [hw];exact S8.out.set 5 _)
   clear f g;clear hw
   have f:=j4 S9.out.rx;have g:=j4 S9.out.ry
   go_upto_region 38 with (go_at_call 61;refine(HPW.out _).mono ?_;rintro e w' ⟨rfl,hw⟩;rw [hw];clear hw w')
   obtain⟨w10,hw⟩:∃z,z=w9.setCell ⟨gy,7,none⟩ (.int .i64 OW):=⟨_,rfl⟩
   rw [<-hw]
   have S10:Hid (RS w gy _ #[.int .i64 X.kd,.slice sB X.sec.length sd,.int .i64 X.pr,.int .i64 (X.st+1),.slice nB X.non.length nd,.int .i64 SK,.int .i64 X.g,.int .i64 OW,.int .i64 X.oth,.slice aB X.k1.length ad,.slice bB X.k2.length bd,.int .i64 X.ct] _ w10):=iH (by rw [hw];exact S9.out.set 7 _)
   clear f g;clear hw
   have f:=j4 S10.out.rx;have g:=j4 S10.out.ry
   go_upto_region 47 with (go_at_call 83;refine(HEN.out _).mono ?_;rintro e w11 ⟨A12,c12,rfl,hs,hb⟩;have S11:=iH ((S10.out.on hb).add S10.out.lt hs);clear f g;clear hb hs;have f:=j4 S11.out.rx;have g:=j4 S11.out.ry)
   clear f g;have D9:=iH (S11.out.offP 0 rfl);have N9:=iH (S11.out.offP 1 rfl);have L0:=iH (S11.out.offP 4 rfl);have L1:=iH (S11.out.offP 5 rfl);have L2:=iH (S11.out.offP 6 rfl);have L3:=iH (S11.out.offP 7 rfl)
   refine j9 12 [some 184,some 185,some 186,some 187,some 188,some 189,some 190,some 191,none,some 7,some 8,some 9] [[],[],[1],[1,2],[1,2,3],[],[1,2,3,4,5],[],[0,1,2,3,4,5,6],[0,1,2,3,4,5,6,8],[0,1,2,3,4,5,6,7,8,9],[0,1,2,3,4,5,6,7,8,9,10]]
    (fun _ _ w1=>PtA (w.heap.size+1) w11 w1) (fun w1 w2=>RO (w.heap.size+1) #[.int .i64 X.kd,.slice sB X.sec.length sd,.int .i64 X.pr,.int .i64 (X.st+1),.slice nB X.non.length nd,.int .i64 SK,.int .i64 X.g,.int .i64 OW,.int .i64 X.oth,.slice aB X.k1.length ad,.slice bB X.k2.length bd,.int .i64 X.ct] w1 w2)
    [.v (.agg #[.int .i64 X.kd,.slice sB X.sec.length sd,.int .i64 X.pr,.int .i64 (X.st+1),.slice nB X.non.length nd,.int .i64 SK,.int .i64 X.g,.int .i64 OW,.int .i64 X.oth,.slice aB X.k1.length ad,.slice bB X.k2.length bd,.int .i64 X.ct]),
     .v (.pointer (some ⟨w.heap.size,3,none⟩)),
     .v (.int .i64 X.st),
     .v (.int .i64 (2*X.st)),
     .v (.int .i64 (127+2*X.st)),
     .v (.slice A12 4 c12),
     .p (fun v w1=>∃A c,v 6=.slice A U.length c/\BsS w1 (j7 (w.heap.size+1) w1) (.slice A U.length c) U) (fun _ _ _ _ _ hr ⟨A,c,h1,h2⟩=>⟨A,c,h1,h2.grownP hr.1⟩),
     .v (.slice B9 SD.length d9),
     .p (fun v w1=>w1.heap[w.heap.size+1]?=some (.cells #[.int .i64 X.kd,.slice sB X.sec.length sd,.int .i64 X.pr,.int .i64 (X.st+1),.slice nB X.non.length nd,.int .i64 SK,.int .i64 X.g,.int .i64 OW,.int .i64 X.oth,.slice aB X.k1.length ad,.slice bB X.k2.length bd,.int .i64 X.ct] 48 (0,0))) (fun _ _ _ _ _ hr h=>hr.2 h),
     .q fun v=>∃A c,v 6=.slice A U.length c/\v 9=.slice A U.length c,
     .v (.slice B9 SD.length d9),
     .v (.int .i64 0)]
    (by kernel_rfl) (by kernel_rfl) rfl (fun _=>⟨_,_,_,_,_,_,_,_,_,_,_,_,(PtW.start S11.out.rz).drew⟩) ?steps ?tail
   case steps=>
    simp only [List.take_succ_cons,List.take_zero]
    repeat' (with_reducible first|exact StepsRG.nil|refine StepsRG.cons ?_ ?_)
    all_goals(intro L v w1 hJ hL hF hD K hK;simp only [jb,Act.put,Nat.zero_add,Nat.reduceAdd,List.setIfInBounds_toArray,List.set_cons_zero,List.set_cons_succ,↓jP,List.getD_cons_zero,List.getD_cons_succ,Nat.reduceEqDiff,↓reduceIte]at hD hK |-)
    all_goals try(have q:=j4 ((hJ.gr.block _ S11.out.lt (by intro e;injection e with e;have:=S11.out.gy2;omega)).trans S11.out.ry);have q1x:=j4 ((hJ.gr.block _ (lt_of_block S11.out.rx) (by intro e;injection e with e;omega)).trans S11.out.rx);(try simp only [hD]at hK |-);go_simp;refine hK _ _ hJ ⟨World.grownBy.refl _ _,id⟩ ?_;first|exact rfl|exact jf _|exact xu (by have:=HST.out;omega))
    ·exact m8
    ·simp only [hD]at hK |-
     obtain⟨a0,a1,a2,a3,a4,a5,a6,a7,a8,a9,a10,a11,hp⟩:=hJ
     have q:=j4 hp.1
     have HJq:=iH hp
     clear hp hL hF
     go_simp
     exact hK undef _ ⟨_,_,_,_,_,_,_,_,_,_,_,_,HJq.out.set12 (.int .i64 X.kd) (.slice sB X.sec.length sd) (.int .i64 X.pr) (.int .i64 (X.st+1)) (.slice nB X.non.length nd) (.int .i64 SK) (.int .i64 X.g) (.int .i64 OW) (.int .i64 X.oth) (.slice aB X.k1.length ad) (.slice bB X.k2.length bd) (.int .i64 X.ct)⟩ ⟨((PtW.start HJq.out.1).set12 (.int .i64 X.kd) (.slice sB X.sec.length sd) (.int .i64 X.pr) (.int .i64 (X.st+1)) (.slice nB X.non.length nd) (.int .i64 SK) (.int .i64 X.g) (.int .i64 OW) (.int .i64 X.oth) (.slice aB X.k1.length ad) (.slice bB X.k2.length bd) (.int .i64 X.ct)).2.1,fun _=>((PtW.start HJq.out.1).set12 (.int .i64 X.kd) (.slice sB X.sec.length sd) (.int .i64 X.pr) (.int .i64 (X.st+1)) (.slice nB X.non.length nd) (.int .i64 SK) (.int .i64 X.g) (.int .i64 OW) (.int .i64 X.oth) (.slice aB X.k1.length ad) (.slice bB X.k2.length bd) (.int .i64 X.ct)).1⟩ ((PtW.start HJq.out.1).set12 (.int .i64 X.kd) (.slice sB X.sec.length sd) (.int .i64 X.pr) (.int .i64 (X.st+1)) (.slice nB X.non.length nd) (.int .i64 SK) (.int .i64 X.g) (.int .i64 OW) (.int .i64 X.oth) (.slice aB X.k1.length ad) (.slice bB X.k2.length bd) (.int .i64 X.ct)).1
    ·exact m7
   case tail=>
    intro v w1 hJ hF hD
    simp only [jZ]at hD
    obtain⟨e0,e1,e2,e3,e4,e5,e7,e10,e11, -⟩:=hD
    simp only [List.drop_succ_cons,List.drop_zero,jb,Act.put,Nat.zero_add,Nat.reduceAdd,List.setIfInBounds_toArray,List.set_cons_zero,List.set_cons_succ]
    obtain⟨A7,c7,e6,hu⟩:∃A c,v 6=_/\_:=hF 6 (by simp)
    obtain⟨A8x,c8x,e6b,e9⟩:∃A c,v 6=_/\v 9=_:=hF 9 (by simp)
    obtain⟨rfl,_,rfl⟩:=Value.slice.inj (e6.symm.trans e6b)
    have h8:w1.heap[w.heap.size+1]?=some (.cells #[.int .i64 X.kd,.slice sB X.sec.length sd,.int .i64 X.pr,.int .i64 (X.st+1),.slice nB X.non.length nd,.int .i64 SK,.int .i64 X.g,.int .i64 OW,.int .i64 X.oth,.slice aB X.k1.length ad,.slice bB X.k2.length bd,.int .i64 X.ct] 48 (0,0)):=hF 8 (by simp)
    simp only [e0,e1,e2,e3,e4,e5,e6,e7,e9,e10,e11]
    have HP7:=iH hJ;have HU:=iH hu
    have y:=j4 h8
    clear hJ hF hu h8 e0 e1 e2 e3 e4 e5 e6 e6b e7 e9 e10 e11
    go_wp2_with fail
    refine bodyPost_ret (v:=.tuple #[.agg #[.int .i64 X.kd,.slice sB X.sec.length sd,.int .i64 X.pr,.int .i64 (X.st+1),.slice nB X.non.length nd,.int .i64 SK,.int .i64 X.g,.int .i64 OW,.int .i64 X.oth,.slice aB X.k1.length ad,.slice bB X.k2.length bd,.int .i64 X.ct],.slice A7 U.length c7,.slice B9 SD.length d9,.int .i64 0]) (by simp [results,Tryz.results36,go_sem,y]) rfl ?_
    have hfin:∀ {u:Value} {m:List UInt8},BsS w11 (j7 (w.heap.size+1) w11) u m->Bs w1 w1.heap.size u m:=fun {u m} h=>(h.grownP HP7.out.gr).loB
    have hbel:Below w.heap.size w w1:=S11.out.bel.trans (HP7.out.bel.mono (Nat.le_succ _))
    exact m6
  have hp2:X.pr=2:=by have:=(qF hus).2.1;omega
  have tq:(X.pr==2)=true:=by simp [hp2]
  clear hp3
  obtain⟨⟨er,o⟩,hde⟩:∃r,jd val=r:=⟨_,rfl⟩
  by_cases he:er=0
  ·subst he
   obtain⟨⟨er,gi⟩,hg⟩:∃r,qQ X.non X.x o=r:=⟨_,rfl⟩
   by_cases he:er=0
   ·subst he
    obtain⟨SD,hSD⟩:∃l,sdW s=l:=⟨_,rfl⟩
    obtain⟨DN,hDN⟩:∃l,js s 16=l:=⟨_,rfl⟩
    obtain⟨SK,hKK⟩:∃k,jY s=k:=⟨_,rfl⟩
    have DRW:=iH (xP s DN SD hDN hSD HL.out)
    have SEC:=iH (qp s SD SK hKK hSD HL.out)
    have hDL:DN.length=16:=by rw [<-hDN];exact xd s
    have hKI:0<=SK/\SK<=1073741789:=by rw [<-hKK];exact Jf s
    have HDE:=iH hde
    have HGE:=iH hg
    have hge:=XM hg
    obtain⟨OW,hOW⟩:∃g,jN gi SK=g:=⟨_,rfl⟩
    have hgi:=zG gi SK
    rw [hOW]at hgi
    have hxg:0<=gi/\gi<2147483579:=by have:=jD hge;omega
    have HPW:=iH (Kk gi SK hxg hKI)
    rw [hOW]at HPW
    have HEN:=iH (zK OW hgi)
    obtain⟨U,hU⟩:∃U,jE 131 (jc OW)=U:=⟨_,rfl⟩
    have HWR:Hid (∀(A:Option Addr) (c:Nat) (W:World),Bs W W.heap.size (.slice A 4 c) (jc OW)->Calls Tryz.prog 86 #[.int .i64 (127+2*X.st),.slice A 4 c] W (xw U W)):=iH (by rw [show 127+2*X.st=131 by omega,<-hU];exact fun A c W h=>ql 131 ⟨by omega,by omega⟩ A c (jc OW) W h)
    have R:Hid (jn X B s=(0,⟨X.kd,X.sec,X.pr,X.st+1,X.non,SK,gi,OW,X.oth,X.k1,X.k2,X.ct⟩,U,SD)):=iH (by unfold jn;rw [iF (by omega),iF (by rw [hus];simp),iF (by omega),hv];simp only [];rw [iF (by omega),iT q,hde];simp only [];rw [hg,iF (by simp),iF (by simp),iT hp2,hKK,hOW,hSD,hU,q]<;>rfl)
    have b1:(X.st==1)=false:=by simp;omega
    have b2:(X.st==2)=true:=by simp;omega
    clear hus hv q hde hg hp2 hge hSD hDN hKK hDL hKI hOW hgi hxg hU
    go_upto_region 33 with (go_at_call 81;refine(jO val _ _ w7 (S7.out.at 0 rfl)).mono ?_;rw [HDE.out];rintro e w' ⟨rfl,hw⟩;rw [hw];clear hw w')
    clear f g;have f:=j4 S7.out.rx;have g:=j4 S7.out.ry
    go_upto_region 34 with (go_at_call 24;refine(qO X.non _ X.x o w7 (S7.out.lo 7 rfl)).mono ?_;rw [HGE.out];rintro e w' ⟨rfl,hw⟩;rw [hw];clear hw w')
    obtain⟨w8,hw⟩:∃z,z=w7.setCell ⟨gy,6,none⟩ (.int .i64 gi):=⟨_,rfl⟩
    rw [<-hw]
    have S8:Hid (RS w gy _ #[.int .i64 X.kd,.slice sB X.sec.length sd,.int .i64 X.pr,.int .i64 (X.st+1),.slice nB X.non.length nd,.int .i64 X.x,.int .i64 gi,.int .i64 X.own,.int .i64 X.oth,.slice aB X.k1.length ad,.slice bB X.k2.length bd,.int .i64 X.ct] _ w8):=iH (by rw [hw];exact S7.out.set 6 _)
    clear f g;clear hw
    have f:=j4 S8.out.rx;have g:=j4 S8.out.ry
    go_upto_region 37 with (go_at_call 82;refine(SEC.out _ w8 (HK.out.below S8.out.bel HK.out.lt) (S8.out.lo 11 rfl)).mono ?_;rintro e w9 ⟨B9,d9,rfl,h2,hb⟩;have S9:=iH ((S8.out.on hb).add S8.out.lt h2);clear f g;clear hb h2;have f:=j4 S9.out.rx;have g:=j4 S9.out.ry)
    obtain⟨w10,hw⟩:∃z,z=w9.setCell ⟨gy,5,none⟩ (.int .i64 SK):=⟨_,rfl⟩
    rw [<-hw]
    have S10:Hid (RS w gy _ #[.int .i64 X.kd,.slice sB X.sec.length sd,.int .i64 X.pr,.int .i64 (X.st+1),.slice nB X.non.length nd,.int .i64 SK,.int .i64 gi,.int .i64 X.own,.int .i64 X.oth,.slice aB X.k1.length ad,.slice bB X.k2.length bd,.int .i64 X.ct] _ w10):=iH (by rw [hw];exact S9.out.set 5 _)
    clear f g;clear hw
    have f:=j4 S10.out.rx;have g:=j4 S10.out.ry
    go_upto_region 38 with (go_at_call 61;refine(HPW.out _).mono ?_;rintro e w' ⟨rfl,hw⟩;rw [hw];clear hw w')
    obtain⟨w11,hw⟩:∃z,z=w10.setCell ⟨gy,7,none⟩ (.int .i64 OW):=⟨_,rfl⟩
    rw [<-hw]
    have S11:Hid (RS w gy _ #[.int .i64 X.kd,.slice sB X.sec.length sd,.int .i64 X.pr,.int .i64 (X.st+1),.slice nB X.non.length nd,.int .i64 SK,.int .i64 gi,.int .i64 OW,.int .i64 X.oth,.slice aB X.k1.length ad,.slice bB X.k2.length bd,.int .i64 X.ct] _ w11):=iH (by rw [hw];exact S10.out.set 7 _)
    clear f g;clear hw
    have f:=j4 S11.out.rx;have g:=j4 S11.out.ry
    go_upto_region 47 with (go_at_call 83;refine(HEN.out _).mono ?_;rintro e w12 ⟨A12,c12,rfl,hs,hb⟩;have S12:=iH ((S11.out.on hb).add S11.out.lt hs);clear f g;clear hb hs;have f:=j4 S12.out.rx;have g:=j4 S12.out.ry)
    clear f g;have D9:=iH (S12.out.offP 0 rfl);have N9:=iH (S12.out.offP 1 rfl);have L0:=iH (S12.out.offP 4 rfl);have L1:=iH (S12.out.offP 5 rfl);have L2:=iH (S12.out.offP 6 rfl);have L3:=iH (S12.out.offP 7 rfl)
    refine j9 12 [some 184,some 185,some 186,some 187,some 188,some 189,some 190,some 191,none,some 7,some 8,some 9] [[],[],[1],[1,2],[1,2,3],[],[1,2,3,4,5],[],[0,1,2,3,4,5,6],[0,1,2,3,4,5,6,8],[0,1,2,3,4,5,6,7,8,9],[0,1,2,3,4,5,6,7,8,9,10]]
     (fun _ _ w1=>PtA (w.heap.size+1) w12 w1) (fun w1 w2=>RO (w.heap.size+1) #[.int .i64 X.kd,.slice sB X.sec.length sd,.int .i64 X.pr,.int .i64 (X.st+1),.slice nB X.non.length nd,.int .i64 SK,.int .i64 gi,.int .i64 OW,.int .i64 X.oth,.slice aB X.k1.length ad,.slice bB X.k2.length bd,.int .i64 X.ct] w1 w2)
     [.v (.agg #[.int .i64 X.kd,.slice sB X.sec.length sd,.int .i64 X.pr,.int .i64 (X.st+1),.slice nB X.non.length nd,.int .i64 SK,.int .i64 gi,.int .i64 OW,.int .i64 X.oth,.slice aB X.k1.length ad,.slice bB X.k2.length bd,.int .i64 X.ct]),
      .v (.pointer (some ⟨w.heap.size,3,none⟩)),
      .v (.int .i64 X.st),
      .v (.int .i64 (2*X.st)),
      .v (.int .i64 (127+2*X.st)),
      .v (.slice A12 4 c12),
      .p (fun v w1=>∃A c,v 6=.slice A U.length c/\BsS w1 (j7 (w.heap.size+1) w1) (.slice A U.length c) U) (fun _ _ _ _ _ hr ⟨A,c,h1,h2⟩=>⟨A,c,h1,h2.grownP hr.1⟩),
      .v (.slice B9 SD.length d9),
      .p (fun v w1=>w1.heap[w.heap.size+1]?=some (.cells #[.int .i64 X.kd,.slice sB X.sec.length sd,.int .i64 X.pr,.int .i64 (X.st+1),.slice nB X.non.length nd,.int .i64 SK,.int .i64 gi,.int .i64 OW,.int .i64 X.oth,.slice aB X.k1.length ad,.slice bB X.k2.length bd,.int .i64 X.ct] 48 (0,0))) (fun _ _ _ _ _ hr h=>hr.2 h),
      .q fun v=>∃A c,v 6=.slice A U.length c/\v 9=.slice A U.length c,
      .v (.slice B9 SD.length d9),
      .v (.int .i64 0)]
     (by kernel_rfl) (by kernel_rfl) rfl (fun _=>⟨_,_,_,_,_,_,_,_,_,_,_,_,(PtW.start S12.out.rz).drew⟩) ?steps ?tail
    case steps=>
     simp only [List.take_succ_cons,List.take_zero]
     repeat' (with_reducible first|exact StepsRG.nil|refine StepsRG.cons ?_ ?_)
     all_goals(intro L v w1 hJ hL hF hD K hK;simp only [jb,Act.put,Nat.zero_add,Nat.reduceAdd,List.setIfInBounds_toArray,List.set_cons_zero,List.set_cons_succ,↓jP,List.getD_cons_zero,List.getD_cons_succ,Nat.reduceEqDiff,↓reduceIte]at hD hK |-)
     all_goals try(have q:=j4 ((hJ.gr.block _ S12.out.lt (by intro e;injection e with e;have:=S12.out.gy2;omega)).trans S12.out.ry);have q1x:=j4 ((hJ.gr.block _ (lt_of_block S12.out.rx) (by intro e;injection e with e;omega)).trans S12.out.rx);(try simp only [hD]at hK |-);go_simp;refine hK _ _ hJ ⟨World.grownBy.refl _ _,id⟩ ?_;first|exact rfl|exact jf _|exact xu (by have:=HST.out;omega))
     ·exact m8
     ·simp only [hD]at hK |-
      obtain⟨a0,a1,a2,a3,a4,a5,a6,a7,a8,a9,a10,a11,hp⟩:=hJ
      have q:=j4 hp.1
      have HJq:=iH hp
      clear hp hL hF
      go_simp
      exact hK undef _ ⟨_,_,_,_,_,_,_,_,_,_,_,_,HJq.out.set12 (.int .i64 X.kd) (.slice sB X.sec.length sd) (.int .i64 X.pr) (.int .i64 (X.st+1)) (.slice nB X.non.length nd) (.int .i64 SK) (.int .i64 gi) (.int .i64 OW) (.int .i64 X.oth) (.slice aB X.k1.length ad) (.slice bB X.k2.length bd) (.int .i64 X.ct)⟩ ⟨((PtW.start HJq.out.1).set12 (.int .i64 X.kd) (.slice sB X.sec.length sd) (.int .i64 X.pr) (.int .i64 (X.st+1)) (.slice nB X.non.length nd) (.int .i64 SK) (.int .i64 gi) (.int .i64 OW) (.int .i64 X.oth) (.slice aB X.k1.length ad) (.slice bB X.k2.length bd) (.int .i64 X.ct)).2.1,fun _=>((PtW.start HJq.out.1).set12 (.int .i64 X.kd) (.slice sB X.sec.length sd) (.int .i64 X.pr) (.int .i64 (X.st+1)) (.slice nB X.non.length nd) (.int .i64 SK) (.int .i64 gi) (.int .i64 OW) (.int .i64 X.oth) (.slice aB X.k1.length ad) (.slice bB X.k2.length bd) (.int .i64 X.ct)).1⟩ ((PtW.start HJq.out.1).set12 (.int .i64 X.kd) (.slice sB X.sec.length sd) (.int .i64 X.pr) (.int .i64 (X.st+1)) (.slice nB X.non.length nd) (.int .i64 SK) (.int .i64 gi) (.int .i64 OW) (.int .i64 X.oth) (.slice aB X.k1.length ad) (.slice bB X.k2.length bd) (.int .i64 X.ct)).1
     ·exact m7
    case tail=>
     intro v w1 hJ hF hD
     simp only [jZ]at hD
     obtain⟨e0,e1,e2,e3,e4,e5,e7,e10,e11, -⟩:=hD
     simp only [List.drop_succ_cons,List.drop_zero,jb,Act.put,Nat.zero_add,Nat.reduceAdd,List.setIfInBounds_toArray,List.set_cons_zero,List.set_cons_succ]
     obtain⟨A7,c7,e6,hu⟩:∃A c,v 6=_/\_:=hF 6 (by simp)
     obtain⟨A8x,c8x,e6b,e9⟩:∃A c,v 6=_/\v 9=_:=hF 9 (by simp)
     obtain⟨rfl,_,rfl⟩:=Value.slice.inj (e6.symm.trans e6b)
     have h8:w1.heap[w.heap.size+1]?=some (.cells #[.int .i64 X.kd,.slice sB X.sec.length sd,.int .i64 X.pr,.int .i64 (X.st+1),.slice nB X.non.length nd,.int .i64 SK,.int .i64 gi,.int .i64 OW,.int .i64 X.oth,.slice aB X.k1.length ad,.slice bB X.k2.length bd,.int .i64 X.ct] 48 (0,0)):=hF 8 (by simp)
     simp only [e0,e1,e2,e3,e4,e5,e6,e7,e9,e10,e11]
     have HP7:=iH hJ;have HU:=iH hu
     have y:=j4 h8
     clear hJ hF hu h8 e0 e1 e2 e3 e4 e5 e6 e6b e7 e9 e10 e11
     go_wp2_with fail
     refine bodyPost_ret (v:=.tuple #[.agg #[.int .i64 X.kd,.slice sB X.sec.length sd,.int .i64 X.pr,.int .i64 (X.st+1),.slice nB X.non.length nd,.int .i64 SK,.int .i64 gi,.int .i64 OW,.int .i64 X.oth,.slice aB X.k1.length ad,.slice bB X.k2.length bd,.int .i64 X.ct],.slice A7 U.length c7,.slice B9 SD.length d9,.int .i64 0]) (by simp [results,Tryz.results36,go_sem,y]) rfl ?_
     have hfin:∀ {u:Value} {m:List UInt8},BsS w12 (j7 (w.heap.size+1) w12) u m->Bs w1 w1.heap.size u m:=fun {u m} h=>(h.grownP HP7.out.gr).loB
     have hbel:Below w.heap.size w w1:=S12.out.bel.trans (HP7.out.bel.mono (Nat.le_succ _))
     exact m6
   ·have hne:=he
    have he:=qc he
    have HDE:=iH hde
    have HGE:=iH hg
    have R:Hid (jn X B s=jI er):=iH (by unfold jn;rw [iF (by omega),iF (by rw [hus];simp),iF (by omega),hv];simp only [];rw [iF (by omega),iT q,hde];simp only [];rw [hg,iF (by simp),iT ⟨hp2,hne⟩])
    have b1:(X.st==1)=false:=by simp;omega
    have b2:(X.st==2)=true:=by simp;omega
    clear hus hv q hde hg hne hp2
    go_upto_region 33 with (go_at_call 81;refine(jO val _ _ w7 (S7.out.at 0 rfl)).mono ?_;rw [HDE.out];rintro e w' ⟨rfl,hw⟩;rw [hw];clear hw w')
    clear f g;have f:=j4 S7.out.rx;have g:=j4 S7.out.ry
    go_upto_region 34 with (go_at_call 24;refine(qO X.non _ X.x o w7 (S7.out.lo 7 rfl)).mono ?_;rw [HGE.out];rintro e w' ⟨rfl,hw⟩;rw [hw];clear hw w')
    obtain⟨w8,hw⟩:∃z,z=w7.setCell ⟨gy,6,none⟩ (.int .i64 gi):=⟨_,rfl⟩
    rw [<-hw]
    have S8:Hid (RS w gy _ #[.int .i64 X.kd,.slice sB X.sec.length sd,.int .i64 X.pr,.int .i64 (X.st+1),.slice nB X.non.length nd,.int .i64 X.x,.int .i64 gi,.int .i64 X.own,.int .i64 X.oth,.slice aB X.k1.length ad,.slice bB X.k2.length bd,.int .i64 X.ct] _ w8):=iH (by rw [hw];exact S7.out.set 6 _)
    clear f g;clear hw
    have f:=j4 S8.out.rx;have g:=j4 S8.out.ry
    go_upto_region 35 with fail
    clear f g;have z:=j4 S8.out.rz
    go_wp2_with fail
    have y:=j4 ((PtW.start S8.out.rz).set12 (.int .i64 0) (.slice none 0 0) (.int .i64 0) (.int .i64 0) (.slice none 0 0) (.int .i64 0) (.int .i64 0) (.int .i64 0) (.int .i64 0) (.slice none 0 0) (.slice none 0 0) (.int .i64 0)).1
    have hbel:=iH (S8.out.bel.trans (Below.mono (((PtW.start S8.out.rz).set12 (.int .i64 0) (.slice none 0 0) (.int .i64 0) (.int .i64 0) (.slice none 0 0) (.int .i64 0) (.int .i64 0) (.int .i64 0) (.int .i64 0) (.slice none 0 0) (.slice none 0 0) (.int .i64 0)).2.2) (Nat.le_succ _)))
    unfold Go.Proofs.YtalmmiojbmpmiaaGreatDoor.set12 at y hbel
    refine bodyPost_ret (v:=.tuple #[.agg #[.int .i64 0,.slice none 0 0,.int .i64 0,.int .i64 0,.slice none 0 0,.int .i64 0,.int .i64 0,.int .i64 0,.int .i64 0,.slice none 0 0,.slice none 0 0,.int .i64 0],.slice none 0 0,.slice none 0 0,.int .i64 er]) (by simp [results,Tryz.results36,go_sem,y]) rfl ?_
    exact ExO.err R.out hbel.out
  ·have hne:=he
   have he:=qc he
   have HDE:=iH hde
   have R:Hid (jn X B s=jI er):=iH (by unfold jn;rw [iF (by omega),iF (by rw [hus];simp),iF (by omega),hv];simp only [];rw [iF (by omega),iT q,hde];simp only [];rw [iT ⟨hp2,hne⟩])
   have b1:(X.st==1)=false:=by simp;omega
   have b2:(X.st==2)=true:=by simp;omega
   clear hus hv q hde hne hp2
   go_upto_region 32 with (go_at_call 81;refine(jO val _ _ w7 (S7.out.at 0 rfl)).mono ?_;rw [HDE.out];rintro e w' ⟨rfl,hw⟩;rw [hw];clear hw w')
   clear f g;have z:=j4 S7.out.rz
   go_wp2_with fail
   have y:=j4 ((PtW.start S7.out.rz).set12 (.int .i64 0) (.slice none 0 0) (.int .i64 0) (.int .i64 0) (.slice none 0 0) (.int .i64 0) (.int .i64 0) (.int .i64 0) (.int .i64 0) (.slice none 0 0) (.slice none 0 0) (.int .i64 0)).1
   have hbel:=iH (S7.out.bel.trans (Below.mono (((PtW.start S7.out.rz).set12 (.int .i64 0) (.slice none 0 0) (.int .i64 0) (.int .i64 0) (.slice none 0 0) (.int .i64 0) (.int .i64 0) (.int .i64 0) (.int .i64 0) (.slice none 0 0) (.slice none 0 0) (.int .i64 0)).2.2) (Nat.le_succ _)))
   unfold Go.Proofs.YtalmmiojbmpmiaaGreatDoor.set12 at y hbel
   refine bodyPost_ret (v:=.tuple #[.agg #[.int .i64 0,.slice none 0 0,.int .i64 0,.int .i64 0,.slice none 0 0,.int .i64 0,.int .i64 0,.int .i64 0,.int .i64 0,.slice none 0 0,.slice none 0 0,.int .i64 0],.slice none 0 0,.slice none 0 0,.int .i64 er]) (by simp [results,Tryz.results36,go_sem,y]) rfl ?_
   exact ExO.err R.out hbel.out
 ·have hus:=HUS.out;have hv:=HV.out
  obtain⟨⟨er,o⟩,hde⟩:∃r,jd val=r:=⟨_,rfl⟩
  by_cases he:er=0
  ·subst he
   by_cases hne:o=X.own
   ·have HDE:=iH hde
    have HNE:=iH hne
    have R:Hid (jn X B s=jI 10):=iH (by unfold jn;rw [iF (by omega),iF (by rw [hus];simp),iF (by omega),hv];simp only [];rw [iF (by omega),iF (by omega),iT q,hde];simp only [];rw [iF (by simp),iT hne])
    have b1:(X.st==1)=false:=by simp;omega
    have b2:(X.st==2)=false:=by simp;omega
    have b3:(X.st==3)=true:=by simp;omega
    clear hus hv q hde hne
    go_upto_region 43 with (go_at_call 81;refine(jO val _ _ w7 (S7.out.at 0 rfl)).mono ?_;rw [HDE.out];rintro e w' ⟨rfl,hw⟩;rw [hw];clear hw w')
    clear f g;have f:=j4 S7.out.rx;have g:=j4 S7.out.ry
    go_upto_region 44 with (go_at_call 84;refine(Kb (Exg.mk (X.kd) (X.sec) (X.pr) (X.st+1) (X.non) (X.x) (X.g) (X.own) (X.oth) (X.k1) (X.k2) (X.ct)) sB nB aB bB sd nd ad bd o HNE.out w7).mono ?_;rintro e w8 ⟨rfl,hb⟩;have S8:=iH (S7.out.on hb);clear f g;clear hb;have f:=j4 S8.out.rx;have g:=j4 S8.out.ry)
    obtain⟨w9,hw⟩:∃z,z=set12 w8 gy (.int .i64 X.kd) (.slice sB X.sec.length sd) (.int .i64 X.pr) (.int .i64 (X.st+1)) (.slice nB X.non.length nd) (.int .i64 X.x) (.int .i64 X.g) (.int .i64 X.own) (.int .i64 X.oth) (.slice aB X.k1.length ad) (.slice bB X.k2.length bd) (.int .i64 X.ct):=⟨_,rfl⟩
    have S9:Hid (RS w gy _ #[.int .i64 X.kd,.slice sB X.sec.length sd,.int .i64 X.pr,.int .i64 (X.st+1),.slice nB X.non.length nd,.int .i64 X.x,.int .i64 X.g,.int .i64 X.own,.int .i64 X.oth,.slice aB X.k1.length ad,.slice bB X.k2.length bd,.int .i64 X.ct] _ w9):=iH (by rw [hw];exact S8.out.fill (.int .i64 X.kd) (.slice sB X.sec.length sd) (.int .i64 X.pr) (.int .i64 (X.st+1)) (.slice nB X.non.length nd) (.int .i64 X.x) (.int .i64 X.g) (.int .i64 X.own) (.int .i64 X.oth) (.slice aB X.k1.length ad) (.slice bB X.k2.length bd) (.int .i64 X.ct))
    unfold Go.Proofs.YtalmmiojbmpmiaaGreatDoor.set12 at hw
    rw [<-hw]
    clear f g;clear hw
    have f:=j4 S9.out.rx;have g:=j4 S9.out.ry
    go_upto_region 45 with fail
    clear f g;have z:=j4 S9.out.rz
    go_wp2_with fail
    have y:=j4 ((PtW.start S9.out.rz).set12 (.int .i64 0) (.slice none 0 0) (.int .i64 0) (.int .i64 0) (.slice none 0 0) (.int .i64 0) (.int .i64 0) (.int .i64 0) (.int .i64 0) (.slice none 0 0) (.slice none 0 0) (.int .i64 0)).1
    have hbel:=iH (S9.out.bel.trans (Below.mono (((PtW.start S9.out.rz).set12 (.int .i64 0) (.slice none 0 0) (.int .i64 0) (.int .i64 0) (.slice none 0 0) (.int .i64 0) (.int .i64 0) (.int .i64 0) (.int .i64 0) (.slice none 0 0) (.slice none 0 0) (.int .i64 0)).2.2) (Nat.le_succ _)))
    unfold Go.Proofs.YtalmmiojbmpmiaaGreatDoor.set12 at y hbel
    refine bodyPost_ret (v:=.tuple #[.agg #[.int .i64 0,.slice none 0 0,.int .i64 0,.int .i64 0,.slice none 0 0,.int .i64 0,.int .i64 0,.int .i64 0,.int .i64 0,.slice none 0 0,.slice none 0 0,.int .i64 0],.slice none 0 0,.slice none 0 0,.int .i64 10]) (by simp [results,Tryz.results36,go_sem,y]) rfl ?_
    exact ExO.err R.out hbel.out
   ·have HDE:=iH hde
    have hx:=((qF hus).2.2.2.1 q).2.2.2
    have hoi:0<=o/\o<2147483579:=by have:=jD (XH hde);omega
    have hxi:0<=X.x/\X.x<=1073741789:=by have:=Jc hx;omega
    obtain⟨KA,hKA⟩:∃l,zw (jc (jN o X.x)) 1=l:=⟨_,rfl⟩
    obtain⟨KB,hKB⟩:∃l,zw (jc (jN o X.x)) 2=l:=⟨_,rfl⟩
    have hkl:KB.length=16:=by rw [<-hKB];exact jL _ _
    have HNE:=iH hne;have HOI:=iH hoi;have HXI:=iH hxi;have HKA:=iH hKA;have HKB:=iH hKB
    obtain⟨T2,hT2⟩:∃T,tkW (Exg.mk (X.kd) (X.sec) (X.pr) (X.st+1) (X.non) (X.x) (X.g) (X.own) (o) (KA) (KB) (0)) o=T:=⟨_,rfl⟩
    have TK2:=iH (fun sA nA aA bA sc nc ac bc W h=>zn (Exg.mk (X.kd) (X.sec) (X.pr) (X.st+1) (X.non) (X.x) (X.g) (X.own) (o) (KA) (KB) (0)) sA nA aA bA sc nc ac bc o hoi hkl W h)
    rw [hT2]at TK2
    have h8:T2.length=8:=by rw [<-hT2];exact tkl _ _ hkl
    obtain⟨U,hU⟩:∃U,jE 133 T2=U:=⟨_,rfl⟩
    have HWR:Hid (∀(A:Option Addr) (c:Nat) (W:World),Bs W W.heap.size (.slice A 8 c) T2->Calls Tryz.prog 86 #[.int .i64 (127+2*X.st),.slice A 8 c] W (xw U W)):=iH (by rw [show 127+2*X.st=133 by omega,<-hU];exact fun A c W h=>(by have:=ql 133 ⟨by omega,by omega⟩ A c T2 W (by rw [h8];exact h);rw [h8]at this;exact this))
    have R:Hid (jn X B s=(0,⟨X.kd,X.sec,X.pr,X.st+1,X.non,X.x,X.g,X.own,o,KA,KB,0⟩,U,s)):=iH (by unfold jn;rw [iF (by omega),iF (by rw [hus];simp),iF (by omega),hv];simp only [];rw [iF (by omega),iF (by omega),iT q,hde];simp only [];rw [iF (by simp),iF hne];unfold kr;rw [iF hne,<-hU,<-hT2,<-hKA,<-hKB,q]<;>rfl)
    have b1:(X.st==1)=false:=by simp;omega
    have b2:(X.st==2)=false:=by simp;omega
    have b3:(X.st==3)=true:=by simp;omega
    clear hus hv q hde hne hx hoi hxi hKA hKB hkl hT2 h8 hU
    go_upto_region 43 with (go_at_call 81;refine(jO val _ _ w7 (S7.out.at 0 rfl)).mono ?_;rw [HDE.out];rintro e w' ⟨rfl,hw⟩;rw [hw];clear hw w')
    clear f g;have f:=j4 S7.out.rx;have g:=j4 S7.out.ry
    go_upto_region 44 with (go_at_call 84;refine(j3j (Exg.mk (X.kd) (X.sec) (X.pr) (X.st+1) (X.non) (X.x) (X.g) (X.own) (X.oth) (X.k1) (X.k2) (X.ct)) sB nB aB bB sd nd ad bd o HNE.out HOI.out HXI.out KA KB HKA.out HKB.out w7 (HK.out.below S7.out.bel HK.out.lt)).mono ?_;rintro e w8 ⟨aC,bC,ae,be,rfl,m1,m2,hb⟩;have S8:=iH (((S7.out.on hb).add S7.out.lt m2).add S7.out.lt m1);clear f g;clear hb m2 m1;have f:=j4 S8.out.rx;have g:=j4 S8.out.ry)
    obtain⟨w9,hw⟩:∃z,z=set12 w8 gy (.int .i64 X.kd) (.slice sB X.sec.length sd) (.int .i64 X.pr) (.int .i64 (X.st+1)) (.slice nB X.non.length nd) (.int .i64 X.x) (.int .i64 X.g) (.int .i64 X.own) (.int .i64 o) (.slice aC KA.length ae) (.slice bC KB.length be) (.int .i64 0):=⟨_,rfl⟩
    have S9:Hid (RS w gy _ #[.int .i64 X.kd,.slice sB X.sec.length sd,.int .i64 X.pr,.int .i64 (X.st+1),.slice nB X.non.length nd,.int .i64 X.x,.int .i64 X.g,.int .i64 X.own,.int .i64 o,.slice aC KA.length ae,.slice bC KB.length be,.int .i64 0] _ w9):=iH (by rw [hw];exact S8.out.fill (.int .i64 X.kd) (.slice sB X.sec.length sd) (.int .i64 X.pr) (.int .i64 (X.st+1)) (.slice nB X.non.length nd) (.int .i64 X.x) (.int .i64 X.g) (.int .i64 X.own) (.int .i64 o) (.slice aC KA.length ae) (.slice bC KB.length be) (.int .i64 0))
    unfold Go.Proofs.YtalmmiojbmpmiaaGreatDoor.set12 at hw
    rw [<-hw]
    clear f g;clear hw
    have f:=j4 S9.out.rx;have g:=j4 S9.out.ry
    go_upto_region 47 with (go_at_call 85;refine(TK2.out sB nB aC bC sd nd ae be w9 (S9.out.lo 1 rfl)).mono ?_;rintro e w10 ⟨A12,c12,rfl,ht,hb⟩;have T12:=iH ht;clear ht;have S10:=iH (S9.out.on hb);clear f g;clear hb;have f:=j4 S10.out.rx;have g:=j4 S10.out.ry)
    clear f g;have D9:=iH (BsS.keep (BsS.off T12.out S10.out.rz QL) fun g hs _=>⟨rfl,hs⟩);have N9:=iH (S10.out.offP 3 rfl);have L0:=iH (S10.out.offP 4 rfl);have L1:=iH (S10.out.offP 5 rfl);have L2:=iH (S10.out.offP 0 rfl);have L3:=iH (S10.out.offP 1 rfl)
    refine j9 12 [some 184,some 185,some 186,some 187,some 188,some 189,some 190,some 191,none,some 7,some 8,some 9] [[],[],[1],[1,2],[1,2,3],[],[1,2,3,4,5],[],[0,1,2,3,4,5,6],[0,1,2,3,4,5,6,8],[0,1,2,3,4,5,6,7,8,9],[0,1,2,3,4,5,6,7,8,9,10]]
     (fun _ _ w1=>PtA (w.heap.size+1) w10 w1) (fun w1 w2=>RO (w.heap.size+1) #[.int .i64 X.kd,.slice sB X.sec.length sd,.int .i64 X.pr,.int .i64 (X.st+1),.slice nB X.non.length nd,.int .i64 X.x,.int .i64 X.g,.int .i64 X.own,.int .i64 o,.slice aC KA.length ae,.slice bC KB.length be,.int .i64 0] w1 w2)
     [.v (.agg #[.int .i64 X.kd,.slice sB X.sec.length sd,.int .i64 X.pr,.int .i64 (X.st+1),.slice nB X.non.length nd,.int .i64 X.x,.int .i64 X.g,.int .i64 X.own,.int .i64 o,.slice aC KA.length ae,.slice bC KB.length be,.int .i64 0]),
      .v (.pointer (some ⟨w.heap.size,3,none⟩)),
      .v (.int .i64 X.st),
      .v (.int .i64 (2*X.st)),
      .v (.int .i64 (127+2*X.st)),
      .v (.slice A12 8 c12),
      .p (fun v w1=>∃A c,v 6=.slice A U.length c/\BsS w1 (j7 (w.heap.size+1) w1) (.slice A U.length c) U) (fun _ _ _ _ _ hr ⟨A,c,h1,h2⟩=>⟨A,c,h1,h2.grownP hr.1⟩),
      .v (.slice eB s.length ed),
      .p (fun v w1=>w1.heap[w.heap.size+1]?=some (.cells #[.int .i64 X.kd,.slice sB X.sec.length sd,.int .i64 X.pr,.int .i64 (X.st+1),.slice nB X.non.length nd,.int .i64 X.x,.int .i64 X.g,.int .i64 X.own,.int .i64 o,.slice aC KA.length ae,.slice bC KB.length be,.int .i64 0] 48 (0,0))) (fun _ _ _ _ _ hr h=>hr.2 h),
      .q fun v=>∃A c,v 6=.slice A U.length c/\v 9=.slice A U.length c,
      .v (.slice eB s.length ed),
      .v (.int .i64 0)]
     (by kernel_rfl) (by kernel_rfl) rfl (fun _=>⟨_,_,_,_,_,_,_,_,_,_,_,_,(PtW.start S10.out.rz).drew⟩) ?steps ?tail
    case steps=>
     simp only [List.take_succ_cons,List.take_zero]
     repeat' (with_reducible first|exact StepsRG.nil|refine StepsRG.cons ?_ ?_)
     all_goals(intro L v w1 hJ hL hF hD K hK;simp only [jb,Act.put,Nat.zero_add,Nat.reduceAdd,List.setIfInBounds_toArray,List.set_cons_zero,List.set_cons_succ,↓jP,List.getD_cons_zero,List.getD_cons_succ,Nat.reduceEqDiff,↓reduceIte]at hD hK |-)
     all_goals try(have q:=j4 ((hJ.gr.block _ S10.out.lt (by intro e;injection e with e;have:=S10.out.gy2;omega)).trans S10.out.ry);have q1x:=j4 ((hJ.gr.block _ (lt_of_block S10.out.rx) (by intro e;injection e with e;omega)).trans S10.out.rx);(try simp only [hD]at hK |-);go_simp;refine hK _ _ hJ ⟨World.grownBy.refl _ _,id⟩ ?_;first|exact rfl|exact jf _|exact xu (by have:=HST.out;omega))
     ·exact m8
     ·simp only [hD]at hK |-
      obtain⟨a0,a1,a2,a3,a4,a5,a6,a7,a8,a9,a10,a11,hp⟩:=hJ
      have q:=j4 hp.1
      have HJq:=iH hp
      clear hp hL hF
      go_simp
      exact hK undef _ ⟨_,_,_,_,_,_,_,_,_,_,_,_,HJq.out.set12 (.int .i64 X.kd) (.slice sB X.sec.length sd) (.int .i64 X.pr) (.int .i64 (X.st+1)) (.slice nB X.non.length nd) (.int .i64 X.x) (.int .i64 X.g) (.int .i64 X.own) (.int .i64 o) (.slice aC KA.length ae) (.slice bC KB.length be) (.int .i64 0)⟩ ⟨((PtW.start HJq.out.1).set12 (.int .i64 X.kd) (.slice sB X.sec.length sd) (.int .i64 X.pr) (.int .i64 (X.st+1)) (.slice nB X.non.length nd) (.int .i64 X.x) (.int .i64 X.g) (.int .i64 X.own) (.int .i64 o) (.slice aC KA.length ae) (.slice bC KB.length be) (.int .i64 0)).2.1,fun _=>((PtW.start HJq.out.1).set12 (.int .i64 X.kd) (.slice sB X.sec.length sd) (.int .i64 X.pr) (.int .i64 (X.st+1)) (.slice nB X.non.length nd) (.int .i64 X.x) (.int .i64 X.g) (.int .i64 X.own) (.int .i64 o) (.slice aC KA.length ae) (.slice bC KB.length be) (.int .i64 0)).1⟩ ((PtW.start HJq.out.1).set12 (.int .i64 X.kd) (.slice sB X.sec.length sd) (.int .i64 X.pr) (.int .i64 (X.st+1)) (.slice nB X.non.length nd) (.int .i64 X.x) (.int .i64 X.g) (.int .i64 X.own) (.int .i64 o) (.slice aC KA.length ae) (.slice bC KB.length be) (.int .i64 0)).1
     ·exact m7
    case tail=>
     intro v w1 hJ hF hD
     simp only [jZ]at hD
     obtain⟨e0,e1,e2,e3,e4,e5,e7,e10,e11, -⟩:=hD
     simp only [List.drop_succ_cons,List.drop_zero,jb,Act.put,Nat.zero_add,Nat.reduceAdd,List.setIfInBounds_toArray,List.set_cons_zero,List.set_cons_succ]
     obtain⟨A7,c7,e6,hu⟩:∃A c,v 6=_/\_:=hF 6 (by simp)
     obtain⟨A8x,c8x,e6b,e9⟩:∃A c,v 6=_/\v 9=_:=hF 9 (by simp)
     obtain⟨rfl,_,rfl⟩:=Value.slice.inj (e6.symm.trans e6b)
     have h8:w1.heap[w.heap.size+1]?=some (.cells #[.int .i64 X.kd,.slice sB X.sec.length sd,.int .i64 X.pr,.int .i64 (X.st+1),.slice nB X.non.length nd,.int .i64 X.x,.int .i64 X.g,.int .i64 X.own,.int .i64 o,.slice aC KA.length ae,.slice bC KB.length be,.int .i64 0] 48 (0,0)):=hF 8 (by simp)
     simp only [e0,e1,e2,e3,e4,e5,e6,e7,e9,e10,e11]
     have HP7:=iH hJ;have HU:=iH hu
     have y:=j4 h8
     clear hJ hF hu h8 e0 e1 e2 e3 e4 e5 e6 e6b e7 e9 e10 e11
     go_wp2_with fail
     refine bodyPost_ret (v:=.tuple #[.agg #[.int .i64 X.kd,.slice sB X.sec.length sd,.int .i64 X.pr,.int .i64 (X.st+1),.slice nB X.non.length nd,.int .i64 X.x,.int .i64 X.g,.int .i64 X.own,.int .i64 o,.slice aC KA.length ae,.slice bC KB.length be,.int .i64 0],.slice A7 U.length c7,.slice eB s.length ed,.int .i64 0]) (by simp [results,Tryz.results36,go_sem,y]) rfl ?_
     have hfin:∀ {u:Value} {m:List UInt8},BsS w10 (j7 (w.heap.size+1) w10) u m->Bs w1 w1.heap.size u m:=fun {u m} h=>(h.grownP HP7.out.gr).loB
     have hbel:Below w.heap.size w w1:=S10.out.bel.trans (HP7.out.bel.mono (Nat.le_succ _))
     exact m6
  ·have hne:=he
   have he:=qc he
   have HDE:=iH hde
   have R:Hid (jn X B s=jI er):=iH (by unfold jn;rw [iF (by omega),iF (by rw [hus];simp),iF (by omega),hv];simp only [];rw [iF (by omega),iF (by omega),iT q,hde];simp only [];rw [iT hne])
   have b1:(X.st==1)=false:=by simp;omega
   have b2:(X.st==2)=false:=by simp;omega
   have b3:(X.st==3)=true:=by simp;omega
   clear hus hv q hde hne
   go_upto_region 42 with (go_at_call 81;refine(jO val _ _ w7 (S7.out.at 0 rfl)).mono ?_;rw [HDE.out];rintro e w' ⟨rfl,hw⟩;rw [hw];clear hw w')
   clear f g;have z:=j4 S7.out.rz
   go_wp2_with fail
   have y:=j4 ((PtW.start S7.out.rz).set12 (.int .i64 0) (.slice none 0 0) (.int .i64 0) (.int .i64 0) (.slice none 0 0) (.int .i64 0) (.int .i64 0) (.int .i64 0) (.int .i64 0) (.slice none 0 0) (.slice none 0 0) (.int .i64 0)).1
   have hbel:=iH (S7.out.bel.trans (Below.mono (((PtW.start S7.out.rz).set12 (.int .i64 0) (.slice none 0 0) (.int .i64 0) (.int .i64 0) (.slice none 0 0) (.int .i64 0) (.int .i64 0) (.int .i64 0) (.int .i64 0) (.slice none 0 0) (.slice none 0 0) (.int .i64 0)).2.2) (Nat.le_succ _)))
   unfold Go.Proofs.YtalmmiojbmpmiaaGreatDoor.set12 at y hbel
   refine bodyPost_ret (v:=.tuple #[.agg #[.int .i64 0,.slice none 0 0,.int .i64 0,.int .i64 0,.slice none 0 0,.int .i64 0,.int .i64 0,.int .i64 0,.int .i64 0,.slice none 0 0,.slice none 0 0,.int .i64 0],.slice none 0 0,.slice none 0 0,.int .i64 er]) (by simp [results,Tryz.results36,go_sem,y]) rfl ?_
   exact ExO.err R.out hbel.out
 ·have hus:=HUS.out;have hv:=HV.out
  by_cases heq:val=tkW X X.own
  ·obtain⟨T,hT⟩:∃T,tkW X X.own=T:=⟨_,rfl⟩
   have hpa:=(qF hus).2.2.2.2 q
   have hoi:0<=X.own/\X.own<2147483579:=by have:=jD hpa.1;omega
   have TK:=iH (fun W h=>zn X sA nA aA bA sc nc ac bc X.own hoi hpa.2.2 W h)
   rw [hT]at TK
   have hdc:decide (val=T)=true:=decide_eq_true (by rw [<-hT];exact heq)
   have HDC:=iH hdc
   have R:Hid (jn X B s=(0,⟨X.kd,X.sec,X.pr,X.st+1,X.non,X.x,X.g,X.own,X.oth,X.k1,X.k2,X.ct⟩,[],s)):=iH (by unfold jn;rw [iF (by omega),iF (by rw [hus];simp),iF (by omega),hv];simp only [];rw [iF (by omega),iF (by omega),iF (by omega),iF (fun x=>x heq),q]<;>rfl)
   have b1:(X.st==1)=false:=by simp;omega
   have b2:(X.st==2)=false:=by simp;omega
   have b3:(X.st==3)=false:=by simp;omega
   clear hus hv q heq hpa hoi hT hdc
   go_upto_region 20 with (first|(go_at_call 22;refine(kG _ _ val T _ _ w8 (S8.out.at 0 rfl) T9.out).mono ?_;rw [HDC.out];rintro e w9 ⟨rfl,nr,hw⟩;have hb:Below w8.heap.size w8 w9:=(by rw [hw];exact j3 iB nr);clear hw T9;have S9:=iH (S8.out.on hb);clear f g;clear hb;have f:=j4 S9.out.rx;have g:=j4 S9.out.ry)|(go_at_call 85;refine(TK.out w7 (S7.out.lo 9 rfl)).mono ?_;rintro e w8 ⟨A11,c11,rfl,ht,hb⟩;have T9:=iH ht;clear ht;have S8:=iH (S7.out.on hb);clear f g;clear hb;have f:=j4 S8.out.rx;have g:=j4 S8.out.ry))
   clear f g;have g:=j4 S9.out.ry;have z:=j4 S9.out.rz
   go_wp2_with fail
   have y:=j4 ((PtW.start S9.out.rz).set12 (.int .i64 X.kd) (.slice sB X.sec.length sd) (.int .i64 X.pr) (.int .i64 (X.st+1)) (.slice nB X.non.length nd) (.int .i64 X.x) (.int .i64 X.g) (.int .i64 X.own) (.int .i64 X.oth) (.slice aB X.k1.length ad) (.slice bB X.k2.length bd) (.int .i64 X.ct)).1
   obtain⟨wf,hwf⟩:∃z,z=set12 w9 (w.heap.size+1) (.int .i64 X.kd) (.slice sB X.sec.length sd) (.int .i64 X.pr) (.int .i64 (X.st+1)) (.slice nB X.non.length nd) (.int .i64 X.x) (.int .i64 X.g) (.int .i64 X.own) (.int .i64 X.oth) (.slice aB X.k1.length ad) (.slice bB X.k2.length bd) (.int .i64 X.ct):=⟨_,rfl⟩
   have hbel:Below w.heap.size w wf:=by rw [hwf];exact S9.out.bel.trans (Below.mono (((PtW.start S9.out.rz).set12 (.int .i64 X.kd) (.slice sB X.sec.length sd) (.int .i64 X.pr) (.int .i64 (X.st+1)) (.slice nB X.non.length nd) (.int .i64 X.x) (.int .i64 X.g) (.int .i64 X.own) (.int .i64 X.oth) (.slice aB X.k1.length ad) (.slice bB X.k2.length bd) (.int .i64 X.ct)).2.2) (Nat.le_succ _))
   have hfin:∀ {u:Value} {m:List UInt8},BsS w9 (j7 (w.heap.size+1) w9) u m->Bs wf wf.heap.size u m:=fun {u m} h=>by rw [hwf];exact(BsS.set12 h (.int .i64 X.kd) (.slice sB X.sec.length sd) (.int .i64 X.pr) (.int .i64 (X.st+1)) (.slice nB X.non.length nd) (.int .i64 X.x) (.int .i64 X.g) (.int .i64 X.own) (.int .i64 X.oth) (.slice aB X.k1.length ad) (.slice bB X.k2.length bd) (.int .i64 X.ct)).loB
   unfold Go.Proofs.YtalmmiojbmpmiaaGreatDoor.set12 at y hwf
   refine bodyPost_ret (v:=.tuple #[.agg #[.int .i64 X.kd,.slice sB X.sec.length sd,.int .i64 X.pr,.int .i64 (X.st+1),.slice nB X.non.length nd,.int .i64 X.x,.int .i64 X.g,.int .i64 X.own,.int .i64 X.oth,.slice aB X.k1.length ad,.slice bB X.k2.length bd,.int .i64 X.ct],.slice none 0 0,.slice eB s.length ed,.int .i64 0]) (by simp [results,Tryz.results36,go_sem,y]) rfl ?_
   rw [<-hwf,R.out]
   exact⟨_,_,_,_,_,rfl,⟨_,_,_,_,rfl,hfin (S9.out.offP 2 rfl),hfin (S9.out.offP 3 rfl),hfin (S9.out.offP 4 rfl),hfin (S9.out.offP 5 rfl)⟩,kH _ _,hfin (S9.out.offP 1 rfl),hbel⟩
  ·have hne:=heq
   clear heq
   obtain⟨T,hT⟩:∃T,tkW X X.own=T:=⟨_,rfl⟩
   have hpa:=(qF hus).2.2.2.2 q
   have hoi:0<=X.own/\X.own<2147483579:=by have:=jD hpa.1;omega
   have TK:=iH (fun W h=>zn X sA nA aA bA sc nc ac bc X.own hoi hpa.2.2 W h)
   rw [hT]at TK
   have hdc:decide (val=T)=false:=decide_eq_false (by rw [<-hT];exact hne)
   have HDC:=iH hdc
   have R:Hid (jn X B s=jI 21):=iH (by unfold jn;rw [iF (by omega),iF (by rw [hus];simp),iF (by omega),hv];simp only [];rw [iF (by omega),iF (by omega),iF (by omega),iT hne])
   have b1:(X.st==1)=false:=by simp;omega
   have b2:(X.st==2)=false:=by simp;omega
   have b3:(X.st==3)=false:=by simp;omega
   clear hus hv q hne hpa hoi hT hdc
   go_upto_region 19 with (first|(go_at_call 22;refine(kG _ _ val T _ _ w8 (S8.out.at 0 rfl) T9.out).mono ?_;rw [HDC.out];rintro e w9 ⟨rfl,nr,hw⟩;have hb:Below w8.heap.size w8 w9:=(by rw [hw];exact j3 iB nr);clear hw T9;have S9:=iH (S8.out.on hb);clear f g;clear hb;have f:=j4 S9.out.rx;have g:=j4 S9.out.ry)|(go_at_call 85;refine(TK.out w7 (S7.out.lo 9 rfl)).mono ?_;rintro e w8 ⟨A11,c11,rfl,ht,hb⟩;have T9:=iH ht;clear ht;have S8:=iH (S7.out.on hb);clear f g;clear hb;have f:=j4 S8.out.rx;have g:=j4 S8.out.ry))
   clear f g;have z:=j4 S9.out.rz
   go_wp2_with fail
   have y:=j4 ((PtW.start S9.out.rz).set12 (.int .i64 0) (.slice none 0 0) (.int .i64 0) (.int .i64 0) (.slice none 0 0) (.int .i64 0) (.int .i64 0) (.int .i64 0) (.int .i64 0) (.slice none 0 0) (.slice none 0 0) (.int .i64 0)).1
   have hbel:=iH (S9.out.bel.trans (Below.mono (((PtW.start S9.out.rz).set12 (.int .i64 0) (.slice none 0 0) (.int .i64 0) (.int .i64 0) (.slice none 0 0) (.int .i64 0) (.int .i64 0) (.int .i64 0) (.int .i64 0) (.slice none 0 0) (.slice none 0 0) (.int .i64 0)).2.2) (Nat.le_succ _)))
   unfold Go.Proofs.YtalmmiojbmpmiaaGreatDoor.set12 at y hbel
   refine bodyPost_ret (v:=.tuple #[.agg #[.int .i64 0,.slice none 0 0,.int .i64 0,.int .i64 0,.slice none 0 0,.int .i64 0,.int .i64 0,.int .i64 0,.int .i64 0,.slice none 0 0,.slice none 0 0,.int .i64 0],.slice none 0 0,.slice none 0 0,.int .i64 21]) (by simp [results,Tryz.results36,go_sem,y]) rfl ?_
   exact ExO.err R.out hbel.out
theorem j10:Calls Tryz.prog 36 #[.agg #[.int .i64 X.kd,.slice sA X.sec.length sc,.int .i64 X.pr,.int .i64 X.st,.slice nA X.non.length nc,.int .i64 X.x,.int .i64 X.g,.int .i64 X.own,.int .i64 X.oth,.slice aA X.k1.length ac,.slice bA X.k2.length bc,.int .i64 X.ct],.slice vA B.length vc,.slice eA s.length ec] w (ExO (jn X B s) w):=by
 by_cases hst:X.st<0\/4<X.st
 ·exact Ye X sA nA aA bA sc nc ac bc vA eA vc ec B s w hK h1 h2 h3 h4 h5 h6 ls ln l1 l2 hl hst
 have hst:0<=X.st/\X.st<=4:=by omega
 rcases hus:usT X with _|_
 ·exact Xb X sA nA aA bA sc nc ac bc vA eA vc ec B s w hK h1 h2 h3 h4 h5 h6 ls ln l1 l2 hl hst hus
 exact j3o X sA nA aA bA sc nc ac bc vA eA vc ec B s w hK h1 h2 h3 h4 h5 h6 ls ln l1 l2 hl hst hus
end
theorem yO(vx:Value)(X:Exg)(vb:Value)(B:List UInt8)(_nb:B.length<=140737488351232)(vs:Value)(s:List UInt8)(ns:s.length<=140737488351232)(w:World)(hK:KR w/\KD w)(hx:ExA w vx X)(hb:Bs w w.heap.size vb B)(hs:Bs w w.heap.size vs s):
 Calls Tryz.prog 6 #[vx,vb,vs] w fun e w'=>e=.returned (.bool true)/\Below w.heap.size w w':=by
 obtain⟨⟨u1,u2,u3,u4,rfl,x1,x2,x3,x4⟩,l1,l2,l3,l4⟩:=hx
 obtain⟨s0,sc0,rfl⟩:=Bs.formL x1
 obtain⟨n0,nc0,rfl⟩:=Bs.formL x2
 obtain⟨a0,ac0,rfl⟩:=Bs.formL x3
 obtain⟨b0,bc0,rfl⟩:=Bs.formL x4
 obtain⟨bA0,bn0,rfl⟩:=Bs.formL hb
 obtain⟨eA0,en0,rfl⟩:=Bs.formL hs
 have HLN:=iH (And.intro l1 (And.intro l2 (And.intro l3 (And.intro l4 ns))))
 have hV:VR w w [] [(.slice s0 X.sec.length sc0,X.sec),(.slice n0 X.non.length nc0,X.non),(.slice a0 X.k1.length ac0,X.k1),(.slice b0 X.k2.length bc0,X.k2),(.slice bA0 B.length bn0,B),(.slice eA0 s.length en0,s)]:=
  ⟨Below.refl _ _,fun r h=>by simp at h,fun x h=>by
   simp only [List.mem_cons,List.not_mem_nil,or_false]at h
   rcases h with rfl|rfl|rfl|rfl|rfl|rfl
   ·exact x1
   ·exact x2
   ·exact x3
   ·exact x4
   ·exact hb
   ·exact hs⟩
 obtain⟨w0,hw0⟩:∃z,z=w.alloc (.cells #[.int .i64 X.kd,.slice s0 X.sec.length sc0,.int .i64 X.pr,.int .i64 X.st,.slice n0 X.non.length nc0,.int .i64 X.x,.int .i64 X.g,.int .i64 X.own,.int .i64 X.oth,.slice a0 X.k1.length ac0,.slice b0 X.k2.length bc0,.int .i64 X.ct] 48):=⟨_,rfl⟩
 have V0:Hid (VR w w0 _ _):=iH (by rw [hw0];exact hV.row #[.int .i64 X.kd,.slice s0 X.sec.length sc0,.int .i64 X.pr,.int .i64 X.st,.slice n0 X.non.length nc0,.int .i64 X.x,.int .i64 X.g,.int .i64 X.own,.int .i64 X.oth,.slice a0 X.k1.length ac0,.slice b0 X.k2.length bc0,.int .i64 X.ct])
 have HW0:=iH hw0;have HK:=iH hK
 obtain⟨⟨er,Y,D,N⟩,hc⟩:∃r,jv X B s=r:=⟨_,rfl⟩
 obtain⟨⟨es,Z,E,M⟩,ht⟩:∃r,jn X B s=r:=⟨_,rfl⟩
 have HC:=iH hc;have HT:=iH ht
 clear hw0 hV x1 x2 x3 x4 hb hs l1 l2 l3 l4 ns hK hc ht
 go_enter Tryz.func6,Tryz.ntmps6
 go_upto_region 1 with fail
 rw [<-HW0.out]
 have f:=j4 (V0.out.rw 0 rfl)
 go_upto_region 2 with (go_at_call 33;refine(j2b X s0 n0 a0 b0 sc0 nc0 ac0 bc0 bA0 eA0 bn0 en0 B s w0 (HK.out.2.below V0.out.bel HK.out.2.lt) (V0.out.at 0 rfl) (V0.out.at 1 rfl) (V0.out.at 2 rfl) (V0.out.at 3 rfl) (V0.out.at 4 rfl) (V0.out.at 5 rfl) HLN.out.1 HLN.out.2.1 HLN.out.2.2.1 HLN.out.2.2.2.1 HLN.out.2.2.2.2).mono ?_;rw [HC.out];rintro e w1 ⟨y,dd1,dc1,nn1,nd1,rfl,⟨u1,u2,u3,u4,rfl,hs,hn,ha,hb⟩,hd,hx,hbw⟩;obtain⟨s1,sc1,hp⟩:=Bs.formL hs;subst hp;obtain⟨n1,nc1,hp⟩:=Bs.formL hn;subst hp;obtain⟨a1,ac1,hp⟩:=Bs.formL ha;subst hp;obtain⟨b1,bc1,hp⟩:=Bs.formL hb;subst hp;have V1:=iH (((((((V0.out.on hbw).add hs).add hn).add ha).add hb).add hd).add hx);clear f;clear hs hn ha hb hd hx hbw)
 obtain⟨w2,hw⟩:∃z,z=w1.alloc (.cells #[.int .i64 Y.kd,.slice s1 Y.sec.length sc1,.int .i64 Y.pr,.int .i64 Y.st,.slice n1 Y.non.length nc1,.int .i64 Y.x,.int .i64 Y.g,.int .i64 Y.own,.int .i64 Y.oth,.slice a1 Y.k1.length ac1,.slice b1 Y.k2.length bc1,.int .i64 Y.ct] 48):=⟨_,rfl⟩
 rw [<-hw]
 have V2:Hid (VR w w2 _ _):=iH (by rw [hw];exact V1.out.row #[.int .i64 Y.kd,.slice s1 Y.sec.length sc1,.int .i64 Y.pr,.int .i64 Y.st,.slice n1 Y.non.length nc1,.int .i64 Y.x,.int .i64 Y.g,.int .i64 Y.own,.int .i64 Y.oth,.slice a1 Y.k1.length ac1,.slice b1 Y.k2.length bc1,.int .i64 Y.ct])
 clear hw
 have f:=j4 (V2.out.rw 1 rfl)
 go_upto_region 3 with (go_at_call 34;refine(j0s X s0 n0 a0 b0 sc0 nc0 ac0 bc0 bA0 eA0 bn0 en0 B s w2 (HK.out.1.below V2.out.bel HK.out.1.lt) (V2.out.at 6 rfl) (V2.out.at 7 rfl) (V2.out.at 8 rfl) (V2.out.at 9 rfl) (V2.out.at 10 rfl) (V2.out.at 11 rfl) HLN.out.1 HLN.out.2.1 HLN.out.2.2.1 HLN.out.2.2.2.1 HLN.out.2.2.2.2).mono ?_;rw [HC.out];rintro e w3 ⟨y,dd2,dc2,nn2,nd2,rfl,⟨u1,u2,u3,u4,rfl,hs,hn,ha,hb⟩,hd,hx,hbw⟩;obtain⟨s2,sc2,hp⟩:=Bs.formL hs;subst hp;obtain⟨n2,nc2,hp⟩:=Bs.formL hn;subst hp;obtain⟨a2,ac2,hp⟩:=Bs.formL ha;subst hp;obtain⟨b2,bc2,hp⟩:=Bs.formL hb;subst hp;have V3:=iH (((((((V2.out.on hbw).add hs).add hn).add ha).add hb).add hd).add hx);clear f;clear hs hn ha hb hd hx hbw)
 obtain⟨w4,hw⟩:∃z,z=w3.alloc (.cells #[.int .i64 Y.kd,.slice s2 Y.sec.length sc2,.int .i64 Y.pr,.int .i64 Y.st,.slice n2 Y.non.length nc2,.int .i64 Y.x,.int .i64 Y.g,.int .i64 Y.own,.int .i64 Y.oth,.slice a2 Y.k1.length ac2,.slice b2 Y.k2.length bc2,.int .i64 Y.ct] 48):=⟨_,rfl⟩
 rw [<-hw]
 have V4:Hid (VR w w4 _ _):=iH (by rw [hw];exact V3.out.row #[.int .i64 Y.kd,.slice s2 Y.sec.length sc2,.int .i64 Y.pr,.int .i64 Y.st,.slice n2 Y.non.length nc2,.int .i64 Y.x,.int .i64 Y.g,.int .i64 Y.own,.int .i64 Y.oth,.slice a2 Y.k1.length ac2,.slice b2 Y.k2.length bc2,.int .i64 Y.ct])
 clear hw
 have f:=j4 (V4.out.rw 2 rfl)
 go_upto_region 4 with (go_at_call 35;refine(j3v X s0 n0 a0 b0 sc0 nc0 ac0 bc0 bA0 eA0 bn0 en0 B s w4 (HK.out.2.below V4.out.bel HK.out.2.lt) (V4.out.at 12 rfl) (V4.out.at 13 rfl) (V4.out.at 14 rfl) (V4.out.at 15 rfl) (V4.out.at 16 rfl) (V4.out.at 17 rfl) HLN.out.1 HLN.out.2.1 HLN.out.2.2.1 HLN.out.2.2.2.1 HLN.out.2.2.2.2).mono ?_;rw [HT.out];rintro e w5 ⟨y,dd3,dc3,nn3,nd3,rfl,⟨u1,u2,u3,u4,rfl,hs,hn,ha,hb⟩,hd,hx,hbw⟩;obtain⟨s3,sc3,hp⟩:=Bs.formL hs;subst hp;obtain⟨n3,nc3,hp⟩:=Bs.formL hn;subst hp;obtain⟨a3,ac3,hp⟩:=Bs.formL ha;subst hp;obtain⟨b3,bc3,hp⟩:=Bs.formL hb;subst hp;have V5:=iH (((((((V4.out.on hbw).add hs).add hn).add ha).add hb).add hd).add hx);clear f;clear hs hn ha hb hd hx hbw)
 obtain⟨w6,hw⟩:∃z,z=w5.alloc (.cells #[.int .i64 Z.kd,.slice s3 Z.sec.length sc3,.int .i64 Z.pr,.int .i64 Z.st,.slice n3 Z.non.length nc3,.int .i64 Z.x,.int .i64 Z.g,.int .i64 Z.own,.int .i64 Z.oth,.slice a3 Z.k1.length ac3,.slice b3 Z.k2.length bc3,.int .i64 Z.ct] 48):=⟨_,rfl⟩
 rw [<-hw]
 have V6:Hid (VR w w6 _ _):=iH (by rw [hw];exact V5.out.row #[.int .i64 Z.kd,.slice s3 Z.sec.length sc3,.int .i64 Z.pr,.int .i64 Z.st,.slice n3 Z.non.length nc3,.int .i64 Z.x,.int .i64 Z.g,.int .i64 Z.own,.int .i64 Z.oth,.slice a3 Z.k1.length ac3,.slice b3 Z.k2.length bc3,.int .i64 Z.ct])
 clear hw
 have f:=j4 (V6.out.rw 3 rfl)
 go_upto_region 5 with (go_at_call 36;refine(j10 X s0 n0 a0 b0 sc0 nc0 ac0 bc0 bA0 eA0 bn0 en0 B s w6 (HK.out.1.below V6.out.bel HK.out.1.lt) (V6.out.at 18 rfl) (V6.out.at 19 rfl) (V6.out.at 20 rfl) (V6.out.at 21 rfl) (V6.out.at 22 rfl) (V6.out.at 23 rfl) HLN.out.1 HLN.out.2.1 HLN.out.2.2.1 HLN.out.2.2.2.1 HLN.out.2.2.2.2).mono ?_;rw [HT.out];rintro e w7 ⟨y,dd4,dc4,nn4,nd4,rfl,⟨u1,u2,u3,u4,rfl,hs,hn,ha,hb⟩,hd,hx,hbw⟩;obtain⟨s4,sc4,hp⟩:=Bs.formL hs;subst hp;obtain⟨n4,nc4,hp⟩:=Bs.formL hn;subst hp;obtain⟨a4,ac4,hp⟩:=Bs.formL ha;subst hp;obtain⟨b4,bc4,hp⟩:=Bs.formL hb;subst hp;have V7:=iH (((((((V6.out.on hbw).add hs).add hn).add ha).add hb).add hd).add hx);clear f;clear hs hn ha hb hd hx hbw)
 obtain⟨w8,hw⟩:∃z,z=w7.alloc (.cells #[.int .i64 Z.kd,.slice s4 Z.sec.length sc4,.int .i64 Z.pr,.int .i64 Z.st,.slice n4 Z.non.length nc4,.int .i64 Z.x,.int .i64 Z.g,.int .i64 Z.own,.int .i64 Z.oth,.slice a4 Z.k1.length ac4,.slice b4 Z.k2.length bc4,.int .i64 Z.ct] 48):=⟨_,rfl⟩
 rw [<-hw]
 have V8:Hid (VR w w8 _ _):=iH (by rw [hw];exact V7.out.row #[.int .i64 Z.kd,.slice s4 Z.sec.length sc4,.int .i64 Z.pr,.int .i64 Z.st,.slice n4 Z.non.length nc4,.int .i64 Z.x,.int .i64 Z.g,.int .i64 Z.own,.int .i64 Z.oth,.slice a4 Z.k1.length ac4,.slice b4 Z.k2.length bc4,.int .i64 Z.ct])
 clear hw
 go_wp2_with(first
  |(go_at_call 22;refine(kG _ _ M M _ _ w14 (V14.out.at 6 rfl) (V14.out.at 0 rfl)).mono ?_;rintro e w15 ⟨rfl,nd,hw⟩;rw [decide_eq_true (rfl:M=M)];have hb:Below w14.heap.size w14 w15:=(by rw [hw];exact j3 iB nd);clear hw;have V15:=iH (V14.out.on hb);clear hb)
  |(go_at_call 22;refine(kG _ _ E E _ _ w13 (V13.out.at 7 rfl) (V13.out.at 1 rfl)).mono ?_;rintro e w14 ⟨rfl,nd,hw⟩;rw [decide_eq_true (rfl:E=E)];have hb:Below w13.heap.size w13 w14:=(by rw [hw];exact j3 iB nd);clear hw;have V14:=iH (V13.out.on hb);clear hb)
  |(go_at_call 32;refine(ZB Z s3 n3 a3 b3 sc3 nc3 ac3 bc3 s4 n4 a4 b4 sc4 nc4 ac4 bc4 w12 (V12.out.at 11 rfl) (V12.out.at 10 rfl) (V12.out.at 9 rfl) (V12.out.at 8 rfl) (V12.out.at 5 rfl) (V12.out.at 4 rfl) (V12.out.at 3 rfl) (V12.out.at 2 rfl)).mono ?_;rintro e w13 ⟨rfl,hb⟩;have V13:=iH (V12.out.on hb);clear hb;clear f g)
  |(go_at_call 22;refine(kG _ _ N N _ _ w11 (V11.out.at 18 rfl) (V11.out.at 12 rfl)).mono ?_;rintro e w12 ⟨rfl,nd,hw⟩;rw [decide_eq_true (rfl:N=N)];have hb:Below w11.heap.size w11 w12:=(by rw [hw];exact j3 iB nd);clear hw;have V12:=iH (V11.out.on hb);clear hb;have f:=j4 (V12.out.rw 1 rfl);have g:=j4 (V12.out.rw 0 rfl))
  |(go_at_call 22;refine(kG _ _ D D _ _ w10 (V10.out.at 19 rfl) (V10.out.at 13 rfl)).mono ?_;rintro e w11 ⟨rfl,nd,hw⟩;rw [decide_eq_true (rfl:D=D)];have hb:Below w10.heap.size w10 w11:=(by rw [hw];exact j3 iB nd);clear hw;have V11:=iH (V10.out.on hb);clear hb)
  |(go_at_call 32;refine(ZB Y s1 n1 a1 b1 sc1 nc1 ac1 bc1 s2 n2 a2 b2 sc2 nc2 ac2 bc2 w9 (V9.out.at 23 rfl) (V9.out.at 22 rfl) (V9.out.at 21 rfl) (V9.out.at 20 rfl) (V9.out.at 17 rfl) (V9.out.at 16 rfl) (V9.out.at 15 rfl) (V9.out.at 14 rfl)).mono ?_;rintro e w10 ⟨rfl,hb⟩;have V10:=iH (V9.out.on hb);clear hb;clear f g)
  |(go_at_call 11;refine(Ue w8 (HK.out.2.below V8.out.bel HK.out.2.lt)).mono ?_;rintro e w9 ⟨rfl,hb⟩;have V9:=iH (V8.out.on hb);clear hb;have f:=j4 (V9.out.rw 3 rfl);have g:=j4 (V9.out.rw 2 rfl)))
 go_ret
 exact⟨rfl,V15.out.bel⟩
end Go.Proofs.YtalmmiojbmpmiaaGreatDoor
