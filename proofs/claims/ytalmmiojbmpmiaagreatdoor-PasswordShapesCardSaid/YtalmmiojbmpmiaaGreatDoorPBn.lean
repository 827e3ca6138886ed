/- Layer 21: copies of exchanges -/
import Derived.Test.YtalmmiojbmpmiaaGreatDoorPBk
import Derived.Test.YtalmmiojbmpmiaaGreatDoorPBi
set_option linter.all false
set_option maxRecDepth 100000
set_option maxHeartbeats 4000000
namespace Go.Proofs.YtalmmiojbmpmiaaGreatDoor
open Go.RowKit Go.Deep
def set12(w:World)(P:Nat)(a b c d e f g h i j k l:Value):World:=(((((((((((w.setCell ⟨P,0,none⟩ a).setCell ⟨P,1,none⟩ b).setCell ⟨P,2,none⟩ c).setCell ⟨P,3,none⟩ d).setCell ⟨P,4,none⟩ e).setCell ⟨P,5,none⟩ f).setCell ⟨P,6,none⟩ g).setCell ⟨P,7,none⟩ h).setCell ⟨P,8,none⟩ i).setCell ⟨P,9,none⟩ j).setCell ⟨P,10,none⟩ k).setCell ⟨P,11,none⟩ l
theorem PtW.set12{P:Nat}{w W:World}{a' b' c' d' e' f' g' h' i' j' k' l':Value}(hp:PtW P w W #[a',b',c',d',e',f',g',h',i',j',k',l']) (a b c d e f g h i j k l:Value):PtW P w (set12 W P a b c d e f g h i j k l) #[a,b,c,d,e,f,g,h,i,j,k,l]:=by
 have h0:=(((((((((((hp.set 0 a).set 1 b).set 2 c).set 3 d).set 4 e).set 5 f).set 6 g).set 7 h).set 8 i).set 9 j).set 10 k).set 11 l
 simp only [Array.set!_eq_setIfInBounds,List.setIfInBounds_toArray,List.set_cons_zero,List.set_cons_succ]at h0
 exact h0
theorem BsS.set12{P:Nat}{W:World}{u:Value}{m:List UInt8}(h:BsS W (jL P W) u m)(a b c d e f g h' i j k l:Value):BsS (set12 W P a b c d e f g h' i j k l) (jL P (set12 W P a b c d e f g h' i j k l)) u m:=
 (((((((((((h.setP 0 a).setP 1 b).setP 2 c).setP 3 d).setP 4 e).setP 5 f).setP 6 g).setP 7 h').setP 8 i).setP 9 j).setP 10 k).setP 11 l
theorem XT(w:World)(P:Nat)(a b c d e f g h i j k l:Value):(set12 w P a b c d e f g h i j k l).heap.size=w.heap.size:=by simp [Go.Proofs.YtalmmiojbmpmiaaGreatDoor.set12,World.setCell]
theorem Qd{w:World}{P q:Nat}(hq:q≠P)(a b c d e f g h i j k l:Value):(set12 w P a b c d e f g h i j k l).heap[q]?=w.heap[q]? :=by
 unfold Go.Proofs.YtalmmiojbmpmiaaGreatDoor.set12
 iterate 12 rw [iO (by exact hq)]
theorem yL(X:Exg)(sA nA aA bA:Option Addr)(sc nc ac bc:Nat)(w:World)(hs:Bs w w.heap.size (.slice sA X.sec.length sc) X.sec)(hn:Bs w w.heap.size (.slice nA X.non.length nc) X.non)(h1:Bs w w.heap.size (.slice aA X.k1.length ac) X.k1)(h2:Bs w w.heap.size (.slice bA X.k2.length bc) X.k2)(ls:X.sec.length<=140737488351232)(ln:X.non.length<=140737488351232)(l1:X.k1.length<=140737488351232)(l2:X.k2.length<=140737488351232):Calls Tryz.prog 70 #[.agg #[.int .i64 X.kd,.slice sA X.sec.length sc,.int .i64 X.pr,.int .i64 X.st,.slice nA X.non.length nc,.int .i64 X.x,.int .i64 X.g,.int .i64 X.own,.int .i64 X.oth,.slice aA X.k1.length ac,.slice bA X.k2.length bc,.int .i64 X.ct]] w fun e w'=>∃sA nA aA bA sc nc ac bc,e=.returned (.agg #[.int .i64 X.kd,.slice sA X.sec.length sc,.int .i64 X.pr,.int .i64 X.st,.slice nA X.non.length nc,.int .i64 X.x,.int .i64 X.g,.int .i64 X.own,.int .i64 X.oth,.slice aA X.k1.length ac,.slice bA X.k2.length bc,.int .i64 X.ct])/\BsS w' (New w w') (.slice sA X.sec.length sc) X.sec/\BsS w' (New w w') (.slice nA X.non.length nc) X.non/\BsS w' (New w w') (.slice aA X.k1.length ac) X.k1/\BsS w' (New w w') (.slice bA X.k2.length bc) X.k2/\Below w.heap.size w w':=by
 obtain⟨w0,hw0⟩:∃w0,w0=(w.alloc (.cells #[.int .i64 X.kd,.slice sA X.sec.length sc,.int .i64 X.pr,.int .i64 X.st,.slice nA X.non.length nc,.int .i64 X.x,.int .i64 X.g,.int .i64 X.own,.int .i64 X.oth,.slice aA X.k1.length ac,.slice bA X.k2.length bc,.int .i64 X.ct] 48)).alloc (.cells #[.int .i64 0,.slice none 0 0,.int .i64 0,.int .i64 0,.slice none 0 0,.int .i64 0,.int .i64 0,.int .i64 0,.int .i64 0,.slice none 0 0,.slice none 0 0,.int .i64 0] 48):=⟨_,rfl⟩
 have hb0:Below w.heap.size w w0:=by rw [hw0];exact(iA).alloc (by simp) _
 have hz0:w0.heap.size=w.heap.size+2:=by rw [hw0];simp
 have HP0:Hid (PtW w.heap.size w0 w0 #[.int .i64 X.kd,.slice sA X.sec.length sc,.int .i64 X.pr,.int .i64 X.st,.slice nA X.non.length nc,.int .i64 X.x,.int .i64 X.g,.int .i64 X.own,.int .i64 X.oth,.slice aA X.k1.length ac,.slice bA X.k2.length bc,.int .i64 X.ct]):=iH (PtW.start (by rw [hw0];exact(Below.heap_alloc _ _ _ (by simp)).trans (iN)))
 have HZ0:Hid (w0.heap[w.heap.size+1]?=some (.cells #[.int .i64 0,.slice none 0 0,.int .i64 0,.int .i64 0,.slice none 0 0,.int .i64 0,.int .i64 0,.int .i64 0,.int .i64 0,.slice none 0 0,.slice none 0 0,.int .i64 0] 48 (0,0))):=iH (by rw [hw0];exact(show((w.alloc (.cells #[.int .i64 X.kd,.slice sA X.sec.length sc,.int .i64 X.pr,.int .i64 X.st,.slice nA X.non.length nc,.int .i64 X.x,.int .i64 X.g,.int .i64 X.own,.int .i64 X.oth,.slice aA X.k1.length ac,.slice bA X.k2.length bc,.int .i64 X.ct] 48)).alloc (.cells #[.int .i64 0,.slice none 0 0,.int .i64 0,.int .i64 0,.slice none 0 0,.int .i64 0,.int .i64 0,.int .i64 0,.int .i64 0,.slice none 0 0,.slice none 0 0,.int .i64 0] 48)).heap[w.heap.size+1]?=_ from by have:=heap_alloc_new (w.alloc (.cells #[.int .i64 X.kd,.slice sA X.sec.length sc,.int .i64 X.pr,.int .i64 X.st,.slice nA X.non.length nc,.int .i64 X.x,.int .i64 X.g,.int .i64 X.own,.int .i64 X.oth,.slice aA X.k1.length ac,.slice bA X.k2.length bc,.int .i64 X.ct] 48)) (.cells #[.int .i64 0,.slice none 0 0,.int .i64 0,.int .i64 0,.slice none 0 0,.int .i64 0,.int .i64 0,.int .i64 0,.int .i64 0,.slice none 0 0,.slice none 0 0,.int .i64 0] 48);simpa using this))
 have off:∀u m,Bs w w.heap.size u m->BsS w0 (jL w.heap.size w0) u m:=fun u m h=>h.keep fun b hs hl=>⟨hb0.block b hl,by omega,by omega⟩
 have HS:=iH (off _ _ hs);have HN:=iH (off _ _ hn);have K1:=iH (off _ _ h1);have K2:=iH (off _ _ h2)
 have HLN:=iH (And.intro ls (And.intro ln (And.intro l1 l2)))
 have HW0:=iH hw0;have HB0:=iH hb0;have HSZ:=iH hz0
 obtain⟨f0,f1,f2,f3,f4,f5,f6,f7,f8,f9,f10,f11,ff⟩:=jy HP0.out.1
 have ff1:=ff 1
 clear hs hn h1 h2 off hw0 hb0 hz0 ls ln l1 l2 ff
 go_enter Tryz.func70,Tryz.ntmps70
 go_upto_region 1 with fail
 rw [<-HW0.out]
 go_upto_region 2 with (go_at_call 67;refine(jr _ X.sec w0 HS.out.loB).mono ?_;rintro e w1 ⟨v2,rfl,ho,hb⟩;obtain⟨sB,sd,hv2⟩:=OwnB.form ho;subst hv2;have O1:=iH (OwnB.out ho (by have:=HLN.out;omega) w0 iL);have B1:=iH hb;have hp:=HP0.out.call hb;have HP1:=iH hp;obtain⟨g0,g1,g2,g3,g4,g5,g6,g7,g8,g9,g10,g11,gf⟩:=jy hp.1;have gf1:=gf 1;clear hp hb ho gf f0 f1 f2 f3 f4 f5 f6 f7 f8 f9 f10 f11 ff1)
 obtain⟨wa,hwa⟩:∃z,z=(w1.setCell ⟨w.heap.size,1,none⟩ (.slice sB X.sec.length sd)):=⟨_,rfl⟩
 rw [<-hwa]
 have hpa:PtW w.heap.size w0 wa #[.int .i64 X.kd,.slice sB X.sec.length sd,.int .i64 X.pr,.int .i64 X.st,.slice nA X.non.length nc,.int .i64 X.x,.int .i64 X.g,.int .i64 X.own,.int .i64 X.oth,.slice aA X.k1.length ac,.slice bA X.k2.length bc,.int .i64 X.ct]:=by rw [hwa];exact HP1.out.set 1 _
 have HPa:=iH hpa
 have HNa:Hid (BsS wa (jL w.heap.size wa) (.slice nA X.non.length nc) X.non):=iH (HN.out.grownP hpa.2.1)
 have HSa:Hid (BsS wa (jL w.heap.size wa) (.slice sB X.sec.length sd) X.sec):=iH (by rw [hwa];exact BsS.setP (O1.out.madeB HP0.out.lt) 1 _)
 have NSa:Hid (BsS wa (New w0 wa) (.slice sB X.sec.length sd) X.sec):=iH (by rw [hwa];exact O1.out.keep fun g hg hl=>⟨iO (by show g≠w.heap.size;have:=hg.1;have:=HSZ.out;omega),hg.1,by simpa [World.setCell]using hg.2⟩)
 obtain⟨f0,f1,f2,f3,f4,f5,f6,f7,f8,f9,f10,f11,ff⟩:=jy hpa.1
 have ff4:=ff 4
 clear hwa hpa g0 g1 g2 g3 g4 g5 g6 g7 g8 g9 g10 g11 gf1 ff
 go_upto_region 3 with (go_at_call 67;refine(jr _ X.non wa HNa.out.loB).mono ?_;rintro e w2 ⟨v2,rfl,ho,hb⟩;obtain⟨nB,nd,hv2⟩:=OwnB.form ho;subst hv2;have O2:=iH (OwnB.out ho (by have:=HLN.out;omega) wa iL);have B2:=iH hb;have hp:=HPa.out.call hb;have HP2:=iH hp;obtain⟨g0,g1,g2,g3,g4,g5,g6,g7,g8,g9,g10,g11,gf⟩:=jy hp.1;have gf4:=gf 4;clear hp hb ho gf f0 f1 f2 f3 f4 f5 f6 f7 f8 f9 f10 f11 ff4)
 obtain⟨w3,hw3⟩:∃z,z=(w2.setCell ⟨w.heap.size,4,none⟩ (.slice nB X.non.length nd)):=⟨_,rfl⟩
 rw [<-hw3]
 have hp3:PtW w.heap.size w0 w3 #[.int .i64 X.kd,.slice sB X.sec.length sd,.int .i64 X.pr,.int .i64 X.st,.slice nB X.non.length nd,.int .i64 X.x,.int .i64 X.g,.int .i64 X.own,.int .i64 X.oth,.slice aA X.k1.length ac,.slice bA X.k2.length bc,.int .i64 X.ct]:=by rw [hw3];exact HP2.out.set 4 _
 have NS3:Hid (BsS w3 (New w0 w3) (.slice sB X.sec.length sd) X.sec):=iH (NSa.out.keep fun g hg hl=>⟨by rw [hw3,iO (by show g≠w.heap.size;have:=hg.1;have:=HSZ.out;omega)];exact B2.out.block g hl,hg.1,by rw [hw3];simp [World.setCell];exact iZ hl B2.out.size⟩)
 have NN3:Hid (BsS w3 (New w0 w3) (.slice nB X.non.length nd) X.non):=iH (by
  have hz:=HPa.out.2.1.size
  rw [hw3]
  exact O2.out.keep fun g hg hl=>⟨iO (by show g≠w.heap.size;have:=hg.1;have:=HSZ.out;omega),by have:=hg.1;omega,by simpa [World.setCell]using hg.2⟩)
 clear HP2
 have K1:Hid (BsS w3 (jL w.heap.size w3) (.slice aA X.k1.length ac) X.k1):=iH (K1.out.grownP hp3.2.1)
 have K2:Hid (BsS w3 (jL w.heap.size w3) (.slice bA X.k2.length bc) X.k2):=iH (K2.out.grownP hp3.2.1)
 have HP2:=iH hp3
 clear hw3 hp3 g0 g1 g2 g3 g4 g5 g6 g7 g8 g9 g10 g11 gf4
 refine jg 10 [some 13,some 14,some 15,some 16,some 17,some 18,some 19,some 20,some 21,some 22] [[],[0],[0,1],[0,1,2],[],[4],[4,5],[0,1,2,3,4,5,6],[0,1,2,3,4,5,6],[0,1,2,3,4,5,6,8]]
  (fun _ _ w1=>Below w3.heap.size w3 w1) (fun w1 w2=>Below w1.heap.size w1 w2)
  [fun v _=>v 0=.pointer (some ⟨w.heap.size,9,none⟩),
   fun v _=>v 1=.pointer (some ⟨w.heap.size,9,none⟩),
   fun v _=>v 2=.slice aA X.k1.length ac,
   fun v w1=>∃A c,v 3=.slice A X.k1.length c/\BsS w1 (New w3 w1) (.slice A X.k1.length c) X.k1,
   fun v _=>v 4=.pointer (some ⟨w.heap.size,9,none⟩),
   fun v _=>v 5=.pointer (some ⟨w.heap.size,10,none⟩),
   fun v _=>v 6=.slice bA X.k2.length bc,
   fun v w1=>∃A c,v 7=.slice A X.k2.length c/\BsS w1 (New w3 w1) (.slice A X.k2.length c) X.k2,
   fun v _=>v 8=.pointer (some ⟨w.heap.size,9,none⟩),
   fun v _=>v 9=.pointer (some ⟨w.heap.size,9,none⟩)]
  (by kernel_rfl) (by kernel_rfl) (fun _=>iB.drew) ?st ?steps ?tail
 case st=>
  exact(.cons (fun _ _ _ _ _ _ h=>h) (.cons (fun _ _ _ _ _ _ h=>h) (.cons (fun _ _ _ _ _ _ h=>h) (.cons (fun _ _ _ _ _ hr ⟨A,c,h1,h2⟩=>⟨A,c,h1,h2.keep fun g hg hl=>⟨hr.block g hl,hg.1,iZ hl hr.size⟩⟩) (.cons (fun _ _ _ _ _ _ h=>h) (.cons (fun _ _ _ _ _ _ h=>h) (.cons (fun _ _ _ _ _ _ h=>h) (.cons (fun _ _ _ _ _ hr ⟨A,c,h1,h2⟩=>⟨A,c,h1,h2.keep fun g hg hl=>⟨hr.block g hl,hg.1,iZ hl hr.size⟩⟩) (.cons (fun _ _ _ _ _ _ h=>h) (.cons (fun _ _ _ _ _ _ h=>h) .nil))))))))))
 case steps=>
  simp only [List.take_succ_cons,List.take_zero]
  refine(.cons ?_ (.cons ?_ (.cons ?_ (.cons ?_ (.cons ?_ (.cons ?_ (.cons ?_ (.cons ?_ (.cons ?_ (.cons ?_ .nil))))))))))
  all_goals(intro L v w1 hJ hL hA hF K hK;simp only [ja,Act.put,Nat.zero_add,Nat.reduceAdd,List.setIfInBounds_toArray,List.set_cons_zero,List.set_cons_succ]at hK |-)
  ·go_simp
   refine hK _ _ hJ iB ?_
   first|exact rfl|exact j3 _
  ·have e0:v 0=.pointer (some ⟨w.heap.size,9,none⟩):=hF 0 (hA 0 (by simp))
   simp only [e0]at hK
   go_simp
   refine hK _ _ hJ iB ?_
   first|exact rfl|exact j3 _
  ·have e1:v 1=.pointer (some ⟨w.heap.size,9,none⟩):=hF 1 (hA 1 (by simp))
   have hp:=HP2.out.call hJ
   obtain⟨q0,q1,q2,q3,q4,q5,q6,q7,q8,q9,q10,q11,qf⟩:=jy hp.1
   clear hp
   simp only [e1]at hK
   go_simp
   refine hK _ _ hJ iB ?_
   first|exact rfl|exact j3 _
  ·have e2:v 2=.slice aA X.k1.length ac:=hF 2 (hA 2 (by simp))
   simp only [e2]at hK
   go_simp
   refine(jr _ X.k1 w1 (K1.out.onB hJ).loB).mono ?_
   rintro e wk ⟨v2,rfl,ho,hb⟩
   obtain⟨A2,c2,hv2⟩:=OwnB.form ho
   subst hv2
   refine hK _ _ (hJ.trans (hb.mono hJ.size)) hb ⟨_,_,rfl,?_⟩
   exact(OwnB.out ho (by have:=HLN.out;omega) w1 iL).keep fun g hg _=>⟨rfl,Nat.le_trans hJ.size hg.1,hg.2⟩
  ·go_simp
   refine hK _ _ hJ iB ?_
   first|exact rfl|exact j3 _
  ·have e4:v 4=.pointer (some ⟨w.heap.size,9,none⟩):=hF 4 (hA 4 (by simp))
   simp only [e4]at hK
   go_simp
   refine hK _ _ hJ iB ?_
   first|exact rfl|exact j3 _
  ·have e5:v 5=.pointer (some ⟨w.heap.size,10,none⟩):=hF 5 (hA 5 (by simp))
   have hp:=HP2.out.call hJ
   obtain⟨q0,q1,q2,q3,q4,q5,q6,q7,q8,q9,q10,q11,qf⟩:=jy hp.1
   clear hp
   simp only [e5]at hK
   go_simp
   refine hK _ _ hJ iB ?_
   first|exact rfl|exact j3 _
  ·have e6:v 6=.slice bA X.k2.length bc:=hF 6 (hA 6 (by simp))
   simp only [e6]at hK
   go_simp
   refine(jr _ X.k2 w1 (K2.out.onB hJ).loB).mono ?_
   rintro e wk ⟨v2,rfl,ho,hb⟩
   obtain⟨A2,c2,hv2⟩:=OwnB.form ho
   subst hv2
   refine hK _ _ (hJ.trans (hb.mono hJ.size)) hb ⟨_,_,rfl,?_⟩
   exact(OwnB.out ho (by have:=HLN.out;omega) w1 iL).keep fun g hg _=>⟨rfl,Nat.le_trans hJ.size hg.1,hg.2⟩
  ·go_simp
   refine hK _ _ hJ iB ?_
   first|exact rfl|exact j3 _
  ·have e8:v 8=.pointer (some ⟨w.heap.size,9,none⟩):=hF 8 (hA 8 (by simp))
   simp only [e8]at hK
   go_simp
   refine hK _ _ hJ iB ?_
   first|exact rfl|exact j3 _
 case tail=>
  intro v w1 hJ hF
  have e0:v 0=.pointer (some ⟨w.heap.size,9,none⟩):=hF 0 (by simp)
  have e1:v 1=.pointer (some ⟨w.heap.size,9,none⟩):=hF 1 (by simp)
  have e2:v 2=.slice aA X.k1.length ac:=hF 2 (by simp)
  have e4:v 4=.pointer (some ⟨w.heap.size,9,none⟩):=hF 4 (by simp)
  have e5:v 5=.pointer (some ⟨w.heap.size,10,none⟩):=hF 5 (by simp)
  have e6:v 6=.slice bA X.k2.length bc:=hF 6 (by simp)
  have e8:v 8=.pointer (some ⟨w.heap.size,9,none⟩):=hF 8 (by simp)
  have e9:v 9=.pointer (some ⟨w.heap.size,9,none⟩):=hF 9 (by simp)
  simp only [List.drop_succ_cons,List.drop_zero,ja,Act.put,Nat.zero_add,Nat.reduceAdd,List.setIfInBounds_toArray,List.set_cons_zero,List.set_cons_succ]
  obtain⟨aB,ad,e3,hk1⟩:∃A c,v 3=.slice A X.k1.length c/\BsS w1 (New w3 w1) (.slice A X.k1.length c) X.k1:=hF 3 (by simp)
  obtain⟨bB,bd,e7,hk2⟩:∃A c,v 7=.slice A X.k2.length c/\BsS w1 (New w3 w1) (.slice A X.k2.length c) X.k2:=hF 7 (by simp)
  simp only [e0,e1,e2,e3,e4,e5,e6,e7,e8,e9]
  have hp4:=HP2.out.call hJ
  obtain⟨f0,f1,f2,f3,f4,f5,f6,f7,f8,f9,f10,f11,ff⟩:=jy hp4.1
  have ff9:=ff 9;have ff10:=ff 10
  have HP4:=iH hp4;have N1:=iH hk1;have N2:=iH hk2;have HJ4:=iH hJ
  clear hJ hF hp4 hk1 hk2 e0 e1 e2 e3 e4 e5 e6 e7 e8 e9 ff
  go_upto_region 4 with fail
  obtain⟨w5,hw5⟩:∃z,z=(w1.setCell ⟨w.heap.size,9,none⟩ (.slice aB X.k1.length ad)).setCell ⟨w.heap.size,10,none⟩ (.slice bB X.k2.length bd):=⟨_,rfl⟩
  rw [<-hw5]
  have hp5:PtW w.heap.size w0 w5 #[.int .i64 X.kd,.slice sB X.sec.length sd,.int .i64 X.pr,.int .i64 X.st,.slice nB X.non.length nd,.int .i64 X.x,.int .i64 X.g,.int .i64 X.own,.int .i64 X.oth,.slice aB X.k1.length ad,.slice bB X.k2.length bd,.int .i64 X.ct]:=by rw [hw5];exact(HP4.out.set 9 _).set 10 _
  clear f0 f1 f2 f3 f4 f5 f6 f7 f8 f9 f10 f11 ff9 ff10
  obtain⟨f0,f1,f2,f3,f4,f5,f6,f7,f8,f9,f10,f11,ff⟩:=jy hp5.1
  have hz5:w5.heap[w.heap.size+1]?=some (.cells #[.int .i64 0,.slice none 0 0,.int .i64 0,.int .i64 0,.slice none 0 0,.int .i64 0,.int .i64 0,.int .i64 0,.int .i64 0,.slice none 0 0,.slice none 0 0,.int .i64 0] 48 (0,0)):=(hp5.2.1.block (w.heap.size+1) (by have:=HSZ.out;omega) (by intro e;injection e with e;omega)).trans HZ0.out
  obtain⟨z0,z1,z2,z3,z4,z5,z6,z7,z8,z9,z10,z11,zf⟩:=jy hz5
  have zf0:=zf 0;have zf1:=zf 1;have zf2:=zf 2;have zf3:=zf 3;have zf4:=zf 4;have zf5:=zf 5;have zf6:=zf 6;have zf7:=zf 7;have zf8:=zf 8;have zf9:=zf 9;have zf10:=zf 10;have zf11:=zf 11
  have HP5:=iH hp5;have HW5:=iH hw5;have HZ5:=iH hz5
  clear hp5 hw5 hz5 zf ff
  go_wp2_with fail
  have hq:(set12 w5 (w.heap.size+1) (.int .i64 X.kd) (.slice sB X.sec.length sd) (.int .i64 X.pr) (.int .i64 X.st) (.slice nB X.non.length nd) (.int .i64 X.x) (.int .i64 X.g) (.int .i64 X.own) (.int .i64 X.oth) (.slice aB X.k1.length ad) (.slice bB X.k2.length bd) (.int .i64 X.ct)).heap[w.heap.size+1]?=some (.cells #[.int .i64 X.kd,.slice sB X.sec.length sd,.int .i64 X.pr,.int .i64 X.st,.slice nB X.non.length nd,.int .i64 X.x,.int .i64 X.g,.int .i64 X.own,.int .i64 X.oth,.slice aB X.k1.length ad,.slice bB X.k2.length bd,.int .i64 X.ct] 48 (0,0)):=((PtW.start HZ5.out).set12 (.int .i64 X.kd) (.slice sB X.sec.length sd) (.int .i64 X.pr) (.int .i64 X.st) (.slice nB X.non.length nd) (.int .i64 X.x) (.int .i64 X.g) (.int .i64 X.own) (.int .i64 X.oth) (.slice aB X.k1.length ad) (.slice bB X.k2.length bd) (.int .i64 X.ct)).1
  obtain⟨y0,y1,y2,y3,y4,y5,y6,y7,y8,y9,y10,y11,yf⟩:=jy hq
  unfold Go.Proofs.YtalmmiojbmpmiaaGreatDoor.set12 at y0 y1 y2 y3 y4 y5 y6 y7 y8 y9 y10 y11
  refine bodyPost_ret (v:=.agg #[.int .i64 X.kd,.slice sB X.sec.length sd,.int .i64 X.pr,.int .i64 X.st,.slice nB X.non.length nd,.int .i64 X.x,.int .i64 X.g,.int .i64 X.own,.int .i64 X.oth,.slice aB X.k1.length ad,.slice bB X.k2.length bd,.int .i64 X.ct]) (by simp [results,Tryz.results70,go_sem,y0,y1,y2,y3,y4,y5,y6,y7,y8,y9,y10,y11]) rfl ?_
  obtain⟨w6,hw6⟩:∃z,z=set12 w5 (w.heap.size+1) (.int .i64 X.kd) (.slice sB X.sec.length sd) (.int .i64 X.pr) (.int .i64 X.st) (.slice nB X.non.length nd) (.int .i64 X.x) (.int .i64 X.g) (.int .i64 X.own) (.int .i64 X.oth) (.slice aB X.k1.length ad) (.slice bB X.k2.length bd) (.int .i64 X.ct):=⟨_,rfl⟩
  have hfin:∀ {u:Value} {m:List UInt8},BsS w1 (New w0 w1) u m->BsS w6 (New w w6) u m:=fun {u m} h=>h.keep fun g hg hl=>⟨by rw [hw6,Qd (by have:=hg.1;have:=HSZ.out;omega),HW5.out,iO (by show g≠w.heap.size;have:=hg.1;have:=HSZ.out;omega),iO (by show g≠w.heap.size;have:=hg.1;have:=HSZ.out;omega)],by have:=hg.1;have:=HSZ.out;omega,by rw [hw6,XT,HW5.out];simpa [World.setCell]using hl⟩
  have hJs:=HJ4.out.size
  have hz3:=HP2.out.2.1.size
  have hup:∀ {u:Value} {m:List UInt8},BsS w3 (New w0 w3) u m->BsS w1 (New w0 w1) u m:=fun {u m} h=>h.keep fun g hg hl=>⟨HJ4.out.block g hl,hg.1,iZ hl hJs⟩
  have hbel:Below w.heap.size w w6:=by rw [hw6];exact HB0.out.trans ((HP5.out.2.2.mono iL) |>.trans ((PtW.set12 (PtW.start HZ5.out) (.int .i64 X.kd) (.slice sB X.sec.length sd) (.int .i64 X.pr) (.int .i64 X.st) (.slice nB X.non.length nd) (.int .i64 X.x) (.int .i64 X.g) (.int .i64 X.own) (.int .i64 X.oth) (.slice aB X.k1.length ad) (.slice bB X.k2.length bd) (.int .i64 X.ct)).2.2.mono (Nat.le_succ _)) |>.mono iL)
  unfold Go.Proofs.YtalmmiojbmpmiaaGreatDoor.set12 at hw6
  rw [<-hw6]
  exact⟨_,_,_,_,_,_,_,_,rfl,hfin (hup NS3.out),hfin (hup NN3.out),hfin (N1.out.keep fun g hg _=>⟨rfl,by have:=hg.1;omega,hg.2⟩),hfin (N2.out.keep fun g hg _=>⟨rfl,by have:=hg.1;omega,hg.2⟩),hbel⟩
end Go.Proofs.YtalmmiojbmpmiaaGreatDoor
