/- Layer 21: Begin on both sides -/
import Derived.Test.YtalmmiojbmpmiaaGreatDoorPBh
set_option linter.all false
set_option maxRecDepth 100000
set_option maxHeartbeats 8000000
namespace Go.Proofs.YtalmmiojbmpmiaaGreatDoor
open Go.RowKit Go.Deep
theorem m0o{P:Prop}(h:P:=by
 exact BegO.err R.out ((HB0.out.trans (HB1.out.mono HB0.out.size)).trans (Below.mono (((PtW.start (FZ.out w1 HB1.out)).set12 (.int .i64 0) (.slice none 0 0) (.int .i64 0) (.int .i64 0) (.slice none 0 0) (.int .i64 0) (.int .i64 0) (.int .i64 0) (.int .i64 0) (.slice none 0 0) (.slice none 0 0) (.int .i64 0)).2.2) (Nat.le_succ _)))):P:=h
def bgX(kd:Int)(sec:List UInt8)(m:Int):Exg:=⟨kd,sec,m,0,[],0,0,0,0,[],[],0⟩
def j28(kd:Int)(sec:List UInt8)(m:Int):Int×Exg:=if vPw kd sec=false then(14,zX)else if ¬(m=2\/m=3)then(3,zX)else(0,bgX kd sec m)
def BegO(r:Int×Exg)(w:World)(e:Ending)(w':World):Prop:=∃y,e=.returned (.tuple #[y,.int .i64 r.1])/\ExL w' (·<w'.heap.size) y r.2/\Below w.heap.size w w'
theorem BegO.err{w w':World}{er:Int}{r:Int×Exg}(hr:r=(er,zX))(hb:Below w.heap.size w w'):BegO r w (.returned (.tuple #[.agg #[.int .i64 0,.slice none 0 0,.int .i64 0,.int .i64 0,.slice none 0 0,.int .i64 0,.int .i64 0,.int .i64 0,.int .i64 0,.slice none 0 0,.slice none 0 0,.int .i64 0],.int .i64 er])) w':=by
 subst hr
 exact⟨_,rfl,⟨_,_,_,_,rfl,kH _ _,kH _ _,kH _ _,kH _ _⟩,hb⟩
theorem VC(kd:Int)(sec:List UInt8)(A:Option Addr)(c:Nat)(m:Int)(w:World)(hv:Bs w w.heap.size (.slice A sec.length c) sec)(hl:sec.length<=140737488351232):
 Calls Tryz.prog 30 #[.agg #[.int .i64 kd,.slice A sec.length c],.int .i64 m] w (BegO (j28 kd sec m) w):=by
 obtain⟨w0,hw0⟩:∃w0,w0=(w.alloc (.cells #[.int .i64 kd,.slice A sec.length c] 24)).alloc (.cells #[.int .i64 0,.slice none 0 0,.int .i64 0,.int .i64 0,.slice none 0 0,.int .i64 0,.int .i64 0,.int .i64 0,.int .i64 0,.slice none 0 0,.slice none 0 0,.int .i64 0] 48):=⟨_,rfl⟩
 have hb0:Below w.heap.size w w0:=by rw [hw0];exact(iA).alloc (by simp) _
 have hz0:w0.heap.size=w.heap.size+2:=by rw [hw0];simp
 have FR:Hid (∀W,Below w0.heap.size w0 W->W.heap[w.heap.size]?=some (.cells #[.int .i64 kd,.slice A sec.length c] 24 (0,0))):=iH (fun W h=>(h.block w.heap.size (by omega)).trans (by rw [hw0];exact(Below.heap_alloc _ _ _ (by simp)).trans (iN)))
 have FZ:Hid (∀W,Below w0.heap.size w0 W->W.heap[w.heap.size+1]?=some (.cells #[.int .i64 0,.slice none 0 0,.int .i64 0,.int .i64 0,.slice none 0 0,.int .i64 0,.int .i64 0,.int .i64 0,.int .i64 0,.slice none 0 0,.slice none 0 0,.int .i64 0] 48 (0,0))):=iH (fun W h=>(h.block (w.heap.size+1) (by omega)).trans (by rw [hw0];exact(show((w.alloc (.cells #[.int .i64 kd,.slice A sec.length c] 24)).alloc (.cells #[.int .i64 0,.slice none 0 0,.int .i64 0,.int .i64 0,.slice none 0 0,.int .i64 0,.int .i64 0,.int .i64 0,.int .i64 0,.slice none 0 0,.slice none 0 0,.int .i64 0] 48)).heap[w.heap.size+1]?=_ from by have:=heap_alloc_new (w.alloc (.cells #[.int .i64 kd,.slice A sec.length c] 24)) (.cells #[.int .i64 0,.slice none 0 0,.int .i64 0,.int .i64 0,.slice none 0 0,.int .i64 0,.int .i64 0,.int .i64 0,.int .i64 0,.slice none 0 0,.slice none 0 0,.int .i64 0] 48);simpa using this)))
 have H1:=iH (hv.lift hb0);have HL:=iH hl
 have HW0:=iH hw0;have HB0:=iH hb0;have HSZ:=iH hz0
 obtain⟨f0,f1,_⟩:=two (FR.out w0 iB)
 clear hw0 hb0 hz0 hv hl
 rcases hp:vPw kd sec with _|_
 ·have HVP:=iH hp
  have R:Hid (j28 kd sec m=(14,zX)):=iH (by unfold j28;rw [iT hp])
  clear hp
  go_enter Tryz.func30,Tryz.ntmps30
  go_upto_region 1 with fail
  rw [<-HW0.out]
  go_wp2_with(go_at_call 45;refine(kT kd sec A c w0).mono ?_;rw [HVP.out];rintro e w1 ⟨rfl,hb⟩;have HB1:=iH hb;obtain⟨g0,g1,_⟩:=two (FR.out w1 hb);obtain⟨z0,z1,z2,z3,z4,z5,z6,z7,z8,z9,z10,z11,zf⟩:=j4 (FZ.out w1 hb);have zf0:=zf 0;have zf1:=zf 1;have zf2:=zf 2;have zf3:=zf 3;have zf4:=zf 4;have zf5:=zf 5;have zf6:=zf 6;have zf7:=zf 7;have zf8:=zf 8;have zf9:=zf 9;have zf10:=zf 10;have zf11:=zf 11;clear hb zf)
  obtain⟨y0,y1,y2,y3,y4,y5,y6,y7,y8,y9,y10,y11,yf⟩:=j4 ((PtW.start (FZ.out w1 HB1.out)).set12 (.int .i64 0) (.slice none 0 0) (.int .i64 0) (.int .i64 0) (.slice none 0 0) (.int .i64 0) (.int .i64 0) (.int .i64 0) (.int .i64 0) (.slice none 0 0) (.slice none 0 0) (.int .i64 0)).1
  unfold Go.Proofs.YtalmmiojbmpmiaaGreatDoor.set12 at y0 y1 y2 y3 y4 y5 y6 y7 y8 y9 y10 y11
  refine bodyPost_ret (v:=.tuple #[.agg #[.int .i64 0,.slice none 0 0,.int .i64 0,.int .i64 0,.slice none 0 0,.int .i64 0,.int .i64 0,.int .i64 0,.int .i64 0,.slice none 0 0,.slice none 0 0,.int .i64 0],.int .i64 14]) (by simp [results,Tryz.results30,go_sem,y0,y1,y2,y3,y4,y5,y6,y7,y8,y9,y10,y11]) rfl ?_
  exact m0o
 have HVP:=iH hp
 by_cases hm:m=2\/m=3
 case neg=>
  have R:Hid (j28 kd sec m=(3,zX)):=iH (by unfold j28;rw [iF (by rw [hp];simp),iT hm])
  have HM:Hid (decide (m=2\/m=3)=false):=iH (decide_eq_false hm)
  clear hp hm
  go_enter Tryz.func30,Tryz.ntmps30
  go_upto_region 1 with fail
  rw [<-HW0.out]
  go_wp2_with(first|(go_at_call 45;refine(kT kd sec A c w0).mono ?_;rw [HVP.out];rintro e w1 ⟨rfl,hb⟩;have HB1:=iH hb;obtain⟨g0,g1,_⟩:=two (FR.out w1 hb);obtain⟨z0,z1,z2,z3,z4,z5,z6,z7,z8,z9,z10,z11,zf⟩:=j4 (FZ.out w1 hb);have zf0:=zf 0;have zf1:=zf 1;have zf2:=zf 2;have zf3:=zf 3;have zf4:=zf 4;have zf5:=zf 5;have zf6:=zf 6;have zf7:=zf 7;have zf8:=zf 8;have zf9:=zf 9;have zf10:=zf 10;have zf11:=zf 11;clear hb zf)|(go_at_call 66;refine iR (zJ m _) ?_;rw [HM.out]))
  obtain⟨y0,y1,y2,y3,y4,y5,y6,y7,y8,y9,y10,y11,yf⟩:=j4 ((PtW.start (FZ.out w1 HB1.out)).set12 (.int .i64 0) (.slice none 0 0) (.int .i64 0) (.int .i64 0) (.slice none 0 0) (.int .i64 0) (.int .i64 0) (.int .i64 0) (.int .i64 0) (.slice none 0 0) (.slice none 0 0) (.int .i64 0)).1
  unfold Go.Proofs.YtalmmiojbmpmiaaGreatDoor.set12 at y0 y1 y2 y3 y4 y5 y6 y7 y8 y9 y10 y11
  refine bodyPost_ret (v:=.tuple #[.agg #[.int .i64 0,.slice none 0 0,.int .i64 0,.int .i64 0,.slice none 0 0,.int .i64 0,.int .i64 0,.int .i64 0,.int .i64 0,.slice none 0 0,.slice none 0 0,.int .i64 0],.int .i64 3]) (by simp [results,Tryz.results30,go_sem,y0,y1,y2,y3,y4,y5,y6,y7,y8,y9,y10,y11]) rfl ?_
  exact m0o
 have R:Hid (j28 kd sec m=(0,bgX kd sec m)):=iH (by unfold j28;rw [iF (by rw [hp];simp),iF (fun h=>h hm)])
 have HM:Hid (decide (m=2\/m=3)=true):=iH (decide_eq_true hm)
 clear hp
 clear hm
 go_enter Tryz.func30,Tryz.ntmps30
 go_upto_region 1 with fail
 rw [<-HW0.out]
 go_upto_region 5 with (first|(go_at_call 45;refine(kT kd sec A c w0).mono ?_;rw [HVP.out];rintro e w1 ⟨rfl,hb⟩;have HB1:=iH hb;obtain⟨g0,g1,_⟩:=two (FR.out w1 hb);obtain⟨z0,z1,z2,z3,z4,z5,z6,z7,z8,z9,z10,z11,zf⟩:=j4 (FZ.out w1 hb);have zf0:=zf 0;have zf1:=zf 1;have zf2:=zf 2;have zf3:=zf 3;have zf4:=zf 4;have zf5:=zf 5;have zf6:=zf 6;have zf7:=zf 7;have zf8:=zf 8;have zf9:=zf 9;have zf10:=zf 10;have zf11:=zf 11;clear hb zf)|(go_at_call 66;refine iR (zJ m _) ?_;rw [HM.out]))
 obtain⟨wb,hwb⟩:∃z,z=w1:=⟨_,rfl⟩
 rw [<-hwb]at HB1 |-
 have HBb:=HB1
 clear hwb HB1 z0 zf0 z1 zf1 z2 zf2 z3 zf3 z4 zf4 z5 zf5 z6 zf6 z7 zf7 z8 zf8 z9 zf9 z10 zf10 z11 zf11
 refine j9 8 [some 16,some 17,some 18,some 19,some 20,some 21,some 22,some 23] [[],[0],[],[2],[2,3],[0,1,2,3,4],[],[0,1,2,3,4,5,6]]
  (fun _ _ w1=>Below wb.heap.size wb w1) (fun w1 w2=>Below w1.heap.size w1 w2)
  [.v (.pointer (some ⟨w.heap.size,0,none⟩)),
   .v (.int .i64 kd),
   .v (.pointer (some ⟨w.heap.size,1,none⟩)),
   .v (.slice A sec.length c),
   .p (fun v w1=>∃A2 c2,v 4=.slice A2 sec.length c2/\BsS w1 (New wb w1) (.slice A2 sec.length c2) sec) (fun _ _ _ _ _ hr ⟨A,c,h1,h2⟩=>⟨A,c,h1,h2.keep fun g hg hl=>⟨hr.block g hl,hg.1,iZ hl hr.size⟩⟩),
   .q fun v=>∃A2 c2,v 4=.slice A2 sec.length c2/\v 5=.agg #[.int .i64 kd,.slice A2 sec.length c2],
   .v (.int .i64 m),
   .q fun v=>∃A2 c2,v 4=.slice A2 sec.length c2/\v 7=.agg #[.int .i64 kd,.slice A2 sec.length c2,.int .i64 m,.int .i64 0,.slice none 0 0,.int .i64 0,.int .i64 0,.int .i64 0,.int .i64 0,.slice none 0 0,.slice none 0 0,.int .i64 0]]
  (by kernel_rfl) (by kernel_rfl) rfl (fun _=>iB.drew) ?steps ?tail
 case steps=>
  simp only [List.take_succ_cons,List.take_zero]
  repeat' (with_reducible first|exact StepsRG.nil|refine StepsRG.cons ?_ ?_)
  all_goals(intro L v w1 hJ hL hF hD K hK;simp only [jb,Act.put,Nat.zero_add,Nat.reduceAdd,List.setIfInBounds_toArray,List.set_cons_zero,List.set_cons_succ,↓jP,List.getD_cons_zero,List.getD_cons_succ,Nat.reduceEqDiff,↓reduceIte]at hD hK |-)
  all_goals(first
   |((try simp only [hD]at hK |-);go_simp;refine hK _ _ hJ iB ?_;first|exact rfl|exact jf _)
   |((try simp only [hD]at hK |-);obtain⟨q0,q1,_⟩:=two (FR.out _ (HBb.out.trans (hJ.mono HBb.out.size)));go_simp;refine hK _ _ hJ iB ?_;first|exact rfl|exact jf _)
   |skip)
  ·simp only [hD]at hK |-
   go_simp
   refine(jr _ sec w1 (H1.out.lift (HBb.out.trans (hJ.mono HBb.out.size)))).mono ?_
   rintro e wk ⟨v2,rfl,ho,hb⟩
   obtain⟨A2,c2,hv2⟩:=OwnB.form ho
   subst hv2
   refine hK _ _ (hJ.trans (hb.mono hJ.size)) hb ⟨_,_,rfl,?_⟩
   exact(OwnB.out ho (by have:=HL.out;omega) w1 iL).keep fun g hg _=>⟨rfl,Nat.le_trans hJ.size hg.1,hg.2⟩
  ·simp only [hD]at hK |-
   obtain⟨A2,c2,e4,_⟩:∃A2 c2,v 4=_/\_:=hF 4 (by simp)
   simp only [e4]at hK |-
   go_simp
   exact hK _ _ hJ iB ⟨A2,c2,e4,rfl⟩
  ·simp only [hD]at hK |-
   obtain⟨A2,c2,e4,e5⟩:∃A2 c2,v 4=_/\v 5=_:=hF 5 (by simp)
   try simp only [e4,e5]at hK |-
   go_simp
   exact hK _ _ hJ iB ⟨A2,c2,e4,rfl⟩
 case tail=>
  intro v w1 hJ hF hD
  simp only [jZ]at hD
  obtain⟨e0,e1,e2,e3,e6, -⟩:=hD
  simp only [List.drop_succ_cons,List.drop_zero,jb,Act.put,Nat.zero_add,Nat.reduceAdd,List.setIfInBounds_toArray,List.set_cons_zero,List.set_cons_succ]
  obtain⟨A2,c2,e4,hs⟩:∃A2 c2,v 4=_/\_:=hF 4 (by simp)
  obtain⟨A3,c3,e4b,e7⟩:∃A2 c2,v 4=_/\v 7=_:=hF 7 (by simp)
  obtain⟨rfl,_,rfl⟩:=Value.slice.inj (e4.symm.trans e4b)
  simp only [e7]
  have HS:=iH hs;have HJ:=iH (HBb.out.trans (hJ.mono HBb.out.size));have HJb:=iH hJ
  obtain⟨z0,z1,z2,z3,z4,z5,z6,z7,z8,z9,z10,z11,zf⟩:=j4 (FZ.out _ HJ.out)
  have zf0:=zf 0;have zf1:=zf 1;have zf2:=zf 2;have zf3:=zf 3;have zf4:=zf 4;have zf5:=zf 5;have zf6:=zf 6;have zf7:=zf 7;have zf8:=zf 8;have zf9:=zf 9;have zf10:=zf 10;have zf11:=zf 11
  clear hJ hF hs e0 e1 e2 e3 e4 e4b e6 e7 zf
  go_wp2_with fail
  obtain⟨y0,y1,y2,y3,y4,y5,y6,y7,y8,y9,y10,y11,yf⟩:=j4 ((PtW.start (FZ.out _ HJ.out)).set12 (.int .i64 kd) (.slice A2 sec.length c2) (.int .i64 m) (.int .i64 0) (.slice none 0 0) (.int .i64 0) (.int .i64 0) (.int .i64 0) (.int .i64 0) (.slice none 0 0) (.slice none 0 0) (.int .i64 0)).1
  have OF:=iH (BsS.madeB (p:=w.heap.size+1) HS.out (by have:=HSZ.out;have:=HBb.out.size;omega))
  obtain⟨w8,hw8⟩:∃z,z=set12 w1 (w.heap.size+1) (.int .i64 kd) (.slice A2 sec.length c2) (.int .i64 m) (.int .i64 0) (.slice none 0 0) (.int .i64 0) (.int .i64 0) (.int .i64 0) (.int .i64 0) (.slice none 0 0) (.slice none 0 0) (.int .i64 0):=⟨_,rfl⟩
  have hfin:Bs w8 w8.heap.size (.slice A2 sec.length c2) sec:=by rw [hw8];exact(BsS.set12 OF.out (.int .i64 kd) (.slice A2 sec.length c2) (.int .i64 m) (.int .i64 0) (.slice none 0 0) (.int .i64 0) (.int .i64 0) (.int .i64 0) (.int .i64 0) (.slice none 0 0) (.slice none 0 0) (.int .i64 0)).loB
  have hbel:Below w.heap.size w w8:=by rw [hw8];exact(HB0.out.trans (HJ.out.mono HB0.out.size)).trans (Below.mono (((PtW.start (FZ.out _ HJ.out)).set12 (.int .i64 kd) (.slice A2 sec.length c2) (.int .i64 m) (.int .i64 0) (.slice none 0 0) (.int .i64 0) (.int .i64 0) (.int .i64 0) (.int .i64 0) (.slice none 0 0) (.slice none 0 0) (.int .i64 0)).2.2) (Nat.le_succ _))
  unfold Go.Proofs.YtalmmiojbmpmiaaGreatDoor.set12 at y0 y1 y2 y3 y4 y5 y6 y7 y8 y9 y10 y11 hw8
  refine bodyPost_ret (v:=.tuple #[.agg #[.int .i64 kd,.slice A2 sec.length c2,.int .i64 m,.int .i64 0,.slice none 0 0,.int .i64 0,.int .i64 0,.int .i64 0,.int .i64 0,.slice none 0 0,.slice none 0 0,.int .i64 0],.int .i64 0]) (by simp [results,Tryz.results30,go_sem,y0,y1,y2,y3,y4,y5,y6,y7,y8,y9,y10,y11]) rfl ?_
  rw [<-hw8,R.out]
  exact⟨_,rfl,⟨_,_,_,_,rfl,hfin,kH _ _,kH _ _,kH _ _⟩,hbel⟩
end Go.Proofs.YtalmmiojbmpmiaaGreatDoor
