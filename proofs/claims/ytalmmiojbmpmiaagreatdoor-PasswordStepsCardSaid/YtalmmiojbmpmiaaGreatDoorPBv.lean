/- Layer 21: Begin on both sides; Layer 21: the reference's Begin and Same -/
import Derived.Test.YtalmmiojbmpmiaaGreatDoorPBp
import Derived.Test.YtalmmiojbmpmiaaGreatDoorPBu
set_option linter.all false
set_option maxRecDepth 100000
set_option maxHeartbeats 8000000
namespace Go.Proofs.YtalmmiojbmpmiaaGreatDoor
open Go.RowKit Go.Deep
def bgX(kd:Int)(sec:List UInt8)(m:Int):Exg:=⟨kd,sec,m,0,[],0,0,0,0,[],[],0⟩
def Kt(kd:Int)(sec:List UInt8)(m:Int):Int×Exg:=if vPw kd sec=false then(14,zX)else if ¬(m=2\/m=3)then(3,zX)else(0,bgX kd sec m)
def BegO(r:Int×Exg)(w:World)(e:Ending)(w':World):Prop:=∃y,e=.returned (.tuple #[y,.int .i64 r.1])/\ExL w' (·<w'.heap.size) y r.2/\Below w.heap.size w w'
theorem BegO.err{w w':World}{er:Int}{r:Int×Exg}(hr:r=(er,zX))(hb:Below w.heap.size w w'):BegO r w (.returned (.tuple #[.agg #[.int .i64 0,.slice none 0 0,.int .i64 0,.int .i64 0,.slice none 0 0,.int .i64 0,.int .i64 0,.int .i64 0,.int .i64 0,.slice none 0 0,.slice none 0 0,.int .i64 0],.int .i64 er])) w':=by
 subst hr
 exact⟨_,rfl,⟨_,_,_,_,rfl,k8 _ _,k8 _ _,k8 _ _,k8 _ _⟩,hb⟩
theorem Vq(kd:Int)(sec:List UInt8)(A:Option Addr)(c:Nat)(m:Int)(w:World)(hv:Bs w w.heap.size (.slice A sec.length c) sec)(hl:sec.length<=140737488351232):
 Calls Tryz.prog 30 #[.agg #[.int .i64 kd,.slice A sec.length c],.int .i64 m] w (BegO (Kt kd sec m) w):=by
 obtain⟨w0,hw0⟩:∃w0,w0=(w.alloc (.cells #[.int .i64 kd,.slice A sec.length c] 24)).alloc (.cells #[.int .i64 0,.slice none 0 0,.int .i64 0,.int .i64 0,.slice none 0 0,.int .i64 0,.int .i64 0,.int .i64 0,.int .i64 0,.slice none 0 0,.slice none 0 0,.int .i64 0] 48):=⟨_,rfl⟩
 have hb0:Below w.heap.size w w0:=by rw [hw0];exact(iA).alloc (by simp) _
 have hz0:w0.heap.size=w.heap.size+2:=by rw [hw0];simp
 have FR:Hid (∀W,Below w0.heap.size w0 W->W.heap[w.heap.size]?=some (.cells #[.int .i64 kd,.slice A sec.length c] 24 (0,0))):=iH (fun W h=>(h.block w.heap.size (by omega)).trans (by rw [hw0];exact(Below.heap_alloc _ _ _ (by simp)).trans (iN)))
 have FZ:Hid (∀W,Below w0.heap.size w0 W->W.heap[w.heap.size+1]?=some (.cells #[.int .i64 0,.slice none 0 0,.int .i64 0,.int .i64 0,.slice none 0 0,.int .i64 0,.int .i64 0,.int .i64 0,.int .i64 0,.slice none 0 0,.slice none 0 0,.int .i64 0] 48 (0,0))):=iH (fun W h=>(h.block (w.heap.size+1) (by omega)).trans (by rw [hw0];exact(show((w.alloc (.cells #[.int .i64 kd,.slice A sec.length c] 24)).alloc (.cells #[.int .i64 0,.slice none 0 0,.int .i64 0,.int .i64 0,.slice none 0 0,.int .i64 0,.int .i64 0,.int .i64 0,.int .i64 0,.slice none 0 0,.slice none 0 0,.int .i64 0] 48)).heap[w.heap.size+1]?=_ from by have:=heap_alloc_new (w.alloc (.cells #[.int .i64 kd,.slice A sec.length c] 24)) (.cells #[.int .i64 0,.slice none 0 0,.int .i64 0,.int .i64 0,.slice none 0 0,.int .i64 0,.int .i64 0,.int .i64 0,.int .i64 0,.slice none 0 0,.slice none 0 0,.int .i64 0] 48);simpa using this)))
 have H1:=iH (hv.lift hb0);have HL:=iH hl
 have HW0:=iH hw0;have HB0:=iH hb0;have HSZ:=iH hz0
 obtain⟨f0,f1,_⟩:=two (FR.out w0 iB)
 clear hw0 hb0 hz0 hv hl
 rcases hp:vPw kd sec with _|_
 ·have HVP:=iH hp
  have R:Hid (Kt kd sec m=(14,zX)):=iH (by unfold Kt;rw [iT hp])
  clear hp
  go_enter Tryz.func30,Tryz.ntmps30
  go_upto_region 1 with fail
  rw [<-HW0.out]
  go_wp2_with(go_at_call 45;refine(kY kd sec A c w0).mono ?_;rw [HVP.out];rintro e w1 ⟨rfl,hb⟩;have HB1:=iH hb;obtain⟨g0,g1,_⟩:=two (FR.out w1 hb);have z:=j4 (FZ.out w1 hb);clear hb)
  have y:=j4 ((PtW.start (FZ.out w1 HB1.out)).z12).1
  unfold Go.Proofs.YtalmmiojbmpmiaaGreatDoor.set12 at y
  refine bodyPost_ret (v:=.tuple #[.agg #[.int .i64 0,.slice none 0 0,.int .i64 0,.int .i64 0,.slice none 0 0,.int .i64 0,.int .i64 0,.int .i64 0,.int .i64 0,.slice none 0 0,.slice none 0 0,.int .i64 0],.int .i64 14]) (by simp [results,Tryz.results30,go_sem,y]) rfl ?_
  exact BegO.err R.out ((HB0.out.trans (HB1.out.mono HB0.out.size)).trans (Below.mono (((PtW.start (FZ.out w1 HB1.out)).z12).2.2) (Nat.le_succ _)))
 have HVP:=iH hp
 by_cases hm:m=2\/m=3
 case neg=>
  have R:Hid (Kt kd sec m=(3,zX)):=iH (by unfold Kt;rw [iF (by rw [hp];simp),iT hm])
  have HM:Hid (decide (m=2\/m=3)=false):=iH (decide_eq_false hm)
  clear hp hm
  go_enter Tryz.func30,Tryz.ntmps30
  go_upto_region 1 with fail
  rw [<-HW0.out]
  go_wp2_with(first|(go_at_call 45;refine(kY kd sec A c w0).mono ?_;rw [HVP.out];rintro e w1 ⟨rfl,hb⟩;have HB1:=iH hb;obtain⟨g0,g1,_⟩:=two (FR.out w1 hb);have z:=j4 (FZ.out w1 hb);clear hb)|(go_at_call 66;refine iR (zz m _) ?_;rw [HM.out]))
  have y:=j4 ((PtW.start (FZ.out w1 HB1.out)).z12).1
  unfold Go.Proofs.YtalmmiojbmpmiaaGreatDoor.set12 at y
  refine bodyPost_ret (v:=.tuple #[.agg #[.int .i64 0,.slice none 0 0,.int .i64 0,.int .i64 0,.slice none 0 0,.int .i64 0,.int .i64 0,.int .i64 0,.int .i64 0,.slice none 0 0,.slice none 0 0,.int .i64 0],.int .i64 3]) (by simp [results,Tryz.results30,go_sem,y]) rfl ?_
  exact BegO.err R.out ((HB0.out.trans (HB1.out.mono HB0.out.size)).trans (Below.mono (((PtW.start (FZ.out w1 HB1.out)).z12).2.2) (Nat.le_succ _)))
 have R:Hid (Kt kd sec m=(0,bgX kd sec m)):=iH (by unfold Kt;rw [iF (by rw [hp];simp),iF (fun h=>h hm)])
 have HM:Hid (decide (m=2\/m=3)=true):=iH (decide_eq_true hm)
 clear hp
 clear hm
 go_enter Tryz.func30,Tryz.ntmps30
 go_upto_region 1 with fail
 rw [<-HW0.out]
 go_upto_region 5 with (first|(go_at_call 45;refine(kY kd sec A c w0).mono ?_;rw [HVP.out];rintro e w1 ⟨rfl,hb⟩;have HB1:=iH hb;obtain⟨g0,g1,_⟩:=two (FR.out w1 hb);have z:=j4 (FZ.out w1 hb);clear hb)|(go_at_call 66;refine iR (zz m _) ?_;rw [HM.out]))
 obtain⟨wb,hwb⟩:∃z,z=w1:=⟨_,rfl⟩
 rw [<-hwb]at HB1 |-
 have HBb:=HB1
 clear hwb HB1 z
 refine ja 8 [some 16,some 17,some 18,some 19,some 20,some 21,some 22,some 23] [[],[0],[],[2],[2,3],[0,1,2,3,4],[],[0,1,2,3,4,5,6]]
  (fun _ _ w1=>Below wb.heap.size wb w1) (fun w1 w2=>Below w1.heap.size w1 w2)
  [.v (.pointer (some ⟨w.heap.size,0,none⟩)),
   .v (.int .i64 kd),
   .v (.pointer (some ⟨w.heap.size,1,none⟩)),
   .v (.slice A sec.length c),
   .p (fun v w1=>∃A2 c2,v 4=.slice A2 sec.length c2/\BsS w1 (New wb w1) (.slice A2 sec.length c2) sec) (fun _ _ _ _ _ hr ⟨A,c,h1,h2⟩=>⟨A,c,h1,h2.keep fun g hg hl=>⟨hr.block g hl,hg.1,iZ hl hr.size⟩⟩),
   .q fun v=>∃A2 c2,v 4=.slice A2 sec.length c2/\v 5=.agg #[.int .i64 kd,.slice A2 sec.length c2],
   .v (.int .i64 m),
   .q fun v=>∃A2 c2,v 4=.slice A2 sec.length c2/\v 7=.agg #[.int .i64 kd,.slice A2 sec.length c2,.int .i64 m,.int .i64 0,.slice none 0 0,.int .i64 0,.int .i64 0,.int .i64 0,.int .i64 0,.slice none 0 0,.slice none 0 0,.int .i64 0]]
  (by kernel_rfl) (by kernel_rfl) rfl (fun _=>iB.drew) ?steps ?tail
 case steps=>
  simp only [List.take_succ_cons,List.take_zero]
  repeat' (with_reducible first|exact StepsRG.nil|refine StepsRG.cons ?_ ?_)
  all_goals(intro L v w1 hJ hL hF hD K hK;simp only [jb,Act.put,Nat.zero_add,Nat.reduceAdd,List.setIfInBounds_toArray,List.set_cons_zero,List.set_cons_succ,↓jZ,List.getD_cons_zero,List.getD_cons_succ,Nat.reduceEqDiff,↓reduceIte]at hD hK |-)
  all_goals(first
   |((try simp only [hD]at hK |-);go_simp;refine hK _ _ hJ iB ?_;first|exact rfl|exact jh _)
   |((try simp only [hD]at hK |-);obtain⟨q0,q1,_⟩:=two (FR.out _ (HBb.out.trans (hJ.mono HBb.out.size)));go_simp;refine hK _ _ hJ iB ?_;first|exact rfl|exact jh _)
   |skip)
  ·simp only [hD]at hK |-
   go_simp
   refine(js _ sec w1 (H1.out.lift (HBb.out.trans (hJ.mono HBb.out.size)))).mono ?_
   rintro e wk ⟨v2,rfl,ho,hb⟩
   obtain⟨A2,c2,hv2⟩:=OwnB.form ho
   subst hv2
   refine hK _ _ (hJ.trans (hb.mono hJ.size)) hb ⟨_,_,rfl,?_⟩
   exact(OwnB.out ho (by have:=HL.out;omega) w1 iL).keep fun g hg _=>⟨rfl,Nat.le_trans hJ.size hg.1,hg.2⟩
  ·simp only [hD]at hK |-
   obtain⟨A2,c2,e4,_⟩:∃A2 c2,v 4=_/\_:=hF 4 (by simp)
   simp only [e4]at hK |-
   go_simp
   exact hK _ _ hJ iB ⟨A2,c2,e4,rfl⟩
  ·simp only [hD]at hK |-
   obtain⟨A2,c2,e4,e5⟩:∃A2 c2,v 4=_/\v 5=_:=hF 5 (by simp)
   try simp only [e4,e5]at hK |-
   go_simp
   exact hK _ _ hJ iB ⟨A2,c2,e4,rfl⟩
 case tail=>
  intro v w1 hJ hF hD
  simp only [kE]at hD
  obtain⟨e0,e1,e2,e3,e6, -⟩:=hD
  simp only [List.drop_succ_cons,List.drop_zero,jb,Act.put,Nat.zero_add,Nat.reduceAdd,List.setIfInBounds_toArray,List.set_cons_zero,List.set_cons_succ]
  obtain⟨A2,c2,e4,hs⟩:∃A2 c2,v 4=_/\_:=hF 4 (by simp)
  obtain⟨A3,c3,e4b,e7⟩:∃A2 c2,v 4=_/\v 7=_:=hF 7 (by simp)
  obtain⟨rfl,_,rfl⟩:=Value.slice.inj (e4.symm.trans e4b)
  simp only [e7]
  have HS:=iH hs;have HJ:=iH (HBb.out.trans (hJ.mono HBb.out.size));have HJb:=iH hJ
  have z:=j4 (FZ.out _ HJ.out)
  clear hJ hF hs e0 e1 e2 e3 e4 e4b e6 e7
  go_wp2_with fail
  have y:=j4 ((PtW.start (FZ.out _ HJ.out)).set12 (.int .i64 kd) (.slice A2 sec.length c2) (.int .i64 m) (.int .i64 0) (.slice none 0 0) (.int .i64 0) (.int .i64 0) (.int .i64 0) (.int .i64 0) (.slice none 0 0) (.slice none 0 0) (.int .i64 0)).1
  have OF:=iH (BsS.madeB (p:=w.heap.size+1) HS.out (by have:=HSZ.out;have:=HBb.out.size;omega))
  obtain⟨w8,hw8⟩:∃z,z=set12 w1 (w.heap.size+1) (.int .i64 kd) (.slice A2 sec.length c2) (.int .i64 m) (.int .i64 0) (.slice none 0 0) (.int .i64 0) (.int .i64 0) (.int .i64 0) (.int .i64 0) (.slice none 0 0) (.slice none 0 0) (.int .i64 0):=⟨_,rfl⟩
  have hfin:Bs w8 w8.heap.size (.slice A2 sec.length c2) sec:=by rw [hw8];exact(BsS.set12 OF.out (.int .i64 kd) (.slice A2 sec.length c2) (.int .i64 m) (.int .i64 0) (.slice none 0 0) (.int .i64 0) (.int .i64 0) (.int .i64 0) (.int .i64 0) (.slice none 0 0) (.slice none 0 0) (.int .i64 0)).loB
  have hbel:Below w.heap.size w w8:=by rw [hw8];exact(HB0.out.trans (HJ.out.mono HB0.out.size)).trans (Below.mono (((PtW.start (FZ.out _ HJ.out)).set12 (.int .i64 kd) (.slice A2 sec.length c2) (.int .i64 m) (.int .i64 0) (.slice none 0 0) (.int .i64 0) (.int .i64 0) (.int .i64 0) (.int .i64 0) (.slice none 0 0) (.slice none 0 0) (.int .i64 0)).2.2) (Nat.le_succ _))
  unfold Go.Proofs.YtalmmiojbmpmiaaGreatDoor.set12 at y hw8
  refine bodyPost_ret (v:=.tuple #[.agg #[.int .i64 kd,.slice A2 sec.length c2,.int .i64 m,.int .i64 0,.slice none 0 0,.int .i64 0,.int .i64 0,.int .i64 0,.int .i64 0,.slice none 0 0,.slice none 0 0,.int .i64 0],.int .i64 0]) (by simp [results,Tryz.results30,go_sem,y]) rfl ?_
  rw [<-hw8,R.out]
  exact⟨_,rfl,⟨_,_,_,_,rfl,hfin,k8 _ _,k8 _ _,k8 _ _⟩,hbel⟩
theorem U9{op:Oper}{a:Act}{w:World}{K:Act->World->Prop}{Q:Exit->Act->World->Prop}(s x:Operand)(ho:op.op=.call {callee:=.builtin .append,args:=#[s,x],argTypes:=#[22,22]})(base:Nat)(v:Value)(l:List UInt8)(hs:a.eval s=v)(hown:OwnB w base v l)(A:Option Addr)(n c:Nat)(m:List UInt8)(S:Nat->Prop)(hx:a.eval x=.slice A n c)(hm:BsS w S (.slice A n c) m)(hb:l.length+m.length<=140737488355328)(hbase:base<=w.heap.size)(h:∀v' w',j3w w w' base v v' (l++m)->K (a.put op.dst v') w'):Oper.wp Tryz.prog op a w K Q:=by
 obtain⟨hn,hsrc⟩:=BsS.src hm
 subst hn
 exact yG w s x 22 ho base 5 (.int .u8 0) 1 Tryz.underlying22 kC rfl (by omega) v l.length (l.map U8) hs hown A m.length c (m.map U8) hx hsrc (by omega) hbase fun v' w' h1 h2 h3 _=>h v' w' ⟨by
       unfold OwnB
       rw [List.length_append,List.map_append]
       exact h1,jj hown h2 iL hbase,h2,fun b hb=>h3.elim (fun e=>.inl (e▸hb)) fun e=>.inr (by rw [e]at hb;injection hb with hb;omega)⟩
theorem KM(kd:Int)(sec:List UInt8)(A:Option Addr)(c:Nat)(m:Int)(w:World)(hv:Bs w w.heap.size (.slice A sec.length c) sec)(hl:sec.length<=140737488351232):
 Calls Tryz.prog 31 #[.agg #[.int .i64 kd,.slice A sec.length c],.int .i64 m] w (BegO (Kt kd sec m) w):=by
 obtain⟨w0,hw0⟩:∃w0,w0=(w.alloc (.cells #[.int .i64 kd,.slice A sec.length c] 24)).alloc (.cells #[.int .i64 0,.slice none 0 0,.int .i64 0,.int .i64 0,.slice none 0 0,.int .i64 0,.int .i64 0,.int .i64 0,.int .i64 0,.slice none 0 0,.slice none 0 0,.int .i64 0] 48):=⟨_,rfl⟩
 have hb0:Below w.heap.size w w0:=by rw [hw0];exact(iA).alloc (by simp) _
 have hz0:w0.heap.size=w.heap.size+2:=by rw [hw0];simp
 have FR:Hid (∀W,Below w0.heap.size w0 W->W.heap[w.heap.size]?=some (.cells #[.int .i64 kd,.slice A sec.length c] 24 (0,0))):=iH (fun W h=>(h.block w.heap.size (by omega)).trans (by rw [hw0];exact(Below.heap_alloc _ _ _ (by simp)).trans (iN)))
 have FZ:Hid (∀W,Below w0.heap.size w0 W->W.heap[w.heap.size+1]?=some (.cells #[.int .i64 0,.slice none 0 0,.int .i64 0,.int .i64 0,.slice none 0 0,.int .i64 0,.int .i64 0,.int .i64 0,.int .i64 0,.slice none 0 0,.slice none 0 0,.int .i64 0] 48 (0,0))):=iH (fun W h=>(h.block (w.heap.size+1) (by omega)).trans (by rw [hw0];exact(show((w.alloc (.cells #[.int .i64 kd,.slice A sec.length c] 24)).alloc (.cells #[.int .i64 0,.slice none 0 0,.int .i64 0,.int .i64 0,.slice none 0 0,.int .i64 0,.int .i64 0,.int .i64 0,.int .i64 0,.slice none 0 0,.slice none 0 0,.int .i64 0] 48)).heap[w.heap.size+1]?=_ from by have:=heap_alloc_new (w.alloc (.cells #[.int .i64 kd,.slice A sec.length c] 24)) (.cells #[.int .i64 0,.slice none 0 0,.int .i64 0,.int .i64 0,.slice none 0 0,.int .i64 0,.int .i64 0,.int .i64 0,.int .i64 0,.slice none 0 0,.slice none 0 0,.int .i64 0] 48);simpa using this)))
 have H1:=iH (hv.lift hb0);have HL:=iH hl
 have HW0:=iH hw0;have HB0:=iH hb0;have HSZ:=iH hz0
 obtain⟨f0,f1,_⟩:=two (FR.out w0 iB)
 clear hw0 hb0 hz0 hv hl
 rcases hp:vPw kd sec with _|_
 ·have HVP:=iH hp
  have R:Hid (Kt kd sec m=(14,zX)):=iH (by unfold Kt;rw [iT hp])
  clear hp
  go_enter Tryz.func31,Tryz.ntmps31
  go_upto_region 1 with fail
  rw [<-HW0.out]
  go_wp2_with(go_at_call 48;refine(jY kd sec A c w0).mono ?_;rw [HVP.out];rintro e w1 ⟨rfl,hb⟩;have HB1:=iH hb;obtain⟨g0,g1,_⟩:=two (FR.out w1 hb);have z:=j4 (FZ.out w1 hb);clear hb)
  have y:=j4 ((PtW.start (FZ.out w1 HB1.out)).z12).1
  unfold Go.Proofs.YtalmmiojbmpmiaaGreatDoor.set12 at y
  refine bodyPost_ret (v:=.tuple #[.agg #[.int .i64 0,.slice none 0 0,.int .i64 0,.int .i64 0,.slice none 0 0,.int .i64 0,.int .i64 0,.int .i64 0,.int .i64 0,.slice none 0 0,.slice none 0 0,.int .i64 0],.int .i64 14]) (by simp [results,Tryz.results31,go_sem,y]) rfl ?_
  exact BegO.err R.out ((HB0.out.trans (HB1.out.mono HB0.out.size)).trans (Below.mono (((PtW.start (FZ.out w1 HB1.out)).z12).2.2) (Nat.le_succ _)))
 have HVP:=iH hp
 by_cases hm:m=2\/m=3
 case neg=>
  have R:Hid (Kt kd sec m=(3,zX)):=iH (by unfold Kt;rw [iF (by rw [hp];simp),iT hm])
  have HM:Hid (decide (m=2\/m=3)=false):=iH (decide_eq_false hm)
  have m2:(m != 2)=true:=by simp;omega
  have m3:(m != 3)=true:=by simp;omega
  clear hp hm
  go_enter Tryz.func31,Tryz.ntmps31
  go_upto_region 1 with fail
  rw [<-HW0.out]
  go_wp2_with(first|(go_at_call 48;refine(jY kd sec A c w0).mono ?_;rw [HVP.out];rintro e w1 ⟨rfl,hb⟩;have HB1:=iH hb;obtain⟨g0,g1,_⟩:=two (FR.out w1 hb);have z:=j4 (FZ.out w1 hb);clear hb))
  have y:=j4 ((PtW.start (FZ.out w1 HB1.out)).z12).1
  unfold Go.Proofs.YtalmmiojbmpmiaaGreatDoor.set12 at y
  refine bodyPost_ret (v:=.tuple #[.agg #[.int .i64 0,.slice none 0 0,.int .i64 0,.int .i64 0,.slice none 0 0,.int .i64 0,.int .i64 0,.int .i64 0,.int .i64 0,.slice none 0 0,.slice none 0 0,.int .i64 0],.int .i64 3]) (by simp [results,Tryz.results31,go_sem,y]) rfl ?_
  exact BegO.err R.out ((HB0.out.trans (HB1.out.mono HB0.out.size)).trans (Below.mono (((PtW.start (FZ.out w1 HB1.out)).z12).2.2) (Nat.le_succ _)))
 have R:Hid (Kt kd sec m=(0,bgX kd sec m)):=iH (by unfold Kt;rw [iF (by rw [hp];simp),iF (fun h=>h hm)])
 have HM:Hid (decide (m=2\/m=3)=true):=iH (decide_eq_true hm)
 clear hp
 rcases hm with hm|hm
 ·have m2:(m != 2)=false:=by simp [hm]
  clear hm
  go_enter Tryz.func31,Tryz.ntmps31
  go_upto_region 1 with fail
  rw [<-HW0.out]
  go_upto_region 5 with (first|(go_at_call 48;refine(jY kd sec A c w0).mono ?_;rw [HVP.out];rintro e w1 ⟨rfl,hb⟩;have HB1:=iH hb;obtain⟨g0,g1,_⟩:=two (FR.out w1 hb);have z:=j4 (FZ.out w1 hb);clear hb))
  obtain⟨wb,hwb⟩:∃z,z=w1:=⟨_,rfl⟩
  rw [<-hwb]at HB1 |-
  have HBb:=HB1
  clear hwb HB1 z
  refine ja 8 [some 17,some 18,some 19,some 20,some 21,some 22,some 23,some 24] [[],[0],[],[2],[2,3],[0,1,2,3,4],[],[0,1,2,3,4,5,6]]
   (fun _ _ w1=>Below wb.heap.size wb w1) (fun w1 w2=>Below w1.heap.size w1 w2)
   [.v (.pointer (some ⟨w.heap.size,0,none⟩)),
    .v (.int .i64 kd),
    .v (.pointer (some ⟨w.heap.size,1,none⟩)),
    .v (.slice A sec.length c),
    .p (fun v w1=>∃A2 c2,v 4=.slice A2 sec.length c2/\BsS w1 (New wb w1) (.slice A2 sec.length c2) sec) (fun _ _ _ _ _ hr ⟨A,c,h1,h2⟩=>⟨A,c,h1,h2.keep fun g hg hl=>⟨hr.block g hl,hg.1,iZ hl hr.size⟩⟩),
    .q fun v=>∃A2 c2,v 4=.slice A2 sec.length c2/\v 5=.agg #[.int .i64 kd,.slice A2 sec.length c2],
    .v (.int .i64 m),
    .q fun v=>∃A2 c2,v 4=.slice A2 sec.length c2/\v 7=.agg #[.int .i64 kd,.slice A2 sec.length c2,.int .i64 m,.int .i64 0,.slice none 0 0,.int .i64 0,.int .i64 0,.int .i64 0,.int .i64 0,.slice none 0 0,.slice none 0 0,.int .i64 0]]
   (by kernel_rfl) (by kernel_rfl) rfl (fun _=>iB.drew) ?steps ?tail
  case steps=>
   simp only [List.take_succ_cons,List.take_zero]
   repeat' (with_reducible first|exact StepsRG.nil|refine StepsRG.cons ?_ ?_)
   all_goals(intro L v w1 hJ hL hF hD K hK;simp only [jb,Act.put,Nat.zero_add,Nat.reduceAdd,List.setIfInBounds_toArray,List.set_cons_zero,List.set_cons_succ,↓jZ,List.getD_cons_zero,List.getD_cons_succ,Nat.reduceEqDiff,↓reduceIte]at hD hK |-)
   all_goals(first
    |((try simp only [hD]at hK |-);go_simp;refine hK _ _ hJ iB ?_;first|exact rfl|exact jh _)
    |((try simp only [hD]at hK |-);obtain⟨q0,q1,_⟩:=two (FR.out _ (HBb.out.trans (hJ.mono HBb.out.size)));go_simp;refine hK _ _ hJ iB ?_;first|exact rfl|exact jh _)
    |skip)
   ·simp only [hD]at hK |-
    rw [iT (show Region.wanted _ _=true from rfl)]
    refine U9 (.const (.slice none 0 0)) (.tmp 20) rfl w1.heap.size (.slice none 0 0) [] rfl (OwnB.nil _ _) A sec.length c sec (·<w1.heap.size) (by simp [Act.eval]) (H1.out.lift (HBb.out.trans (hJ.mono HBb.out.size))) (by have:=HL.out;simp;omega) iL fun v2 w2 hG=> ?_
    rw [List.nil_append]at hG
    obtain⟨A2,c2,hv2⟩:=hG.1.form
    subst hv2
    refine hK _ _ (hJ.trans (hG.2.1.mono hJ.size)) hG.2.1 ⟨_,_,rfl,?_⟩
    exact(OwnB.out hG.1 (by have:=HL.out;omega) w1 iL).keep fun g hg _=>⟨rfl,Nat.le_trans hJ.size hg.1,hg.2⟩
   ·simp only [hD]at hK |-
    obtain⟨A2,c2,e4,_⟩:∃A2 c2,v 4=_/\_:=hF 4 (by simp)
    simp only [e4]at hK |-
    go_simp
    exact hK _ _ hJ iB ⟨A2,c2,e4,rfl⟩
   ·simp only [hD]at hK |-
    obtain⟨A2,c2,e4,e5⟩:∃A2 c2,v 4=_/\v 5=_:=hF 5 (by simp)
    try simp only [e4,e5]at hK |-
    go_simp
    exact hK _ _ hJ iB ⟨A2,c2,e4,rfl⟩
  case tail=>
   intro v w1 hJ hF hD
   simp only [kE]at hD
   obtain⟨e0,e1,e2,e3,e6, -⟩:=hD
   simp only [List.drop_succ_cons,List.drop_zero,jb,Act.put,Nat.zero_add,Nat.reduceAdd,List.setIfInBounds_toArray,List.set_cons_zero,List.set_cons_succ]
   obtain⟨A2,c2,e4,hs⟩:∃A2 c2,v 4=_/\_:=hF 4 (by simp)
   obtain⟨A3,c3,e4b,e7⟩:∃A2 c2,v 4=_/\v 7=_:=hF 7 (by simp)
   obtain⟨rfl,_,rfl⟩:=Value.slice.inj (e4.symm.trans e4b)
   simp only [e7]
   have HS:=iH hs;have HJ:=iH (HBb.out.trans (hJ.mono HBb.out.size));have HJb:=iH hJ
   have z:=j4 (FZ.out _ HJ.out)
   clear hJ hF hs e0 e1 e2 e3 e4 e4b e6 e7
   go_wp2_with fail
   have y:=j4 ((PtW.start (FZ.out _ HJ.out)).set12 (.int .i64 kd) (.slice A2 sec.length c2) (.int .i64 m) (.int .i64 0) (.slice none 0 0) (.int .i64 0) (.int .i64 0) (.int .i64 0) (.int .i64 0) (.slice none 0 0) (.slice none 0 0) (.int .i64 0)).1
   have OF:=iH (BsS.madeB (p:=w.heap.size+1) HS.out (by have:=HSZ.out;have:=HBb.out.size;omega))
   obtain⟨w8,hw8⟩:∃z,z=set12 w1 (w.heap.size+1) (.int .i64 kd) (.slice A2 sec.length c2) (.int .i64 m) (.int .i64 0) (.slice none 0 0) (.int .i64 0) (.int .i64 0) (.int .i64 0) (.int .i64 0) (.slice none 0 0) (.slice none 0 0) (.int .i64 0):=⟨_,rfl⟩
   have hfin:Bs w8 w8.heap.size (.slice A2 sec.length c2) sec:=by rw [hw8];exact(BsS.set12 OF.out (.int .i64 kd) (.slice A2 sec.length c2) (.int .i64 m) (.int .i64 0) (.slice none 0 0) (.int .i64 0) (.int .i64 0) (.int .i64 0) (.int .i64 0) (.slice none 0 0) (.slice none 0 0) (.int .i64 0)).loB
   have hbel:Below w.heap.size w w8:=by rw [hw8];exact(HB0.out.trans (HJ.out.mono HB0.out.size)).trans (Below.mono (((PtW.start (FZ.out _ HJ.out)).set12 (.int .i64 kd) (.slice A2 sec.length c2) (.int .i64 m) (.int .i64 0) (.slice none 0 0) (.int .i64 0) (.int .i64 0) (.int .i64 0) (.int .i64 0) (.slice none 0 0) (.slice none 0 0) (.int .i64 0)).2.2) (Nat.le_succ _))
   unfold Go.Proofs.YtalmmiojbmpmiaaGreatDoor.set12 at y hw8
   refine bodyPost_ret (v:=.tuple #[.agg #[.int .i64 kd,.slice A2 sec.length c2,.int .i64 m,.int .i64 0,.slice none 0 0,.int .i64 0,.int .i64 0,.int .i64 0,.int .i64 0,.slice none 0 0,.slice none 0 0,.int .i64 0],.int .i64 0]) (by simp [results,Tryz.results31,go_sem,y]) rfl ?_
   rw [<-hw8,R.out]
   exact⟨_,rfl,⟨_,_,_,_,rfl,hfin,k8 _ _,k8 _ _,k8 _ _⟩,hbel⟩
 ·have m2:(m != 2)=true:=by simp [hm]
  have m3:(m != 3)=false:=by simp [hm]
  clear hm
  go_enter Tryz.func31,Tryz.ntmps31
  go_upto_region 1 with fail
  rw [<-HW0.out]
  go_upto_region 5 with (first|(go_at_call 48;refine(jY kd sec A c w0).mono ?_;rw [HVP.out];rintro e w1 ⟨rfl,hb⟩;have HB1:=iH hb;obtain⟨g0,g1,_⟩:=two (FR.out w1 hb);have z:=j4 (FZ.out w1 hb);clear hb))
  obtain⟨wb,hwb⟩:∃z,z=w1:=⟨_,rfl⟩
  rw [<-hwb]at HB1 |-
  have HBb:=HB1
  clear hwb HB1 z
  refine ja 8 [some 17,some 18,some 19,some 20,some 21,some 22,some 23,some 24] [[],[0],[],[2],[2,3],[0,1,2,3,4],[],[0,1,2,3,4,5,6]]
   (fun _ _ w1=>Below wb.heap.size wb w1) (fun w1 w2=>Below w1.heap.size w1 w2)
   [.v (.pointer (some ⟨w.heap.size,0,none⟩)),
    .v (.int .i64 kd),
    .v (.pointer (some ⟨w.heap.size,1,none⟩)),
    .v (.slice A sec.length c),
    .p (fun v w1=>∃A2 c2,v 4=.slice A2 sec.length c2/\BsS w1 (New wb w1) (.slice A2 sec.length c2) sec) (fun _ _ _ _ _ hr ⟨A,c,h1,h2⟩=>⟨A,c,h1,h2.keep fun g hg hl=>⟨hr.block g hl,hg.1,iZ hl hr.size⟩⟩),
    .q fun v=>∃A2 c2,v 4=.slice A2 sec.length c2/\v 5=.agg #[.int .i64 kd,.slice A2 sec.length c2],
    .v (.int .i64 m),
    .q fun v=>∃A2 c2,v 4=.slice A2 sec.length c2/\v 7=.agg #[.int .i64 kd,.slice A2 sec.length c2,.int .i64 m,.int .i64 0,.slice none 0 0,.int .i64 0,.int .i64 0,.int .i64 0,.int .i64 0,.slice none 0 0,.slice none 0 0,.int .i64 0]]
   (by kernel_rfl) (by kernel_rfl) rfl (fun _=>iB.drew) ?steps ?tail
  case steps=>
   simp only [List.take_succ_cons,List.take_zero]
   repeat' (with_reducible first|exact StepsRG.nil|refine StepsRG.cons ?_ ?_)
   all_goals(intro L v w1 hJ hL hF hD K hK;simp only [jb,Act.put,Nat.zero_add,Nat.reduceAdd,List.setIfInBounds_toArray,List.set_cons_zero,List.set_cons_succ,↓jZ,List.getD_cons_zero,List.getD_cons_succ,Nat.reduceEqDiff,↓reduceIte]at hD hK |-)
   all_goals(first
    |((try simp only [hD]at hK |-);go_simp;refine hK _ _ hJ iB ?_;first|exact rfl|exact jh _)
    |((try simp only [hD]at hK |-);obtain⟨q0,q1,_⟩:=two (FR.out _ (HBb.out.trans (hJ.mono HBb.out.size)));go_simp;refine hK _ _ hJ iB ?_;first|exact rfl|exact jh _)
    |skip)
   ·simp only [hD]at hK |-
    rw [iT (show Region.wanted _ _=true from rfl)]
    refine U9 (.const (.slice none 0 0)) (.tmp 20) rfl w1.heap.size (.slice none 0 0) [] rfl (OwnB.nil _ _) A sec.length c sec (·<w1.heap.size) (by simp [Act.eval]) (H1.out.lift (HBb.out.trans (hJ.mono HBb.out.size))) (by have:=HL.out;simp;omega) iL fun v2 w2 hG=> ?_
    rw [List.nil_append]at hG
    obtain⟨A2,c2,hv2⟩:=hG.1.form
    subst hv2
    refine hK _ _ (hJ.trans (hG.2.1.mono hJ.size)) hG.2.1 ⟨_,_,rfl,?_⟩
    exact(OwnB.out hG.1 (by have:=HL.out;omega) w1 iL).keep fun g hg _=>⟨rfl,Nat.le_trans hJ.size hg.1,hg.2⟩
   ·simp only [hD]at hK |-
    obtain⟨A2,c2,e4,_⟩:∃A2 c2,v 4=_/\_:=hF 4 (by simp)
    simp only [e4]at hK |-
    go_simp
    exact hK _ _ hJ iB ⟨A2,c2,e4,rfl⟩
   ·simp only [hD]at hK |-
    obtain⟨A2,c2,e4,e5⟩:∃A2 c2,v 4=_/\v 5=_:=hF 5 (by simp)
    try simp only [e4,e5]at hK |-
    go_simp
    exact hK _ _ hJ iB ⟨A2,c2,e4,rfl⟩
  case tail=>
   intro v w1 hJ hF hD
   simp only [kE]at hD
   obtain⟨e0,e1,e2,e3,e6, -⟩:=hD
   simp only [List.drop_succ_cons,List.drop_zero,jb,Act.put,Nat.zero_add,Nat.reduceAdd,List.setIfInBounds_toArray,List.set_cons_zero,List.set_cons_succ]
   obtain⟨A2,c2,e4,hs⟩:∃A2 c2,v 4=_/\_:=hF 4 (by simp)
   obtain⟨A3,c3,e4b,e7⟩:∃A2 c2,v 4=_/\v 7=_:=hF 7 (by simp)
   obtain⟨rfl,_,rfl⟩:=Value.slice.inj (e4.symm.trans e4b)
   simp only [e7]
   have HS:=iH hs;have HJ:=iH (HBb.out.trans (hJ.mono HBb.out.size));have HJb:=iH hJ
   have z:=j4 (FZ.out _ HJ.out)
   clear hJ hF hs e0 e1 e2 e3 e4 e4b e6 e7
   go_wp2_with fail
   have y:=j4 ((PtW.start (FZ.out _ HJ.out)).set12 (.int .i64 kd) (.slice A2 sec.length c2) (.int .i64 m) (.int .i64 0) (.slice none 0 0) (.int .i64 0) (.int .i64 0) (.int .i64 0) (.int .i64 0) (.slice none 0 0) (.slice none 0 0) (.int .i64 0)).1
   have OF:=iH (BsS.madeB (p:=w.heap.size+1) HS.out (by have:=HSZ.out;have:=HBb.out.size;omega))
   obtain⟨w8,hw8⟩:∃z,z=set12 w1 (w.heap.size+1) (.int .i64 kd) (.slice A2 sec.length c2) (.int .i64 m) (.int .i64 0) (.slice none 0 0) (.int .i64 0) (.int .i64 0) (.int .i64 0) (.int .i64 0) (.slice none 0 0) (.slice none 0 0) (.int .i64 0):=⟨_,rfl⟩
   have hfin:Bs w8 w8.heap.size (.slice A2 sec.length c2) sec:=by rw [hw8];exact(BsS.set12 OF.out (.int .i64 kd) (.slice A2 sec.length c2) (.int .i64 m) (.int .i64 0) (.slice none 0 0) (.int .i64 0) (.int .i64 0) (.int .i64 0) (.int .i64 0) (.slice none 0 0) (.slice none 0 0) (.int .i64 0)).loB
   have hbel:Below w.heap.size w w8:=by rw [hw8];exact(HB0.out.trans (HJ.out.mono HB0.out.size)).trans (Below.mono (((PtW.start (FZ.out _ HJ.out)).set12 (.int .i64 kd) (.slice A2 sec.length c2) (.int .i64 m) (.int .i64 0) (.slice none 0 0) (.int .i64 0) (.int .i64 0) (.int .i64 0) (.int .i64 0) (.slice none 0 0) (.slice none 0 0) (.int .i64 0)).2.2) (Nat.le_succ _))
   unfold Go.Proofs.YtalmmiojbmpmiaaGreatDoor.set12 at y hw8
   refine bodyPost_ret (v:=.tuple #[.agg #[.int .i64 kd,.slice A2 sec.length c2,.int .i64 m,.int .i64 0,.slice none 0 0,.int .i64 0,.int .i64 0,.int .i64 0,.int .i64 0,.slice none 0 0,.slice none 0 0,.int .i64 0],.int .i64 0]) (by simp [results,Tryz.results31,go_sem,y]) rfl ?_
   rw [<-hw8,R.out]
   exact⟨_,rfl,⟨_,_,_,_,rfl,hfin,k8 _ _,k8 _ _,k8 _ _⟩,hbel⟩
theorem Zn(X:Exg)(sA nA aA bA:Option Addr)(sc nc ac bc:Nat)(tA mA cA dA:Option Addr)(tc mc cc dc:Nat)(w:World)(h1:Bs w w.heap.size (.slice sA X.sec.length sc) X.sec)(h2:Bs w w.heap.size (.slice nA X.non.length nc) X.non)(h3:Bs w w.heap.size (.slice aA X.k1.length ac) X.k1)(h4:Bs w w.heap.size (.slice bA X.k2.length bc) X.k2)(k1:Bs w w.heap.size (.slice tA X.sec.length tc) X.sec)(k2:Bs w w.heap.size (.slice mA X.non.length mc) X.non)(k3:Bs w w.heap.size (.slice cA X.k1.length cc) X.k1)(k4:Bs w w.heap.size (.slice dA X.k2.length dc) X.k2):
 Calls Tryz.prog 32 #[.agg #[.int .i64 X.kd,.slice sA X.sec.length sc,.int .i64 X.pr,.int .i64 X.st,.slice nA X.non.length nc,.int .i64 X.x,.int .i64 X.g,.int .i64 X.own,.int .i64 X.oth,.slice aA X.k1.length ac,.slice bA X.k2.length bc,.int .i64 X.ct],.agg #[.int .i64 X.kd,.slice tA X.sec.length tc,.int .i64 X.pr,.int .i64 X.st,.slice mA X.non.length mc,.int .i64 X.x,.int .i64 X.g,.int .i64 X.own,.int .i64 X.oth,.slice cA X.k1.length cc,.slice dA X.k2.length dc,.int .i64 X.ct]] w fun e w'=>e=.returned (.bool true)/\Below w.heap.size w w':=by
 obtain⟨w0,hw0⟩:∃w0,w0=(w.alloc (.cells (exX X sA nA aA bA sc nc ac bc) 48)).alloc (.cells (exX X tA mA cA dA tc mc cc dc) 48):=⟨_,rfl⟩
 have hb0:Below w.heap.size w w0:=by rw [hw0];exact(iA).alloc (by simp) _
 have hz0:w0.heap.size=w.heap.size+2:=by rw [hw0];simp
 have FR:Hid (∀W,Below w0.heap.size w0 W->W.heap[w.heap.size]?=some (.cells (exX X sA nA aA bA sc nc ac bc) 48 (0,0))):=iH (fun W h=>(h.block w.heap.size (by omega)).trans (by rw [hw0];exact(Below.heap_alloc _ _ _ (by simp)).trans (iN)))
 have FZ:Hid (∀W,Below w0.heap.size w0 W->W.heap[w.heap.size+1]?=some (.cells (exX X tA mA cA dA tc mc cc dc) 48 (0,0))):=iH (fun W h=>(h.block (w.heap.size+1) (by omega)).trans (by rw [hw0];exact(show((w.alloc (.cells (exX X sA nA aA bA sc nc ac bc) 48)).alloc (.cells (exX X tA mA cA dA tc mc cc dc) 48)).heap[w.heap.size+1]?=_ from by have:=heap_alloc_new (w.alloc (.cells (exX X sA nA aA bA sc nc ac bc) 48)) (.cells (exX X tA mA cA dA tc mc cc dc) 48);simpa using this)))
 have H1:=iH (h1.lift hb0);have H2:=iH (h2.lift hb0);have H3:=iH (h3.lift hb0);have H4:=iH (h4.lift hb0)
 have K1:=iH (k1.lift hb0);have K2:=iH (k2.lift hb0);have K3:=iH (k3.lift hb0);have K4:=iH (k4.lift hb0)
 have HW0:=iH hw0;have HB0:=iH hb0
 clear hw0 hb0 hz0 h1 h2 h3 h4 k1 k2 k3 k4
 obtain⟨f0,f1,f2,f3,f4,f5,f6,f7,f8,f9,f10,f11,ff⟩:=j4 (FR.out w0 iB);clear ff
 obtain⟨g0,g1,g2,g3,g4,g5,g6,g7,g8,g9,g10,g11,gf⟩:=j4 (FZ.out w0 iB);clear gf
 go_enter Tryz.func32,Tryz.ntmps32
 go_upto_region 1 with fail
 rw [<-HW0.out]
 go_wp2_with(first
  |(go_at_call 39;refine(j10 _ _ X.k1 X.k2 X.k1 X.k2 X.ct X.ct _ _ w2 ⟨_,_,rfl,H3.out.lift HB2.out,H4.out.lift HB2.out⟩ ⟨_,_,rfl,K3.out.lift HB2.out,K4.out.lift HB2.out⟩).mono ?_;rintro e w3 ⟨rfl,hb⟩;rw [decide_eq_true (show X.ct=X.ct/\X.k1=X.k1/\X.k2=X.k2 from⟨rfl,rfl,rfl⟩)];have HB3:=iH (HB2.out.trans (hb.mono HB2.out.size));clear hb)
  |(go_at_call 22;refine(kL _ _ X.non X.non _ _ w1 (H2.out.lift HB1.out) (K2.out.lift HB1.out)).mono ?_;rintro e w2 ⟨rfl,nd,hw⟩;rw [decide_eq_true (rfl:X.non=X.non)];have hb:Below w0.heap.size w0 w2:=(by rw [hw];exact j3 HB1.out nd);have HB2:=iH hb;clear hw f0 f1 f2 f3 f4 f5 f6 f7 f8 f9 f10 f11 g0 g1 g2 g3 g4 g5 g6 g7 g8 g9 g10 g11;obtain⟨f0,f1,f2,f3,f4,f5,f6,f7,f8,f9,f10,f11,ff⟩:=j4 (FR.out w2 hb);clear ff;obtain⟨g0,g1,g2,g3,g4,g5,g6,g7,g8,g9,g10,g11,gf⟩:=j4 (FZ.out w2 hb);clear gf;clear hb)
  |(go_at_call 22;refine(kL _ _ X.sec X.sec _ _ w0 H1.out K1.out).mono ?_;rintro e w1 ⟨rfl,nd,hw⟩;rw [decide_eq_true (rfl:X.sec=X.sec)];have hb:Below w0.heap.size w0 w1:=(by rw [hw];exact j3 iB nd);have HB1:=iH hb;clear hw f0 f1 f2 f3 f4 f5 f6 f7 f8 f9 f10 f11 g0 g1 g2 g3 g4 g5 g6 g7 g8 g9 g10 g11;obtain⟨f0,f1,f2,f3,f4,f5,f6,f7,f8,f9,f10,f11,ff⟩:=j4 (FR.out w1 hb);clear ff;obtain⟨g0,g1,g2,g3,g4,g5,g6,g7,g8,g9,g10,g11,gf⟩:=j4 (FZ.out w1 hb);clear gf;clear hb))
 go_ret
 exact⟨rfl,HB0.out.trans (HB3.out.mono HB0.out.size)⟩
end Go.Proofs.YtalmmiojbmpmiaaGreatDoor
