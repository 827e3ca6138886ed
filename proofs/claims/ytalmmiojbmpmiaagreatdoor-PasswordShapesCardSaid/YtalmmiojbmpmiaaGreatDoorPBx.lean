/- Layer 21: the reference's Begin and Same; Layer 21: PasswordBegins -/
import Derived.Test.YtalmmiojbmpmiaaGreatDoorPBw
import Derived.Test.YtalmmiojbmpmiaaGreatDoorPBr
set_option linter.all false
set_option maxRecDepth 100000
set_option maxHeartbeats 8000000
namespace Go.Proofs.YtalmmiojbmpmiaaGreatDoor
open Go.RowKit Go.Deep
theorem X6{op:Oper}{a:Act}{w:World}{K:Act->World->Prop}{Q:Exit->Act->World->Prop}(s x:Operand)
 (ho:op.op=.call {callee:=.builtin .append,args:=#[s,x],argTypes:=#[22,22]})
 (base:Nat) (v:Value) (l:List UInt8) (hs:a.eval s=v) (hown:OwnB w base v l) (A:Option Addr) (n c:Nat) (m:List UInt8) (S:Nat->Prop) (hx:a.eval x=.slice A n c) (hm:BsS w S (.slice A n c) m)
 (hb:l.length+m.length<=140737488355328) (hbase:base<=w.heap.size)
 (h:∀v' w',V1 w w' base v v' (l++m)->K (a.put op.dst v') w'):Oper.wp Tryz.prog op a w K Q:=by
 obtain⟨hn,hsrc⟩:=BsS.src hm
 subst hn
 exact xN w s x 22 ho base 5 (.int .u8 0) 1 Tryz.underlying22 ki rfl (by omega) v l.length (l.map U8) hs hown A m.length c (m.map U8) hx hsrc (by omega) hbase fun v' w' h1 h2 h3 _=>h v' w' ⟨by
       unfold OwnB
       rw [List.length_append,List.map_append]
       exact h1,jb hown h2 iL hbase,h2,fun b hb=>h3.elim (fun e=>.inl (e▸hb)) fun e=>.inr (by rw [e]at hb;injection hb with hb;omega)⟩
theorem XL(kd:Int)(sec:List UInt8)(A:Option Addr)(c:Nat)(m:Int)(w:World)(hv:Bs w w.heap.size (.slice A sec.length c) sec)(hl:sec.length<=140737488351232):
 Calls Tryz.prog 31 #[.agg #[.int .i64 kd,.slice A sec.length c],.int .i64 m] w (BegO (JG kd sec m) w):=by
 obtain⟨w0,hw0⟩:∃w0,w0=(w.alloc (.cells #[.int .i64 kd,.slice A sec.length c] 24)).alloc (.cells #[.int .i64 0,.slice none 0 0,.int .i64 0,.int .i64 0,.slice none 0 0,.int .i64 0,.int .i64 0,.int .i64 0,.int .i64 0,.slice none 0 0,.slice none 0 0,.int .i64 0] 48):=⟨_,rfl⟩
 have hb0:Below w.heap.size w w0:=by rw [hw0];exact(iA).alloc (by simp) _
 have hz0:w0.heap.size=w.heap.size+2:=by rw [hw0];simp
 have FR:Hid (∀W,Below w0.heap.size w0 W->W.heap[w.heap.size]?=some (.cells #[.int .i64 kd,.slice A sec.length c] 24 (0,0))):=iH (fun W h=>(h.block w.heap.size (by omega)).trans (by rw [hw0];exact(Below.heap_alloc _ _ _ (by simp)).trans (iN)))
 have FZ:Hid (∀W,Below w0.heap.size w0 W->W.heap[w.heap.size+1]?=some (.cells #[.int .i64 0,.slice none 0 0,.int .i64 0,.int .i64 0,.slice none 0 0,.int .i64 0,.int .i64 0,.int .i64 0,.int .i64 0,.slice none 0 0,.slice none 0 0,.int .i64 0] 48 (0,0))):=iH (fun W h=>(h.block (w.heap.size+1) (by omega)).trans (by rw [hw0];exact(show((w.alloc (.cells #[.int .i64 kd,.slice A sec.length c] 24)).alloc (.cells #[.int .i64 0,.slice none 0 0,.int .i64 0,.int .i64 0,.slice none 0 0,.int .i64 0,.int .i64 0,.int .i64 0,.int .i64 0,.slice none 0 0,.slice none 0 0,.int .i64 0] 48)).heap[w.heap.size+1]?=_ from by have:=heap_alloc_new (w.alloc (.cells #[.int .i64 kd,.slice A sec.length c] 24)) (.cells #[.int .i64 0,.slice none 0 0,.int .i64 0,.int .i64 0,.slice none 0 0,.int .i64 0,.int .i64 0,.int .i64 0,.int .i64 0,.slice none 0 0,.slice none 0 0,.int .i64 0] 48);simpa using this)))
 have H1:=iH (hv.lift hb0);have HL:=iH hl
 have HW0:=iH hw0;have HB0:=iH hb0;have HSZ:=iH hz0
 obtain⟨f0,f1,_⟩:=two (FR.out w0 iB)
 clear hw0 hb0 hz0 hv hl
 rcases hp:vPw kd sec with _|_
 ·have HVP:=iH hp
  have R:Hid (JG kd sec m=(14,zX)):=iH (by unfold JG;rw [iT hp])
  clear hp
  go_enter Tryz.func31,Tryz.ntmps31
  go_upto_region 1 with fail
  rw [<-HW0.out]
  go_wp2_with(go_at_call 48;refine(jK kd sec A c w0).mono ?_;rw [HVP.out];rintro e w1 ⟨rfl,hb⟩;have HB1:=iH hb;obtain⟨g0,g1,_⟩:=two (FR.out w1 hb);obtain⟨z0,z1,z2,z3,z4,z5,z6,z7,z8,z9,z10,z11,zf⟩:=jy (FZ.out w1 hb);have zf0:=zf 0;have zf1:=zf 1;have zf2:=zf 2;have zf3:=zf 3;have zf4:=zf 4;have zf5:=zf 5;have zf6:=zf 6;have zf7:=zf 7;have zf8:=zf 8;have zf9:=zf 9;have zf10:=zf 10;have zf11:=zf 11;clear hb zf)
  obtain⟨y0,y1,y2,y3,y4,y5,y6,y7,y8,y9,y10,y11,yf⟩:=jy ((PtW.start (FZ.out w1 HB1.out)).set12 (.int .i64 0) (.slice none 0 0) (.int .i64 0) (.int .i64 0) (.slice none 0 0) (.int .i64 0) (.int .i64 0) (.int .i64 0) (.int .i64 0) (.slice none 0 0) (.slice none 0 0) (.int .i64 0)).1
  unfold Go.Proofs.YtalmmiojbmpmiaaGreatDoor.set12 at y0 y1 y2 y3 y4 y5 y6 y7 y8 y9 y10 y11
  refine bodyPost_ret (v:=.tuple #[.agg #[.int .i64 0,.slice none 0 0,.int .i64 0,.int .i64 0,.slice none 0 0,.int .i64 0,.int .i64 0,.int .i64 0,.int .i64 0,.slice none 0 0,.slice none 0 0,.int .i64 0],.int .i64 14]) (by simp [results,Tryz.results31,go_sem,y0,y1,y2,y3,y4,y5,y6,y7,y8,y9,y10,y11]) rfl ?_
  exact BegO.err R.out ((HB0.out.trans (HB1.out.mono HB0.out.size)).trans (Below.mono (((PtW.start (FZ.out w1 HB1.out)).set12 (.int .i64 0) (.slice none 0 0) (.int .i64 0) (.int .i64 0) (.slice none 0 0) (.int .i64 0) (.int .i64 0) (.int .i64 0) (.int .i64 0) (.slice none 0 0) (.slice none 0 0) (.int .i64 0)).2.2) (Nat.le_succ _)))
 have HVP:=iH hp
 by_cases hm:m=2\/m=3
 case neg=>
  have R:Hid (JG kd sec m=(3,zX)):=iH (by unfold JG;rw [iF (by rw [hp];simp),iT hm])
  have HM:Hid (decide (m=2\/m=3)=false):=iH (decide_eq_false hm)
  have m2:(m != 2)=true:=by simp;omega
  have m3:(m != 3)=true:=by simp;omega
  clear hp hm
  go_enter Tryz.func31,Tryz.ntmps31
  go_upto_region 1 with fail
  rw [<-HW0.out]
  go_wp2_with(first|(go_at_call 48;refine(jK kd sec A c w0).mono ?_;rw [HVP.out];rintro e w1 ⟨rfl,hb⟩;have HB1:=iH hb;obtain⟨g0,g1,_⟩:=two (FR.out w1 hb);obtain⟨z0,z1,z2,z3,z4,z5,z6,z7,z8,z9,z10,z11,zf⟩:=jy (FZ.out w1 hb);have zf0:=zf 0;have zf1:=zf 1;have zf2:=zf 2;have zf3:=zf 3;have zf4:=zf 4;have zf5:=zf 5;have zf6:=zf 6;have zf7:=zf 7;have zf8:=zf 8;have zf9:=zf 9;have zf10:=zf 10;have zf11:=zf 11;clear hb zf))
  obtain⟨y0,y1,y2,y3,y4,y5,y6,y7,y8,y9,y10,y11,yf⟩:=jy ((PtW.start (FZ.out w1 HB1.out)).set12 (.int .i64 0) (.slice none 0 0) (.int .i64 0) (.int .i64 0) (.slice none 0 0) (.int .i64 0) (.int .i64 0) (.int .i64 0) (.int .i64 0) (.slice none 0 0) (.slice none 0 0) (.int .i64 0)).1
  unfold Go.Proofs.YtalmmiojbmpmiaaGreatDoor.set12 at y0 y1 y2 y3 y4 y5 y6 y7 y8 y9 y10 y11
  refine bodyPost_ret (v:=.tuple #[.agg #[.int .i64 0,.slice none 0 0,.int .i64 0,.int .i64 0,.slice none 0 0,.int .i64 0,.int .i64 0,.int .i64 0,.int .i64 0,.slice none 0 0,.slice none 0 0,.int .i64 0],.int .i64 3]) (by simp [results,Tryz.results31,go_sem,y0,y1,y2,y3,y4,y5,y6,y7,y8,y9,y10,y11]) rfl ?_
  exact BegO.err R.out ((HB0.out.trans (HB1.out.mono HB0.out.size)).trans (Below.mono (((PtW.start (FZ.out w1 HB1.out)).set12 (.int .i64 0) (.slice none 0 0) (.int .i64 0) (.int .i64 0) (.slice none 0 0) (.int .i64 0) (.int .i64 0) (.int .i64 0) (.int .i64 0) (.slice none 0 0) (.slice none 0 0) (.int .i64 0)).2.2) (Nat.le_succ _)))
 have R:Hid (JG kd sec m=(0,bgX kd sec m)):=iH (by unfold JG;rw [iF (by rw [hp];simp),iF (fun h=>h hm)])
 have HM:Hid (decide (m=2\/m=3)=true):=iH (decide_eq_true hm)
 clear hp
 rcases hm with hm|hm
 ·have m2:(m != 2)=false:=by simp [hm]
  clear hm
  go_enter Tryz.func31,Tryz.ntmps31
  go_upto_region 1 with fail
  rw [<-HW0.out]
  go_upto_region 5 with (first|(go_at_call 48;refine(jK kd sec A c w0).mono ?_;rw [HVP.out];rintro e w1 ⟨rfl,hb⟩;have HB1:=iH hb;obtain⟨g0,g1,_⟩:=two (FR.out w1 hb);obtain⟨z0,z1,z2,z3,z4,z5,z6,z7,z8,z9,z10,z11,zf⟩:=jy (FZ.out w1 hb);have zf0:=zf 0;have zf1:=zf 1;have zf2:=zf 2;have zf3:=zf 3;have zf4:=zf 4;have zf5:=zf 5;have zf6:=zf 6;have zf7:=zf 7;have zf8:=zf 8;have zf9:=zf 9;have zf10:=zf 10;have zf11:=zf 11;clear hb zf))
  obtain⟨wb,hwb⟩:∃z,z=w1:=⟨_,rfl⟩
  rw [<-hwb]at HB1 |-
  have HBb:=HB1
  clear hwb HB1 z0 zf0 z1 zf1 z2 zf2 z3 zf3 z4 zf4 z5 zf5 z6 zf6 z7 zf7 z8 zf8 z9 zf9 z10 zf10 z11 zf11
  refine jg 8 [some 17,some 18,some 19,some 20,some 21,some 22,some 23,some 24] [[],[0],[],[2],[2,3],[0,1,2,3,4],[],[0,1,2,3,4,5,6]]
   (fun _ _ w1=>Below wb.heap.size wb w1) (fun w1 w2=>Below w1.heap.size w1 w2)
   [fun v _=>v 0=.pointer (some ⟨w.heap.size,0,none⟩),
    fun v _=>v 1=.int .i64 kd,
    fun v _=>v 2=.pointer (some ⟨w.heap.size,1,none⟩),
    fun v _=>v 3=.slice A sec.length c,
    fun v w1=>∃A2 c2,v 4=.slice A2 sec.length c2/\BsS w1 (New wb w1) (.slice A2 sec.length c2) sec,
    fun v w1=>∃A2 c2,v 4=.slice A2 sec.length c2/\v 5=.agg #[.int .i64 kd,.slice A2 sec.length c2],
    fun v _=>v 6=.int .i64 m,
    fun v w1=>∃A2 c2,v 4=.slice A2 sec.length c2/\v 7=.agg #[.int .i64 kd,.slice A2 sec.length c2,.int .i64 m,.int .i64 0,.slice none 0 0,.int .i64 0,.int .i64 0,.int .i64 0,.int .i64 0,.slice none 0 0,.slice none 0 0,.int .i64 0]]
   (by kernel_rfl) (by kernel_rfl) (fun _=>iB.drew) ?st ?steps ?tail
  case st=>
   exact(.cons (fun _ _ _ _ _ _ h=>h) (.cons (fun _ _ _ _ _ _ h=>h) (.cons (fun _ _ _ _ _ _ h=>h) (.cons (fun _ _ _ _ _ _ h=>h) (.cons (fun _ _ _ _ _ hr ⟨A,c,h1,h2⟩=>⟨A,c,h1,h2.keep fun g hg hl=>⟨hr.block g hl,hg.1,iZ hl hr.size⟩⟩) (.cons (fun _ _ _ _ _ _ h=>h) (.cons (fun _ _ _ _ _ _ h=>h) (.cons (fun _ _ _ _ _ _ h=>h) .nil))))))))
  case steps=>
   simp only [List.take_succ_cons,List.take_zero]
   refine(.cons ?_ (.cons ?_ (.cons ?_ (.cons ?_ (.cons ?_ (.cons ?_ (.cons ?_ (.cons ?_ .nil))))))))
   all_goals(intro L v w1 hJ hL hA hF K hK;simp only [ja,Act.put,Nat.zero_add,Nat.reduceAdd,List.setIfInBounds_toArray,List.set_cons_zero,List.set_cons_succ]at hK |-)
   ·go_simp
    refine hK _ _ hJ iB ?_
    first|exact rfl|exact j3 _
   ·have e0:v 0=.pointer (some ⟨w.heap.size,0,none⟩):=hF 0 (hA 0 (by simp))
    obtain⟨q0,q1,_⟩:=two (FR.out _ (HBb.out.trans (hJ.mono HBb.out.size)))
    simp only [e0]at hK
    go_simp
    refine hK _ _ hJ iB ?_
    first|exact rfl|exact j3 _
   ·go_simp
    refine hK _ _ hJ iB ?_
    first|exact rfl|exact j3 _
   ·have e2:v 2=.pointer (some ⟨w.heap.size,1,none⟩):=hF 2 (hA 2 (by simp))
    obtain⟨q0,q1,_⟩:=two (FR.out _ (HBb.out.trans (hJ.mono HBb.out.size)))
    simp only [e2]at hK
    go_simp
    refine hK _ _ hJ iB ?_
    first|exact rfl|exact j3 _
   ·have e3:v 3=.slice A sec.length c:=hF 3 (hA 3 (by simp))
    simp only [e3]at hK
    simp only [e3]
    rw [iT (show Region.wanted _ _=true from rfl)]
    refine X6 (.const (.slice none 0 0)) (.tmp 20) rfl w1.heap.size (.slice none 0 0) [] rfl (OwnB.nil _ _) A sec.length c sec (·<w1.heap.size) (by simp [Act.eval]) (H1.out.lift (HBb.out.trans (hJ.mono HBb.out.size))) (by have:=HL.out;simp;omega) iL fun v2 w2 hG=> ?_
    rw [List.nil_append]at hG
    obtain⟨A2,c2,hv2⟩:=hG.1.form
    subst hv2
    refine hK _ _ (hJ.trans (hG.2.1.mono hJ.size)) hG.2.1 ⟨_,_,rfl,?_⟩
    exact(OwnB.out hG.1 (by have:=HL.out;omega) w1 iL).keep fun g hg _=>⟨rfl,Nat.le_trans hJ.size hg.1,hg.2⟩
   ·have e1:v 1=.int .i64 kd:=hF 1 (hA 1 (by simp))
    simp only [e1]at hK
    obtain⟨A2,c2,e4,_⟩:∃A2 c2,v 4=.slice A2 sec.length c2/\BsS w1 (New wb w1) (.slice A2 sec.length c2) sec:=hF 4 (hA 4 (by simp))
    simp only [e4]at hK
    simp only [e4]
    go_simp
    exact hK _ _ hJ iB ⟨A2,c2,e4,rfl⟩
   ·go_simp
    refine hK _ _ hJ iB ?_
    first|exact rfl|exact j3 _
   ·have e6:v 6=.int .i64 m:=hF 6 (hA 6 (by simp))
    simp only [e6]at hK
    obtain⟨A2,c2,e4,e5⟩:∃A2 c2,v 4=.slice A2 sec.length c2/\v 5=.agg #[.int .i64 kd,.slice A2 sec.length c2]:=hF 5 (hA 5 (by simp))
    try simp only [e4,e5,e6]at hK
    try simp only [e4,e5,e6]
    go_simp
    exact hK _ _ hJ iB ⟨A2,c2,e4,rfl⟩
  case tail=>
   intro v w1 hJ hF
   have e0:v 0=.pointer (some ⟨w.heap.size,0,none⟩):=hF 0 (by simp)
   have e1:v 1=.int .i64 kd:=hF 1 (by simp)
   have e2:v 2=.pointer (some ⟨w.heap.size,1,none⟩):=hF 2 (by simp)
   have e3:v 3=.slice A sec.length c:=hF 3 (by simp)
   have e6:v 6=.int .i64 m:=hF 6 (by simp)
   simp only [List.drop_succ_cons,List.drop_zero,ja,Act.put,Nat.zero_add,Nat.reduceAdd,List.setIfInBounds_toArray,List.set_cons_zero,List.set_cons_succ]
   obtain⟨A2,c2,e4,hs⟩:∃A2 c2,v 4=.slice A2 sec.length c2/\BsS w1 (New wb w1) (.slice A2 sec.length c2) sec:=hF 4 (by simp)
   obtain⟨A3,c3,e4b,e7⟩:∃A2 c2,v 4=.slice A2 sec.length c2/\v 7=.agg #[.int .i64 kd,.slice A2 sec.length c2,.int .i64 m,.int .i64 0,.slice none 0 0,.int .i64 0,.int .i64 0,.int .i64 0,.int .i64 0,.slice none 0 0,.slice none 0 0,.int .i64 0]:=hF 7 (by simp)
   obtain⟨rfl,_,rfl⟩:=Value.slice.inj (e4.symm.trans e4b)
   simp only [e7]
   have HS:=iH hs;have HJ:=iH (HBb.out.trans (hJ.mono HBb.out.size));have HJb:=iH hJ
   obtain⟨z0,z1,z2,z3,z4,z5,z6,z7,z8,z9,z10,z11,zf⟩:=jy (FZ.out _ HJ.out)
   have zf0:=zf 0;have zf1:=zf 1;have zf2:=zf 2;have zf3:=zf 3;have zf4:=zf 4;have zf5:=zf 5;have zf6:=zf 6;have zf7:=zf 7;have zf8:=zf 8;have zf9:=zf 9;have zf10:=zf 10;have zf11:=zf 11
   clear hJ hF hs e0 e1 e2 e3 e4 e4b e6 e7 zf
   go_wp2_with fail
   obtain⟨y0,y1,y2,y3,y4,y5,y6,y7,y8,y9,y10,y11,yf⟩:=jy ((PtW.start (FZ.out _ HJ.out)).set12 (.int .i64 kd) (.slice A2 sec.length c2) (.int .i64 m) (.int .i64 0) (.slice none 0 0) (.int .i64 0) (.int .i64 0) (.int .i64 0) (.int .i64 0) (.slice none 0 0) (.slice none 0 0) (.int .i64 0)).1
   have OF:=iH (BsS.madeB (p:=w.heap.size+1) HS.out (by have:=HSZ.out;have:=HBb.out.size;omega))
   obtain⟨w8,hw8⟩:∃z,z=set12 w1 (w.heap.size+1) (.int .i64 kd) (.slice A2 sec.length c2) (.int .i64 m) (.int .i64 0) (.slice none 0 0) (.int .i64 0) (.int .i64 0) (.int .i64 0) (.int .i64 0) (.slice none 0 0) (.slice none 0 0) (.int .i64 0):=⟨_,rfl⟩
   have hfin:Bs w8 w8.heap.size (.slice A2 sec.length c2) sec:=by rw [hw8];exact(BsS.set12 OF.out (.int .i64 kd) (.slice A2 sec.length c2) (.int .i64 m) (.int .i64 0) (.slice none 0 0) (.int .i64 0) (.int .i64 0) (.int .i64 0) (.int .i64 0) (.slice none 0 0) (.slice none 0 0) (.int .i64 0)).loB
   have hbel:Below w.heap.size w w8:=by rw [hw8];exact(HB0.out.trans (HJ.out.mono HB0.out.size)).trans (Below.mono (((PtW.start (FZ.out _ HJ.out)).set12 (.int .i64 kd) (.slice A2 sec.length c2) (.int .i64 m) (.int .i64 0) (.slice none 0 0) (.int .i64 0) (.int .i64 0) (.int .i64 0) (.int .i64 0) (.slice none 0 0) (.slice none 0 0) (.int .i64 0)).2.2) (Nat.le_succ _))
   unfold Go.Proofs.YtalmmiojbmpmiaaGreatDoor.set12 at y0 y1 y2 y3 y4 y5 y6 y7 y8 y9 y10 y11 hw8
   refine bodyPost_ret (v:=.tuple #[.agg #[.int .i64 kd,.slice A2 sec.length c2,.int .i64 m,.int .i64 0,.slice none 0 0,.int .i64 0,.int .i64 0,.int .i64 0,.int .i64 0,.slice none 0 0,.slice none 0 0,.int .i64 0],.int .i64 0]) (by simp [results,Tryz.results31,go_sem,y0,y1,y2,y3,y4,y5,y6,y7,y8,y9,y10,y11]) rfl ?_
   rw [<-hw8,R.out]
   exact⟨_,rfl,⟨_,_,_,_,rfl,hfin,kh _ _,kh _ _,kh _ _⟩,hbel⟩
 ·have m2:(m != 2)=true:=by simp [hm]
  have m3:(m != 3)=false:=by simp [hm]
  clear hm
  go_enter Tryz.func31,Tryz.ntmps31
  go_upto_region 1 with fail
  rw [<-HW0.out]
  go_upto_region 5 with (first|(go_at_call 48;refine(jK kd sec A c w0).mono ?_;rw [HVP.out];rintro e w1 ⟨rfl,hb⟩;have HB1:=iH hb;obtain⟨g0,g1,_⟩:=two (FR.out w1 hb);obtain⟨z0,z1,z2,z3,z4,z5,z6,z7,z8,z9,z10,z11,zf⟩:=jy (FZ.out w1 hb);have zf0:=zf 0;have zf1:=zf 1;have zf2:=zf 2;have zf3:=zf 3;have zf4:=zf 4;have zf5:=zf 5;have zf6:=zf 6;have zf7:=zf 7;have zf8:=zf 8;have zf9:=zf 9;have zf10:=zf 10;have zf11:=zf 11;clear hb zf))
  obtain⟨wb,hwb⟩:∃z,z=w1:=⟨_,rfl⟩
  rw [<-hwb]at HB1 |-
  have HBb:=HB1
  clear hwb HB1 z0 zf0 z1 zf1 z2 zf2 z3 zf3 z4 zf4 z5 zf5 z6 zf6 z7 zf7 z8 zf8 z9 zf9 z10 zf10 z11 zf11
  refine jg 8 [some 17,some 18,some 19,some 20,some 21,some 22,some 23,some 24] [[],[0],[],[2],[2,3],[0,1,2,3,4],[],[0,1,2,3,4,5,6]]
   (fun _ _ w1=>Below wb.heap.size wb w1) (fun w1 w2=>Below w1.heap.size w1 w2)
   [fun v _=>v 0=.pointer (some ⟨w.heap.size,0,none⟩),
    fun v _=>v 1=.int .i64 kd,
    fun v _=>v 2=.pointer (some ⟨w.heap.size,1,none⟩),
    fun v _=>v 3=.slice A sec.length c,
    fun v w1=>∃A2 c2,v 4=.slice A2 sec.length c2/\BsS w1 (New wb w1) (.slice A2 sec.length c2) sec,
    fun v w1=>∃A2 c2,v 4=.slice A2 sec.length c2/\v 5=.agg #[.int .i64 kd,.slice A2 sec.length c2],
    fun v _=>v 6=.int .i64 m,
    fun v w1=>∃A2 c2,v 4=.slice A2 sec.length c2/\v 7=.agg #[.int .i64 kd,.slice A2 sec.length c2,.int .i64 m,.int .i64 0,.slice none 0 0,.int .i64 0,.int .i64 0,.int .i64 0,.int .i64 0,.slice none 0 0,.slice none 0 0,.int .i64 0]]
   (by kernel_rfl) (by kernel_rfl) (fun _=>iB.drew) ?st ?steps ?tail
  case st=>
   exact(.cons (fun _ _ _ _ _ _ h=>h) (.cons (fun _ _ _ _ _ _ h=>h) (.cons (fun _ _ _ _ _ _ h=>h) (.cons (fun _ _ _ _ _ _ h=>h) (.cons (fun _ _ _ _ _ hr ⟨A,c,h1,h2⟩=>⟨A,c,h1,h2.keep fun g hg hl=>⟨hr.block g hl,hg.1,iZ hl hr.size⟩⟩) (.cons (fun _ _ _ _ _ _ h=>h) (.cons (fun _ _ _ _ _ _ h=>h) (.cons (fun _ _ _ _ _ _ h=>h) .nil))))))))
  case steps=>
   simp only [List.take_succ_cons,List.take_zero]
   refine(.cons ?_ (.cons ?_ (.cons ?_ (.cons ?_ (.cons ?_ (.cons ?_ (.cons ?_ (.cons ?_ .nil))))))))
   all_goals(intro L v w1 hJ hL hA hF K hK;simp only [ja,Act.put,Nat.zero_add,Nat.reduceAdd,List.setIfInBounds_toArray,List.set_cons_zero,List.set_cons_succ]at hK |-)
   ·go_simp
    refine hK _ _ hJ iB ?_
    first|exact rfl|exact j3 _
   ·have e0:v 0=.pointer (some ⟨w.heap.size,0,none⟩):=hF 0 (hA 0 (by simp))
    obtain⟨q0,q1,_⟩:=two (FR.out _ (HBb.out.trans (hJ.mono HBb.out.size)))
    simp only [e0]at hK
    go_simp
    refine hK _ _ hJ iB ?_
    first|exact rfl|exact j3 _
   ·go_simp
    refine hK _ _ hJ iB ?_
    first|exact rfl|exact j3 _
   ·have e2:v 2=.pointer (some ⟨w.heap.size,1,none⟩):=hF 2 (hA 2 (by simp))
    obtain⟨q0,q1,_⟩:=two (FR.out _ (HBb.out.trans (hJ.mono HBb.out.size)))
    simp only [e2]at hK
    go_simp
    refine hK _ _ hJ iB ?_
    first|exact rfl|exact j3 _
   ·have e3:v 3=.slice A sec.length c:=hF 3 (hA 3 (by simp))
    simp only [e3]at hK
    simp only [e3]
    rw [iT (show Region.wanted _ _=true from rfl)]
    refine X6 (.const (.slice none 0 0)) (.tmp 20) rfl w1.heap.size (.slice none 0 0) [] rfl (OwnB.nil _ _) A sec.length c sec (·<w1.heap.size) (by simp [Act.eval]) (H1.out.lift (HBb.out.trans (hJ.mono HBb.out.size))) (by have:=HL.out;simp;omega) iL fun v2 w2 hG=> ?_
    rw [List.nil_append]at hG
    obtain⟨A2,c2,hv2⟩:=hG.1.form
    subst hv2
    refine hK _ _ (hJ.trans (hG.2.1.mono hJ.size)) hG.2.1 ⟨_,_,rfl,?_⟩
    exact(OwnB.out hG.1 (by have:=HL.out;omega) w1 iL).keep fun g hg _=>⟨rfl,Nat.le_trans hJ.size hg.1,hg.2⟩
   ·have e1:v 1=.int .i64 kd:=hF 1 (hA 1 (by simp))
    simp only [e1]at hK
    obtain⟨A2,c2,e4,_⟩:∃A2 c2,v 4=.slice A2 sec.length c2/\BsS w1 (New wb w1) (.slice A2 sec.length c2) sec:=hF 4 (hA 4 (by simp))
    simp only [e4]at hK
    simp only [e4]
    go_simp
    exact hK _ _ hJ iB ⟨A2,c2,e4,rfl⟩
   ·go_simp
    refine hK _ _ hJ iB ?_
    first|exact rfl|exact j3 _
   ·have e6:v 6=.int .i64 m:=hF 6 (hA 6 (by simp))
    simp only [e6]at hK
    obtain⟨A2,c2,e4,e5⟩:∃A2 c2,v 4=.slice A2 sec.length c2/\v 5=.agg #[.int .i64 kd,.slice A2 sec.length c2]:=hF 5 (hA 5 (by simp))
    try simp only [e4,e5,e6]at hK
    try simp only [e4,e5,e6]
    go_simp
    exact hK _ _ hJ iB ⟨A2,c2,e4,rfl⟩
  case tail=>
   intro v w1 hJ hF
   have e0:v 0=.pointer (some ⟨w.heap.size,0,none⟩):=hF 0 (by simp)
   have e1:v 1=.int .i64 kd:=hF 1 (by simp)
   have e2:v 2=.pointer (some ⟨w.heap.size,1,none⟩):=hF 2 (by simp)
   have e3:v 3=.slice A sec.length c:=hF 3 (by simp)
   have e6:v 6=.int .i64 m:=hF 6 (by simp)
   simp only [List.drop_succ_cons,List.drop_zero,ja,Act.put,Nat.zero_add,Nat.reduceAdd,List.setIfInBounds_toArray,List.set_cons_zero,List.set_cons_succ]
   obtain⟨A2,c2,e4,hs⟩:∃A2 c2,v 4=.slice A2 sec.length c2/\BsS w1 (New wb w1) (.slice A2 sec.length c2) sec:=hF 4 (by simp)
   obtain⟨A3,c3,e4b,e7⟩:∃A2 c2,v 4=.slice A2 sec.length c2/\v 7=.agg #[.int .i64 kd,.slice A2 sec.length c2,.int .i64 m,.int .i64 0,.slice none 0 0,.int .i64 0,.int .i64 0,.int .i64 0,.int .i64 0,.slice none 0 0,.slice none 0 0,.int .i64 0]:=hF 7 (by simp)
   obtain⟨rfl,_,rfl⟩:=Value.slice.inj (e4.symm.trans e4b)
   simp only [e7]
   have HS:=iH hs;have HJ:=iH (HBb.out.trans (hJ.mono HBb.out.size));have HJb:=iH hJ
   obtain⟨z0,z1,z2,z3,z4,z5,z6,z7,z8,z9,z10,z11,zf⟩:=jy (FZ.out _ HJ.out)
   have zf0:=zf 0;have zf1:=zf 1;have zf2:=zf 2;have zf3:=zf 3;have zf4:=zf 4;have zf5:=zf 5;have zf6:=zf 6;have zf7:=zf 7;have zf8:=zf 8;have zf9:=zf 9;have zf10:=zf 10;have zf11:=zf 11
   clear hJ hF hs e0 e1 e2 e3 e4 e4b e6 e7 zf
   go_wp2_with fail
   obtain⟨y0,y1,y2,y3,y4,y5,y6,y7,y8,y9,y10,y11,yf⟩:=jy ((PtW.start (FZ.out _ HJ.out)).set12 (.int .i64 kd) (.slice A2 sec.length c2) (.int .i64 m) (.int .i64 0) (.slice none 0 0) (.int .i64 0) (.int .i64 0) (.int .i64 0) (.int .i64 0) (.slice none 0 0) (.slice none 0 0) (.int .i64 0)).1
   have OF:=iH (BsS.madeB (p:=w.heap.size+1) HS.out (by have:=HSZ.out;have:=HBb.out.size;omega))
   obtain⟨w8,hw8⟩:∃z,z=set12 w1 (w.heap.size+1) (.int .i64 kd) (.slice A2 sec.length c2) (.int .i64 m) (.int .i64 0) (.slice none 0 0) (.int .i64 0) (.int .i64 0) (.int .i64 0) (.int .i64 0) (.slice none 0 0) (.slice none 0 0) (.int .i64 0):=⟨_,rfl⟩
   have hfin:Bs w8 w8.heap.size (.slice A2 sec.length c2) sec:=by rw [hw8];exact(BsS.set12 OF.out (.int .i64 kd) (.slice A2 sec.length c2) (.int .i64 m) (.int .i64 0) (.slice none 0 0) (.int .i64 0) (.int .i64 0) (.int .i64 0) (.int .i64 0) (.slice none 0 0) (.slice none 0 0) (.int .i64 0)).loB
   have hbel:Below w.heap.size w w8:=by rw [hw8];exact(HB0.out.trans (HJ.out.mono HB0.out.size)).trans (Below.mono (((PtW.start (FZ.out _ HJ.out)).set12 (.int .i64 kd) (.slice A2 sec.length c2) (.int .i64 m) (.int .i64 0) (.slice none 0 0) (.int .i64 0) (.int .i64 0) (.int .i64 0) (.int .i64 0) (.slice none 0 0) (.slice none 0 0) (.int .i64 0)).2.2) (Nat.le_succ _))
   unfold Go.Proofs.YtalmmiojbmpmiaaGreatDoor.set12 at y0 y1 y2 y3 y4 y5 y6 y7 y8 y9 y10 y11 hw8
   refine bodyPost_ret (v:=.tuple #[.agg #[.int .i64 kd,.slice A2 sec.length c2,.int .i64 m,.int .i64 0,.slice none 0 0,.int .i64 0,.int .i64 0,.int .i64 0,.int .i64 0,.slice none 0 0,.slice none 0 0,.int .i64 0],.int .i64 0]) (by simp [results,Tryz.results31,go_sem,y0,y1,y2,y3,y4,y5,y6,y7,y8,y9,y10,y11]) rfl ?_
   rw [<-hw8,R.out]
   exact⟨_,rfl,⟨_,_,_,_,rfl,hfin,kh _ _,kh _ _,kh _ _⟩,hbel⟩
theorem YM(X:Exg)(sA nA aA bA:Option Addr)(sc nc ac bc:Nat)(tA mA cA dA:Option Addr)(tc mc cc dc:Nat)(w:World)(h1:Bs w w.heap.size (.slice sA X.sec.length sc) X.sec)(h2:Bs w w.heap.size (.slice nA X.non.length nc) X.non)(h3:Bs w w.heap.size (.slice aA X.k1.length ac) X.k1)(h4:Bs w w.heap.size (.slice bA X.k2.length bc) X.k2)
 (k1:Bs w w.heap.size (.slice tA X.sec.length tc) X.sec) (k2:Bs w w.heap.size (.slice mA X.non.length mc) X.non) (k3:Bs w w.heap.size (.slice cA X.k1.length cc) X.k1) (k4:Bs w w.heap.size (.slice dA X.k2.length dc) X.k2):
 Calls Tryz.prog 32 #[.agg #[.int .i64 X.kd,.slice sA X.sec.length sc,.int .i64 X.pr,.int .i64 X.st,.slice nA X.non.length nc,.int .i64 X.x,.int .i64 X.g,.int .i64 X.own,.int .i64 X.oth,.slice aA X.k1.length ac,.slice bA X.k2.length bc,.int .i64 X.ct],.agg #[.int .i64 X.kd,.slice tA X.sec.length tc,.int .i64 X.pr,.int .i64 X.st,.slice mA X.non.length mc,.int .i64 X.x,.int .i64 X.g,.int .i64 X.own,.int .i64 X.oth,.slice cA X.k1.length cc,.slice dA X.k2.length dc,.int .i64 X.ct]] w fun e w'=>e=.returned (.bool true)/\Below w.heap.size w w':=by
 obtain⟨w0,hw0⟩:∃w0,w0=(w.alloc (.cells #[.int .i64 X.kd,.slice sA X.sec.length sc,.int .i64 X.pr,.int .i64 X.st,.slice nA X.non.length nc,.int .i64 X.x,.int .i64 X.g,.int .i64 X.own,.int .i64 X.oth,.slice aA X.k1.length ac,.slice bA X.k2.length bc,.int .i64 X.ct] 48)).alloc (.cells #[.int .i64 X.kd,.slice tA X.sec.length tc,.int .i64 X.pr,.int .i64 X.st,.slice mA X.non.length mc,.int .i64 X.x,.int .i64 X.g,.int .i64 X.own,.int .i64 X.oth,.slice cA X.k1.length cc,.slice dA X.k2.length dc,.int .i64 X.ct] 48):=⟨_,rfl⟩
 have hb0:Below w.heap.size w w0:=by rw [hw0];exact(iA).alloc (by simp) _
 have hz0:w0.heap.size=w.heap.size+2:=by rw [hw0];simp
 have FR:Hid (∀W,Below w0.heap.size w0 W->W.heap[w.heap.size]?=some (.cells #[.int .i64 X.kd,.slice sA X.sec.length sc,.int .i64 X.pr,.int .i64 X.st,.slice nA X.non.length nc,.int .i64 X.x,.int .i64 X.g,.int .i64 X.own,.int .i64 X.oth,.slice aA X.k1.length ac,.slice bA X.k2.length bc,.int .i64 X.ct] 48 (0,0))):=iH (fun W h=>(h.block w.heap.size (by omega)).trans (by rw [hw0];exact(Below.heap_alloc _ _ _ (by simp)).trans (iN)))
 have FZ:Hid (∀W,Below w0.heap.size w0 W->W.heap[w.heap.size+1]?=some (.cells #[.int .i64 X.kd,.slice tA X.sec.length tc,.int .i64 X.pr,.int .i64 X.st,.slice mA X.non.length mc,.int .i64 X.x,.int .i64 X.g,.int .i64 X.own,.int .i64 X.oth,.slice cA X.k1.length cc,.slice dA X.k2.length dc,.int .i64 X.ct] 48 (0,0))):=iH (fun W h=>(h.block (w.heap.size+1) (by omega)).trans (by rw [hw0];exact(show((w.alloc (.cells #[.int .i64 X.kd,.slice sA X.sec.length sc,.int .i64 X.pr,.int .i64 X.st,.slice nA X.non.length nc,.int .i64 X.x,.int .i64 X.g,.int .i64 X.own,.int .i64 X.oth,.slice aA X.k1.length ac,.slice bA X.k2.length bc,.int .i64 X.ct] 48)).alloc (.cells #[.int .i64 X.kd,.slice tA X.sec.length tc,.int .i64 X.pr,.int .i64 X.st,.slice mA X.non.length mc,.int .i64 X.x,.int .i64 X.g,.int .i64 X.own,.int .i64 X.oth,.slice cA X.k1.length cc,.slice dA X.k2.length dc,.int .i64 X.ct] 48)).heap[w.heap.size+1]?=_ from by have:=heap_alloc_new (w.alloc (.cells #[.int .i64 X.kd,.slice sA X.sec.length sc,.int .i64 X.pr,.int .i64 X.st,.slice nA X.non.length nc,.int .i64 X.x,.int .i64 X.g,.int .i64 X.own,.int .i64 X.oth,.slice aA X.k1.length ac,.slice bA X.k2.length bc,.int .i64 X.ct] 48)) (.cells #[.int .i64 X.kd,.slice tA X.sec.length tc,.int .i64 X.pr,.int .i64 X.st,.slice mA X.non.length mc,.int .i64 X.x,.int .i64 X.g,.int .i64 X.own,.int .i64 X.oth,.slice cA X.k1.length cc,.slice dA X.k2.length dc,.int .i64 X.ct] 48);simpa using this)))
 have H1:=iH (h1.lift hb0);have H2:=iH (h2.lift hb0);have H3:=iH (h3.lift hb0);have H4:=iH (h4.lift hb0)
 have K1:=iH (k1.lift hb0);have K2:=iH (k2.lift hb0);have K3:=iH (k3.lift hb0);have K4:=iH (k4.lift hb0)
 have HW0:=iH hw0;have HB0:=iH hb0
 clear hw0 hb0 hz0 h1 h2 h3 h4 k1 k2 k3 k4
 obtain⟨f0,f1,f2,f3,f4,f5,f6,f7,f8,f9,f10,f11,ff⟩:=jy (FR.out w0 iB);clear ff
 obtain⟨g0,g1,g2,g3,g4,g5,g6,g7,g8,g9,g10,g11,gf⟩:=jy (FZ.out w0 iB);clear gf
 go_enter Tryz.func32,Tryz.ntmps32
 go_upto_region 1 with fail
 rw [<-HW0.out]
 go_wp2_with(first
  |(go_at_call 39;refine(Yo _ _ X.k1 X.k2 X.k1 X.k2 X.ct X.ct _ _ w2 ⟨_,_,rfl,H3.out.lift HB2.out,H4.out.lift HB2.out⟩ ⟨_,_,rfl,K3.out.lift HB2.out,K4.out.lift HB2.out⟩).mono ?_;rintro e w3 ⟨rfl,hb⟩;rw [decide_eq_true (show X.ct=X.ct/\X.k1=X.k1/\X.k2=X.k2 from⟨rfl,rfl,rfl⟩)];have HB3:=iH (HB2.out.trans (hb.mono HB2.out.size));clear hb)
  |(go_at_call 22;refine(kN _ _ X.non X.non _ _ w1 (H2.out.lift HB1.out) (K2.out.lift HB1.out)).mono ?_;rintro e w2 ⟨rfl,nd,hw⟩;rw [decide_eq_true (rfl:X.non=X.non)];have hb:Below w0.heap.size w0 w2:=(by rw [hw];exact jh HB1.out nd);have HB2:=iH hb;clear hw f0 f1 f2 f3 f4 f5 f6 f7 f8 f9 f10 f11 g0 g1 g2 g3 g4 g5 g6 g7 g8 g9 g10 g11;obtain⟨f0,f1,f2,f3,f4,f5,f6,f7,f8,f9,f10,f11,ff⟩:=jy (FR.out w2 hb);clear ff;obtain⟨g0,g1,g2,g3,g4,g5,g6,g7,g8,g9,g10,g11,gf⟩:=jy (FZ.out w2 hb);clear gf;clear hb)
  |(go_at_call 22;refine(kN _ _ X.sec X.sec _ _ w0 H1.out K1.out).mono ?_;rintro e w1 ⟨rfl,nd,hw⟩;rw [decide_eq_true (rfl:X.sec=X.sec)];have hb:Below w0.heap.size w0 w1:=(by rw [hw];exact jh iB nd);have HB1:=iH hb;clear hw f0 f1 f2 f3 f4 f5 f6 f7 f8 f9 f10 f11 g0 g1 g2 g3 g4 g5 g6 g7 g8 g9 g10 g11;obtain⟨f0,f1,f2,f3,f4,f5,f6,f7,f8,f9,f10,f11,ff⟩:=jy (FR.out w1 hb);clear ff;obtain⟨g0,g1,g2,g3,g4,g5,g6,g7,g8,g9,g10,g11,gf⟩:=jy (FZ.out w1 hb);clear gf;clear hb))
 go_ret
 exact⟨rfl,HB0.out.trans (HB3.out.mono HB0.out.size)⟩
theorem xq(kd:Int)(vs:Value)(sec:List UInt8)(ns:sec.length<=140737488351232)(m:Int)(_wm:(Lit.int .i64 m).wf=true)(w:World)(hK:KD w)(hs:Bs w w.heap.size vs sec):
 Calls Tryz.prog 5 #[.agg #[.int .i64 kd,vs],.int .i64 m] w fun e w'=>e=.returned (.bool true)/\Below w.heap.size w w':=by
 obtain⟨A,c,rfl⟩:=Bs.formL hs
 obtain⟨w0,hw0⟩:∃w0,w0=w.alloc (.cells #[.int .i64 kd,.slice A sec.length c] 24):=⟨_,rfl⟩
 have hb0:Below w.heap.size w w0:=by rw [hw0];exact jq _ _
 have hr0:w0.heap[w.heap.size]?=some (.cells #[.int .i64 kd,.slice A sec.length c] 24 (0,0)):=by rw [hw0];exact iN
 obtain⟨c0,c1,_⟩:=two hr0
 have HBG:=iH (fun W h=>JH kd sec A c m W h ns)
 have HRB:=iH (fun W h=>XL kd sec A c m W h ns)
 obtain⟨⟨er,X⟩,hbg⟩:∃r,JG kd sec m=r:=⟨_,rfl⟩
 rw [hbg]at HBG HRB
 have HW0:=iH hw0;have HB0:=iH hb0;have HK:=iH hK;have HS:=iH (hs.lift hb0);have R0:=iH hr0
 clear hw0 hb0 hK hs hr0 hbg
 go_enter Tryz.func5,Tryz.ntmps5
 go_upto_region 1 with fail
 rw [<-HW0.out]
 go_upto_region 2 with (go_at_call 30;refine(HBG.out w0 HS.out).mono ?_;rintro e w2 ⟨y,rfl,⟨u1,u2,u3,u4,rfl,hs,hn,ha,hb⟩,hbw⟩;obtain⟨sx,scx,hp⟩:=Bs.formL hs;subst hp;obtain⟨nx,ncx,hp⟩:=Bs.formL hn;subst hp;obtain⟨ax,acx,hp⟩:=Bs.formL ha;subst hp;obtain⟨bx,bcx,hp⟩:=Bs.formL hb;subst hp;have Sx:=iH hs;have Nx:=iH hn;have Ax:=iH ha;have Bx:=iH hb;clear hs hn ha hb;have HB2:=iH hbw;clear hbw c0 c1)
 obtain⟨w3,hw⟩:∃z,z=w2.alloc (.cells #[.int .i64 X.kd,.slice sx X.sec.length scx,.int .i64 X.pr,.int .i64 X.st,.slice nx X.non.length ncx,.int .i64 X.x,.int .i64 X.g,.int .i64 X.own,.int .i64 X.oth,.slice ax X.k1.length acx,.slice bx X.k2.length bcx,.int .i64 X.ct] 48):=⟨_,rfl⟩
 rw [<-hw]
 have RX:Hid (w3.heap[w2.heap.size]?=some (.cells #[.int .i64 X.kd,.slice sx X.sec.length scx,.int .i64 X.pr,.int .i64 X.st,.slice nx X.non.length ncx,.int .i64 X.x,.int .i64 X.g,.int .i64 X.own,.int .i64 X.oth,.slice ax X.k1.length acx,.slice bx X.k2.length bcx,.int .i64 X.ct] 48 (0,0))):=iH (by rw [hw];exact iN)
 have HU3:Hid (Below w2.heap.size w2 w3):=iH (by rw [hw];exact jq _ _)
 have HB3:=iH (HB2.out.trans (HU3.out.mono HB2.out.size))
 clear hw
 obtain⟨c0,c1,_⟩:=two ((HB3.out.block _ (lt_of_block R0.out)).trans R0.out)
 go_upto_region 3 with (go_at_call 31;refine(HRB.out w3 (HS.out.lift HB3.out)).mono ?_;rintro e w4 ⟨y,rfl,⟨u1,u2,u3,u4,rfl,hs,hn,ha,hb⟩,hbw⟩;obtain⟨sy,scy,hp⟩:=Bs.formL hs;subst hp;obtain⟨ny,ncy,hp⟩:=Bs.formL hn;subst hp;obtain⟨ay,acy,hp⟩:=Bs.formL ha;subst hp;obtain⟨by_,bcy,hp⟩:=Bs.formL hb;subst hp;have Sy:=iH hs;have Ny:=iH hn;have Ay:=iH ha;have By:=iH hb;clear hs hn ha hb;have HB4:=iH hbw;clear hbw c0 c1)
 obtain⟨w5,hw⟩:∃z,z=w4.alloc (.cells #[.int .i64 X.kd,.slice sy X.sec.length scy,.int .i64 X.pr,.int .i64 X.st,.slice ny X.non.length ncy,.int .i64 X.x,.int .i64 X.g,.int .i64 X.own,.int .i64 X.oth,.slice ay X.k1.length acy,.slice by_ X.k2.length bcy,.int .i64 X.ct] 48):=⟨_,rfl⟩
 rw [<-hw]
 have RY:Hid (w5.heap[w4.heap.size]?=some (.cells #[.int .i64 X.kd,.slice sy X.sec.length scy,.int .i64 X.pr,.int .i64 X.st,.slice ny X.non.length ncy,.int .i64 X.x,.int .i64 X.g,.int .i64 X.own,.int .i64 X.oth,.slice ay X.k1.length acy,.slice by_ X.k2.length bcy,.int .i64 X.ct] 48 (0,0))):=iH (by rw [hw];exact iN)
 have HU5:Hid (Below w4.heap.size w4 w5):=iH (by rw [hw];exact jq _ _)
 have HB5:=iH (HB4.out.trans (HU5.out.mono HB4.out.size))
 have HBT:=iH (HB0.out.trans ((HB3.out.trans (HB5.out.mono HB3.out.size)).mono HB0.out.size))
 have HB25:=iH (HU3.out.trans (HB5.out.mono HU3.out.size))
 clear hw
 go_wp2_with(first
  |(go_at_call 32;refine(YM X sx nx ax bx scx ncx acx bcx sy ny ay by_ scy ncy acy bcy w6 (Bs.lift Sx.out HB26.out) (Bs.lift Nx.out HB26.out) (Bs.lift Ax.out HB26.out) (Bs.lift Bx.out HB26.out) (Bs.lift Sy.out HB46.out) (Bs.lift Ny.out HB46.out) (Bs.lift Ay.out HB46.out) (Bs.lift By.out HB46.out)).mono ?_;rintro e w7 ⟨rfl,hb⟩;have HBF:=iH (HBT6.out.trans (hb.mono HBT6.out.size));clear hb)
  |(go_at_call 11;refine(qx w5 (HK.out.below HBT.out HK.out.lt)).mono ?_;rintro e w6 ⟨rfl,hb⟩;have HBT6:=iH (HBT.out.trans (hb.mono HBT.out.size));have HB26:=iH (HB25.out.trans (hb.mono HB25.out.size));have HB46:=iH (HU5.out.trans (hb.mono HU5.out.size));obtain⟨f0,f1,f2,f3,f4,f5,f6,f7,f8,f9,f10,f11,ff⟩:=jy ((hb.block _ (lt_of_block ((HB5.out.block _ (lt_of_block RX.out)).trans RX.out))).trans ((HB5.out.block _ (lt_of_block RX.out)).trans RX.out));obtain⟨g0,g1,g2,g3,g4,g5,g6,g7,g8,g9,g10,g11,gf⟩:=jy ((hb.block _ (lt_of_block RY.out)).trans RY.out);clear hb ff gf))
 go_ret
 exact⟨rfl,HBF.out⟩
end Go.Proofs.YtalmmiojbmpmiaaGreatDoor
