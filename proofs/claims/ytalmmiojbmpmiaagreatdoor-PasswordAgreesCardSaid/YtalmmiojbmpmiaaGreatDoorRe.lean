/- string(b) of bytes; bytes.Equal at slices of bytes; Layer 21: code, chipCheck, terminalCheck; Layer 21: chipCheck, terminalAgree; Layer 21: chipMap, terminal... -/
import Derived.Test.YtalmmiojbmpmiaaGreatDoorRb
import Derived.Test.YtalmmiojbmpmiaaGreatDoorRc
set_option linter.all false
set_option maxRecDepth 100000
set_option maxHeartbeats 4000000
namespace Go.Proofs.YtalmmiojbmpmiaaGreatDoor
open Go.RowKit Go.Deep
theorem str_run{w:World}{S:Nat->Prop}{A:Option Addr}{n c:Nat}{l:List UInt8}(h:BsS w S (.slice A n c) l):(convert 22 9 (.slice A n c)).run Tryz.prog w=.ok (.string ⟨l.toArray⟩) w:=by
 obtain⟨a,c',hv,h1,h2,h3,h4⟩:=h
 injection hv with e1 e2 e3
 subst e1 e2 e3
 rcases A with _|ad
 ·have hl:l= []:=by
   rcases Nat.eq_zero_or_pos l.length with h0|h0
   ·exact List.eq_nil_of_length_eq_zero h0
   ·obtain⟨_,_,e,_⟩:=h4 h0;cases e
  subst hl
  rw [run_convert_bytes_string w 22 9 5 none _ c Tryz.underlying22 Tryz.underlying5 Tryz.underlying9]
  rfl
 ·refine run_convert_bytes_back w 22 9 5 ad c l Tryz.underlying22 Tryz.underlying5 Tryz.underlying9 fun j hj=> ?_
  obtain⟨b,off,e,_,hc⟩:=h4 (by omega)
  injection e with e
  subst e
  rw [kJ,hc j hj]
  simp [gb,bv,hj]
theorem bequal_any(va vb:Value)(a b:List UInt8)(S S':Nat->Prop)(w:World)(ha:BsS w S va a)(hb:BsS w S' vb b):
 Calls Tryz.prog 132 #[va,vb] w fun e w'=>e=.returned (.bool (decide (a=b)))/\w'=w:=by
 obtain⟨A,n,c,rfl⟩:=ha.form
 obtain⟨A',n',c',rfl⟩:=hb.form
 have h1:=str_run ha
 have h2:=str_run hb
 go_enter Tryz.func132,Tryz.ntmps132
 go_wp2_with fail
 go_ret
 rw [show(a==b)=decide (a=b)by rw [Bool.eq_iff_iff];simp]
 exact⟨rfl,rfl⟩
theorem tup_fst{a b c d:Value}(h:Value.tuple #[a,b]=.tuple #[c,d]):a=c:=by
 injection h with h
 have:=congrArg (fun x:Array Value=>x[0]?) h
 simpa using this
theorem code_t(X:Exg)(sA nA aA bA:Option Addr)(sc nc ac bc:Nat)(p:Int)(hp:jx p=true)(h2:X.k2.length=16)(w:World)(hv:Bs w w.heap.size (.slice bA X.k2.length bc) X.k2):Calls Tryz.prog 133 #[.agg #[.int .i64 X.kd,.slice sA X.sec.length sc,.int .i64 X.pr,.int .i64 X.st,.slice nA X.non.length nc,.int .i64 X.x,.int .i64 X.g,.int .i64 X.own,.int .i64 X.oth,.slice aA X.k1.length ac,.slice bA X.k2.length bc,.int .i64 X.ct],.int .i64 p] w fun e w'=>∃A c,e=.returned (.slice A 8 c)/\Bs w' w'.heap.size (.slice A 8 c) (tkW X p)/\Below w.heap.size w w':=by
 obtain⟨w0,hw0⟩:∃w0,w0=w.alloc (.cells #[.int .i64 X.kd,.slice sA X.sec.length sc,.int .i64 X.pr,.int .i64 X.st,.slice nA X.non.length nc,.int .i64 X.x,.int .i64 X.g,.int .i64 X.own,.int .i64 X.oth,.slice aA X.k1.length ac,.slice bA X.k2.length bc,.int .i64 X.ct] 48):=⟨_,rfl⟩
 have HB0:Hid (Below w.heap.size w w0):=iH (by rw [hw0];exact jq _ _)
 have FR:Hid (∀W,Below w0.heap.size w0 W->W.heap[w.heap.size]?=some (.cells #[.int .i64 X.kd,.slice sA X.sec.length sc,.int .i64 X.pr,.int .i64 X.st,.slice nA X.non.length nc,.int .i64 X.x,.int .i64 X.g,.int .i64 X.own,.int .i64 X.oth,.slice aA X.k1.length ac,.slice bA X.k2.length bc,.int .i64 X.ct] 48 (0,0))):=iH (fun W h=>(h.block w.heap.size (by rw [hw0];simp)).trans (by rw [hw0];exact iN))
 have HW0:=iH hw0
 have HEN:=iH (encoded_any p hp)
 obtain⟨T,hT⟩:∃T,tkW X p=T:=⟨_,rfl⟩
 rw [hT]
 have HT:Hid ((j1j X.k2 (kg p)).take 8=T):=iH hT
 have HT8:Hid (((j1j X.k2 (kg p)).take 8).length=8):=iH (by rw [List.length_take,codeO_len h2]<;>rfl)
 have HK2:=iH h2;have HV:=iH (hv.lift HB0.out)
 clear hw0 hT h2 hv hp
 go_enter Tryz.func133,Tryz.ntmps133
 go_upto_region 1 with fail
 rw [<-HW0.out]
 refine jg 10 [some 8,some 9,some 10,some 11,some 12,some 13,some 7,some 14,some 15,some 5] [[],[0],[0,1],[],[3],[0,1,2,3,4],[0,1,2,3,4,5],[0,1,2,3,4,5,6],[0,1,2,3,4,5,6],[0,1,2,3,4,5,6,7]]
  (fun _ _ w1=>Below w0.heap.size w0 w1) (fun w1 w2=>Below w1.heap.size w1 w2)
  [fun v _=>v 0=.pointer (some ⟨w.heap.size,9,none⟩),
   fun v _=>v 1=.pointer (some ⟨w.heap.size,10,none⟩),
   fun v _=>v 2=.slice bA X.k2.length bc,
   fun v _=>v 3=.int .i64 p,
   fun v w1=>∃A4 c4,v 4=.slice A4 4 c4/\Bs w1 w1.heap.size (.slice A4 4 c4) (kg p),
   fun v w1=>∃A5 c5,v 5=.tuple #[.slice A5 8 c5,.int .i64 0]/\Bs w1 w1.heap.size (.slice A5 8 c5) T,
   fun v w1=>∃A5 c5,v 5=.tuple #[.slice A5 8 c5,.int .i64 0]/\v 6=.tuple #[.slice A5 8 c5,.int .i64 0],
   fun v w1=>∃A5 c5,v 5=.tuple #[.slice A5 8 c5,.int .i64 0]/\v 7=.slice A5 8 c5,
   fun v w1=>v 8=.int .i64 0,
   fun v w1=>∃A5 c5,v 5=.tuple #[.slice A5 8 c5,.int .i64 0]/\v 9=.slice A5 8 c5]
  (by kernel_rfl) (by kernel_rfl) (fun _=>iB.drew) ?st ?steps ?tail
 case st=>
  exact(.cons (fun _ _ _ _ _ _ h=>h) (.cons (fun _ _ _ _ _ _ h=>h) (.cons (fun _ _ _ _ _ _ h=>h) (.cons (fun _ _ _ _ _ _ h=>h) (.cons (fun _ _ _ _ _ hr ⟨A,c,h1,h2⟩=>⟨A,c,h1,h2.lift hr⟩) (.cons (fun _ _ _ _ _ hr ⟨A,c,h1,h2⟩=>⟨A,c,h1,Bs.lift h2 hr⟩) (.cons (fun _ _ _ _ _ _ h=>h) (.cons (fun _ _ _ _ _ _ h=>h) (.cons (fun _ _ _ _ _ _ h=>h) (.cons (fun _ _ _ _ _ _ h=>h) .nil))))))))))
 case steps=>
  simp only [List.take_succ_cons,List.take_zero]
  refine(.cons ?_ (.cons ?_ (.cons ?_ (.cons ?_ (.cons ?_ (.cons ?_ (.cons ?_ (.cons ?_ (.cons ?_ (.cons ?_ .nil))))))))))
  all_goals(intro L v w1 hJ hL hA hF K hK;simp only [ja,Act.put,Nat.zero_add,Nat.reduceAdd,List.setIfInBounds_toArray,List.set_cons_zero,List.set_cons_succ]at hK |-)
  ·go_simp
   refine hK _ _ hJ iB ?_
   first|exact rfl|exact j3 _
  ·have e0:v 0=.pointer (some ⟨w.heap.size,9,none⟩):=hF 0 (hA 0 (by simp))
   simp only [e0]at hK
   go_simp
   refine hK _ _ hJ iB ?_
   first|exact rfl|exact j3 _
  ·have e1:v 1=.pointer (some ⟨w.heap.size,10,none⟩):=hF 1 (hA 1 (by simp))
   obtain⟨q0,q1,q2,q3,q4,q5,q6,q7,q8,q9,q10,q11,qf⟩:=jy (FR.out w1 hJ)
   simp only [e1]at hK
   go_simp
   refine hK _ _ hJ iB ?_
   first|exact rfl|exact j3 _
  ·go_simp
   refine hK _ _ hJ iB ?_
   first|exact rfl|exact j3 _
  ·have e3:v 3=.int .i64 p:=hF 3 (hA 3 (by simp))
   simp only [e3]at hK
   go_simp
   refine(HEN.out w1).mono ?_
   rintro e wk ⟨A4,c4,rfl,hs,hb⟩
   refine hK _ _ (hJ.trans (hb.mono hJ.size)) hb ⟨_,_,rfl,?_⟩
   exact hs.keep fun g hg _=>⟨rfl,hg.2⟩
  ·have e2:v 2=.slice bA X.k2.length bc:=hF 2 (hA 2 (by simp))
   simp only [e2]at hK
   obtain⟨A4,c4,e4,hz⟩:∃A4 c4,v 4=.slice A4 4 c4/\Bs w1 w1.heap.size (.slice A4 4 c4) (kg p):=hF 4 (hA 4 (by simp))
   simp only [e4]at hK |-
   go_simp
   refine(check_good _ _ X.k2 (kg p) HK2.out (by simp [kg]) w1 (Bs.lift HV.out hJ) hz).mono ?_
   rintro e wk ⟨v5,rfl,hs,hb⟩
   obtain⟨A5,c5,hv⟩:=Bs.formL hs
   rw [HT8.out]at hv
   subst hv
   rw [HT.out]at hs
   exact hK _ _ (hJ.trans (hb.mono hJ.size)) hb ⟨_,_,rfl,hs⟩
  ·obtain⟨A5,c5,e5,_⟩:∃A5 c5,v 5=.tuple #[.slice A5 8 c5,.int .i64 0]/\Bs w1 w1.heap.size (.slice A5 8 c5) T:=hF 5 (hA 5 (by simp))
   simp only [e5]at hK
   simp only [e5]
   go_simp
   exact hK _ _ hJ iB ⟨A5,c5,e5,rfl⟩
  ·obtain⟨A5,c5,e5,e6⟩:∃A5 c5,v 5=.tuple #[.slice A5 8 c5,.int .i64 0]/\v 6=.tuple #[.slice A5 8 c5,.int .i64 0]:=hF 6 (hA 6 (by simp))
   simp only [e5,e6]at hK
   try simp only [e5,e6]
   go_simp
   exact hK _ _ hJ iB ⟨A5,c5,e5,rfl⟩
  ·obtain⟨A5,c5,e5,e6⟩:∃A5 c5,v 5=.tuple #[.slice A5 8 c5,.int .i64 0]/\v 6=.tuple #[.slice A5 8 c5,.int .i64 0]:=hF 6 (hA 6 (by simp))
   simp only [e5,e6]at hK
   try simp only [e5,e6]
   go_simp
   exact hK _ _ hJ iB rfl
  ·obtain⟨A5,c5,e5,e7⟩:∃A5 c5,v 5=.tuple #[.slice A5 8 c5,.int .i64 0]/\v 7=.slice A5 8 c5:=hF 7 (hA 7 (by simp))
   simp only [e5,e7]at hK
   try simp only [e5,e7]
   go_simp
   exact hK _ _ hJ iB ⟨A5,c5,e5,rfl⟩
 case tail=>
  intro v w1 hJ hF
  have e0:v 0=.pointer (some ⟨w.heap.size,9,none⟩):=hF 0 (by simp)
  have e1:v 1=.pointer (some ⟨w.heap.size,10,none⟩):=hF 1 (by simp)
  have e2:v 2=.slice bA X.k2.length bc:=hF 2 (by simp)
  have e3:v 3=.int .i64 p:=hF 3 (by simp)
  simp only [List.drop_succ_cons,List.drop_zero,ja,Act.put,Nat.zero_add,Nat.reduceAdd,List.setIfInBounds_toArray,List.set_cons_zero,List.set_cons_succ]
  obtain⟨A5,c5,e5,hs⟩:∃A5 c5,v 5=.tuple #[.slice A5 8 c5,.int .i64 0]/\Bs w1 w1.heap.size (.slice A5 8 c5) T:=hF 5 (by simp)
  obtain⟨A6,c6,e5b,e9⟩:∃A6 c6,v 5=.tuple #[.slice A6 8 c6,.int .i64 0]/\v 9=.slice A6 8 c6:=hF 9 (by simp)
  have hq:=tup_fst (e5.symm.trans e5b)
  obtain⟨rfl,_,rfl⟩:=Value.slice.inj hq
  have e8:v 8=.int .i64 0:=hF 8 (by simp)
  simp only [e8,e9]
  have HS:=iH hs;have HJ:=iH hJ
  clear hJ hF hs e0 e1 e2 e3 e5 e5b e8 e9 hq
  go_wp2_with fail
  go_ret
  exact⟨_,_,rfl,HS.out,HB0.out.trans (HJ.out.mono HB0.out.size)⟩
theorem noBE(X:Exg)(sA nA aA bA:Option Addr)(sc nc ac bc:Nat):∀(i:Nat) (x:UInt8),#[.int .i64 X.kd,.slice sA X.sec.length sc,.int .i64 X.pr,.int .i64 X.st,.slice nA X.non.length nc,.int .i64 X.x,.int .i64 X.g,.int .i64 X.own,.int .i64 X.oth,.slice aA X.k1.length ac,.slice bA X.k2.length bc,.int .i64 X.ct][i]? ≠some (U8 x):=by
 intro i x
 rcases i with _|_|_|_|_|_|_|_|_|_|_|_|i
 all_goals simp
theorem chipCheck_err(P:Nat)(X:Exg)(sA nA aA bA:Option Addr)(sc nc ac bc:Nat)(vA eA:Option Addr)(vc ec:Nat)(val s:List UInt8)(w:World)(hK:∀W,Below P w W->KD W)(hr:w.heap[P]?=some (.cells #[.int .i64 X.kd,.slice sA X.sec.length sc,.int .i64 X.pr,.int .i64 X.st,.slice nA X.non.length nc,.int .i64 X.x,.int .i64 X.g,.int .i64 X.own,.int .i64 X.oth,.slice aA X.k1.length ac,.slice bA X.k2.length bc,.int .i64 X.ct] 48 (0,0))) (h1:BsS w (jL P w) (.slice sA X.sec.length sc) X.sec) (h2:BsS w (jL P w) (.slice nA X.non.length nc) X.non) (h3:BsS w (jL P w) (.slice aA X.k1.length ac) X.k1) (h4:BsS w (jL P w) (.slice bA X.k2.length bc) X.k2) (h5:BsS w (jL P w) (.slice vA val.length vc) val) (h6:BsS w (jL P w) (.slice eA s.length ec) s) (hl:s.length<=140737488351232) (hk2:X.k2.length=16) (ho:jx X.own=true) (hq:¬val=tkW X X.own):Calls Tryz.prog 74 #[.pointer (some ⟨P,0,none⟩),.slice vA val.length vc,.slice eA s.length ec] w (StepE P w 21):=by
 have HCO:=iH (fun W h=>code_t X sA nA aA bA sc nc ac bc X.own ho hk2 W h)
 obtain⟨T,hT⟩:∃T,tkW X X.own=T:=⟨_,rfl⟩
 rw [hT]at HCO hq
 have HBB:Hid (decide (val=T)=false):=iH (decide_eq_false hq)
 clear hk2 ho hq hT
 have HP0:Hid (PtW P w w #[.int .i64 X.kd,.slice sA X.sec.length sc,.int .i64 X.pr,.int .i64 X.st,.slice nA X.non.length nc,.int .i64 X.x,.int .i64 X.g,.int .i64 X.own,.int .i64 X.oth,.slice aA X.k1.length ac,.slice bA X.k2.length bc,.int .i64 X.ct]):=iH (PtW.start hr)
 have HK:=iH hK;have Gs0:=iH h1;have Gn0:=iH h2;have Ga0:=iH h3;have Gb0:=iH h4;have Gv0:=iH h5;have Ge0:=iH h6;have HL:=iH hl
 obtain⟨f0,f1,f2,f3,f4,f5,f6,f7,f8,f9,f10,f11,ff⟩:=jy hr
 clear hK hr h1 h2 h3 h4 h5 h6 hl
 go_enter Tryz.func74,Tryz.ntmps74
 go_upto_region 1 with fail
 refine jg 11 [some 10,some 11,some 12,some 13,some 14,some 15,some 16,some 17,some 18,some 19,some 20] [[],[],[1],[1,2],[],[4],[4,5],[4,5,6],[1,2,3,4,5,6,7],[0,1,2,3,4,5,6,7,8],[0,1,2,3,4,5,6,7,8,9]]
  (fun _ _ w1=>Below w.heap.size w w1) (fun w1 w2=>Below w1.heap.size w1 w2)
  [fun v _=>v 0=.slice vA val.length vc,
   fun v _=>v 1=.pointer (some ⟨P,0,none⟩),
   fun v _=>v 2=.pointer (some ⟨P,0,none⟩),
   fun v _=>v 3=.agg #[.int .i64 X.kd,.slice sA X.sec.length sc,.int .i64 X.pr,.int .i64 X.st,.slice nA X.non.length nc,.int .i64 X.x,.int .i64 X.g,.int .i64 X.own,.int .i64 X.oth,.slice aA X.k1.length ac,.slice bA X.k2.length bc,.int .i64 X.ct],
   fun v _=>v 4=.pointer (some ⟨P,0,none⟩),
   fun v _=>v 5=.pointer (some ⟨P,0,none⟩),
   fun v _=>v 6=.pointer (some ⟨P,7,none⟩),
   fun v _=>v 7=.int .i64 X.own,
   fun v w1=>∃A8 c8,v 8=.slice A8 8 c8/\Bs w1 w1.heap.size (.slice A8 8 c8) T,
   fun v _=>v 9=.bool false,
   fun v _=>v 10=.bool true]
  (by kernel_rfl) (by kernel_rfl) (fun _=>iB.drew) ?st ?steps ?tail
 case st=>
  exact(.cons (fun _ _ _ _ _ _ h=>h) (.cons (fun _ _ _ _ _ _ h=>h) (.cons (fun _ _ _ _ _ _ h=>h) (.cons (fun _ _ _ _ _ _ h=>h) (.cons (fun _ _ _ _ _ _ h=>h) (.cons (fun _ _ _ _ _ _ h=>h) (.cons (fun _ _ _ _ _ _ h=>h) (.cons (fun _ _ _ _ _ _ h=>h) (.cons (fun _ _ _ _ _ hr ⟨A,c,h1,h2⟩=>⟨A,c,h1,Bs.lift h2 hr⟩) (.cons (fun _ _ _ _ _ _ h=>h) (.cons (fun _ _ _ _ _ _ h=>h) .nil)))))))))))
 case steps=>
  simp only [List.take_succ_cons,List.take_zero]
  refine(.cons ?_ (.cons ?_ (.cons ?_ (.cons ?_ (.cons ?_ (.cons ?_ (.cons ?_ (.cons ?_ (.cons ?_ (.cons ?_ (.cons ?_ .nil)))))))))))
  all_goals(intro L v w1 hJ hL hA hF K hK;simp only [ja,Act.put,Nat.zero_add,Nat.reduceAdd,List.setIfInBounds_toArray,List.set_cons_zero,List.set_cons_succ]at hK |-)
  ·go_simp
   refine hK _ _ hJ iB ?_
   first|exact rfl|exact j3 _
  ·go_simp
   refine hK _ _ hJ iB ?_
   first|exact rfl|exact j3 _
  ·have e1:v 1=.pointer (some ⟨P,0,none⟩):=hF 1 (hA 1 (by simp))
   simp only [e1]at hK
   go_simp
   refine hK _ _ hJ iB ?_
   first|exact rfl|exact j3 _
  ·have e2:v 2=.pointer (some ⟨P,0,none⟩):=hF 2 (hA 2 (by simp))
   have hp:=HP0.out.call hJ
   obtain⟨q0,q1,q2,q3,q4,q5,q6,q7,q8,q9,q10,q11,qf⟩:=jy hp.1
   simp only [e2]at hK
   go_simp
   refine hK _ _ hJ iB ?_
   first|exact rfl|exact j3 _
  ·go_simp
   refine hK _ _ hJ iB ?_
   first|exact rfl|exact j3 _
  ·have e4:v 4=.pointer (some ⟨P,0,none⟩):=hF 4 (hA 4 (by simp))
   simp only [e4]at hK
   go_simp
   refine hK _ _ hJ iB ?_
   first|exact rfl|exact j3 _
  ·have e5:v 5=.pointer (some ⟨P,0,none⟩):=hF 5 (hA 5 (by simp))
   simp only [e5]at hK
   go_simp
   refine hK _ _ hJ iB ?_
   first|exact rfl|exact j3 _
  ·have e6:v 6=.pointer (some ⟨P,7,none⟩):=hF 6 (hA 6 (by simp))
   have hp:=HP0.out.call hJ
   obtain⟨q0,q1,q2,q3,q4,q5,q6,q7,q8,q9,q10,q11,qf⟩:=jy hp.1
   simp only [e6]at hK
   go_simp
   refine hK _ _ hJ iB ?_
   first|exact rfl|exact j3 _
  ·have e3:v 3=.agg #[.int .i64 X.kd,.slice sA X.sec.length sc,.int .i64 X.pr,.int .i64 X.st,.slice nA X.non.length nc,.int .i64 X.x,.int .i64 X.g,.int .i64 X.own,.int .i64 X.oth,.slice aA X.k1.length ac,.slice bA X.k2.length bc,.int .i64 X.ct]:=hF 3 (hA 3 (by simp))
   have e7:v 7=.int .i64 X.own:=hF 7 (hA 7 (by simp))
   simp only [e3,e7]at hK
   simp only [e3,e7]
   go_simp
   refine(HCO.out w1 (Gb0.out.onB hJ).loB).mono ?_
   rintro e wk ⟨A8,c8,rfl,hs,hb⟩
   exact hK _ _ (hJ.trans (hb.mono hJ.size)) hb ⟨_,_,rfl,hs⟩
  ·have e0:v 0=.slice vA val.length vc:=hF 0 (hA 0 (by simp))
   simp only [e0]at hK
   obtain⟨A8,c8,e8,hz⟩:∃A8 c8,v 8=.slice A8 8 c8/\Bs w1 w1.heap.size (.slice A8 8 c8) T:=hF 8 (hA 8 (by simp))
   simp only [e8]at hK
   simp only [e0,e8]
   go_simp
   refine(bequal_any _ _ val T _ _ w1 (Gv0.out.onB hJ) hz).mono ?_
   rintro e wk ⟨rfl,hwk⟩
   subst hwk
   rw [HBB.out]
   exact hK _ _ hJ iB rfl
  ·have e9:v 9=.bool false:=hF 9 (hA 9 (by simp))
   simp only [e9]at hK
   go_simp
   refine hK _ _ hJ iB ?_
   first|exact rfl|exact j3 _
 case tail=>
  intro v w1 hJ hF
  have e0:v 0=.slice vA val.length vc:=hF 0 (by simp)
  have e1:v 1=.pointer (some ⟨P,0,none⟩):=hF 1 (by simp)
  have e2:v 2=.pointer (some ⟨P,0,none⟩):=hF 2 (by simp)
  have e3:v 3=.agg #[.int .i64 X.kd,.slice sA X.sec.length sc,.int .i64 X.pr,.int .i64 X.st,.slice nA X.non.length nc,.int .i64 X.x,.int .i64 X.g,.int .i64 X.own,.int .i64 X.oth,.slice aA X.k1.length ac,.slice bA X.k2.length bc,.int .i64 X.ct]:=hF 3 (by simp)
  have e4:v 4=.pointer (some ⟨P,0,none⟩):=hF 4 (by simp)
  have e5:v 5=.pointer (some ⟨P,0,none⟩):=hF 5 (by simp)
  have e6:v 6=.pointer (some ⟨P,7,none⟩):=hF 6 (by simp)
  have e7:v 7=.int .i64 X.own:=hF 7 (by simp)
  have e9:v 9=.bool false:=hF 9 (by simp)
  have e10:v 10=.bool true:=hF 10 (by simp)
  simp only [List.drop_succ_cons,List.drop_zero,ja,Act.put,Nat.zero_add,Nat.reduceAdd,List.setIfInBounds_toArray,List.set_cons_zero,List.set_cons_succ]
  simp only [e0,e1,e2,e3,e4,e5,e6,e7,e9,e10]
  have hp:=HP0.out.call hJ
  have HP1:=iH hp;have HJ:=iH hJ
  obtain⟨p0,p1,p2,p3,p4,p5,p6,p7,p8,p9,p10,p11,pf⟩:=jy hp.1
  have Gs1:=iH (Gs0.out.onB hJ);have Gn1:=iH (Gn0.out.onB hJ);have Ga1:=iH (Ga0.out.onB hJ);have Gb1:=iH (Gb0.out.onB hJ);have Gv1:=iH (Gv0.out.onB hJ);have Ge1:=iH (Ge0.out.onB hJ)
  clear hJ hF hp e0 e1 e2 e3 e4 e5 e6 e7 e9 e10 f0 f1 f2 f3 f4 f5 f6 f7 f8 f9 f10 f11 ff
  go_wp2_with fail
  refine bodyPost_ret (v:=.tuple #[.int .i64 0,.slice none 0 0,.slice none 0 0,.int .i64 21]) (by simp [results,Tryz.results74,go_sem]) rfl ?_
  exact⟨rfl,_,_,_,_,_,_,_,_,_,_,_,_,HP1.out⟩
theorem termCheck_err(P:Nat)(X:Exg)(sA nA aA bA:Option Addr)(sc nc ac bc:Nat)(vA eA:Option Addr)(vc ec:Nat)(val s:List UInt8)(w:World)(hK:∀W,Below P w W->KD W)(hr:w.heap[P]?=some (.cells #[.int .i64 X.kd,.slice sA X.sec.length sc,.int .i64 X.pr,.int .i64 X.st,.slice nA X.non.length nc,.int .i64 X.x,.int .i64 X.g,.int .i64 X.own,.int .i64 X.oth,.slice aA X.k1.length ac,.slice bA X.k2.length bc,.int .i64 X.ct] 48 (0,0))) (h1:BsS w (jL P w) (.slice sA X.sec.length sc) X.sec) (h2:BsS w (jL P w) (.slice nA X.non.length nc) X.non) (h3:BsS w (jL P w) (.slice aA X.k1.length ac) X.k1) (h4:BsS w (jL P w) (.slice bA X.k2.length bc) X.k2) (h5:BsS w (jL P w) (.slice vA val.length vc) val) (h6:BsS w (jL P w) (.slice eA s.length ec) s) (hl:s.length<=140737488351232) (hk2:X.k2.length=16) (ho:jx X.own=true) (hq:¬val=tkW X X.own):Calls Tryz.prog 93 #[.pointer (some ⟨P,0,none⟩),.slice vA val.length vc,.slice eA s.length ec] w (StepE P w 21):=by
 have HCO:=iH (fun W h=>code_t X sA nA aA bA sc nc ac bc X.own ho hk2 W h)
 obtain⟨T,hT⟩:∃T,tkW X X.own=T:=⟨_,rfl⟩
 rw [hT]at HCO hq
 have HBB:Hid (decide (val=T)=false):=iH (decide_eq_false hq)
 clear hk2 ho hq hT
 have HP0:Hid (PtW P w w #[.int .i64 X.kd,.slice sA X.sec.length sc,.int .i64 X.pr,.int .i64 X.st,.slice nA X.non.length nc,.int .i64 X.x,.int .i64 X.g,.int .i64 X.own,.int .i64 X.oth,.slice aA X.k1.length ac,.slice bA X.k2.length bc,.int .i64 X.ct]):=iH (PtW.start hr)
 have HK:=iH hK;have Gs0:=iH h1;have Gn0:=iH h2;have Ga0:=iH h3;have Gb0:=iH h4;have Gv0:=iH h5;have Ge0:=iH h6;have HL:=iH hl
 obtain⟨f0,f1,f2,f3,f4,f5,f6,f7,f8,f9,f10,f11,ff⟩:=jy hr
 clear hK hr h1 h2 h3 h4 h5 h6 hl
 go_enter Tryz.func93,Tryz.ntmps93
 go_upto_region 1 with fail
 refine jg 11 [some 10,some 11,some 12,some 13,some 14,some 15,some 16,some 17,some 18,some 19,some 20] [[],[],[1],[1,2],[],[4],[4,5],[4,5,6],[1,2,3,4,5,6,7],[0,1,2,3,4,5,6,7,8],[0,1,2,3,4,5,6,7,8,9]]
  (fun _ _ w1=>Below w.heap.size w w1) (fun w1 w2=>Below w1.heap.size w1 w2)
  [fun v _=>v 0=.slice vA val.length vc,
   fun v _=>v 1=.pointer (some ⟨P,0,none⟩),
   fun v _=>v 2=.pointer (some ⟨P,0,none⟩),
   fun v _=>v 3=.agg #[.int .i64 X.kd,.slice sA X.sec.length sc,.int .i64 X.pr,.int .i64 X.st,.slice nA X.non.length nc,.int .i64 X.x,.int .i64 X.g,.int .i64 X.own,.int .i64 X.oth,.slice aA X.k1.length ac,.slice bA X.k2.length bc,.int .i64 X.ct],
   fun v _=>v 4=.pointer (some ⟨P,0,none⟩),
   fun v _=>v 5=.pointer (some ⟨P,0,none⟩),
   fun v _=>v 6=.pointer (some ⟨P,7,none⟩),
   fun v _=>v 7=.int .i64 X.own,
   fun v w1=>∃A8 c8,v 8=.slice A8 8 c8/\Bs w1 w1.heap.size (.slice A8 8 c8) T,
   fun v _=>v 9=.bool false,
   fun v _=>v 10=.bool true]
  (by kernel_rfl) (by kernel_rfl) (fun _=>iB.drew) ?st ?steps ?tail
 case st=>
  exact(.cons (fun _ _ _ _ _ _ h=>h) (.cons (fun _ _ _ _ _ _ h=>h) (.cons (fun _ _ _ _ _ _ h=>h) (.cons (fun _ _ _ _ _ _ h=>h) (.cons (fun _ _ _ _ _ _ h=>h) (.cons (fun _ _ _ _ _ _ h=>h) (.cons (fun _ _ _ _ _ _ h=>h) (.cons (fun _ _ _ _ _ _ h=>h) (.cons (fun _ _ _ _ _ hr ⟨A,c,h1,h2⟩=>⟨A,c,h1,Bs.lift h2 hr⟩) (.cons (fun _ _ _ _ _ _ h=>h) (.cons (fun _ _ _ _ _ _ h=>h) .nil)))))))))))
 case steps=>
  simp only [List.take_succ_cons,List.take_zero]
  refine(.cons ?_ (.cons ?_ (.cons ?_ (.cons ?_ (.cons ?_ (.cons ?_ (.cons ?_ (.cons ?_ (.cons ?_ (.cons ?_ (.cons ?_ .nil)))))))))))
  all_goals(intro L v w1 hJ hL hA hF K hK;simp only [ja,Act.put,Nat.zero_add,Nat.reduceAdd,List.setIfInBounds_toArray,List.set_cons_zero,List.set_cons_succ]at hK |-)
  ·go_simp
   refine hK _ _ hJ iB ?_
   first|exact rfl|exact j3 _
  ·go_simp
   refine hK _ _ hJ iB ?_
   first|exact rfl|exact j3 _
  ·have e1:v 1=.pointer (some ⟨P,0,none⟩):=hF 1 (hA 1 (by simp))
   simp only [e1]at hK
   go_simp
   refine hK _ _ hJ iB ?_
   first|exact rfl|exact j3 _
  ·have e2:v 2=.pointer (some ⟨P,0,none⟩):=hF 2 (hA 2 (by simp))
   have hp:=HP0.out.call hJ
   obtain⟨q0,q1,q2,q3,q4,q5,q6,q7,q8,q9,q10,q11,qf⟩:=jy hp.1
   simp only [e2]at hK
   go_simp
   refine hK _ _ hJ iB ?_
   first|exact rfl|exact j3 _
  ·go_simp
   refine hK _ _ hJ iB ?_
   first|exact rfl|exact j3 _
  ·have e4:v 4=.pointer (some ⟨P,0,none⟩):=hF 4 (hA 4 (by simp))
   simp only [e4]at hK
   go_simp
   refine hK _ _ hJ iB ?_
   first|exact rfl|exact j3 _
  ·have e5:v 5=.pointer (some ⟨P,0,none⟩):=hF 5 (hA 5 (by simp))
   simp only [e5]at hK
   go_simp
   refine hK _ _ hJ iB ?_
   first|exact rfl|exact j3 _
  ·have e6:v 6=.pointer (some ⟨P,7,none⟩):=hF 6 (hA 6 (by simp))
   have hp:=HP0.out.call hJ
   obtain⟨q0,q1,q2,q3,q4,q5,q6,q7,q8,q9,q10,q11,qf⟩:=jy hp.1
   simp only [e6]at hK
   go_simp
   refine hK _ _ hJ iB ?_
   first|exact rfl|exact j3 _
  ·have e3:v 3=.agg #[.int .i64 X.kd,.slice sA X.sec.length sc,.int .i64 X.pr,.int .i64 X.st,.slice nA X.non.length nc,.int .i64 X.x,.int .i64 X.g,.int .i64 X.own,.int .i64 X.oth,.slice aA X.k1.length ac,.slice bA X.k2.length bc,.int .i64 X.ct]:=hF 3 (hA 3 (by simp))
   have e7:v 7=.int .i64 X.own:=hF 7 (hA 7 (by simp))
   simp only [e3,e7]at hK
   simp only [e3,e7]
   go_simp
   refine(HCO.out w1 (Gb0.out.onB hJ).loB).mono ?_
   rintro e wk ⟨A8,c8,rfl,hs,hb⟩
   exact hK _ _ (hJ.trans (hb.mono hJ.size)) hb ⟨_,_,rfl,hs⟩
  ·have e0:v 0=.slice vA val.length vc:=hF 0 (hA 0 (by simp))
   simp only [e0]at hK
   obtain⟨A8,c8,e8,hz⟩:∃A8 c8,v 8=.slice A8 8 c8/\Bs w1 w1.heap.size (.slice A8 8 c8) T:=hF 8 (hA 8 (by simp))
   simp only [e8]at hK
   simp only [e0,e8]
   go_simp
   refine(bequal_any _ _ val T _ _ w1 (Gv0.out.onB hJ) hz).mono ?_
   rintro e wk ⟨rfl,hwk⟩
   subst hwk
   rw [HBB.out]
   exact hK _ _ hJ iB rfl
  ·have e9:v 9=.bool false:=hF 9 (hA 9 (by simp))
   simp only [e9]at hK
   go_simp
   refine hK _ _ hJ iB ?_
   first|exact rfl|exact j3 _
 case tail=>
  intro v w1 hJ hF
  have e0:v 0=.slice vA val.length vc:=hF 0 (by simp)
  have e1:v 1=.pointer (some ⟨P,0,none⟩):=hF 1 (by simp)
  have e2:v 2=.pointer (some ⟨P,0,none⟩):=hF 2 (by simp)
  have e3:v 3=.agg #[.int .i64 X.kd,.slice sA X.sec.length sc,.int .i64 X.pr,.int .i64 X.st,.slice nA X.non.length nc,.int .i64 X.x,.int .i64 X.g,.int .i64 X.own,.int .i64 X.oth,.slice aA X.k1.length ac,.slice bA X.k2.length bc,.int .i64 X.ct]:=hF 3 (by simp)
  have e4:v 4=.pointer (some ⟨P,0,none⟩):=hF 4 (by simp)
  have e5:v 5=.pointer (some ⟨P,0,none⟩):=hF 5 (by simp)
  have e6:v 6=.pointer (some ⟨P,7,none⟩):=hF 6 (by simp)
  have e7:v 7=.int .i64 X.own:=hF 7 (by simp)
  have e9:v 9=.bool false:=hF 9 (by simp)
  have e10:v 10=.bool true:=hF 10 (by simp)
  simp only [List.drop_succ_cons,List.drop_zero,ja,Act.put,Nat.zero_add,Nat.reduceAdd,List.setIfInBounds_toArray,List.set_cons_zero,List.set_cons_succ]
  simp only [e0,e1,e2,e3,e4,e5,e6,e7,e9,e10]
  have hp:=HP0.out.call hJ
  have HP1:=iH hp;have HJ:=iH hJ
  obtain⟨p0,p1,p2,p3,p4,p5,p6,p7,p8,p9,p10,p11,pf⟩:=jy hp.1
  have Gs1:=iH (Gs0.out.onB hJ);have Gn1:=iH (Gn0.out.onB hJ);have Ga1:=iH (Ga0.out.onB hJ);have Gb1:=iH (Gb0.out.onB hJ);have Gv1:=iH (Gv0.out.onB hJ);have Ge1:=iH (Ge0.out.onB hJ)
  clear hJ hF hp e0 e1 e2 e3 e4 e5 e6 e7 e9 e10 f0 f1 f2 f3 f4 f5 f6 f7 f8 f9 f10 f11 ff
  go_wp2_with fail
  refine bodyPost_ret (v:=.tuple #[.int .i64 0,.slice none 0 0,.slice none 0 0,.int .i64 21]) (by simp [results,Tryz.results93,go_sem]) rfl ?_
  exact⟨rfl,_,_,_,_,_,_,_,_,_,_,_,_,HP1.out⟩
theorem termCheck_any(P:Nat)(X:Exg)(sA nA aA bA:Option Addr)(sc nc ac bc:Nat)(vA eA:Option Addr)(vc ec:Nat)(val s:List UInt8)(w:World)(hK:∀W,Below P w W->KD W)(hr:w.heap[P]?=some (.cells #[.int .i64 X.kd,.slice sA X.sec.length sc,.int .i64 X.pr,.int .i64 X.st,.slice nA X.non.length nc,.int .i64 X.x,.int .i64 X.g,.int .i64 X.own,.int .i64 X.oth,.slice aA X.k1.length ac,.slice bA X.k2.length bc,.int .i64 X.ct] 48 (0,0))) (h1:BsS w (jL P w) (.slice sA X.sec.length sc) X.sec) (h2:BsS w (jL P w) (.slice nA X.non.length nc) X.non) (h3:BsS w (jL P w) (.slice aA X.k1.length ac) X.k1) (h4:BsS w (jL P w) (.slice bA X.k2.length bc) X.k2) (h5:BsS w (jL P w) (.slice vA val.length vc) val) (h6:BsS w (jL P w) (.slice eA s.length ec) s) (hl:s.length<=140737488351232) (hk2:X.k2.length=16) (ho:jx X.own=true) (hq:val=tkW X X.own):Calls Tryz.prog 93 #[.pointer (some ⟨P,0,none⟩),.slice vA val.length vc,.slice eA s.length ec] w (Vg P w (-1) X [] s):=by
 have HCO:=iH (fun W h=>code_t X sA nA aA bA sc nc ac bc X.own ho hk2 W h)
 obtain⟨T,hT⟩:∃T,tkW X X.own=T:=⟨_,rfl⟩
 rw [hT]at HCO hq
 have HBB:Hid (decide (val=T)=true):=iH (decide_eq_true hq)
 clear hk2 ho hq hT
 have HP0:Hid (PtW P w w #[.int .i64 X.kd,.slice sA X.sec.length sc,.int .i64 X.pr,.int .i64 X.st,.slice nA X.non.length nc,.int .i64 X.x,.int .i64 X.g,.int .i64 X.own,.int .i64 X.oth,.slice aA X.k1.length ac,.slice bA X.k2.length bc,.int .i64 X.ct]):=iH (PtW.start hr)
 have HK:=iH hK;have Gs0:=iH h1;have Gn0:=iH h2;have Ga0:=iH h3;have Gb0:=iH h4;have Gv0:=iH h5;have Ge0:=iH h6;have HL:=iH hl
 obtain⟨f0,f1,f2,f3,f4,f5,f6,f7,f8,f9,f10,f11,ff⟩:=jy hr
 clear hK hr h1 h2 h3 h4 h5 h6 hl
 go_enter Tryz.func93,Tryz.ntmps93
 go_upto_region 1 with fail
 refine jg 11 [some 10,some 11,some 12,some 13,some 14,some 15,some 16,some 17,some 18,some 19,some 20] [[],[],[1],[1,2],[],[4],[4,5],[4,5,6],[1,2,3,4,5,6,7],[0,1,2,3,4,5,6,7,8],[0,1,2,3,4,5,6,7,8,9]]
  (fun _ _ w1=>Below w.heap.size w w1) (fun w1 w2=>Below w1.heap.size w1 w2)
  [fun v _=>v 0=.slice vA val.length vc,
   fun v _=>v 1=.pointer (some ⟨P,0,none⟩),
   fun v _=>v 2=.pointer (some ⟨P,0,none⟩),
   fun v _=>v 3=.agg #[.int .i64 X.kd,.slice sA X.sec.length sc,.int .i64 X.pr,.int .i64 X.st,.slice nA X.non.length nc,.int .i64 X.x,.int .i64 X.g,.int .i64 X.own,.int .i64 X.oth,.slice aA X.k1.length ac,.slice bA X.k2.length bc,.int .i64 X.ct],
   fun v _=>v 4=.pointer (some ⟨P,0,none⟩),
   fun v _=>v 5=.pointer (some ⟨P,0,none⟩),
   fun v _=>v 6=.pointer (some ⟨P,7,none⟩),
   fun v _=>v 7=.int .i64 X.own,
   fun v w1=>∃A8 c8,v 8=.slice A8 8 c8/\Bs w1 w1.heap.size (.slice A8 8 c8) T,
   fun v _=>v 9=.bool true,
   fun v _=>v 10=.bool false]
  (by kernel_rfl) (by kernel_rfl) (fun _=>iB.drew) ?st ?steps ?tail
 case st=>
  exact(.cons (fun _ _ _ _ _ _ h=>h) (.cons (fun _ _ _ _ _ _ h=>h) (.cons (fun _ _ _ _ _ _ h=>h) (.cons (fun _ _ _ _ _ _ h=>h) (.cons (fun _ _ _ _ _ _ h=>h) (.cons (fun _ _ _ _ _ _ h=>h) (.cons (fun _ _ _ _ _ _ h=>h) (.cons (fun _ _ _ _ _ _ h=>h) (.cons (fun _ _ _ _ _ hr ⟨A,c,h1,h2⟩=>⟨A,c,h1,Bs.lift h2 hr⟩) (.cons (fun _ _ _ _ _ _ h=>h) (.cons (fun _ _ _ _ _ _ h=>h) .nil)))))))))))
 case steps=>
  simp only [List.take_succ_cons,List.take_zero]
  refine(.cons ?_ (.cons ?_ (.cons ?_ (.cons ?_ (.cons ?_ (.cons ?_ (.cons ?_ (.cons ?_ (.cons ?_ (.cons ?_ (.cons ?_ .nil)))))))))))
  all_goals(intro L v w1 hJ hL hA hF K hK;simp only [ja,Act.put,Nat.zero_add,Nat.reduceAdd,List.setIfInBounds_toArray,List.set_cons_zero,List.set_cons_succ]at hK |-)
  ·go_simp
   refine hK _ _ hJ iB ?_
   first|exact rfl|exact j3 _
  ·go_simp
   refine hK _ _ hJ iB ?_
   first|exact rfl|exact j3 _
  ·have e1:v 1=.pointer (some ⟨P,0,none⟩):=hF 1 (hA 1 (by simp))
   simp only [e1]at hK
   go_simp
   refine hK _ _ hJ iB ?_
   first|exact rfl|exact j3 _
  ·have e2:v 2=.pointer (some ⟨P,0,none⟩):=hF 2 (hA 2 (by simp))
   have hp:=HP0.out.call hJ
   obtain⟨q0,q1,q2,q3,q4,q5,q6,q7,q8,q9,q10,q11,qf⟩:=jy hp.1
   simp only [e2]at hK
   go_simp
   refine hK _ _ hJ iB ?_
   first|exact rfl|exact j3 _
  ·go_simp
   refine hK _ _ hJ iB ?_
   first|exact rfl|exact j3 _
  ·have e4:v 4=.pointer (some ⟨P,0,none⟩):=hF 4 (hA 4 (by simp))
   simp only [e4]at hK
   go_simp
   refine hK _ _ hJ iB ?_
   first|exact rfl|exact j3 _
  ·have e5:v 5=.pointer (some ⟨P,0,none⟩):=hF 5 (hA 5 (by simp))
   simp only [e5]at hK
   go_simp
   refine hK _ _ hJ iB ?_
   first|exact rfl|exact j3 _
  ·have e6:v 6=.pointer (some ⟨P,7,none⟩):=hF 6 (hA 6 (by simp))
   have hp:=HP0.out.call hJ
   obtain⟨q0,q1,q2,q3,q4,q5,q6,q7,q8,q9,q10,q11,qf⟩:=jy hp.1
   simp only [e6]at hK
   go_simp
   refine hK _ _ hJ iB ?_
   first|exact rfl|exact j3 _
  ·have e3:v 3=.agg #[.int .i64 X.kd,.slice sA X.sec.length sc,.int .i64 X.pr,.int .i64 X.st,.slice nA X.non.length nc,.int .i64 X.x,.int .i64 X.g,.int .i64 X.own,.int .i64 X.oth,.slice aA X.k1.length ac,.slice bA X.k2.length bc,.int .i64 X.ct]:=hF 3 (hA 3 (by simp))
   have e7:v 7=.int .i64 X.own:=hF 7 (hA 7 (by simp))
   simp only [e3,e7]at hK
   simp only [e3,e7]
   go_simp
   refine(HCO.out w1 (Gb0.out.onB hJ).loB).mono ?_
   rintro e wk ⟨A8,c8,rfl,hs,hb⟩
   exact hK _ _ (hJ.trans (hb.mono hJ.size)) hb ⟨_,_,rfl,hs⟩
  ·have e0:v 0=.slice vA val.length vc:=hF 0 (hA 0 (by simp))
   simp only [e0]at hK
   obtain⟨A8,c8,e8,hz⟩:∃A8 c8,v 8=.slice A8 8 c8/\Bs w1 w1.heap.size (.slice A8 8 c8) T:=hF 8 (hA 8 (by simp))
   simp only [e8]at hK
   simp only [e0,e8]
   go_simp
   refine(bequal_any _ _ val T _ _ w1 (Gv0.out.onB hJ) hz).mono ?_
   rintro e wk ⟨rfl,hwk⟩
   subst hwk
   rw [HBB.out]
   exact hK _ _ hJ iB rfl
  ·have e9:v 9=.bool true:=hF 9 (hA 9 (by simp))
   simp only [e9]at hK
   go_simp
   refine hK _ _ hJ iB ?_
   first|exact rfl|exact j3 _
 case tail=>
  intro v w1 hJ hF
  have e0:v 0=.slice vA val.length vc:=hF 0 (by simp)
  have e1:v 1=.pointer (some ⟨P,0,none⟩):=hF 1 (by simp)
  have e2:v 2=.pointer (some ⟨P,0,none⟩):=hF 2 (by simp)
  have e3:v 3=.agg #[.int .i64 X.kd,.slice sA X.sec.length sc,.int .i64 X.pr,.int .i64 X.st,.slice nA X.non.length nc,.int .i64 X.x,.int .i64 X.g,.int .i64 X.own,.int .i64 X.oth,.slice aA X.k1.length ac,.slice bA X.k2.length bc,.int .i64 X.ct]:=hF 3 (by simp)
  have e4:v 4=.pointer (some ⟨P,0,none⟩):=hF 4 (by simp)
  have e5:v 5=.pointer (some ⟨P,0,none⟩):=hF 5 (by simp)
  have e6:v 6=.pointer (some ⟨P,7,none⟩):=hF 6 (by simp)
  have e7:v 7=.int .i64 X.own:=hF 7 (by simp)
  have e9:v 9=.bool true:=hF 9 (by simp)
  have e10:v 10=.bool false:=hF 10 (by simp)
  simp only [List.drop_succ_cons,List.drop_zero,ja,Act.put,Nat.zero_add,Nat.reduceAdd,List.setIfInBounds_toArray,List.set_cons_zero,List.set_cons_succ]
  simp only [e0,e1,e2,e3,e4,e5,e6,e7,e9,e10]
  have hp:=HP0.out.call hJ
  have HP1:=iH hp;have HJ:=iH hJ
  obtain⟨p0,p1,p2,p3,p4,p5,p6,p7,p8,p9,p10,p11,pf⟩:=jy hp.1
  have Gs1:=iH (Gs0.out.onB hJ);have Gn1:=iH (Gn0.out.onB hJ);have Ga1:=iH (Ga0.out.onB hJ);have Gb1:=iH (Gb0.out.onB hJ);have Gv1:=iH (Gv0.out.onB hJ);have Ge1:=iH (Ge0.out.onB hJ)
  clear hJ hF hp e0 e1 e2 e3 e4 e5 e6 e7 e9 e10 f0 f1 f2 f3 f4 f5 f6 f7 f8 f9 f10 f11 ff
  go_wp2_with(go_at_call 67;refine(jr _ s w1 Ge1.out.loB).mono ?_;rintro e w2 ⟨v2,rfl,ho,hb⟩;obtain⟨cA,cc,hv2⟩:=OwnB.form ho;subst hv2;have HC:Hid (BsS w2 (jL P w2) (.slice cA s.length cc) s):=iH (BsS.madeB (OwnB.out ho (by have:=HL.out;omega) w1 iL) HP1.out.lt);have Gs2:=iH (Gs1.out.onB hb);have Gn2:=iH (Gn1.out.onB hb);have Ga2:=iH (Ga1.out.onB hb);have Gb2:=iH (Gb1.out.onB hb);have Gv2:=iH (Gv1.out.onB hb);have Ge2:=iH (Ge1.out.onB hb);have hp:=HP1.out.call hb;have HP2:=iH hp;obtain⟨g0,g1,g2,g3,g4,g5,g6,g7,g8,g9,g10,g11,gf⟩:=jy hp.1;clear hp p0 p1 p2 p3 p4 p5 p6 p7 p8 p9 p10 p11 pf;clear ho hb)
  refine bodyPost_ret (v:=.tuple #[.int .i64 (-1),.slice none 0 0,.slice cA s.length cc,.int .i64 0]) (by simp [results,Tryz.results93,go_sem]) rfl ?_
  exact⟨_,_,_,_,rfl,⟨_,_,_,_,_,_,_,_,HP2.out,Gs2.out,Gn2.out,Ga2.out,Gb2.out⟩,kh _ _,HC.out⟩
theorem tkl(X:Exg)(p:Int)(h:X.k2.length=16):(tkW X p).length=8:=by unfold tkW;rw [List.length_take,codeO_len h]<;>rfl
theorem chipCheck_any(P:Nat)(X:Exg)(sA nA aA bA:Option Addr)(sc nc ac bc:Nat)(vA eA:Option Addr)(vc ec:Nat)(val s:List UInt8)(w:World)(hK:∀W,Below P w W->KD W)(hr:w.heap[P]?=some (.cells #[.int .i64 X.kd,.slice sA X.sec.length sc,.int .i64 X.pr,.int .i64 X.st,.slice nA X.non.length nc,.int .i64 X.x,.int .i64 X.g,.int .i64 X.own,.int .i64 X.oth,.slice aA X.k1.length ac,.slice bA X.k2.length bc,.int .i64 X.ct] 48 (0,0))) (h1:BsS w (jL P w) (.slice sA X.sec.length sc) X.sec) (h2:BsS w (jL P w) (.slice nA X.non.length nc) X.non) (h3:BsS w (jL P w) (.slice aA X.k1.length ac) X.k1) (h4:BsS w (jL P w) (.slice bA X.k2.length bc) X.k2) (h5:BsS w (jL P w) (.slice vA val.length vc) val) (h6:BsS w (jL P w) (.slice eA s.length ec) s) (hl:s.length<=140737488351232) (hk2:X.k2.length=16) (ho:jx X.own=true) (ht:jx X.oth=true) (hq:val=tkW X X.own):Calls Tryz.prog 74 #[.pointer (some ⟨P,0,none⟩),.slice vA val.length vc,.slice eA s.length ec] w (Vg P w 134 X (tkW X X.oth) s):=by
 have HCO:=iH (fun W h=>code_t X sA nA aA bA sc nc ac bc X.own ho hk2 W h)
 have HCT:=iH (fun W h=>code_t X sA nA aA bA sc nc ac bc X.oth ht hk2 W h)
 have NOB:=iH (noBE X sA nA aA bA sc nc ac bc)
 have ht8:=tkl X X.oth hk2
 obtain⟨T2,hT2⟩:∃T,tkW X X.oth=T:=⟨_,rfl⟩
 rw [hT2]at HCT ht8 |-
 have HT8:=iH ht8
 clear hT2 ht8 ht
 obtain⟨T,hT⟩:∃T,tkW X X.own=T:=⟨_,rfl⟩
 rw [hT]at HCO hq
 have HBB:Hid (decide (val=T)=true):=iH (decide_eq_true hq)
 clear hk2 ho hq hT
 have HP0:Hid (PtW P w w #[.int .i64 X.kd,.slice sA X.sec.length sc,.int .i64 X.pr,.int .i64 X.st,.slice nA X.non.length nc,.int .i64 X.x,.int .i64 X.g,.int .i64 X.own,.int .i64 X.oth,.slice aA X.k1.length ac,.slice bA X.k2.length bc,.int .i64 X.ct]):=iH (PtW.start hr)
 have HK:=iH hK;have Gs0:=iH h1;have Gn0:=iH h2;have Ga0:=iH h3;have Gb0:=iH h4;have Gv0:=iH h5;have Ge0:=iH h6;have HL:=iH hl
 obtain⟨f0,f1,f2,f3,f4,f5,f6,f7,f8,f9,f10,f11,ff⟩:=jy hr
 clear hK hr h1 h2 h3 h4 h5 h6 hl
 go_enter Tryz.func74,Tryz.ntmps74
 go_upto_region 1 with fail
 refine jg 11 [some 10,some 11,some 12,some 13,some 14,some 15,some 16,some 17,some 18,some 19,some 20] [[],[],[1],[1,2],[],[4],[4,5],[4,5,6],[1,2,3,4,5,6,7],[0,1,2,3,4,5,6,7,8],[0,1,2,3,4,5,6,7,8,9]]
  (fun _ _ w1=>Below w.heap.size w w1) (fun w1 w2=>Below w1.heap.size w1 w2)
  [fun v _=>v 0=.slice vA val.length vc,
   fun v _=>v 1=.pointer (some ⟨P,0,none⟩),
   fun v _=>v 2=.pointer (some ⟨P,0,none⟩),
   fun v _=>v 3=.agg #[.int .i64 X.kd,.slice sA X.sec.length sc,.int .i64 X.pr,.int .i64 X.st,.slice nA X.non.length nc,.int .i64 X.x,.int .i64 X.g,.int .i64 X.own,.int .i64 X.oth,.slice aA X.k1.length ac,.slice bA X.k2.length bc,.int .i64 X.ct],
   fun v _=>v 4=.pointer (some ⟨P,0,none⟩),
   fun v _=>v 5=.pointer (some ⟨P,0,none⟩),
   fun v _=>v 6=.pointer (some ⟨P,7,none⟩),
   fun v _=>v 7=.int .i64 X.own,
   fun v w1=>∃A8 c8,v 8=.slice A8 8 c8/\Bs w1 w1.heap.size (.slice A8 8 c8) T,
   fun v _=>v 9=.bool true,
   fun v _=>v 10=.bool false]
  (by kernel_rfl) (by kernel_rfl) (fun _=>iB.drew) ?st ?steps ?tail
 case st=>
  exact(.cons (fun _ _ _ _ _ _ h=>h) (.cons (fun _ _ _ _ _ _ h=>h) (.cons (fun _ _ _ _ _ _ h=>h) (.cons (fun _ _ _ _ _ _ h=>h) (.cons (fun _ _ _ _ _ _ h=>h) (.cons (fun _ _ _ _ _ _ h=>h) (.cons (fun _ _ _ _ _ _ h=>h) (.cons (fun _ _ _ _ _ _ h=>h) (.cons (fun _ _ _ _ _ hr ⟨A,c,h1,h2⟩=>⟨A,c,h1,Bs.lift h2 hr⟩) (.cons (fun _ _ _ _ _ _ h=>h) (.cons (fun _ _ _ _ _ _ h=>h) .nil)))))))))))
 case steps=>
  simp only [List.take_succ_cons,List.take_zero]
  refine(.cons ?_ (.cons ?_ (.cons ?_ (.cons ?_ (.cons ?_ (.cons ?_ (.cons ?_ (.cons ?_ (.cons ?_ (.cons ?_ (.cons ?_ .nil)))))))))))
  all_goals(intro L v w1 hJ hL hA hF K hK;simp only [ja,Act.put,Nat.zero_add,Nat.reduceAdd,List.setIfInBounds_toArray,List.set_cons_zero,List.set_cons_succ]at hK |-)
  ·go_simp
   refine hK _ _ hJ iB ?_
   first|exact rfl|exact j3 _
  ·go_simp
   refine hK _ _ hJ iB ?_
   first|exact rfl|exact j3 _
  ·have e1:v 1=.pointer (some ⟨P,0,none⟩):=hF 1 (hA 1 (by simp))
   simp only [e1]at hK
   go_simp
   refine hK _ _ hJ iB ?_
   first|exact rfl|exact j3 _
  ·have e2:v 2=.pointer (some ⟨P,0,none⟩):=hF 2 (hA 2 (by simp))
   have hp:=HP0.out.call hJ
   obtain⟨q0,q1,q2,q3,q4,q5,q6,q7,q8,q9,q10,q11,qf⟩:=jy hp.1
   simp only [e2]at hK
   go_simp
   refine hK _ _ hJ iB ?_
   first|exact rfl|exact j3 _
  ·go_simp
   refine hK _ _ hJ iB ?_
   first|exact rfl|exact j3 _
  ·have e4:v 4=.pointer (some ⟨P,0,none⟩):=hF 4 (hA 4 (by simp))
   simp only [e4]at hK
   go_simp
   refine hK _ _ hJ iB ?_
   first|exact rfl|exact j3 _
  ·have e5:v 5=.pointer (some ⟨P,0,none⟩):=hF 5 (hA 5 (by simp))
   simp only [e5]at hK
   go_simp
   refine hK _ _ hJ iB ?_
   first|exact rfl|exact j3 _
  ·have e6:v 6=.pointer (some ⟨P,7,none⟩):=hF 6 (hA 6 (by simp))
   have hp:=HP0.out.call hJ
   obtain⟨q0,q1,q2,q3,q4,q5,q6,q7,q8,q9,q10,q11,qf⟩:=jy hp.1
   simp only [e6]at hK
   go_simp
   refine hK _ _ hJ iB ?_
   first|exact rfl|exact j3 _
  ·have e3:v 3=.agg #[.int .i64 X.kd,.slice sA X.sec.length sc,.int .i64 X.pr,.int .i64 X.st,.slice nA X.non.length nc,.int .i64 X.x,.int .i64 X.g,.int .i64 X.own,.int .i64 X.oth,.slice aA X.k1.length ac,.slice bA X.k2.length bc,.int .i64 X.ct]:=hF 3 (hA 3 (by simp))
   have e7:v 7=.int .i64 X.own:=hF 7 (hA 7 (by simp))
   simp only [e3,e7]at hK
   simp only [e3,e7]
   go_simp
   refine(HCO.out w1 (Gb0.out.onB hJ).loB).mono ?_
   rintro e wk ⟨A8,c8,rfl,hs,hb⟩
   exact hK _ _ (hJ.trans (hb.mono hJ.size)) hb ⟨_,_,rfl,hs⟩
  ·have e0:v 0=.slice vA val.length vc:=hF 0 (hA 0 (by simp))
   simp only [e0]at hK
   obtain⟨A8,c8,e8,hz⟩:∃A8 c8,v 8=.slice A8 8 c8/\Bs w1 w1.heap.size (.slice A8 8 c8) T:=hF 8 (hA 8 (by simp))
   simp only [e8]at hK
   simp only [e0,e8]
   go_simp
   refine(bequal_any _ _ val T _ _ w1 (Gv0.out.onB hJ) hz).mono ?_
   rintro e wk ⟨rfl,hwk⟩
   subst hwk
   rw [HBB.out]
   exact hK _ _ hJ iB rfl
  ·have e9:v 9=.bool true:=hF 9 (hA 9 (by simp))
   simp only [e9]at hK
   go_simp
   refine hK _ _ hJ iB ?_
   first|exact rfl|exact j3 _
 case tail=>
  intro v w1 hJ hF
  have e0:v 0=.slice vA val.length vc:=hF 0 (by simp)
  have e1:v 1=.pointer (some ⟨P,0,none⟩):=hF 1 (by simp)
  have e2:v 2=.pointer (some ⟨P,0,none⟩):=hF 2 (by simp)
  have e3:v 3=.agg #[.int .i64 X.kd,.slice sA X.sec.length sc,.int .i64 X.pr,.int .i64 X.st,.slice nA X.non.length nc,.int .i64 X.x,.int .i64 X.g,.int .i64 X.own,.int .i64 X.oth,.slice aA X.k1.length ac,.slice bA X.k2.length bc,.int .i64 X.ct]:=hF 3 (by simp)
  have e4:v 4=.pointer (some ⟨P,0,none⟩):=hF 4 (by simp)
  have e5:v 5=.pointer (some ⟨P,0,none⟩):=hF 5 (by simp)
  have e6:v 6=.pointer (some ⟨P,7,none⟩):=hF 6 (by simp)
  have e7:v 7=.int .i64 X.own:=hF 7 (by simp)
  have e9:v 9=.bool true:=hF 9 (by simp)
  have e10:v 10=.bool false:=hF 10 (by simp)
  simp only [List.drop_succ_cons,List.drop_zero,ja,Act.put,Nat.zero_add,Nat.reduceAdd,List.setIfInBounds_toArray,List.set_cons_zero,List.set_cons_succ]
  simp only [e0,e1,e2,e3,e4,e5,e6,e7,e9,e10]
  have hp:=HP0.out.call hJ
  have HP1:=iH hp;have HJ:=iH hJ
  obtain⟨p0,p1,p2,p3,p4,p5,p6,p7,p8,p9,p10,p11,pf⟩:=jy hp.1
  have Gs1:=iH (Gs0.out.onB hJ);have Gn1:=iH (Gn0.out.onB hJ);have Ga1:=iH (Ga0.out.onB hJ);have Gb1:=iH (Gb0.out.onB hJ);have Gv1:=iH (Gv0.out.onB hJ);have Ge1:=iH (Ge0.out.onB hJ)
  clear hJ hF hp e0 e1 e2 e3 e4 e5 e6 e7 e9 e10 f0 f1 f2 f3 f4 f5 f6 f7 f8 f9 f10 f11 ff
  obtain⟨wm,rfl⟩:∃z:World,z=w1:=⟨_,rfl⟩
  go_upto_region 3 with fail
  refine jg 10 [some 21,some 22,some 23,some 24,some 25,some 26,some 27,some 28,some 29,some 30] [[],[0],[0,1],[],[3],[3,4],[3,4,5],[0,1,2,3,4,5,6],[],[0,1,2,3,4,5,6,7,8]]
   (fun _ _ w1=>Below wm.heap.size wm w1) (fun w1 w2=>Below w1.heap.size w1 w2)
   [fun v _=>v 0=.pointer (some ⟨P,0,none⟩),
    fun v _=>v 1=.pointer (some ⟨P,0,none⟩),
    fun v _=>v 2=.agg #[.int .i64 X.kd,.slice sA X.sec.length sc,.int .i64 X.pr,.int .i64 X.st,.slice nA X.non.length nc,.int .i64 X.x,.int .i64 X.g,.int .i64 X.own,.int .i64 X.oth,.slice aA X.k1.length ac,.slice bA X.k2.length bc,.int .i64 X.ct],
    fun v _=>v 3=.pointer (some ⟨P,0,none⟩),
    fun v _=>v 4=.pointer (some ⟨P,0,none⟩),
    fun v _=>v 5=.pointer (some ⟨P,8,none⟩),
    fun v _=>v 6=.int .i64 X.oth,
    fun v w1=>∃A7 c7,v 7=.slice A7 8 c7/\BsS w1 (jL P w1) (.slice A7 8 c7) T2,
    fun v _=>v 8=.slice eA s.length ec,
    fun v w1=>∃A9 c9,v 9=.slice A9 s.length c9/\BsS w1 (jL P w1) (.slice A9 s.length c9) s]
   (by kernel_rfl) (by kernel_rfl) (fun _=>iB.drew) ?st ?steps ?tail
  case st=>
   exact(.cons (fun _ _ _ _ _ _ h=>h) (.cons (fun _ _ _ _ _ _ h=>h) (.cons (fun _ _ _ _ _ _ h=>h) (.cons (fun _ _ _ _ _ _ h=>h) (.cons (fun _ _ _ _ _ _ h=>h) (.cons (fun _ _ _ _ _ _ h=>h) (.cons (fun _ _ _ _ _ _ h=>h) (.cons (fun _ _ _ _ _ hr ⟨A,c,h1,h2⟩=>⟨A,c,h1,h2.onB hr⟩) (.cons (fun _ _ _ _ _ _ h=>h) (.cons (fun _ _ _ _ _ hr ⟨A,c,h1,h2⟩=>⟨A,c,h1,h2.onB hr⟩) .nil))))))))))
  case steps=>
   simp only [List.take_succ_cons,List.take_zero]
   refine(.cons ?_ (.cons ?_ (.cons ?_ (.cons ?_ (.cons ?_ (.cons ?_ (.cons ?_ (.cons ?_ (.cons ?_ (.cons ?_ .nil))))))))))
   all_goals(intro L v w1 hJ hL hA hF K hK;simp only [ja,Act.put,Nat.zero_add,Nat.reduceAdd,List.setIfInBounds_toArray,List.set_cons_zero,List.set_cons_succ]at hK |-)
   ·go_simp
    refine hK _ _ hJ iB ?_
    first|exact rfl|exact j3 _
   ·have e0:v 0=.pointer (some ⟨P,0,none⟩):=hF 0 (hA 0 (by simp))
    simp only [e0]at hK
    go_simp
    refine hK _ _ hJ iB ?_
    first|exact rfl|exact j3 _
   ·have e1:v 1=.pointer (some ⟨P,0,none⟩):=hF 1 (hA 1 (by simp))
    have hp:=HP1.out.call hJ
    obtain⟨q0,q1,q2,q3,q4,q5,q6,q7,q8,q9,q10,q11,qf⟩:=jy hp.1
    simp only [e1]at hK
    go_simp
    refine hK _ _ hJ iB ?_
    first|exact rfl|exact j3 _
   ·go_simp
    refine hK _ _ hJ iB ?_
    first|exact rfl|exact j3 _
   ·have e3:v 3=.pointer (some ⟨P,0,none⟩):=hF 3 (hA 3 (by simp))
    simp only [e3]at hK
    go_simp
    refine hK _ _ hJ iB ?_
    first|exact rfl|exact j3 _
   ·have e4:v 4=.pointer (some ⟨P,0,none⟩):=hF 4 (hA 4 (by simp))
    simp only [e4]at hK
    go_simp
    refine hK _ _ hJ iB ?_
    first|exact rfl|exact j3 _
   ·have e5:v 5=.pointer (some ⟨P,8,none⟩):=hF 5 (hA 5 (by simp))
    have hp:=HP1.out.call hJ
    obtain⟨q0,q1,q2,q3,q4,q5,q6,q7,q8,q9,q10,q11,qf⟩:=jy hp.1
    simp only [e5]at hK
    go_simp
    refine hK _ _ hJ iB ?_
    first|exact rfl|exact j3 _
   ·have e2:v 2=.agg #[.int .i64 X.kd,.slice sA X.sec.length sc,.int .i64 X.pr,.int .i64 X.st,.slice nA X.non.length nc,.int .i64 X.x,.int .i64 X.g,.int .i64 X.own,.int .i64 X.oth,.slice aA X.k1.length ac,.slice bA X.k2.length bc,.int .i64 X.ct]:=hF 2 (hA 2 (by simp))
    have e6:v 6=.int .i64 X.oth:=hF 6 (hA 6 (by simp))
    simp only [e2,e6]at hK
    simp only [e2,e6]
    go_simp
    refine(HCT.out w1 (Gb1.out.onB hJ).loB).mono ?_
    rintro e wk ⟨A8,c8,rfl,hs,hb⟩
    exact hK _ _ (hJ.trans (hb.mono hJ.size)) hb ⟨_,_,rfl,(BsS.off hs ((HP1.out.call hJ).call hb).1 (NOB.out)).keep fun g hg _=>⟨rfl,hg⟩⟩
   ·go_simp
    refine hK _ _ hJ iB ?_
    first|exact rfl|exact j3 _
   ·have e8:v 8=.slice eA s.length ec:=hF 8 (hA 8 (by simp))
    simp only [e8]at hK
    simp only [e8]
    go_simp
    refine(jr _ s w1 (Ge1.out.onB hJ).loB).mono ?_
    rintro e wk ⟨v2,rfl,ho,hb⟩
    obtain⟨A2,c2,hv2⟩:=OwnB.form ho
    subst hv2
    refine hK _ _ (hJ.trans (hb.mono hJ.size)) hb ⟨_,_,rfl,?_⟩
    exact BsS.madeB (OwnB.out ho (by have:=HL.out;omega) w1 iL) (HP1.out.call hJ).lt
  case tail=>
   intro v w1 hJ hF
   have e0:v 0=.pointer (some ⟨P,0,none⟩):=hF 0 (by simp)
   have e1:v 1=.pointer (some ⟨P,0,none⟩):=hF 1 (by simp)
   have e2:v 2=.agg #[.int .i64 X.kd,.slice sA X.sec.length sc,.int .i64 X.pr,.int .i64 X.st,.slice nA X.non.length nc,.int .i64 X.x,.int .i64 X.g,.int .i64 X.own,.int .i64 X.oth,.slice aA X.k1.length ac,.slice bA X.k2.length bc,.int .i64 X.ct]:=hF 2 (by simp)
   have e3:v 3=.pointer (some ⟨P,0,none⟩):=hF 3 (by simp)
   have e4:v 4=.pointer (some ⟨P,0,none⟩):=hF 4 (by simp)
   have e5:v 5=.pointer (some ⟨P,8,none⟩):=hF 5 (by simp)
   have e6:v 6=.int .i64 X.oth:=hF 6 (by simp)
   have e8:v 8=.slice eA s.length ec:=hF 8 (by simp)
   simp only [List.drop_succ_cons,List.drop_zero,ja,Act.put,Nat.zero_add,Nat.reduceAdd,List.setIfInBounds_toArray,List.set_cons_zero,List.set_cons_succ]
   obtain⟨A7,c7,e7,h7⟩:∃A7 c7,v 7=.slice A7 8 c7/\BsS w1 (jL P w1) (.slice A7 8 c7) T2:=hF 7 (by simp)
   obtain⟨A9,c9,e9,h9⟩:∃A9 c9,v 9=.slice A9 s.length c9/\BsS w1 (jL P w1) (.slice A9 s.length c9) s:=hF 9 (by simp)
   simp only [e0,e1,e2,e3,e4,e5,e6,e8,e7,e9]
   have HP9:=iH (HP1.out.call hJ);have H7:=iH h7;have H9:=iH h9;have HJ9:=iH hJ
   clear hJ hF h7 h9 e0 e1 e2 e3 e4 e5 e6 e8 e7 e9
   go_wp2_with fail
   refine bodyPost_ret (v:=.tuple #[.int .i64 134,.slice A7 8 c7,.slice A9 s.length c9,.int .i64 0]) (by simp [results,Tryz.results74,go_sem]) rfl ?_
   have x7Q9:=H7.out
   rw [<-HT8.out]at x7Q9
   exact⟨A7,c7,A9,c9,by rw [HT8.out],⟨_,_,_,_,_,_,_,_,HP9.out,Gs1.out.onB HJ9.out,Gn1.out.onB HJ9.out,Ga1.out.onB HJ9.out,Gb1.out.onB HJ9.out⟩,x7Q9,H9.out⟩
theorem termAgree_err(P:Nat)(X:Exg)(sA nA aA bA:Option Addr)(sc nc ac bc:Nat)(vA eA:Option Addr)(vc ec:Nat)(v s:List UInt8)(w:World)(hK:∀W,Below P w W->KD W)(hr:w.heap[P]?=some (.cells #[.int .i64 X.kd,.slice sA X.sec.length sc,.int .i64 X.pr,.int .i64 X.st,.slice nA X.non.length nc,.int .i64 X.x,.int .i64 X.g,.int .i64 X.own,.int .i64 X.oth,.slice aA X.k1.length ac,.slice bA X.k2.length bc,.int .i64 X.ct] 48 (0,0))) (h1:BsS w (jL P w) (.slice sA X.sec.length sc) X.sec) (h2:BsS w (jL P w) (.slice nA X.non.length nc) X.non) (h3:BsS w (jL P w) (.slice aA X.k1.length ac) X.k1) (h4:BsS w (jL P w) (.slice bA X.k2.length bc) X.k2) (h5:BsS w (jL P w) (.slice vA v.length vc) v) (h6:BsS w (jL P w) (.slice eA s.length ec) s) (hl:s.length<=140737488351232) (er o:Int) (hd:jF v=(er,o)) (he:(er != 0)=true) (he2:(er==0)=false):
 Calls Tryz.prog 92 #[.pointer (some ⟨P,0,none⟩),.slice vA v.length vc,.slice eA s.length ec] w (StepE P w er):=by
 have HD:=iH (decode_any v _ _ w h5)
 rw [hd]at HD
 clear hd
 have HP0:Hid (PtW P w w #[.int .i64 X.kd,.slice sA X.sec.length sc,.int .i64 X.pr,.int .i64 X.st,.slice nA X.non.length nc,.int .i64 X.x,.int .i64 X.g,.int .i64 X.own,.int .i64 X.oth,.slice aA X.k1.length ac,.slice bA X.k2.length bc,.int .i64 X.ct]):=iH (PtW.start hr)
 have HK:=iH hK;have Gs0:=iH h1;have Gn0:=iH h2;have Ga0:=iH h3;have Gb0:=iH h4;have Gv0:=iH h5;have Ge0:=iH h6;have HL:=iH hl
 obtain⟨f0,f1,f2,f3,f4,f5,f6,f7,f8,f9,f10,f11,ff⟩:=jy hr
 clear hK hr h1 h2 h3 h4 h5 h6 hl
 go_enter Tryz.func92,Tryz.ntmps92
 go_wp2_with(go_at_call 126;refine HD.out.mono ?_;rintro e w' ⟨rfl,hw'⟩;rw [hw'];clear hw' w')
 refine bodyPost_ret (v:=.tuple #[.int .i64 0,.slice none 0 0,.slice none 0 0,.int .i64 er]) (by simp [results,Tryz.results92,go_sem]) rfl ?_
 exact⟨rfl,_,_,_,_,_,_,_,_,_,_,_,_,HP0.out⟩
theorem termAgree_same(P:Nat)(X:Exg)(sA nA aA bA:Option Addr)(sc nc ac bc:Nat)(vA eA:Option Addr)(vc ec:Nat)(v s:List UInt8)(w:World)(hK:∀W,Below P w W->KD W)(hr:w.heap[P]?=some (.cells #[.int .i64 X.kd,.slice sA X.sec.length sc,.int .i64 X.pr,.int .i64 X.st,.slice nA X.non.length nc,.int .i64 X.x,.int .i64 X.g,.int .i64 X.own,.int .i64 X.oth,.slice aA X.k1.length ac,.slice bA X.k2.length bc,.int .i64 X.ct] 48 (0,0))) (h1:BsS w (jL P w) (.slice sA X.sec.length sc) X.sec) (h2:BsS w (jL P w) (.slice nA X.non.length nc) X.non) (h3:BsS w (jL P w) (.slice aA X.k1.length ac) X.k1) (h4:BsS w (jL P w) (.slice bA X.k2.length bc) X.k2) (h5:BsS w (jL P w) (.slice vA v.length vc) v) (h6:BsS w (jL P w) (.slice eA s.length ec) s) (hl:s.length<=140737488351232) (o:Int) (hd:jF v=(0,o)) (hne:o=X.own):
 Calls Tryz.prog 92 #[.pointer (some ⟨P,0,none⟩),.slice vA v.length vc,.slice eA s.length ec] w (StepE P w 10):=by
 have HD:=iH (decode_any v _ _ w h5)
 rw [hd]at HD
 have HAG:=iH (agree_same P X sA nA aA bA sc nc ac bc w hK hr o hne)
 clear hd hne
 have HP0:Hid (PtW P w w #[.int .i64 X.kd,.slice sA X.sec.length sc,.int .i64 X.pr,.int .i64 X.st,.slice nA X.non.length nc,.int .i64 X.x,.int .i64 X.g,.int .i64 X.own,.int .i64 X.oth,.slice aA X.k1.length ac,.slice bA X.k2.length bc,.int .i64 X.ct]):=iH (PtW.start hr)
 have HK:=iH hK;have Gs0:=iH h1;have Gn0:=iH h2;have Ga0:=iH h3;have Gb0:=iH h4;have Gv0:=iH h5;have Ge0:=iH h6;have HL:=iH hl
 obtain⟨f0,f1,f2,f3,f4,f5,f6,f7,f8,f9,f10,f11,ff⟩:=jy hr
 clear hK hr h1 h2 h3 h4 h5 h6 hl
 go_enter Tryz.func92,Tryz.ntmps92
 go_wp2_with(first|(go_at_call 126;refine HD.out.mono ?_;rintro e w' ⟨rfl,hw'⟩;rw [hw'];clear hw' w')|(go_at_call 131;refine HAG.out.mono ?_;rintro e w' ⟨rfl,hw'⟩;rw [hw'];clear hw' w'))
 refine bodyPost_ret (v:=.tuple #[.int .i64 0,.slice none 0 0,.slice none 0 0,.int .i64 10]) (by simp [results,Tryz.results92,go_sem]) rfl ?_
 exact⟨rfl,_,_,_,_,_,_,_,_,_,_,_,_,HP0.out⟩
theorem termAgree_any(P:Nat)(X:Exg)(sA nA aA bA:Option Addr)(sc nc ac bc:Nat)(vA eA:Option Addr)(vc ec:Nat)(v s:List UInt8)(w:World)(hK:∀W,Below P w W->KD W)(hr:w.heap[P]?=some (.cells #[.int .i64 X.kd,.slice sA X.sec.length sc,.int .i64 X.pr,.int .i64 X.st,.slice nA X.non.length nc,.int .i64 X.x,.int .i64 X.g,.int .i64 X.own,.int .i64 X.oth,.slice aA X.k1.length ac,.slice bA X.k2.length bc,.int .i64 X.ct] 48 (0,0))) (h1:BsS w (jL P w) (.slice sA X.sec.length sc) X.sec) (h2:BsS w (jL P w) (.slice nA X.non.length nc) X.non) (h3:BsS w (jL P w) (.slice aA X.k1.length ac) X.k1) (h4:BsS w (jL P w) (.slice bA X.k2.length bc) X.k2) (h5:BsS w (jL P w) (.slice vA v.length vc) v) (h6:BsS w (jL P w) (.slice eA s.length ec) s) (hl:s.length<=140737488351232) (o:Int) (hx:okS X.x=true) (hd:jF v=(0,o)) (hne:¬o=X.own):
 Calls Tryz.prog 92 #[.pointer (some ⟨P,0,none⟩),.slice vA v.length vc,.slice eA s.length ec] w (Vg P w 133 (Zb X o).2 (tkW (Zb X o).2 o) s):=by
 have HD:=iH (decode_any v _ _ w h5)
 rw [hd]at HD
 have hoe:=decode_ok hd
 have HAG:=iH (agree_any P X sA nA aA bA sc nc ac bc w hK hr o hne hx hoe)
 have hagw:(Zb X o).2= {X with oth:=o,k1:=ZB (kg (zZ o X.x)) 1,k2:=ZB (kg (zZ o X.x)) 2,ct:=0}:=by unfold Zb;rw [iF hne]
 rw [hagw]
 have l1:=zh (kg (zZ o X.x)) 1
 have l2:=zh (kg (zZ o X.x)) 2
 obtain⟨K1,hK1⟩:∃k,ZB (kg (zZ o X.x)) 1=k:=⟨_,rfl⟩
 obtain⟨K2,hK2⟩:∃k,ZB (kg (zZ o X.x)) 2=k:=⟨_,rfl⟩
 rw [hK1]at HAG l1 |-
 rw [hK2]at HAG l2 |-
 have HCTy:=iH (fun(aB bB:Option Addr) (ad bd:Nat) W h=>code_t {X with oth:=o,k1:=K1,k2:=K2,ct:=0} sA nA aB bB sc nc ad bd o hoe l2 W h)
 have NOBy:=iH (fun(aB bB:Option Addr) (ad bd:Nat)=>noBE {X with oth:=o,k1:=K1,k2:=K2,ct:=0} sA nA aB bB sc nc ad bd)
 have ht8:=tkl {X with oth:=o,k1:=K1,k2:=K2,ct:=0} o l2
 obtain⟨T2,hT2⟩:∃T,tkW {X with oth:=o,k1:=K1,k2:=K2,ct:=0} o=T:=⟨_,rfl⟩
 rw [hT2]at HCTy ht8 |-
 have HT8:=iH ht8;have HL1:=iH l1;have HL2:=iH l2
 obtain⟨val,rfl⟩:∃l,l=v:=⟨_,rfl⟩
 clear hT2 ht8 hd hne hx hoe hagw hK1 hK2 l1 l2
 have HP0:Hid (PtW P w w #[.int .i64 X.kd,.slice sA X.sec.length sc,.int .i64 X.pr,.int .i64 X.st,.slice nA X.non.length nc,.int .i64 X.x,.int .i64 X.g,.int .i64 X.own,.int .i64 X.oth,.slice aA X.k1.length ac,.slice bA X.k2.length bc,.int .i64 X.ct]):=iH (PtW.start hr)
 have HK:=iH hK;have Gs0:=iH h1;have Gn0:=iH h2;have Ga0:=iH h3;have Gb0:=iH h4;have Gv0:=iH h5;have Ge0:=iH h6;have HL:=iH hl
 obtain⟨f0,f1,f2,f3,f4,f5,f6,f7,f8,f9,f10,f11,ff⟩:=jy hr
 clear hK hr h1 h2 h3 h4 h5 h6 hl
 go_enter Tryz.func92,Tryz.ntmps92
 go_upto_region 6 with (first
  |(go_at_call 126;refine HD.out.mono ?_;rintro e w' ⟨rfl,hw'⟩;rw [hw'];clear hw' w')
  |(go_at_call 131;refine HAG.out.mono ?_;rintro e w2 ⟨aB,bB,ad,bd,rfl,hq,k1,k2⟩;rw [<-HL1.out]at k1;rw [<-HL2.out]at k2;have hq:PtW P w w2 #[.int .i64 X.kd,.slice sA X.sec.length sc,.int .i64 X.pr,.int .i64 X.st,.slice nA X.non.length nc,.int .i64 X.x,.int .i64 X.g,.int .i64 X.own,.int .i64 o,.slice aB 16 ad,.slice bB 16 bd,.int .i64 0]:=hq;have GA1:=iH k1;have GB1:=iH k2;have HP1r:=iH hq;have Gs1:=iH (Gs0.out.grownP hq.2.1);have Gn1:=iH (Gn0.out.grownP hq.2.1);have Ga1:=iH (Ga0.out.grownP hq.2.1);have Gb1:=iH (Gb0.out.grownP hq.2.1);have Gv1:=iH (Gv0.out.grownP hq.2.1);have Ge1:=iH (Ge0.out.grownP hq.2.1);clear hq k1 k2 f0 f1 f2 f3 f4 f5 f6 f7 f8 f9 f10 f11 ff))
 have HCT:=iH (HCTy.out aB bB ad bd)
 have NOB:=iH (NOBy.out aB bB ad bd)
 have hp1:PtW P w w2 #[.int .i64 X.kd,.slice sA X.sec.length sc,.int .i64 X.pr,.int .i64 X.st,.slice nA X.non.length nc,.int .i64 X.x,.int .i64 X.g,.int .i64 X.own,.int .i64 o,.slice aB K1.length ad,.slice bB K2.length bd,.int .i64 0]:=by rw [HL1.out,HL2.out];exact HP1r.out
 have HP1:=iH hp1
 obtain⟨g0,g1,g2,g3,g4,g5,g6,g7,g8,g9,g10,g11,gf⟩:=jy hp1.1
 have HCT:=HCT.out
 have HCT:=iH HCT
 clear hp1 HP1r gf
 refine jg 10 [some 25,some 26,some 27,some 28,some 29,some 30,some 31,some 32,some 33,some 34] [[],[0],[0,1],[],[3],[3,4],[3,4,5],[0,1,2,3,4,5,6],[],[0,1,2,3,4,5,6,7,8]]
  (fun _ _ w1=>Below w2.heap.size w2 w1) (fun w1 w2=>Below w1.heap.size w1 w2)
  [fun v _=>v 0=.pointer (some ⟨P,0,none⟩),
   fun v _=>v 1=.pointer (some ⟨P,0,none⟩),
   fun v _=>v 2=.agg #[.int .i64 X.kd,.slice sA X.sec.length sc,.int .i64 X.pr,.int .i64 X.st,.slice nA X.non.length nc,.int .i64 X.x,.int .i64 X.g,.int .i64 X.own,.int .i64 o,.slice aB K1.length ad,.slice bB K2.length bd,.int .i64 0],
   fun v _=>v 3=.pointer (some ⟨P,0,none⟩),
   fun v _=>v 4=.pointer (some ⟨P,0,none⟩),
   fun v _=>v 5=.pointer (some ⟨P,8,none⟩),
   fun v _=>v 6=.int .i64 o,
   fun v w1=>∃A7 c7,v 7=.slice A7 8 c7/\BsS w1 (jL P w1) (.slice A7 8 c7) T2,
   fun v _=>v 8=.slice eA s.length ec,
   fun v w1=>∃A9 c9,v 9=.slice A9 s.length c9/\BsS w1 (jL P w1) (.slice A9 s.length c9) s]
  (by kernel_rfl) (by kernel_rfl) (fun _=>iB.drew) ?st ?steps ?tail
 case st=>
  exact(.cons (fun _ _ _ _ _ _ h=>h) (.cons (fun _ _ _ _ _ _ h=>h) (.cons (fun _ _ _ _ _ _ h=>h) (.cons (fun _ _ _ _ _ _ h=>h) (.cons (fun _ _ _ _ _ _ h=>h) (.cons (fun _ _ _ _ _ _ h=>h) (.cons (fun _ _ _ _ _ _ h=>h) (.cons (fun _ _ _ _ _ hr ⟨A,c,h1,h2⟩=>⟨A,c,h1,h2.onB hr⟩) (.cons (fun _ _ _ _ _ _ h=>h) (.cons (fun _ _ _ _ _ hr ⟨A,c,h1,h2⟩=>⟨A,c,h1,h2.onB hr⟩) .nil))))))))))
 case steps=>
  simp only [List.take_succ_cons,List.take_zero]
  refine(.cons ?_ (.cons ?_ (.cons ?_ (.cons ?_ (.cons ?_ (.cons ?_ (.cons ?_ (.cons ?_ (.cons ?_ (.cons ?_ .nil))))))))))
  all_goals(intro L v w1 hJ hL hA hF K hK;simp only [ja,Act.put,Nat.zero_add,Nat.reduceAdd,List.setIfInBounds_toArray,List.set_cons_zero,List.set_cons_succ]at hK |-)
  ·go_simp
   refine hK _ _ hJ iB ?_
   first|exact rfl|exact j3 _
  ·have e0:v 0=.pointer (some ⟨P,0,none⟩):=hF 0 (hA 0 (by simp))
   simp only [e0]at hK
   go_simp
   refine hK _ _ hJ iB ?_
   first|exact rfl|exact j3 _
  ·have e1:v 1=.pointer (some ⟨P,0,none⟩):=hF 1 (hA 1 (by simp))
   have hp:=HP1.out.call hJ
   obtain⟨q0,q1,q2,q3,q4,q5,q6,q7,q8,q9,q10,q11,qf⟩:=jy hp.1
   simp only [e1]at hK
   go_simp
   refine hK _ _ hJ iB ?_
   first|exact rfl|exact j3 _
  ·go_simp
   refine hK _ _ hJ iB ?_
   first|exact rfl|exact j3 _
  ·have e3:v 3=.pointer (some ⟨P,0,none⟩):=hF 3 (hA 3 (by simp))
   simp only [e3]at hK
   go_simp
   refine hK _ _ hJ iB ?_
   first|exact rfl|exact j3 _
  ·have e4:v 4=.pointer (some ⟨P,0,none⟩):=hF 4 (hA 4 (by simp))
   simp only [e4]at hK
   go_simp
   refine hK _ _ hJ iB ?_
   first|exact rfl|exact j3 _
  ·have e5:v 5=.pointer (some ⟨P,8,none⟩):=hF 5 (hA 5 (by simp))
   have hp:=HP1.out.call hJ
   obtain⟨q0,q1,q2,q3,q4,q5,q6,q7,q8,q9,q10,q11,qf⟩:=jy hp.1
   simp only [e5]at hK
   go_simp
   refine hK _ _ hJ iB ?_
   first|exact rfl|exact j3 _
  ·have e2:v 2=.agg #[.int .i64 X.kd,.slice sA X.sec.length sc,.int .i64 X.pr,.int .i64 X.st,.slice nA X.non.length nc,.int .i64 X.x,.int .i64 X.g,.int .i64 X.own,.int .i64 o,.slice aB K1.length ad,.slice bB K2.length bd,.int .i64 0]:=hF 2 (hA 2 (by simp))
   have e6:v 6=.int .i64 o:=hF 6 (hA 6 (by simp))
   simp only [e2,e6]at hK
   simp only [e2,e6]
   go_simp
   refine(HCT.out w1 (GB1.out.onB hJ).loB).mono ?_
   rintro e wk ⟨A8,c8,rfl,hs,hb⟩
   exact hK _ _ (hJ.trans (hb.mono hJ.size)) hb ⟨_,_,rfl,(BsS.off hs ((HP1.out.call hJ).call hb).1 (NOB.out)).keep fun g hg _=>⟨rfl,hg⟩⟩
  ·go_simp
   refine hK _ _ hJ iB ?_
   first|exact rfl|exact j3 _
  ·have e8:v 8=.slice eA s.length ec:=hF 8 (hA 8 (by simp))
   simp only [e8]at hK
   simp only [e8]
   go_simp
   refine(jr _ s w1 (Ge1.out.onB hJ).loB).mono ?_
   rintro e wk ⟨v2,rfl,ho,hb⟩
   obtain⟨A2,c2,hv2⟩:=OwnB.form ho
   subst hv2
   refine hK _ _ (hJ.trans (hb.mono hJ.size)) hb ⟨_,_,rfl,?_⟩
   exact BsS.madeB (OwnB.out ho (by have:=HL.out;omega) w1 iL) (HP1.out.call hJ).lt
 case tail=>
  intro v w1 hJ hF
  have e0:v 0=.pointer (some ⟨P,0,none⟩):=hF 0 (by simp)
  have e1:v 1=.pointer (some ⟨P,0,none⟩):=hF 1 (by simp)
  have e2:v 2=.agg #[.int .i64 X.kd,.slice sA X.sec.length sc,.int .i64 X.pr,.int .i64 X.st,.slice nA X.non.length nc,.int .i64 X.x,.int .i64 X.g,.int .i64 X.own,.int .i64 o,.slice aB K1.length ad,.slice bB K2.length bd,.int .i64 0]:=hF 2 (by simp)
  have e3:v 3=.pointer (some ⟨P,0,none⟩):=hF 3 (by simp)
  have e4:v 4=.pointer (some ⟨P,0,none⟩):=hF 4 (by simp)
  have e5:v 5=.pointer (some ⟨P,8,none⟩):=hF 5 (by simp)
  have e6:v 6=.int .i64 o:=hF 6 (by simp)
  have e8:v 8=.slice eA s.length ec:=hF 8 (by simp)
  simp only [List.drop_succ_cons,List.drop_zero,ja,Act.put,Nat.zero_add,Nat.reduceAdd,List.setIfInBounds_toArray,List.set_cons_zero,List.set_cons_succ]
  obtain⟨A7,c7,e7,h7⟩:∃A7 c7,v 7=.slice A7 8 c7/\BsS w1 (jL P w1) (.slice A7 8 c7) T2:=hF 7 (by simp)
  obtain⟨A9,c9,e9,h9⟩:∃A9 c9,v 9=.slice A9 s.length c9/\BsS w1 (jL P w1) (.slice A9 s.length c9) s:=hF 9 (by simp)
  simp only [e0,e1,e2,e3,e4,e5,e6,e8,e7,e9]
  have HP9:=iH (HP1.out.call hJ);have H7:=iH h7;have H9:=iH h9;have HJ9:=iH hJ
  clear hJ hF h7 h9 e0 e1 e2 e3 e4 e5 e6 e8 e7 e9
  go_wp2_with fail
  refine bodyPost_ret (v:=.tuple #[.int .i64 133,.slice A7 8 c7,.slice A9 s.length c9,.int .i64 0]) (by simp [results,Tryz.results92,go_sem]) rfl ?_
  have x7Q9:=H7.out
  rw [<-HT8.out]at x7Q9
  exact⟨A7,c7,A9,c9,by rw [HT8.out],⟨_,_,_,_,_,_,_,_,HP9.out,Gs1.out.onB HJ9.out,Gn1.out.onB HJ9.out,GA1.out.onB HJ9.out,GB1.out.onB HJ9.out⟩,x7Q9,H9.out⟩
theorem chipMap_int(P:Nat)(X:Exg)(sA nA aA bA:Option Addr)(sc nc ac bc:Nat)(vA eA:Option Addr)(vc ec:Nat)(v s:List UInt8)(w:World)(hK:∀W,Below P w W->KD W)(hr:w.heap[P]?=some (.cells #[.int .i64 X.kd,.slice sA X.sec.length sc,.int .i64 X.pr,.int .i64 X.st,.slice nA X.non.length nc,.int .i64 X.x,.int .i64 X.g,.int .i64 X.own,.int .i64 X.oth,.slice aA X.k1.length ac,.slice bA X.k2.length bc,.int .i64 X.ct] 48 (0,0))) (h1:BsS w (jL P w) (.slice sA X.sec.length sc) X.sec) (h2:BsS w (jL P w) (.slice nA X.non.length nc) X.non) (h3:BsS w (jL P w) (.slice aA X.k1.length ac) X.k1) (h4:BsS w (jL P w) (.slice bA X.k2.length bc) X.k2) (h5:BsS w (jL P w) (.slice vA v.length vc) v) (h6:BsS w (jL P w) (.slice eA s.length ec) s) (hl:s.length<=140737488351232) (hp:X.pr=3) (gi:Int) (hi:yb X.non v=(0,gi)):
 Calls Tryz.prog 72 #[.pointer (some ⟨P,0,none⟩),.slice vA v.length vc,.slice eA s.length ec] w (Vg P w 130 {X with g:=gi} [] s):=by
 have HI:=iH (K0 X.non v _ _ w (hK w iB) h2.loB h5.loB)
 rw [hi]at HI
 have t1:(X.pr==3)=true:=by simp [hp]
 clear hi hp
 have HP0:Hid (PtW P w w #[.int .i64 X.kd,.slice sA X.sec.length sc,.int .i64 X.pr,.int .i64 X.st,.slice nA X.non.length nc,.int .i64 X.x,.int .i64 X.g,.int .i64 X.own,.int .i64 X.oth,.slice aA X.k1.length ac,.slice bA X.k2.length bc,.int .i64 X.ct]):=iH (PtW.start hr)
 have HK:=iH hK;have Gs0:=iH h1;have Gn0:=iH h2;have Ga0:=iH h3;have Gb0:=iH h4;have Gv0:=iH h5;have Ge0:=iH h6;have HL:=iH hl
 obtain⟨f0,f1,f2,f3,f4,f5,f6,f7,f8,f9,f10,f11,ff⟩:=jy hr
 clear hK hr h1 h2 h3 h4 h5 h6 hl
 go_enter Tryz.func72,Tryz.ntmps72
 go_upto_region 3 with (go_at_call 27;refine HI.out.mono ?_;rintro e w1 ⟨rfl,hb⟩;have Gs1:=iH (Gs0.out.onB hb);have Gn1:=iH (Gn0.out.onB hb);have Ga1:=iH (Ga0.out.onB hb);have Gb1:=iH (Gb0.out.onB hb);have Gv1:=iH (Gv0.out.onB hb);have Ge1:=iH (Ge0.out.onB hb);have hp:=HP0.out.call hb;have HP1:=iH hp;obtain⟨g0,g1,g2,g3,g4,g5,g6,g7,g8,g9,g10,g11,gf⟩:=jy hp.1;clear hp f0 f1 f2 f3 f4 f5 f6 f7 f8 f9 f10 f11 ff;have gx:=gf 6;clear hb gf)
 go_upto_region 4 with fail
 obtain⟨w2,hw⟩:∃z,z=w1.setCell ⟨P,6,none⟩ (.int .i64 gi):=⟨_,rfl⟩
 rw [<-hw]
 have hp:PtW P w w2 #[.int .i64 X.kd,.slice sA X.sec.length sc,.int .i64 X.pr,.int .i64 X.st,.slice nA X.non.length nc,.int .i64 X.x,.int .i64 gi,.int .i64 X.own,.int .i64 X.oth,.slice aA X.k1.length ac,.slice bA X.k2.length bc,.int .i64 X.ct]:=by rw [hw];exact HP1.out.set 6 _
 have Gs2:Hid (BsS w2 (jL P w2) _ _):=iH (by rw [hw];exact BsS.setP Gs1.out 6 _)
 have Gn2:Hid (BsS w2 (jL P w2) _ _):=iH (by rw [hw];exact BsS.setP Gn1.out 6 _)
 have Ga2:Hid (BsS w2 (jL P w2) _ _):=iH (by rw [hw];exact BsS.setP Ga1.out 6 _)
 have Gb2:Hid (BsS w2 (jL P w2) _ _):=iH (by rw [hw];exact BsS.setP Gb1.out 6 _)
 have Gv2:Hid (BsS w2 (jL P w2) _ _):=iH (by rw [hw];exact BsS.setP Gv1.out 6 _)
 have Ge2:Hid (BsS w2 (jL P w2) _ _):=iH (by rw [hw];exact BsS.setP Ge1.out 6 _)
 have HP2:=iH hp
 obtain⟨f0,f1,f2,f3,f4,f5,f6,f7,f8,f9,f10,f11,ff⟩:=jy hp.1
 clear hw hp g0 g1 g2 g3 g4 g5 g6 g7 g8 g9 g10 g11 gx
 go_wp2_with(go_at_call 67;refine(jr _ s w2 Ge2.out.loB).mono ?_;rintro e w3 ⟨v2,rfl,ho,hb⟩;obtain⟨cA,cc,hv2⟩:=OwnB.form ho;subst hv2;have HC:Hid (BsS w3 (jL P w3) (.slice cA s.length cc) s):=iH (BsS.madeB (OwnB.out ho (by have:=HL.out;omega) w2 iL) HP2.out.lt);have Gs3:=iH (Gs2.out.onB hb);have Gn3:=iH (Gn2.out.onB hb);have Ga3:=iH (Ga2.out.onB hb);have Gb3:=iH (Gb2.out.onB hb);have Gv3:=iH (Gv2.out.onB hb);have Ge3:=iH (Ge2.out.onB hb);have hp:=HP2.out.call hb;have HP3:=iH hp;obtain⟨g0,g1,g2,g3,g4,g5,g6,g7,g8,g9,g10,g11,gf⟩:=jy hp.1;clear hp f0 f1 f2 f3 f4 f5 f6 f7 f8 f9 f10 f11 ff;clear ho hb)
 refine bodyPost_ret (v:=.tuple #[.int .i64 130,.slice none 0 0,.slice cA s.length cc,.int .i64 0]) (by simp [results,Tryz.results72,go_sem]) rfl ?_
 exact⟨_,_,_,_,rfl,⟨_,_,_,_,_,_,_,_,HP3.out,Gs3.out,Gn3.out,Ga3.out,Gb3.out⟩,kh _ _,HC.out⟩
theorem chipMap_dec(P:Nat)(X:Exg)(sA nA aA bA:Option Addr)(sc nc ac bc:Nat)(vA eA:Option Addr)(vc ec:Nat)(v s:List UInt8)(w:World)(hK:∀W,Below P w W->KD W)(hr:w.heap[P]?=some (.cells #[.int .i64 X.kd,.slice sA X.sec.length sc,.int .i64 X.pr,.int .i64 X.st,.slice nA X.non.length nc,.int .i64 X.x,.int .i64 X.g,.int .i64 X.own,.int .i64 X.oth,.slice aA X.k1.length ac,.slice bA X.k2.length bc,.int .i64 X.ct] 48 (0,0))) (h1:BsS w (jL P w) (.slice sA X.sec.length sc) X.sec) (h2:BsS w (jL P w) (.slice nA X.non.length nc) X.non) (h3:BsS w (jL P w) (.slice aA X.k1.length ac) X.k1) (h4:BsS w (jL P w) (.slice bA X.k2.length bc) X.k2) (h5:BsS w (jL P w) (.slice vA v.length vc) v) (h6:BsS w (jL P w) (.slice eA s.length ec) s) (hl:s.length<=140737488351232) (hp:X.pr=2) (er o:Int) (hd:jF v=(er,o)) (he:(er != 0)=true):
 Calls Tryz.prog 72 #[.pointer (some ⟨P,0,none⟩),.slice vA v.length vc,.slice eA s.length ec] w (StepE P w er):=by
 have HD:=iH (decode_any v _ _ w h5)
 rw [hd]at HD
 have t1:(X.pr==3)=false:=by simp [hp]
 clear hd hp
 have HP0:Hid (PtW P w w #[.int .i64 X.kd,.slice sA X.sec.length sc,.int .i64 X.pr,.int .i64 X.st,.slice nA X.non.length nc,.int .i64 X.x,.int .i64 X.g,.int .i64 X.own,.int .i64 X.oth,.slice aA X.k1.length ac,.slice bA X.k2.length bc,.int .i64 X.ct]):=iH (PtW.start hr)
 have HK:=iH hK;have Gs0:=iH h1;have Gn0:=iH h2;have Ga0:=iH h3;have Gb0:=iH h4;have Gv0:=iH h5;have Ge0:=iH h6;have HL:=iH hl
 obtain⟨f0,f1,f2,f3,f4,f5,f6,f7,f8,f9,f10,f11,ff⟩:=jy hr
 clear hK hr h1 h2 h3 h4 h5 h6 hl
 go_enter Tryz.func72,Tryz.ntmps72
 go_wp2_with(go_at_call 126;refine HD.out.mono ?_;rintro e w' ⟨rfl,hw'⟩;rw [hw'];clear hw' w')
 refine bodyPost_ret (v:=.tuple #[.int .i64 0,.slice none 0 0,.slice none 0 0,.int .i64 er]) (by simp [results,Tryz.results72,go_sem]) rfl ?_
 exact⟨rfl,_,_,_,_,_,_,_,_,_,_,_,_,HP0.out⟩
theorem chipMap_gen(P:Nat)(X:Exg)(sA nA aA bA:Option Addr)(sc nc ac bc:Nat)(vA eA:Option Addr)(vc ec:Nat)(v s:List UInt8)(w:World)(hK:∀W,Below P w W->KD W)(hr:w.heap[P]?=some (.cells #[.int .i64 X.kd,.slice sA X.sec.length sc,.int .i64 X.pr,.int .i64 X.st,.slice nA X.non.length nc,.int .i64 X.x,.int .i64 X.g,.int .i64 X.own,.int .i64 X.oth,.slice aA X.k1.length ac,.slice bA X.k2.length bc,.int .i64 X.ct] 48 (0,0))) (h1:BsS w (jL P w) (.slice sA X.sec.length sc) X.sec) (h2:BsS w (jL P w) (.slice nA X.non.length nc) X.non) (h3:BsS w (jL P w) (.slice aA X.k1.length ac) X.k1) (h4:BsS w (jL P w) (.slice bA X.k2.length bc) X.k2) (h5:BsS w (jL P w) (.slice vA v.length vc) v) (h6:BsS w (jL P w) (.slice eA s.length ec) s) (hl:s.length<=140737488351232) (hp:X.pr=2) (o:Int) (hd:jF v=(0,o)) (er zgQ9:Int) (hg:qJ X.non (XS s) o=(er,zgQ9)) (he:(er != 0)=true):
 Calls Tryz.prog 72 #[.pointer (some ⟨P,0,none⟩),.slice vA v.length vc,.slice eA s.length ec] w (StepE P w er):=by
 have HD:=iH (decode_any v _ _ w h5)
 rw [hd]at HD
 have t1:(X.pr==3)=false:=by simp [hp]
 have HS:=iH (dsecret_any _ s w (hK w iB) h6.loB (by omega))
 unfold SecOut at HS
 have hks:=scr_ok s
 obtain⟨ks,hk⟩:∃ks,XS s=ks:=⟨_,rfl⟩
 rw [hk]at HS hks hg
 have HGE:=iH (fun(u:Value) (W:World) h=>zw X.non u ks o W h)
 rw [hg]at HGE
 clear hd hp hk hks hg
 have HP0:Hid (PtW P w w #[.int .i64 X.kd,.slice sA X.sec.length sc,.int .i64 X.pr,.int .i64 X.st,.slice nA X.non.length nc,.int .i64 X.x,.int .i64 X.g,.int .i64 X.own,.int .i64 X.oth,.slice aA X.k1.length ac,.slice bA X.k2.length bc,.int .i64 X.ct]):=iH (PtW.start hr)
 have HK:=iH hK;have Gs0:=iH h1;have Gn0:=iH h2;have Ga0:=iH h3;have Gb0:=iH h4;have Gv0:=iH h5;have Ge0:=iH h6;have HL:=iH hl
 obtain⟨f0,f1,f2,f3,f4,f5,f6,f7,f8,f9,f10,f11,ff⟩:=jy hr
 clear hK hr h1 h2 h3 h4 h5 h6 hl
 go_enter Tryz.func72,Tryz.ntmps72
 go_upto_region 10 with (first|(go_at_call 126;refine HD.out.mono ?_;rintro e w' ⟨rfl,hw'⟩;rw [hw'];clear hw' w')|(go_at_call 127;refine HS.out.mono ?_;rintro e w1 ⟨B1,d1,rfl,hbx,hb⟩;have GX1:=iH (hbx.madeB HP0.out.lt);have Gs1:=iH (Gs0.out.onB hb);have Gn1:=iH (Gn0.out.onB hb);have Ga1:=iH (Ga0.out.onB hb);have Gb1:=iH (Gb0.out.onB hb);have Gv1:=iH (Gv0.out.onB hb);have Ge1:=iH (Ge0.out.onB hb);have hp:=HP0.out.call hb;have HP1:=iH hp;obtain⟨g0,g1,g2,g3,g4,g5,g6,g7,g8,g9,g10,g11,gf⟩:=jy hp.1;clear hp f0 f1 f2 f3 f4 f5 f6 f7 f8 f9 f10 f11 ff;have gx:=gf 6;clear hb hbx gf)|(go_at_call 23;refine(HGE.out _ w1 Gn1.out.loB).mono ?_;rintro e w' ⟨rfl,hw'⟩;rw [hw'];clear hw' w'))
 obtain⟨w2,hw⟩:∃z,z=w1.setCell ⟨P,6,none⟩ (.int .i64 zgQ9):=⟨_,rfl⟩
 rw [<-hw]
 have hp:PtW P w w2 #[.int .i64 X.kd,.slice sA X.sec.length sc,.int .i64 X.pr,.int .i64 X.st,.slice nA X.non.length nc,.int .i64 X.x,.int .i64 zgQ9,.int .i64 X.own,.int .i64 X.oth,.slice aA X.k1.length ac,.slice bA X.k2.length bc,.int .i64 X.ct]:=by rw [hw];exact HP1.out.set 6 _
 have HP2:=iH hp
 obtain⟨f0,f1,f2,f3,f4,f5,f6,f7,f8,f9,f10,f11,ff⟩:=jy hp.1
 clear hw hp g0 g1 g2 g3 g4 g5 g6 g7 g8 g9 g10 g11 gx
 go_wp2_with fail
 refine bodyPost_ret (v:=.tuple #[.int .i64 0,.slice none 0 0,.slice none 0 0,.int .i64 er]) (by simp [results,Tryz.results72,go_sem]) rfl ?_
 exact⟨rfl,_,_,_,_,_,_,_,_,_,_,_,_,HP2.out⟩
theorem chipMap_any(P:Nat)(X:Exg)(sA nA aA bA:Option Addr)(sc nc ac bc:Nat)(vA eA:Option Addr)(vc ec:Nat)(v s:List UInt8)(w:World)(hK:∀W,Below P w W->KD W)(hr:w.heap[P]?=some (.cells #[.int .i64 X.kd,.slice sA X.sec.length sc,.int .i64 X.pr,.int .i64 X.st,.slice nA X.non.length nc,.int .i64 X.x,.int .i64 X.g,.int .i64 X.own,.int .i64 X.oth,.slice aA X.k1.length ac,.slice bA X.k2.length bc,.int .i64 X.ct] 48 (0,0))) (h1:BsS w (jL P w) (.slice sA X.sec.length sc) X.sec) (h2:BsS w (jL P w) (.slice nA X.non.length nc) X.non) (h3:BsS w (jL P w) (.slice aA X.k1.length ac) X.k1) (h4:BsS w (jL P w) (.slice bA X.k2.length bc) X.k2) (h5:BsS w (jL P w) (.slice vA v.length vc) v) (h6:BsS w (jL P w) (.slice eA s.length ec) s) (hl:s.length<=140737488351232) (hp:X.pr=2) (o:Int) (hd:jF v=(0,o)) (gi:Int) (hg:qJ X.non (XS s) o=(0,gi)):
 Calls Tryz.prog 72 #[.pointer (some ⟨P,0,none⟩),.slice vA v.length vc,.slice eA s.length ec] w (Vg P w 130 {X with g:=gi} (kg (zZ 4 (XS s))) (sdW s)):=by
 have HD:=iH (decode_any v _ _ w h5)
 rw [hd]at HD
 have t1:(X.pr==3)=false:=by simp [hp]
 have HS:=iH (dsecret_any _ s w (hK w iB) h6.loB (by omega))
 unfold SecOut at HS
 have hks:=scr_ok s
 obtain⟨ks,hk⟩:∃ks,XS s=ks:=⟨_,rfl⟩
 rw [hk]at HS hks hg |-
 have HGE:=iH (fun(u:Value) (W:World) h=>zw X.non u ks o W h)
 rw [hg]at HGE
 have HPB:=iH (gpublic_i ks hks)
 obtain⟨G,hG⟩:∃G,zZ 4 ks=G:=⟨_,rfl⟩
 have hge:jx G=true:=by rw [<-hG];exact xe 4 ks JV hks
 rw [hG]at HPB |-
 have HEN:=iH (encoded_any G hge)
 clear hG hge
 clear hd hp hk hks hg
 have HP0:Hid (PtW P w w #[.int .i64 X.kd,.slice sA X.sec.length sc,.int .i64 X.pr,.int .i64 X.st,.slice nA X.non.length nc,.int .i64 X.x,.int .i64 X.g,.int .i64 X.own,.int .i64 X.oth,.slice aA X.k1.length ac,.slice bA X.k2.length bc,.int .i64 X.ct]):=iH (PtW.start hr)
 have HK:=iH hK;have Gs0:=iH h1;have Gn0:=iH h2;have Ga0:=iH h3;have Gb0:=iH h4;have Gv0:=iH h5;have Ge0:=iH h6;have HL:=iH hl
 obtain⟨f0,f1,f2,f3,f4,f5,f6,f7,f8,f9,f10,f11,ff⟩:=jy hr
 clear hK hr h1 h2 h3 h4 h5 h6 hl
 go_enter Tryz.func72,Tryz.ntmps72
 go_upto_region 10 with (first|(go_at_call 126;refine HD.out.mono ?_;rintro e w' ⟨rfl,hw'⟩;rw [hw'];clear hw' w')|(go_at_call 127;refine HS.out.mono ?_;rintro e w1 ⟨B1,d1,rfl,hbx,hb⟩;have GX1:=iH (hbx.madeB HP0.out.lt);have Gs1:=iH (Gs0.out.onB hb);have Gn1:=iH (Gn0.out.onB hb);have Ga1:=iH (Ga0.out.onB hb);have Gb1:=iH (Gb0.out.onB hb);have Gv1:=iH (Gv0.out.onB hb);have Ge1:=iH (Ge0.out.onB hb);have hp:=HP0.out.call hb;have HP1:=iH hp;obtain⟨g0,g1,g2,g3,g4,g5,g6,g7,g8,g9,g10,g11,gf⟩:=jy hp.1;clear hp f0 f1 f2 f3 f4 f5 f6 f7 f8 f9 f10 f11 ff;have gx:=gf 6;clear hb hbx gf)|(go_at_call 23;refine(HGE.out _ w1 Gn1.out.loB).mono ?_;rintro e w' ⟨rfl,hw'⟩;rw [hw'];clear hw' w'))
 obtain⟨w2,hw⟩:∃z,z=w1.setCell ⟨P,6,none⟩ (.int .i64 gi):=⟨_,rfl⟩
 rw [<-hw]
 have hp:PtW P w w2 #[.int .i64 X.kd,.slice sA X.sec.length sc,.int .i64 X.pr,.int .i64 X.st,.slice nA X.non.length nc,.int .i64 X.x,.int .i64 gi,.int .i64 X.own,.int .i64 X.oth,.slice aA X.k1.length ac,.slice bA X.k2.length bc,.int .i64 X.ct]:=by rw [hw];exact HP1.out.set 6 _
 have Gs2:Hid (BsS w2 (jL P w2) _ _):=iH (by rw [hw];exact BsS.setP Gs1.out 6 _)
 have Gn2:Hid (BsS w2 (jL P w2) _ _):=iH (by rw [hw];exact BsS.setP Gn1.out 6 _)
 have Ga2:Hid (BsS w2 (jL P w2) _ _):=iH (by rw [hw];exact BsS.setP Ga1.out 6 _)
 have Gb2:Hid (BsS w2 (jL P w2) _ _):=iH (by rw [hw];exact BsS.setP Gb1.out 6 _)
 have Gv2:Hid (BsS w2 (jL P w2) _ _):=iH (by rw [hw];exact BsS.setP Gv1.out 6 _)
 have Ge2:Hid (BsS w2 (jL P w2) _ _):=iH (by rw [hw];exact BsS.setP Ge1.out 6 _)
 have GX2:Hid (BsS w2 (jL P w2) _ _):=iH (by rw [hw];exact BsS.setP GX1.out 6 _)
 have HP2:=iH hp
 obtain⟨f0,f1,f2,f3,f4,f5,f6,f7,f8,f9,f10,f11,ff⟩:=jy hp.1
 clear hw hp g0 g1 g2 g3 g4 g5 g6 g7 g8 g9 g10 g11 gx
 go_wp2_with(first
  |(go_at_call 128;refine(HPB.out _).mono ?_;rintro e w' ⟨rfl,hw'⟩;rw [hw'];clear hw' w')
  |(go_at_call 129;refine(HEN.out w2).mono ?_;rintro e w3 ⟨A3,c3,rfl,hs,hb⟩;have GE3:=iH (hs.madeB HP2.out.lt);have Gs3:=iH (Gs2.out.onB hb);have Gn3:=iH (Gn2.out.onB hb);have Ga3:=iH (Ga2.out.onB hb);have Gb3:=iH (Gb2.out.onB hb);have Gv3:=iH (Gv2.out.onB hb);have Ge3:=iH (Ge2.out.onB hb);have GX3:=iH (GX2.out.onB hb);have hp:=HP2.out.call hb;have HP3:=iH hp;obtain⟨g0,g1,g2,g3,g4,g5,g6,g7,g8,g9,g10,g11,gf⟩:=jy hp.1;clear hp f0 f1 f2 f3 f4 f5 f6 f7 f8 f9 f10 f11 ff;clear hs hb))
 refine bodyPost_ret (v:=.tuple #[.int .i64 130,.slice A3 4 c3,.slice B1 32 d1,.int .i64 0]) (by simp [results,Tryz.results72,go_sem]) rfl ?_
 have hx:(sdW s).length=32:=ji _
 have x3:BsS w3 (jL P w3) (.slice B1 (sdW s).length d1) (sdW s):=by rw [hx];exact GX3.out
 exact⟨A3,c3,B1,d1,by rw [hx]<;>rfl,⟨_,_,_,_,_,_,_,_,HP3.out,Gs3.out,Gn3.out,Ga3.out,Gb3.out⟩,GE3.out,x3⟩
theorem usC_parts{X:Exg}(h:usC X=true):vPw X.kd X.sec=true/\(X.pr=2\/X.pr=3)/\(1<=X.st->X.non.length=16)/\(2<=X.st->jx X.g=true)/\(3<=X.st->jx X.own=true/\jx X.oth=true/\X.k2.length=16):=by
 unfold usC qd zE vS at h
 simp only [Bool.and_eq_true,Bool.or_eq_true,decide_eq_true_eq]at h
 obtain⟨⟨⟨⟨hp,hpr⟩,h1⟩,h2⟩,h3⟩:=h
 exact⟨hp,hpr,fun q=>h1.resolve_left (by omega),fun q=>h2.resolve_left (by omega),fun q=>by
  obtain⟨⟨a,b⟩,c⟩:=h3.resolve_left (by omega)
  exact⟨a,b,c.2.1⟩⟩
theorem sealL1(k n:List UInt8)(h:n.length=16):(kQ k Z16 n).length=16:=by rw [UM _ _ _ (m:=1) (by omega),j14]
theorem val_lenN{tag:Int}{z:Nat}{l:Ns}{v:List UInt8}(h0:¬tag=0)(h:QZ tag z l=some v):v.length=z:=by
 unfold QZ at h
 split at h
 ·split at h
  ·cases h
  ·try rw [iF h0]at h
   split at h
   ·split at h
    ·rename_i hh
     cases h
     exact hh.2
    ·cases h
   ·cases h
 ·cases h
theorem val_len16{X:Exg}{B v:List UInt8}(q:X.st=1)(hp:X.pr=3)(h:qa B (Qo X.st) (VR X)=some v):v.length=16:=by
 have hs:VR X=16:=by unfold VR;rw [iT q,iT hp]
 rw [hs]at h
 unfold qa at h
 split at h
 ·cases h
 ·exact val_lenN (by rw [q];decide) h
theorem ne_err{er:Int}(h:¬er=0):(er != 0)=true:=by simp [h]
theorem chip_any(X:Exg)(sA nA aA bA:Option Addr)(sc nc ac bc:Nat)(vA eA:Option Addr)(vc ec:Nat)(B s:List UInt8)(w:World)(hK:KD w)(h1:Bs w w.heap.size (.slice sA X.sec.length sc) X.sec)(h2:Bs w w.heap.size (.slice nA X.non.length nc) X.non)(h3:Bs w w.heap.size (.slice aA X.k1.length ac) X.k1)(h4:Bs w w.heap.size (.slice bA X.k2.length bc) X.k2)(h5:Bs w w.heap.size (.slice vA B.length vc) B)(h6:Bs w w.heap.size (.slice eA s.length ec) s)(ls:X.sec.length<=140737488351232)(ln:X.non.length<=140737488351232)(l1:X.k1.length<=140737488351232)(l2:X.k2.length<=140737488351232)(hl:s.length<=140737488351232):Calls Tryz.prog 33 #[.agg #[.int .i64 X.kd,.slice sA X.sec.length sc,.int .i64 X.pr,.int .i64 X.st,.slice nA X.non.length nc,.int .i64 X.x,.int .i64 X.g,.int .i64 X.own,.int .i64 X.oth,.slice aA X.k1.length ac,.slice bA X.k2.length bc,.int .i64 X.ct],.slice vA B.length vc,.slice eA s.length ec] w (ExO (U2 X B s) w):=by
 by_cases hst:X.st<0\/3<X.st
 ·exact chip_state X sA nA aA bA sc nc ac bc vA eA vc ec B s w hK h1 h2 h3 h4 h5 h6 ls ln l1 l2 hl hst
 have hst:0<=X.st/\X.st<=3:=by omega
 rcases hus:usC X with _|_
 ·exact chip_invalid X sA nA aA bA sc nc ac bc vA eA vc ec B s w hK h1 h2 h3 h4 h5 h6 ls ln l1 l2 hl hst hus
 rcases hv:qa B (Qo X.st) (VR X)with _|v
 ·exact chip_form X sA nA aA bA sc nc ac bc vA eA vc ec B s w hK h1 h2 h3 h4 h5 h6 ls ln l1 l2 hl hst hus hv
 obtain⟨hp,hpr,hn,hg,hpa⟩:=usC_parts hus
 have hq:X.st=0\/X.st=1\/X.st=2\/X.st=3:=by omega
 rcases hq with q|q|q|q
 ·have hd:(k7 s 16).length=16:=by unfold k7;rw [List.length_take,ji];omega
  have hh:kP X.kd X.sec (k7 s 16)=(0,kQ (kz X.kd X.sec) Z16 (k7 s 16)):=by
   unfold kP
   rw [iF (by rw [hp];simp),iF (by omega)]
  have hr:U2 X B s=(0,{({X with non:=k7 s 16}:Exg)with st:=X.st+1},kx 128 (kP X.kd X.sec (k7 s 16)).2,sdW s):=by
   unfold U2;rw [iF (by omega),iF (by rw [hus];simp),hv];simp only [];rw [iT q,q]<;>rfl
  exact Vl X sA nA aA bA sc nc ac bc vA eA vc ec B s w hK h1 h2 h3 h4 h5 h6 ls ln l1 l2 hl 71 (.inl ⟨q,rfl⟩) hst hus v hv 128 ⟨by omega,by omega⟩ {X with non:=k7 s 16} rfl (kP X.kd X.sec (k7 s 16)).2 (sdW s) (by rw [hh];show(kQ (kz X.kd X.sec) Z16 (k7 s 16)).length<=64;rw [sealL1 _ _ hd];omega) (fun P sA nA aA bA sc nc ac bc vA eA vc ec w k r h1 h2 h3 h4 h5 h6 h7=>yX P X sA nA aA bA sc nc ac bc vA eA vc ec v s w k r h1 h2 h3 h4 h5 h6 h7 hp) hr
 ·have hn:=hn (by omega)
  by_cases hp3:X.pr=3
  ·obtain⟨gi,hi⟩:∃g,yb X.non v=(0,g):=⟨_,by unfold yb;rw [iF (fun x=>x ⟨hn,val_len16 q hp3 hv⟩)]⟩
   have hr:U2 X B s=(0,{({X with g:=gi}:Exg)with st:=X.st+1},kx 130 [],s):=by
    unfold U2;rw [iF (by omega),iF (by rw [hus];simp),hv];simp only [];rw [iF (by omega),iT q,iT hp3,hi,q]<;>rfl
   exact Vl X sA nA aA bA sc nc ac bc vA eA vc ec B s w hK h1 h2 h3 h4 h5 h6 ls ln l1 l2 hl 72 (.inr (.inl ⟨q,rfl⟩)) hst hus v hv 130 ⟨by omega,by omega⟩ {X with g:=gi} rfl [] s (by simp) (fun P sA nA aA bA sc nc ac bc vA eA vc ec w k r h1 h2 h3 h4 h5 h6 h7=>chipMap_int P X sA nA aA bA sc nc ac bc vA eA vc ec v s w k r h1 h2 h3 h4 h5 h6 h7 hp3 gi hi) hr
  have hp2:X.pr=2:=by omega
  obtain⟨⟨er,o⟩,hde⟩:∃r,jF v=r:=⟨_,rfl⟩
  by_cases he:er=0
  ·subst he
   obtain⟨⟨er,gi⟩,hge⟩:∃r,qJ X.non (XS s) o=r:=⟨_,rfl⟩
   by_cases he:er=0
   ·subst he
    have hr:U2 X B s=(0,{({X with g:=gi}:Exg)with st:=X.st+1},kx 130 (kg (zZ 4 (XS s))),sdW s):=by
     unfold U2;rw [iF (by omega),iF (by rw [hus];simp),hv];simp only [];rw [iF (by omega),iT q,iF hp3,hde];simp only [];rw [hge,iF (by simp),iF (by simp),q]<;>rfl
    exact Vl X sA nA aA bA sc nc ac bc vA eA vc ec B s w hK h1 h2 h3 h4 h5 h6 ls ln l1 l2 hl 72 (.inr (.inl ⟨q,rfl⟩)) hst hus v hv 130 ⟨by omega,by omega⟩ {X with g:=gi} rfl (kg (zZ 4 (XS s))) (sdW s) (by simp [kg]) (fun P sA nA aA bA sc nc ac bc vA eA vc ec w k r h1 h2 h3 h4 h5 h6 h7=>chipMap_any P X sA nA aA bA sc nc ac bc vA eA vc ec v s w k r h1 h2 h3 h4 h5 h6 h7 hp2 o hde gi hge) hr
   ·have hr:U2 X B s=qk er:=by
     unfold U2;rw [iF (by omega),iF (by rw [hus];simp),hv];simp only [];rw [iF (by omega),iT q,iF hp3,hde];simp only [];rw [hge,iF (by simp),iT he]
    exact chip_err X sA nA aA bA sc nc ac bc vA eA vc ec B s w hK h1 h2 h3 h4 h5 h6 ls ln l1 l2 hl 72 (.inr (.inl ⟨q,rfl⟩)) hst hus v hv er (ne_err he) (fun P sA nA aA bA sc nc ac bc vA eA vc ec w k r h1 h2 h3 h4 h5 h6 h7=>chipMap_gen P X sA nA aA bA sc nc ac bc vA eA vc ec v s w k r h1 h2 h3 h4 h5 h6 h7 hp2 o hde er gi hge (ne_err he)) hr
  ·have hr:U2 X B s=qk er:=by
    unfold U2;rw [iF (by omega),iF (by rw [hus];simp),hv];simp only [];rw [iF (by omega),iT q,iF hp3,hde];simp only [];rw [iT he]
   exact chip_err X sA nA aA bA sc nc ac bc vA eA vc ec B s w hK h1 h2 h3 h4 h5 h6 ls ln l1 l2 hl 72 (.inr (.inl ⟨q,rfl⟩)) hst hus v hv er (ne_err he) (fun P sA nA aA bA sc nc ac bc vA eA vc ec w k r h1 h2 h3 h4 h5 h6 h7=>chipMap_dec P X sA nA aA bA sc nc ac bc vA eA vc ec v s w k r h1 h2 h3 h4 h5 h6 h7 hp2 er o hde (ne_err he)) hr
 ·have hg:=hg (by omega)
  obtain⟨⟨er,o⟩,hde⟩:∃r,jF v=r:=⟨_,rfl⟩
  by_cases he:er=0
  ·subst he
   by_cases heq:o=zZ X.g (XS s)
   ·have hr:U2 X B s=qk 10:=by
     unfold U2;rw [iF (by omega),iF (by rw [hus];simp),hv];simp only [];rw [iF (by omega),iF (by omega),iT q,hde];simp only [];rw [iF (by simp),iT heq]
    exact chip_err X sA nA aA bA sc nc ac bc vA eA vc ec B s w hK h1 h2 h3 h4 h5 h6 ls ln l1 l2 hl 73 (.inr (.inr (.inl ⟨q,rfl⟩))) hst hus v hv 10 (by decide) (fun P sA nA aA bA sc nc ac bc vA eA vc ec w k r h1 h2 h3 h4 h5 h6 h7=>chipAgree_same P X sA nA aA bA sc nc ac bc vA eA vc ec v s w k r h1 h2 h3 h4 h5 h6 h7 o hg hde heq) hr
   ·have hys:(Zb {X with x:=XS s,own:=zZ X.g (XS s)} o).2.st=X.st:=by unfold Zb;rw [iF heq]
    have hr:U2 X B s=(0,{(Zb {X with x:=XS s,own:=zZ X.g (XS s)} o).2 with st:=(Zb {X with x:=XS s,own:=zZ X.g (XS s)} o).2.st+1},kx 132 (kg (zZ X.g (XS s))),sdW s):=by
     rw [hys];unfold U2;rw [iF (by omega),iF (by rw [hus];simp),hv];simp only [];rw [iF (by omega),iF (by omega),iT q,hde];simp only [];rw [iF (by simp),iF heq,q]<;>rfl
    exact Vl X sA nA aA bA sc nc ac bc vA eA vc ec B s w hK h1 h2 h3 h4 h5 h6 ls ln l1 l2 hl 73 (.inr (.inr (.inl ⟨q,rfl⟩))) hst hus v hv 132 ⟨by omega,by omega⟩ _ hys (kg (zZ X.g (XS s))) (sdW s) (by simp [kg]) (fun P sA nA aA bA sc nc ac bc vA eA vc ec w k r h1 h2 h3 h4 h5 h6 h7=>chipAgree_any P X sA nA aA bA sc nc ac bc vA eA vc ec v s w k r h1 h2 h3 h4 h5 h6 h7 o hg hde heq) hr
  ·have hr:U2 X B s=qk er:=by
    unfold U2;rw [iF (by omega),iF (by rw [hus];simp),hv];simp only [];rw [iF (by omega),iF (by omega),iT q,hde];simp only [];rw [iT he]
   exact chip_err X sA nA aA bA sc nc ac bc vA eA vc ec B s w hK h1 h2 h3 h4 h5 h6 ls ln l1 l2 hl 73 (.inr (.inr (.inl ⟨q,rfl⟩))) hst hus v hv er (ne_err he) (fun P sA nA aA bA sc nc ac bc vA eA vc ec w k r h1 h2 h3 h4 h5 h6 h7=>chipAgree_err P X sA nA aA bA sc nc ac bc vA eA vc ec v s w k r h1 h2 h3 h4 h5 h6 h7 er o hde (ne_err he)) hr
 ·obtain⟨ho,ht,hk2⟩:=hpa (by omega)
  by_cases hvt:v=tkW X X.own
  ·have hr:U2 X B s=(0,{X with st:=X.st+1},kx 134 (tkW X X.oth),s):=by
    unfold U2;rw [iF (by omega),iF (by rw [hus];simp),hv];simp only [];rw [iF (by omega),iF (by omega),iF (by omega),iF (fun x=>x hvt),q]<;>rfl
   exact Vl X sA nA aA bA sc nc ac bc vA eA vc ec B s w hK h1 h2 h3 h4 h5 h6 ls ln l1 l2 hl 74 (.inr (.inr (.inr (⟨q,rfl⟩)))) hst hus v hv 134 ⟨by omega,by omega⟩ X rfl (tkW X X.oth) s (by rw [tkl X _ hk2];omega) (fun P sA nA aA bA sc nc ac bc vA eA vc ec w k r h1 h2 h3 h4 h5 h6 h7=>chipCheck_any P X sA nA aA bA sc nc ac bc vA eA vc ec v s w k r h1 h2 h3 h4 h5 h6 h7 hk2 ho ht hvt) hr
  ·have hr:U2 X B s=qk 21:=by
    unfold U2;rw [iF (by omega),iF (by rw [hus];simp),hv];simp only [];rw [iF (by omega),iF (by omega),iF (by omega),iT hvt]
   exact chip_err X sA nA aA bA sc nc ac bc vA eA vc ec B s w hK h1 h2 h3 h4 h5 h6 ls ln l1 l2 hl 74 (.inr (.inr (.inr (⟨q,rfl⟩)))) hst hus v hv 21 (by decide) (fun P sA nA aA bA sc nc ac bc vA eA vc ec w k r h1 h2 h3 h4 h5 h6 h7=>chipCheck_err P X sA nA aA bA sc nc ac bc vA eA vc ec v s w k r h1 h2 h3 h4 h5 h6 h7 hk2 ho hvt) hr
end Go.Proofs.YtalmmiojbmpmiaaGreatDoor
