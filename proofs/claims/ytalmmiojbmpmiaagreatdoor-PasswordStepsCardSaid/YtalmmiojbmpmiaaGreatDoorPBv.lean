/- Layer 21: which exchanges are usable, on both sides; Layer 21: the reference's size, token, agree; Layer 21: words for the steps of the reference -/
import Derived.Test.YtalmmiojbmpmiaaGreatDoorPBr
import Derived.Test.YtalmmiojbmpmiaaGreatDoorPBi
set_option linter.all false
set_option maxRecDepth 100000
set_option maxHeartbeats 8000000
namespace Go.Proofs.YtalmmiojbmpmiaaGreatDoor
open Go.RowKit Go.Deep
theorem mg{P:Prop}(h:P:=by
 go_enter Tryz.func79,Tryz.ntmps79
 go_upto_region 1 with fail
 rw [<-HW0.out]
 go_wp2_with fail
 go_ret
 rw [R.out]
 exact⟨rfl,HB0.out⟩):P:=h
theorem U0(X:Exg)(sA nA aA bA:Option Addr)(sc nc ac bc:Nat)(w:World)(h1:Bs w w.heap.size (.slice aA X.k1.length ac) X.k1)(h2:Bs w w.heap.size (.slice bA X.k2.length bc) X.k2)(l1:X.k1.length<=140737488351232)(l2:X.k2.length<=140737488351232):Calls Tryz.prog 76 #[.agg #[.int .i64 X.kd,.slice sA X.sec.length sc,.int .i64 X.pr,.int .i64 X.st,.slice nA X.non.length nc,.int .i64 X.x,.int .i64 X.g,.int .i64 X.own,.int .i64 X.oth,.slice aA X.k1.length ac,.slice bA X.k2.length bc,.int .i64 X.ct],.bool true] w fun e w'=>e=.returned (.bool (usC X))/\Below w.heap.size w w':=by
 obtain⟨w0,hw0⟩:∃w0,w0=w.alloc (.cells #[.int .i64 X.kd,.slice sA X.sec.length sc,.int .i64 X.pr,.int .i64 X.st,.slice nA X.non.length nc,.int .i64 X.x,.int .i64 X.g,.int .i64 X.own,.int .i64 X.oth,.slice aA X.k1.length ac,.slice bA X.k2.length bc,.int .i64 X.ct] 48):=⟨_,rfl⟩
 have HB0:Hid (Below w.heap.size w w0):=iH (by rw [hw0];exact ju _ _)
 have FR:Hid (∀W,Below w0.heap.size w0 W->W.heap[w.heap.size]?=some (.cells #[.int .i64 X.kd,.slice sA X.sec.length sc,.int .i64 X.pr,.int .i64 X.st,.slice nA X.non.length nc,.int .i64 X.x,.int .i64 X.g,.int .i64 X.own,.int .i64 X.oth,.slice aA X.k1.length ac,.slice bA X.k2.length bc,.int .i64 X.ct] 48 (0,0))):=iH (fun W h=>(h.block w.heap.size (by rw [hw0];simp)).trans (by rw [hw0];exact iN))
 have HW0:=iH hw0
 have HP:=iH (qo X.kd X.sec sA sc w0)
 have HA:=iH (h1.lift HB0.out);have HB:=iH (h2.lift HB0.out);have HL:=iH (And.intro l1 l2)
 obtain⟨f0,f1,f2,f3,f4,f5,f6,f7,f8,f9,f10,f11,ff⟩:=j4 (FR.out w0 iB)
 clear hw0 h1 h2 l1 l2
 rcases hv:vPw X.kd X.sec with _|_
 ·rw [hv]at HP
  have hb:kh X=false:=by unfold kh;rw [hv]<;>rfl
  have R:=iH (show usC X=false by simp [usC,usT,hb])
  clear hv hb
  go_enter Tryz.func76,Tryz.ntmps76
  go_upto_region 1 with fail
  rw [<-HW0.out]
  go_wp2_with(go_at_call 48;refine HP.out.mono ?_;rintro e w1 ⟨rfl,hb⟩;have HB1:=iH hb;obtain⟨g0,g1,g2,g3,g4,g5,g6,g7,g8,g9,g10,g11,gf⟩:=j4 (FR.out w1 hb);clear hb)
  exact m4
 rw [hv]at HP
 by_cases hp:X.pr=2\/X.pr=3
 case neg=>
  have hb:kh X=false:=by unfold kh;rw [hv,decide_eq_false hp]<;>rfl
  have R:=iH (show usC X=false by simp [usC,usT,hb])
  exact m0k
 have hb:kh X=true:=by unfold kh;rw [hv,decide_eq_true hp]<;>rfl
 have HPR:=iH hp
 clear hv hp
 go_enter Tryz.func76,Tryz.ntmps76
 go_upto_region 1 with fail
 rw [<-HW0.out]
 go_cut [19] from 6 to 19 (fun y wc=>y=.bool false/\Below w0.heap.size w0 wc)
 case first=>
  rcases HPR.out with hp|hp
  ·have e5:(X.pr != 2)=false:=by simp [hp]
   exact mp
  ·have e5:(X.pr != 2)=true:=by simp [hp]
   have e6:(X.pr != 3)=false:=by simp [hp]
   exact mp
 case rest=>
 obtain⟨rfl,hbc⟩:=hcut
 clear f0 f1 f2 f3 f4 f5 f6 f7 f8 f9 f10 f11 ff
 obtain⟨f0,f1,f2,f3,f4,f5,f6,f7,f8,f9,f10,f11,ff⟩:=j4 (FR.out _ hbc)
 have HB1:=iH hbc
 clear hbc
 go_upto_region 3 with fail
 go_cut [5] from 20 to 32 (fun y wd=>y=.bool (kY X)/\Below w0.heap.size w0 wd)
 case first=>
  exact m05
 case rest=>
 obtain⟨rfl,hbd⟩:=hcut
 clear f0 f1 f2 f3 f4 f5 f6 f7 f8 f9 f10 f11 ff
 obtain⟨f0,f1,f2,f3,f4,f5,f6,f7,f8,f9,f10,f11,ff⟩:=j4 (FR.out _ hbd)
 have HC:=iH hbd
 clear hbd
 by_cases s1:X.st<1
 ·have s2:X.st<2:=by omega
  have s3:X.st<3:=by omega
  have R:=iH (show usC X=true by simp [usC,hb,s1,s2,s3])
  clear hb
  go_wp2_with fail
  exact m5
 by_cases hn:X.non.length=16
 ·have t1:((X.non.length:Int)==16)=true:=by simp;omega
  by_cases s2:X.st<2
  ·have s3:X.st<3:=by omega
   have R:=iH (show usC X=true by simp [usC,hb,s1,s2,s3,hn])
   clear hb hn
   go_wp2_with fail
   exact m5
  rcases hg:jk X.g with _|_
  ·have HG:=iH hg
   have R:=iH (show usC X=false by simp [usC,hb,s1,s2,hn,hg])
   clear hb hn hg
   go_wp2_with(first
    |(go_at_call 29;refine iR (jK _ _) ?_;try(first|rw [HO.out]|rw [HT.out]|rw [HG.out])))
   exact m5
  have HG:=iH hg
  by_cases s3:X.st<3
  ·skip
   have R:=iH (show usC X=true by simp [usC,hb,s1,s2,s3,hn,hg])
   clear hb hn hg
   go_wp2_with(first
    |(go_at_call 29;refine iR (jK _ _) ?_;try(first|rw [HO.out]|rw [HT.out]|rw [HG.out])))
   exact m5
  ·have d3:decide (X.st<3)=false:=decide_eq_false s3
   have R:=iH (show usC X=kY X by simp [usC,hb,s1,s2,s3,hn,hg])
   clear hb hn hg
   go_wp2_with(first
    |(go_at_call 29;refine iR (jK _ _) ?_;try(first|rw [HO.out]|rw [HT.out]|rw [HG.out])))
   exact m5
 ·have t1:((X.non.length:Int)==16)=false:=by simp;omega
  have R:=iH (show usC X=false by simp [usC,hb,s1,hn])
  clear hb hn
  go_wp2_with fail
  go_ret
  rw [R.out]
  exact⟨rfl,HB0.out.trans (HC.out.mono HB0.out.size)⟩
def JB(pr st:Int)(c:Bool):Int:=if st=1 then 16 else if st=2 then(if pr=3 then(if c then 0 else 16)else 4)else if st=4 then 8 else 4
theorem Qa(X:Exg)(sA nA aA bA:Option Addr)(sc nc ac bc:Nat)(st:Int)(c:Bool)(w:World):Calls Tryz.prog 79 #[.agg #[.int .i64 X.kd,.slice sA X.sec.length sc,.int .i64 X.pr,.int .i64 X.st,.slice nA X.non.length nc,.int .i64 X.x,.int .i64 X.g,.int .i64 X.own,.int .i64 X.oth,.slice aA X.k1.length ac,.slice bA X.k2.length bc,.int .i64 X.ct],.int .i64 st,.bool c] w fun e w'=>e=.returned (.int .i64 (JB X.pr st c))/\Below w.heap.size w w':=by
 obtain⟨w0,hw0⟩:∃w0,w0=w.alloc (.cells #[.int .i64 X.kd,.slice sA X.sec.length sc,.int .i64 X.pr,.int .i64 X.st,.slice nA X.non.length nc,.int .i64 X.x,.int .i64 X.g,.int .i64 X.own,.int .i64 X.oth,.slice aA X.k1.length ac,.slice bA X.k2.length bc,.int .i64 X.ct] 48):=⟨_,rfl⟩
 have HB0:Hid (Below w.heap.size w w0):=iH (by rw [hw0];exact ju _ _)
 have FR:Hid (∀W,Below w0.heap.size w0 W->W.heap[w.heap.size]?=some (.cells #[.int .i64 X.kd,.slice sA X.sec.length sc,.int .i64 X.pr,.int .i64 X.st,.slice nA X.non.length nc,.int .i64 X.x,.int .i64 X.g,.int .i64 X.own,.int .i64 X.oth,.slice aA X.k1.length ac,.slice bA X.k2.length bc,.int .i64 X.ct] 48 (0,0))):=iH (fun W h=>(h.block w.heap.size (by rw [hw0];simp)).trans (by rw [hw0];exact iN))
 have HW0:=iH hw0
 obtain⟨f0,f1,f2,f3,f4,f5,f6,f7,f8,f9,f10,f11,ff⟩:=j4 (FR.out w0 iB)
 clear hw0 ff
 by_cases s1:st=1
 ·have t1:(st==1)=true:=by simp [s1]
  have R:Hid (JB X.pr st c=16):=iH (by unfold JB;rw [iT s1])
  clear s1
  exact mg
 have t1:(st==1)=false:=by simp [s1]
 by_cases s2:st=2
 ·have t2:(st==2)=true:=by simp [s2]
  have t4:(st==4)=false:=by simp [s2]
  by_cases p3:X.pr=3
  ·have tp:(X.pr==3)=true:=by simp [p3]
   cases c
   ·have R:Hid (JB X.pr st false=16):=iH (by unfold JB;rw [iF s1,iT s2,iT p3]<;>rfl)
    clear s1 s2 p3
    exact mg
   ·have R:Hid (JB X.pr st true=0):=iH (by unfold JB;rw [iF s1,iT s2,iT p3]<;>rfl)
    clear s1 s2 p3
    exact mg
  ·have tp:(X.pr==3)=false:=by simp [p3]
   have R:Hid (JB X.pr st c=4):=iH (by unfold JB;rw [iF s1,iT s2,iF p3])
   clear s1 s2 p3
   exact mg
 have t2:(st==2)=false:=by simp [s2]
 by_cases s4:st=4
 ·have t4:(st==4)=true:=by simp [s4]
  have R:Hid (JB X.pr st c=8):=iH (by unfold JB;rw [iF s1,iF s2,iT s4])
  clear s1 s2 s4
  exact mg
 have t4:(st==4)=false:=by simp [s4]
 have R:Hid (JB X.pr st c=4):=iH (by unfold JB;rw [iF s1,iF s2,iF s4])
 clear s1 s2 s4
 exact mg
theorem Kk(x k:Int)(hx:0<=x/\x<2147483579)(hk:0<=k/\k<=1073741789)(w:World):Calls Tryz.prog 61 #[.int .i64 x,.int .i64 k] w fun e w'=>e=.returned (.int .i64 (jN x k))/\w'=w:=by
 obtain⟨a,rfl⟩:∃a:Nat,x=a:=⟨x.toNat,by omega⟩
 obtain⟨b,rfl⟩:∃b:Nat,k=b:=⟨k.toNat,by omega⟩
 exact JA a b w (by omega) (by omega)
theorem zK(k:Int)(h:0<=k/\k<2147483579)(w:World):Calls Tryz.prog 83 #[.int .i64 k] w fun e w'=>∃A c,e=.returned (.slice A 4 c)/\BsS w' (New w w') (.slice A 4 c) (jc k)/\Below w.heap.size w w':=
 (VT k w (by omega) (by omega)).mono fun e w' ⟨v,he,hs,hb⟩=>by
   obtain⟨A,c,hv⟩:=Bs.formL hs
   subst hv
   exact⟨A,c,he,hs,hb⟩
section
variable(X:Exg)(sA nA aA bA:Option Addr)(sc nc ac bc:Nat)
include X sA nA aA bA sc nc ac bc
theorem zn(p:Int)(hp:0<=p/\p<2147483579)(h2:X.k2.length=16)(w:World)(hv:Bs w w.heap.size (.slice bA X.k2.length bc) X.k2):Calls Tryz.prog 85 #[.agg #[.int .i64 X.kd,.slice sA X.sec.length sc,.int .i64 X.pr,.int .i64 X.st,.slice nA X.non.length nc,.int .i64 X.x,.int .i64 X.g,.int .i64 X.own,.int .i64 X.oth,.slice aA X.k1.length ac,.slice bA X.k2.length bc,.int .i64 X.ct],.int .i64 p] w fun e w'=>∃A c,e=.returned (.slice A 8 c)/\BsS w' (·<w'.heap.size) (.slice A 8 c) (tkW X p)/\Below w.heap.size w w':=by
 obtain⟨w0,hw0⟩:∃w0,w0=w.alloc (.cells #[.int .i64 X.kd,.slice sA X.sec.length sc,.int .i64 X.pr,.int .i64 X.st,.slice nA X.non.length nc,.int .i64 X.x,.int .i64 X.g,.int .i64 X.own,.int .i64 X.oth,.slice aA X.k1.length ac,.slice bA X.k2.length bc,.int .i64 X.ct] 48):=⟨_,rfl⟩
 have HB0:Hid (Below w.heap.size w w0):=iH (by rw [hw0];exact ju _ _)
 have FR:Hid (∀W,Below w0.heap.size w0 W->W.heap[w.heap.size]?=some (.cells #[.int .i64 X.kd,.slice sA X.sec.length sc,.int .i64 X.pr,.int .i64 X.st,.slice nA X.non.length nc,.int .i64 X.x,.int .i64 X.g,.int .i64 X.own,.int .i64 X.oth,.slice aA X.k1.length ac,.slice bA X.k2.length bc,.int .i64 X.ct] 48 (0,0))):=iH (fun W h=>(h.block w.heap.size (by rw [hw0];simp)).trans (by rw [hw0];exact iN))
 have HW0:=iH hw0
 have HEN:=iH (zK p hp)
 obtain⟨T,hT⟩:∃T,tkW X p=T:=⟨_,rfl⟩
 rw [hT]
 have HT:Hid ((qP X.k2 (jc p)).take 8=T):=iH hT
 have HT8:Hid (((qP X.k2 (jc p)).take 8).length=8):=iH (by rw [List.length_take,xF h2]<;>rfl)
 have HK2:=iH h2;have HV:=iH (hv.lift HB0.out)
 clear hw0 hT h2 hv hp
 go_enter Tryz.func85,Tryz.ntmps85
 go_upto_region 1 with fail
 rw [<-HW0.out]
 refine j9 10 [some 8,some 9,some 10,some 11,some 12,some 13,some 7,some 14,some 15,some 5] [[],[0],[0,1],[],[3],[0,1,2,3,4],[0,1,2,3,4,5],[0,1,2,3,4,5,6],[0,1,2,3,4,5,6],[0,1,2,3,4,5,6,7]]
  (fun _ _ w1=>Below w0.heap.size w0 w1) (fun w1 w2=>Below w1.heap.size w1 w2)
  [.v (.pointer (some ⟨w.heap.size,9,none⟩)),
   .v (.pointer (some ⟨w.heap.size,10,none⟩)),
   .v (.slice bA X.k2.length bc),
   .v (.int .i64 p),
   .p (fun v w1=>∃A4 c4,v 4=.slice A4 4 c4/\Bs w1 w1.heap.size (.slice A4 4 c4) (jc p)) (fun _ _ _ _ _ hr ⟨A,c,h1,h2⟩=>⟨A,c,h1,h2.lift hr⟩),
   .p (fun v w1=>∃A5 c5,v 5=.tuple #[.slice A5 8 c5,.int .i64 0]/\Bs w1 w1.heap.size (.slice A5 8 c5) T) (fun _ _ _ _ _ hr ⟨A,c,h1,h2⟩=>⟨A,c,h1,Bs.lift h2 hr⟩),
   .q fun v=>∃A5 c5,v 5=.tuple #[.slice A5 8 c5,.int .i64 0]/\v 6=.tuple #[.slice A5 8 c5,.int .i64 0],
   .q fun v=>∃A5 c5,v 5=.tuple #[.slice A5 8 c5,.int .i64 0]/\v 7=.slice A5 8 c5,
   .q fun v=>v 8=.int .i64 0,
   .q fun v=>∃A5 c5,v 5=.tuple #[.slice A5 8 c5,.int .i64 0]/\v 9=.slice A5 8 c5]
  (by kernel_rfl) (by kernel_rfl) rfl (fun _=>iB.drew) ?steps ?tail
 case steps=>
  simp only [List.take_succ_cons,List.take_zero]
  repeat' (with_reducible first|exact StepsRG.nil|refine StepsRG.cons ?_ ?_)
  all_goals(intro L v w1 hJ hL hF hD K hK;simp only [jb,Act.put,Nat.zero_add,Nat.reduceAdd,List.setIfInBounds_toArray,List.set_cons_zero,List.set_cons_succ,↓jP,List.getD_cons_zero,List.getD_cons_succ,Nat.reduceEqDiff,↓reduceIte]at hD hK |-)
  all_goals try((try simp only [hD]at hK |-);go_simp;refine hK _ _ hJ iB ?_;first|exact rfl|exact jf _)
  ·exact m1r
  ·exact m1h
  ·simp only [hD]at hK |-
   obtain⟨A4,c4,e4,hz⟩:∃A4 c4,v 4=_/\_:=hF 4 (by simp)
   simp only [e4]at hK |-
   go_simp
   refine(Y6 _ _ X.k2 (jc p) HK2.out (by simp [jc]) w1 (Bs.lift HV.out hJ) hz).mono ?_
   exact m1l
  ·simp only [hD]at hK |-
   obtain⟨A5,c5,e5,_⟩:∃A5 c5,v 5=_/\_:=hF 5 (by simp)
   simp only [e5]at hK |-
   exact mh
  ·simp only [hD]at hK |-
   obtain⟨A5,c5,e5,e6⟩:∃A5 c5,v 5=_/\v 6=_:=hF 6 (by simp)
   simp only [e5,e6]at hK |-
   exact mh
  ·exact m1x
  ·simp only [hD]at hK |-
   obtain⟨A5,c5,e5,e7⟩:∃A5 c5,v 5=_/\v 7=_:=hF 7 (by simp)
   simp only [e5,e7]at hK |-
   exact mh
 case tail=>
  exact m0b
theorem Kb(o:Int)(ho:o=X.own)(w:World):Calls Tryz.prog 84 #[.agg #[.int .i64 X.kd,.slice sA X.sec.length sc,.int .i64 X.pr,.int .i64 X.st,.slice nA X.non.length nc,.int .i64 X.x,.int .i64 X.g,.int .i64 X.own,.int .i64 X.oth,.slice aA X.k1.length ac,.slice bA X.k2.length bc,.int .i64 X.ct],.int .i64 o] w fun e w'=>e=.returned (.tuple #[.agg #[.int .i64 X.kd,.slice sA X.sec.length sc,.int .i64 X.pr,.int .i64 X.st,.slice nA X.non.length nc,.int .i64 X.x,.int .i64 X.g,.int .i64 X.own,.int .i64 X.oth,.slice aA X.k1.length ac,.slice bA X.k2.length bc,.int .i64 X.ct],.int .i64 10])/\Below w.heap.size w w':=by
 obtain⟨w0,hw0⟩:∃w0,w0=(w.alloc (.cells #[.int .i64 X.kd,.slice sA X.sec.length sc,.int .i64 X.pr,.int .i64 X.st,.slice nA X.non.length nc,.int .i64 X.x,.int .i64 X.g,.int .i64 X.own,.int .i64 X.oth,.slice aA X.k1.length ac,.slice bA X.k2.length bc,.int .i64 X.ct] 48)).alloc (.cells #[.int .i64 0,.slice none 0 0,.int .i64 0,.int .i64 0,.slice none 0 0,.int .i64 0,.int .i64 0,.int .i64 0,.int .i64 0,.slice none 0 0,.slice none 0 0,.int .i64 0] 48):=⟨_,rfl⟩
 have hb0:Below w.heap.size w w0:=by rw [hw0];exact(iA).alloc (by simp) _
 have hz0:w0.heap.size=w.heap.size+2:=by rw [hw0];simp
 have FR:Hid (w0.heap[w.heap.size]?=some (.cells #[.int .i64 X.kd,.slice sA X.sec.length sc,.int .i64 X.pr,.int .i64 X.st,.slice nA X.non.length nc,.int .i64 X.x,.int .i64 X.g,.int .i64 X.own,.int .i64 X.oth,.slice aA X.k1.length ac,.slice bA X.k2.length bc,.int .i64 X.ct] 48 (0,0))):=iH (by rw [hw0];exact(Below.heap_alloc _ _ _ (by simp)).trans (iN))
 have FZ:Hid (w0.heap[w.heap.size+1]?=some (.cells #[.int .i64 0,.slice none 0 0,.int .i64 0,.int .i64 0,.slice none 0 0,.int .i64 0,.int .i64 0,.int .i64 0,.int .i64 0,.slice none 0 0,.slice none 0 0,.int .i64 0] 48 (0,0))):=iH (by rw [hw0];exact(show((w.alloc (.cells #[.int .i64 X.kd,.slice sA X.sec.length sc,.int .i64 X.pr,.int .i64 X.st,.slice nA X.non.length nc,.int .i64 X.x,.int .i64 X.g,.int .i64 X.own,.int .i64 X.oth,.slice aA X.k1.length ac,.slice bA X.k2.length bc,.int .i64 X.ct] 48)).alloc (.cells #[.int .i64 0,.slice none 0 0,.int .i64 0,.int .i64 0,.slice none 0 0,.int .i64 0,.int .i64 0,.int .i64 0,.int .i64 0,.slice none 0 0,.slice none 0 0,.int .i64 0] 48)).heap[w.heap.size+1]?=_ from by have:=heap_alloc_new (w.alloc (.cells #[.int .i64 X.kd,.slice sA X.sec.length sc,.int .i64 X.pr,.int .i64 X.st,.slice nA X.non.length nc,.int .i64 X.x,.int .i64 X.g,.int .i64 X.own,.int .i64 X.oth,.slice aA X.k1.length ac,.slice bA X.k2.length bc,.int .i64 X.ct] 48)) (.cells #[.int .i64 0,.slice none 0 0,.int .i64 0,.int .i64 0,.slice none 0 0,.int .i64 0,.int .i64 0,.int .i64 0,.int .i64 0,.slice none 0 0,.slice none 0 0,.int .i64 0] 48);simpa using this))
 have HW0:=iH hw0;have HB0:=iH hb0;have HSZ:=iH hz0
 have t1:(o==X.own)=true:=by simp [ho]
 obtain⟨f0,f1,f2,f3,f4,f5,f6,f7,f8,f9,f10,f11,ff⟩:=j4 FR.out
 obtain⟨z0,z1,z2,z3,z4,z5,z6,z7,z8,z9,z10,z11,zf⟩:=j4 FZ.out
 have zf0:=zf 0;have zf1:=zf 1;have zf2:=zf 2;have zf3:=zf 3;have zf4:=zf 4;have zf5:=zf 5;have zf6:=zf 6;have zf7:=zf 7;have zf8:=zf 8;have zf9:=zf 9;have zf10:=zf 10;have zf11:=zf 11
 clear hw0 hb0 hz0 ho ff zf
 go_enter Tryz.func84,Tryz.ntmps84
 go_upto_region 1 with fail
 rw [<-HW0.out]
 go_wp2_with fail
 obtain⟨y0,y1,y2,y3,y4,y5,y6,y7,y8,y9,y10,y11,yf⟩:=j4 ((PtW.start FZ.out).set12 (.int .i64 X.kd) (.slice sA X.sec.length sc) (.int .i64 X.pr) (.int .i64 X.st) (.slice nA X.non.length nc) (.int .i64 X.x) (.int .i64 X.g) (.int .i64 X.own) (.int .i64 X.oth) (.slice aA X.k1.length ac) (.slice bA X.k2.length bc) (.int .i64 X.ct)).1
 have hbel:=iH (HB0.out.trans (Below.mono (((PtW.start FZ.out).set12 (.int .i64 X.kd) (.slice sA X.sec.length sc) (.int .i64 X.pr) (.int .i64 X.st) (.slice nA X.non.length nc) (.int .i64 X.x) (.int .i64 X.g) (.int .i64 X.own) (.int .i64 X.oth) (.slice aA X.k1.length ac) (.slice bA X.k2.length bc) (.int .i64 X.ct)).2.2) (Nat.le_succ _)))
 unfold Go.Proofs.YtalmmiojbmpmiaaGreatDoor.set12 at y0 y1 y2 y3 y4 y5 y6 y7 y8 y9 y10 y11 hbel
 refine bodyPost_ret (v:=.tuple #[.agg #[.int .i64 X.kd,.slice sA X.sec.length sc,.int .i64 X.pr,.int .i64 X.st,.slice nA X.non.length nc,.int .i64 X.x,.int .i64 X.g,.int .i64 X.own,.int .i64 X.oth,.slice aA X.k1.length ac,.slice bA X.k2.length bc,.int .i64 X.ct],.int .i64 10]) (by simp [results,Tryz.results84,go_sem,y0,y1,y2,y3,y4,y5,y6,y7,y8,y9,y10,y11]) rfl ?_
 exact⟨rfl,hbel.out⟩
theorem Q5(o:Int)(ho:¬o=X.own)(hoe:0<=o/\o<2147483579)(hx:0<=X.x/\X.x<=1073741789)(w:World)(hK:KR w):Calls Tryz.prog 84 #[.agg #[.int .i64 X.kd,.slice sA X.sec.length sc,.int .i64 X.pr,.int .i64 X.st,.slice nA X.non.length nc,.int .i64 X.x,.int .i64 X.g,.int .i64 X.own,.int .i64 X.oth,.slice aA X.k1.length ac,.slice bA X.k2.length bc,.int .i64 X.ct],.int .i64 o] w fun e w'=>∃aB bB ad bd,e=.returned (.tuple #[.agg #[.int .i64 X.kd,.slice sA X.sec.length sc,.int .i64 X.pr,.int .i64 X.st,.slice nA X.non.length nc,.int .i64 X.x,.int .i64 X.g,.int .i64 X.own,.int .i64 o,.slice aB 16 ad,.slice bB 16 bd,.int .i64 0],.int .i64 0])/\BsS w' (New w w') (.slice aB 16 ad) (zw (jc (jN o X.x)) 1)/\BsS w' (New w w') (.slice bB 16 bd) (zw (jc (jN o X.x)) 2)/\Below w.heap.size w w':=by
 obtain⟨w0,hw0⟩:∃w0,w0=(w.alloc (.cells #[.int .i64 X.kd,.slice sA X.sec.length sc,.int .i64 X.pr,.int .i64 X.st,.slice nA X.non.length nc,.int .i64 X.x,.int .i64 X.g,.int .i64 X.own,.int .i64 X.oth,.slice aA X.k1.length ac,.slice bA X.k2.length bc,.int .i64 X.ct] 48)).alloc (.cells #[.int .i64 0,.slice none 0 0,.int .i64 0,.int .i64 0,.slice none 0 0,.int .i64 0,.int .i64 0,.int .i64 0,.int .i64 0,.slice none 0 0,.slice none 0 0,.int .i64 0] 48):=⟨_,rfl⟩
 have hb0:Below w.heap.size w w0:=by rw [hw0];exact(iA).alloc (by simp) _
 have hz0:w0.heap.size=w.heap.size+2:=by rw [hw0];simp
 have FR:Hid (w0.heap[w.heap.size]?=some (.cells #[.int .i64 X.kd,.slice sA X.sec.length sc,.int .i64 X.pr,.int .i64 X.st,.slice nA X.non.length nc,.int .i64 X.x,.int .i64 X.g,.int .i64 X.own,.int .i64 X.oth,.slice aA X.k1.length ac,.slice bA X.k2.length bc,.int .i64 X.ct] 48 (0,0))):=iH (by rw [hw0];exact(Below.heap_alloc _ _ _ (by simp)).trans (iN))
 have FZ:Hid (w0.heap[w.heap.size+1]?=some (.cells #[.int .i64 0,.slice none 0 0,.int .i64 0,.int .i64 0,.slice none 0 0,.int .i64 0,.int .i64 0,.int .i64 0,.int .i64 0,.slice none 0 0,.slice none 0 0,.int .i64 0] 48 (0,0))):=iH (by rw [hw0];exact(show((w.alloc (.cells #[.int .i64 X.kd,.slice sA X.sec.length sc,.int .i64 X.pr,.int .i64 X.st,.slice nA X.non.length nc,.int .i64 X.x,.int .i64 X.g,.int .i64 X.own,.int .i64 X.oth,.slice aA X.k1.length ac,.slice bA X.k2.length bc,.int .i64 X.ct] 48)).alloc (.cells #[.int .i64 0,.slice none 0 0,.int .i64 0,.int .i64 0,.slice none 0 0,.int .i64 0,.int .i64 0,.int .i64 0,.int .i64 0,.slice none 0 0,.slice none 0 0,.int .i64 0] 48)).heap[w.heap.size+1]?=_ from by have:=heap_alloc_new (w.alloc (.cells #[.int .i64 X.kd,.slice sA X.sec.length sc,.int .i64 X.pr,.int .i64 X.st,.slice nA X.non.length nc,.int .i64 X.x,.int .i64 X.g,.int .i64 X.own,.int .i64 X.oth,.slice aA X.k1.length ac,.slice bA X.k2.length bc,.int .i64 X.ct] 48)) (.cells #[.int .i64 0,.slice none 0 0,.int .i64 0,.int .i64 0,.slice none 0 0,.int .i64 0,.int .i64 0,.int .i64 0,.int .i64 0,.slice none 0 0,.slice none 0 0,.int .i64 0] 48);simpa using this))
 have HW0:=iH hw0;have HB0:=iH hb0;have HSZ:=iH hz0
 have HPW:=iH (Kk o X.x hoe hx)
 have hgi:=zG o X.x
 obtain⟨H,hH⟩:∃H,jN o X.x=H:=⟨_,rfl⟩
 rw [hH]at HPW hgi |-
 have HEN:=iH (zK H hgi)
 have HK:Hid (∀W,Below w.heap.size w W->KR W):=iH (fun W h=>hK.below h hK.lt)
 have t1:(o==X.own)=false:=by simp [ho]
 obtain⟨f0,f1,f2,f3,f4,f5,f6,f7,f8,f9,f10,f11,ff⟩:=j4 FR.out
 have fx:=ff 8
 clear hw0 hb0 hz0 ho ff hK hoe hx hgi hH
 go_enter Tryz.func84,Tryz.ntmps84
 go_upto_region 1 with fail
 rw [<-HW0.out]
 go_upto_region 4 with fail
 obtain⟨w1,hw⟩:∃z,z=w0.setCell ⟨w.heap.size,8,none⟩ (.int .i64 o):=⟨_,rfl⟩
 rw [<-hw]
 have hp:PtW (w.heap.size) w0 w1 #[.int .i64 X.kd,.slice sA X.sec.length sc,.int .i64 X.pr,.int .i64 X.st,.slice nA X.non.length nc,.int .i64 X.x,.int .i64 X.g,.int .i64 X.own,.int .i64 o,.slice aA X.k1.length ac,.slice bA X.k2.length bc,.int .i64 X.ct]:=by rw [hw];exact(PtW.start FR.out).set 8 _
 have HP1:=iH hp
 obtain⟨g0,g1,g2,g3,g4,g5,g6,g7,g8,g9,g10,g11,gf⟩:=j4 hp.1
 clear hw hp f0 f1 f2 f3 f4 f5 f6 f7 f8 f9 f10 f11 fx gf
 go_upto_region 7 with (first
  |(go_at_call 61;refine iR (HPW.out _) ?_)
  |(go_at_call 83;refine(HEN.out _).mono ?_;rintro e w2 ⟨A2,c2,rfl,hs,hb⟩;have GE2:=iH (hs.madeB HP1.out.lt);have hp:=HP1.out.call hb;have HP2:=iH hp;clear hs hb hp)
  |(go_at_call 50;refine(yq 2 (by omega) (by omega) _ (jc H) w3 (HK.out w3 (HB0.out.trans HP3.out.2.2)) GE3.out.loB (by simp [jc])).mono ?_;rintro e w4 ⟨v4,rfl,hs,hb⟩;obtain⟨A4,c4,hv4⟩:=Bs.formL hs;rw [jL]at hv4;subst hv4;have GB4:=iH (hs.madeB HP3.out.lt);have GA4:=iH (GA3.out.onB hb);have hp:=HP3.out.call hb;have HP4:=iH hp;clear hs hb hp)
  |(go_at_call 50;refine(yq 1 (by omega) (by omega) _ (jc H) w2 (HK.out w2 (HB0.out.trans HP2.out.2.2)) GE2.out.loB (by simp [jc])).mono ?_;rintro e w3 ⟨v3,rfl,hs,hb⟩;obtain⟨A3,c3,hv3⟩:=Bs.formL hs;rw [jL]at hv3;subst hv3;have GA3:=iH (hs.madeB HP2.out.lt);have GE3:=iH (GE2.out.onB hb);have hp:=HP2.out.call hb;have HP3:=iH hp;clear hs hb hp))
 go_upto_region 8 with (go_at_call 136;refine(Yd _ _ _ _ 0 w4 GA4.out.loB GB4.out.loB (jL _ _) (jL _ _) (by omega) (by omega)).mono ?_;rintro e w5 ⟨v5,rfl,⟨aB,ad,bB,bd,rfl,k1,k2⟩,hb⟩;have GA5:=iH k1;have GB5:=iH k2;have hp:=HP4.out.call hb;have HP5:=iH hp;obtain⟨f0,f1,f2,f3,f4,f5,f6,f7,f8,f9,f10,f11,ff⟩:=j4 hp.1;have x9:=ff 9;have x10:=ff 10;have x11:=ff 11;clear k1 k2 hb hp ff g0 g1 g2 g3 g4 g5 g6 g7 g8 g9 g10 g11)
 obtain⟨w6,hw⟩:∃z,z=((w5.setCell ⟨w.heap.size,9,none⟩ (.slice aB 16 ad)).setCell ⟨w.heap.size,10,none⟩ (.slice bB 16 bd)).setCell ⟨w.heap.size,11,none⟩ (.int .i64 0):=⟨_,rfl⟩
 rw [<-hw]
 have hp:PtW (w.heap.size) w0 w6 #[.int .i64 X.kd,.slice sA X.sec.length sc,.int .i64 X.pr,.int .i64 X.st,.slice nA X.non.length nc,.int .i64 X.x,.int .i64 X.g,.int .i64 X.own,.int .i64 o,.slice aB 16 ad,.slice bB 16 bd,.int .i64 0]:=by rw [hw];exact((HP5.out.set 9 _).set 10 _).set 11 _
 have hp5:PtW (w.heap.size) w5 w6 #[.int .i64 X.kd,.slice sA X.sec.length sc,.int .i64 X.pr,.int .i64 X.st,.slice nA X.non.length nc,.int .i64 X.x,.int .i64 X.g,.int .i64 X.own,.int .i64 o,.slice aB 16 ad,.slice bB 16 bd,.int .i64 0]:=by rw [hw];exact(((PtW.start HP5.out.1).set 9 _).set 10 _).set 11 _
 have HP6:=iH hp;have HP56:=iH hp5
 have hz6:w6.heap[w.heap.size+1]?=some (.cells #[.int .i64 0,.slice none 0 0,.int .i64 0,.int .i64 0,.slice none 0 0,.int .i64 0,.int .i64 0,.int .i64 0,.int .i64 0,.slice none 0 0,.slice none 0 0,.int .i64 0] 48 (0,0)):=(hp.2.1.block _ (by have:=HSZ.out;omega) (by intro e;injection e with e;omega)).trans FZ.out
 have HZ6:=iH (PtW.start hz6)
 clear hw f0 f1 f2 f3 f4 f5 f6 f7 f8 f9 f10 f11 x9 x10 x11
 obtain⟨f0,f1,f2,f3,f4,f5,f6,f7,f8,f9,f10,f11,ff⟩:=j4 hp.1
 obtain⟨z0,z1,z2,z3,z4,z5,z6,z7,z8,z9,z10,z11,zf⟩:=j4 hz6
 have zf0:=zf 0;have zf1:=zf 1;have zf2:=zf 2;have zf3:=zf 3;have zf4:=zf 4;have zf5:=zf 5;have zf6:=zf 6;have zf7:=zf 7;have zf8:=zf 8;have zf9:=zf 9;have zf10:=zf 10;have zf11:=zf 11
 clear hp hp5 hz6 ff zf
 go_wp2_with fail
 obtain⟨y0,y1,y2,y3,y4,y5,y6,y7,y8,y9,y10,y11,yf⟩:=j4 (HZ6.out.set12 (.int .i64 X.kd) (.slice sA X.sec.length sc) (.int .i64 X.pr) (.int .i64 X.st) (.slice nA X.non.length nc) (.int .i64 X.x) (.int .i64 X.g) (.int .i64 X.own) (.int .i64 o) (.slice aB 16 ad) (.slice bB 16 bd) (.int .i64 0)).1
 obtain⟨w7,hw⟩:∃z,z=set12 w6 (w.heap.size+1) (.int .i64 X.kd) (.slice sA X.sec.length sc) (.int .i64 X.pr) (.int .i64 X.st) (.slice nA X.non.length nc) (.int .i64 X.x) (.int .i64 X.g) (.int .i64 X.own) (.int .i64 o) (.slice aB 16 ad) (.slice bB 16 bd) (.int .i64 0):=⟨_,rfl⟩
 have h7:PtW (w.heap.size+1) w6 w7 #[.int .i64 X.kd,.slice sA X.sec.length sc,.int .i64 X.pr,.int .i64 X.st,.slice nA X.non.length nc,.int .i64 X.x,.int .i64 X.g,.int .i64 X.own,.int .i64 o,.slice aB 16 ad,.slice bB 16 bd,.int .i64 0]:=by rw [hw];exact HZ6.out.set12 (.int .i64 X.kd) (.slice sA X.sec.length sc) (.int .i64 X.pr) (.int .i64 X.st) (.slice nA X.non.length nc) (.int .i64 X.x) (.int .i64 X.g) (.int .i64 X.own) (.int .i64 o) (.slice aB 16 ad) (.slice bB 16 bd) (.int .i64 0)
 have HP7:=iH h7
 unfold Go.Proofs.YtalmmiojbmpmiaaGreatDoor.set12 at y0 y1 y2 y3 y4 y5 y6 y7 y8 y9 y10 y11 hw
 refine bodyPost_ret (v:=.tuple #[.agg #[.int .i64 X.kd,.slice sA X.sec.length sc,.int .i64 X.pr,.int .i64 X.st,.slice nA X.non.length nc,.int .i64 X.x,.int .i64 X.g,.int .i64 X.own,.int .i64 o,.slice aB 16 ad,.slice bB 16 bd,.int .i64 0],.int .i64 0]) (by simp [results,Tryz.results84,go_sem,y0,y1,y2,y3,y4,y5,y6,y7,y8,y9,y10,y11]) rfl ?_
 rw [<-hw]
 have key:∀ {u:Value} {m:List UInt8},BsS w5 (New w4 w5) u m->BsS w7 (New w w7) u m:=fun h=>h.keep fun g hg hl=>by
  have h1:=hg.1
  have h2:=HP4.out.lt
  have h3:=HP4.out.2.1.size
  have h4:=HSZ.out
  have h5:=HP56.out.2.1.size
  have h6:=HP7.out.2.1.size
  exact⟨(HP7.out.2.1.block g (by omega) (by intro e;injection e with e;omega)).trans (HP56.out.2.1.block g hl (by intro e;injection e with e;omega)),by omega,by omega⟩
 exact⟨_,_,_,_,rfl,key GA5.out,key GB5.out,(HB0.out.trans HP6.out.2.2).trans (HP7.out.2.2.mono (Nat.le_succ _))⟩
end
abbrev j80(q g:Nat)(W:World):Nat->Prop:=fun b=>b<W.heap.size/\b≠q/\b≠g
structure RS (w:World) (gy:Nat) (xr yr:Array Value) (L:List (Value×List UInt8)) (W:World):Prop where
 bel:Below w.heap.size w W
 rx:W.heap[w.heap.size]?=some (.cells xr 48 (0,0))
 rz:W.heap[w.heap.size+1]?=some (.cells #[.int .i64 0,.slice none 0 0,.int .i64 0,.int .i64 0,.slice none 0 0,.int .i64 0,.int .i64 0,.int .i64 0,.int .i64 0,.slice none 0 0,.slice none 0 0,.int .i64 0] 48 (0,0))
 ry:W.heap[gy]?=some (.cells yr 48 (0,0))
 gy2:w.heap.size+2<=gy
 all:∀x∈L,BsS W (j80 (w.heap.size+1) gy W) x.1 x.2
section
variable {w W W' wz:World} {gy:Nat} {xr yr:Array Value} {L:List (Value×List UInt8)} {v:Value} {l:List UInt8}
section
variable(h:RS w gy xr yr L W)
include h
theorem RS.lt:gy<W.heap.size:=lt_of_block h.ry
theorem RS.on(hb:Below W.heap.size W W'):RS w gy xr yr L W':=
 ⟨h.bel.trans (hb.mono h.bel.size),(hb.block _ (lt_of_block h.rx)).trans h.rx,(hb.block _ (lt_of_block h.rz)).trans h.rz,(hb.block _ h.lt).trans h.ry,h.gy2,fun x hx=>(h.all x hx).keep fun b hs hl=>⟨hb.block b hl,iZ hl hb.size,hs.2⟩⟩
theorem RS.add(hp:gy<wz.heap.size)(hv:BsS W (New wz W) v l):RS w gy xr yr ((v,l) :: L) W:=
 ⟨h.bel,h.rx,h.rz,h.ry,h.gy2,fun x hx=>by
  rcases List.mem_cons.1 hx with rfl|hx
  ·exact hv.keep fun b hs hl=>⟨rfl,hl,by have:=hs.1;have:=h.gy2;omega,by have:=hs.1;omega⟩
  ·exact h.all x hx⟩
section
variable(i:Nat)(hi:L[i]?=some (v,l))
include i hi
theorem RS.at:BsS W (j80 (w.heap.size+1) gy W) v l:=h.all (v,l) (List.mem_of_getElem? hi)
theorem RS.lo:Bs W W.heap.size v l:=BsS.keep (h.at i hi) fun b hs _=>⟨rfl,hs.1⟩
theorem RS.offP:BsS W (j7 (w.heap.size+1) W) v l:=(h.at i hi).keep fun b hs _=>⟨rfl,hs.1,hs.2.1⟩
end
theorem RS.set(i:Nat)(u:Value):RS w gy xr (yr.set! i u) L (W.setCell ⟨gy,i,none⟩ u):=
 ⟨h.bel.setCell (by have:=h.gy2;show w.heap.size<=gy;omega) _,(iO (by have:=h.gy2;show _≠gy;omega)).trans h.rx,(iO (by have:=h.gy2;show _≠gy;omega)).trans h.rz,ky (o:=i) h.ry,h.gy2,
  fun x hx=>(h.all x hx).keep fun b hs hl=>⟨iO hs.2.2,by simpa [World.setCell]using hl,hs.2⟩⟩
end
theorem RS.fill{a' b' c' d' e' f' g' h' i' j' k' l':Value}(hr:RS w gy xr #[a',b',c',d',e',f',g',h',i',j',k',l'] L W)(a b c d e f g h i j k l:Value):RS w gy xr #[a,b,c,d,e,f,g,h,i,j,k,l] L (set12 W gy a b c d e f g h i j k l):=by
 have h0:=(((((((((((hr.set 0 a).set 1 b).set 2 c).set 3 d).set 4 e).set 5 f).set 6 g).set 7 h).set 8 i).set 9 j).set 10 k).set 11 l
 exact m2a
theorem RS.start(hb:Below w.heap.size w W)(hx:W.heap[w.heap.size]?=some (.cells xr 48 (0,0)))(hz:W.heap[w.heap.size+1]?=some (.cells #[.int .i64 0,.slice none 0 0,.int .i64 0,.int .i64 0,.slice none 0 0,.int .i64 0,.int .i64 0,.int .i64 0,.int .i64 0,.slice none 0 0,.slice none 0 0,.int .i64 0] 48 (0,0)))(hs:w.heap.size+2<=W.heap.size)(hL:∀x∈L,BsS W (j7 (w.heap.size+1) W) x.1 x.2):
 RS w W.heap.size xr yr L (W.alloc (.cells yr 48)):=
 ⟨hb.alloc hb.size _,(Below.heap_alloc _ _ _ (lt_of_block hx)).trans hx,(Below.heap_alloc _ _ _ (lt_of_block hz)).trans hz,iN,hs,fun x hx=>(hL x hx).keep fun b h hl=>⟨Below.heap_alloc _ _ _ hl,by simp;omega,h.2,by omega⟩⟩
end
def PtA(P:Nat)(w W:World):Prop:=∃a b c d e f g h i j k l:Value,PtW P w W #[a,b,c,d,e,f,g,h,i,j,k,l]
section
variable{P:Nat}{w W:World}(h:PtA P w W)
include P w W h
theorem PtA.gr:w.grownBy W (some P):=by obtain⟨a,b,c,d,e,f,g,h,i,j,k,l,hp⟩:=h;exact hp.2.1
theorem PtA.bel:Below P w W:=by obtain⟨a,b,c,d,e,f,g,h,i,j,k,l,hp⟩:=h;exact hp.2.2
theorem PtA.lt:P<W.heap.size:=by obtain⟨a,b,c,d,e,f,g,h,i,j,k,l,hp⟩:=h;exact hp.lt
end
theorem PtA.call{P:Nat}{w W W':World}(h:PtA P w W)(hb:Below W.heap.size W W'):PtA P w W':=by
 obtain⟨a,b,c,d,e,f,g,h,i,j,k,l,hp⟩:=h
 exact⟨_,_,_,_,_,_,_,_,_,_,_,_,hp.call hb⟩
def RO(P:Nat)(row:Array Value)(w1 w2:World):Prop:=w1.grownBy w2 (some P)/\(w1.heap[P]?=some (.cells row 48 (0,0))->w2.heap[P]?=some (.cells row 48 (0,0)))
theorem j8j(st:Int)(h:st=0\/st=1\/st=2\/st=3)(w:World):(Instr.index 64 (.agg #[.int .i64 0,.int .i64 129,.int .i64 131,.int .i64 133]) (.int .i64 st)).run Tryz.prog w=.ok (.int .i64 (zS st)) w:=by
 rcases h with rfl|rfl|rfl|rfl<;>kernel_rfl
theorem j3p(X:Exg)(h:X.st=0\/X.st=1\/X.st=2\/X.st=3)(B:List UInt8)(v:Value)(w:World)(hv:Bs w w.heap.size v B):Calls Tryz.prog 78 #[v,.int .i64 (zS X.st),.int .i64 (JB X.pr (X.st+1) false)] w (ValOut (kw B (zS X.st) (Qd X)) w):=by
 by_cases h0:X.st=0
 ·have e:JB X.pr (X.st+1) false=((16:Nat):Int):=by unfold JB;rw [iT (by omega)]<;>rfl
  have e0:zS X.st=0:=by unfold zS;rw [iT h0]
  have ev:kw B 0 (Qd X)=kw B 0 16:=by unfold kw;split<;>first|rfl|(unfold Kq;rfl)
  rw [e,e0,ev]
  exact Vh 16 B v w hv
 ·have e:JB X.pr (X.st+1) false=((Qd X:Nat):Int):=by
   unfold JB Qd
   rw [iF (by omega)]
   rcases h with h|h|h|h
   ·omega
   ·rw [iT (by omega),iT h];split<;>rfl
   ·rw [iF (by omega),iF (by omega),iF (by omega),iF (by omega)]<;>rfl
   ·rw [iF (by omega),iT (by omega),iF (by omega),iT h]<;>rfl
  rw [e]
  exact Zx (zS X.st) (by unfold zS;rw [iF h0];omega) _ B v w hv
theorem sdL(s:List UInt8):(sdW s).length=32:=by unfold sdW;exact je _
theorem xd(s:List UInt8):(js s 16).length=16:=by unfold js;rw [List.length_take,je]<;>rfl
theorem xP(s DN SD:List UInt8)(hd:js s 16=DN)(hsd:sdW s=SD)(hl:s.length<=140737488351232)(v:Value)(w:World)(hK:KR w)(hv:Bs w w.heap.size v s):Calls Tryz.prog 80 #[v,.int .i64 16] w fun e w'=>∃A c B d,e=.returned (.tuple #[.slice A DN.length c,.slice B SD.length d,.int .i64 0])/\BsS w' (New w w') (.slice A DN.length c) DN/\BsS w' (New w w') (.slice B SD.length d) SD/\Below w.heap.size w w':=by
 have h1:DN.length=16:=by rw [<-hd];exact xd s
 have h2:SD.length=32:=by rw [<-hsd];exact sdL s
 rw [h1,h2,<-hd,<-hsd]
 exact Zc 16 (by omega) (by omega) v s w hK hv (by omega)
theorem qp(s SD:List UInt8)(K:Int)(hk:jY s=K)(hsd:sdW s=SD)(hl:s.length<=140737488351232)(v:Value)(w:World)(hK:KR w)(hv:Bs w w.heap.size v s):Calls Tryz.prog 82 #[v] w fun e w'=>∃B d,e=.returned (.tuple #[.int .i64 K,.slice B SD.length d])/\BsS w' (New w w') (.slice B SD.length d) SD/\Below w.heap.size w w':=by
 have h2:SD.length=32:=by rw [<-hsd];exact sdL s
 rw [h2,<-hk,<-hsd]
 exact Zd v s w hK hv (by omega)
theorem Jf(s:List UInt8):0<=jY s/\jY s<=1073741789:=by
 have:=Jc (yy s)
 omega
end Go.Proofs.YtalmmiojbmpmiaaGreatDoor
