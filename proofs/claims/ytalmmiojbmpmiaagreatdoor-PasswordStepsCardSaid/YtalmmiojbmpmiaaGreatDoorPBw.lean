/- Layer 21: which exchanges are usable, on both sides; Layer 21: the reference's size, token, agree; Layer 21: words for the steps of the reference; Layer 21: ... -/
import Derived.Test.YtalmmiojbmpmiaaGreatDoorPBr
set_option linter.all false
set_option maxRecDepth 100000
set_option maxHeartbeats 64000000
namespace Go.Proofs.YtalmmiojbmpmiaaGreatDoor
open Go.RowKit Go.Deep
theorem YT(X:Exg)(sA nA aA bA:Option Addr)(sc nc ac bc:Nat)(w:World)(h1:Bs w w.heap.size (.slice aA X.k1.length ac) X.k1)(h2:Bs w w.heap.size (.slice bA X.k2.length bc) X.k2)(l1:X.k1.length<=140737488351232)(l2:X.k2.length<=140737488351232):Calls Tryz.prog 76 #[.agg #[.int .i64 X.kd,.slice sA X.sec.length sc,.int .i64 X.pr,.int .i64 X.st,.slice nA X.non.length nc,.int .i64 X.x,.int .i64 X.g,.int .i64 X.own,.int .i64 X.oth,.slice aA X.k1.length ac,.slice bA X.k2.length bc,.int .i64 X.ct],.bool true] w fun e w'=>e=.returned (.bool (usC X))/\Below w.heap.size w w':=by
 obtain⟨w0,hw0⟩:∃w0,w0=w.alloc (.cells (exX X sA nA aA bA sc nc ac bc) 48):=⟨_,rfl⟩
 have HB0:Hid (Below w.heap.size w w0):=iH (by rw [hw0];exact jo _ _)
 have FR:Hid (∀W,Below w0.heap.size w0 W->W.heap[w.heap.size]?=some (.cells (exX X sA nA aA bA sc nc ac bc) 48 (0,0))):=iH (fun W h=>(h.block w.heap.size (by rw [hw0];simp)).trans (by rw [hw0];exact iN))
 have HW0:=iH hw0
 have HP:=iH (jY X.kd X.sec sA sc w0)
 have HA:=iH (h1.lift HB0.out);have HB:=iH (h2.lift HB0.out);have HL:=iH (And.intro l1 l2)
 have f:=j4 (FR.out w0 iB)
 clear hw0 h1 h2 l1 l2
 rcases hv:vPw X.kd X.sec with _|_
 ·rw [hv]at HP
  have hb:kj X=false:=by unfold kj;rw [hv]<;>rfl
  have R:=iH (show usC X=false by simp [usC,usT,hb])
  clear hv hb
  go_enter Tryz.func76,Tryz.ntmps76
  go_upto_region 1 with fail
  rw [<-HW0.out]
  go_wp2_with(go_at_call 48;refine HP.out.mono ?_;rintro e w1 ⟨rfl,hb⟩;have HB1:=iH hb;have g:=j4 (FR.out w1 hb);clear hb)
  go_ret
  rw [R.out]
  exact⟨rfl,HB0.out.trans (HB1.out.mono HB0.out.size)⟩
 rw [hv]at HP
 by_cases hp:X.pr=2\/X.pr=3
 case neg=>
  have hb:kj X=false:=by unfold kj;rw [hv,decide_eq_false hp]<;>rfl
  have R:=iH (show usC X=false by simp [usC,usT,hb])
  have e5:(X.pr != 2)=true:=by simp;omega
  have e6:(X.pr != 3)=true:=by simp;omega
  clear hv hb hp
  go_enter Tryz.func76,Tryz.ntmps76
  go_upto_region 1 with fail
  rw [<-HW0.out]
  go_wp2_with(go_at_call 48;refine HP.out.mono ?_;rintro e w1 ⟨rfl,hb⟩;have HB1:=iH hb;have g:=j4 (FR.out w1 hb);clear hb)
  go_ret
  rw [R.out]
  exact⟨rfl,HB0.out.trans (HB1.out.mono HB0.out.size)⟩
 have hb:kj X=true:=by unfold kj;rw [hv,decide_eq_true hp]<;>rfl
 have HPR:=iH hp
 clear hv hp
 go_enter Tryz.func76,Tryz.ntmps76
 go_upto_region 1 with fail
 rw [<-HW0.out]
 go_cut [19] from 6 to 19 (fun y wc=>y=.bool false/\Below w0.heap.size w0 wc)
 case first=>
  rcases HPR.out with hp|hp
  ·have e5:(X.pr != 2)=false:=by simp [hp]
   clear hp
   go_wp2_with(go_at_call 48;refine HP.out.mono ?_;rintro e w1 ⟨rfl,hb⟩;have HB1:=iH hb;have g:=j4 (FR.out w1 hb);clear hb)
   go_meet
   exact⟨rfl,HB1.out⟩
  ·have e5:(X.pr != 2)=true:=by simp [hp]
   have e6:(X.pr != 3)=false:=by simp [hp]
   clear hp
   go_wp2_with(go_at_call 48;refine HP.out.mono ?_;rintro e w1 ⟨rfl,hb⟩;have HB1:=iH hb;have g:=j4 (FR.out w1 hb);clear hb)
   go_meet
   exact⟨rfl,HB1.out⟩
 case rest=>
 obtain⟨rfl,hbc⟩:=hcut
 clear f
 have f:=j4 (FR.out _ hbc)
 have HB1:=iH hbc
 clear hbc
 go_upto_region 3 with fail
 go_cut [5] from 20 to 32 (fun y wd=>y=.bool (qe X)/\Below w0.heap.size w0 wd)
 case first=>
  rcases ho:jk X.own with _|_
  ·have R:Hid (qe X=false):=iH (by unfold qe;rw [ho]<;>rfl)
   have HO:=iH ho
   clear ho
   go_wp2_with(go_at_call 29;refine iR (jL _ _) ?_;try(first|rw [HO.out]|rw [HT.out]|rw [HG.out]))
   go_meet
   exact⟨by rw [R.out],HB1.out⟩
  have HO:=iH ho
  rcases ht:jk X.oth with _|_
  ·have R:Hid (qe X=false):=iH (by unfold qe;rw [ho,ht]<;>rfl)
   have HT:=iH ht
   clear ho ht
   go_wp2_with(go_at_call 29;refine iR (jL _ _) ?_;try(first|rw [HO.out]|rw [HT.out]|rw [HG.out]))
   go_meet
   exact⟨by rw [R.out],HB1.out⟩
  ·have R:Hid (qe X=vS X.k1 X.k2 X.ct):=iH (by unfold qe;rw [ho,ht]<;>rfl)
   have HT:=iH ht
   clear ho ht
   go_wp2_with(first|(go_at_call 29;refine iR (jL _ _) ?_;try(first|rw [HO.out]|rw [HT.out]|rw [HG.out]))|(go_at_call 40;refine(K5 _ X.k1 X.k2 X.ct _ _ ⟨_,_,rfl,HA.out.lift HB1.out,HB.out.lift HB1.out⟩).mono ?_;rintro e w2 ⟨rfl,hb⟩;have HB2:=iH (HB1.out.trans (hb.mono HB1.out.size));clear hb))
   go_meet
   exact⟨by rw [R.out],HB2.out⟩
 case rest=>
 obtain⟨rfl,hbd⟩:=hcut
 clear f
 have f:=j4 (FR.out _ hbd)
 have HC:=iH hbd
 clear hbd
 by_cases s1:X.st<1
 ·have s2:X.st<2:=by omega
  have s3:X.st<3:=by omega
  have R:=iH (show usC X=true by simp [usC,hb,s1,s2,s3])
  clear hb
  go_wp2_with fail
  go_ret
  rw [R.out]
  exact⟨rfl,HB0.out.trans (HC.out.mono HB0.out.size)⟩
 by_cases hn:X.non.length=16
 ·have t1:((X.non.length:Int)==16)=true:=by simp;omega
  by_cases s2:X.st<2
  ·have s3:X.st<3:=by omega
   have R:=iH (show usC X=true by simp [usC,hb,s1,s2,s3,hn])
   clear hb hn
   go_wp2_with fail
   go_ret
   rw [R.out]
   exact⟨rfl,HB0.out.trans (HC.out.mono HB0.out.size)⟩
  rcases hg:jk X.g with _|_
  ·have HG:=iH hg
   have R:=iH (show usC X=false by simp [usC,hb,s1,s2,hn,hg])
   clear hb hn hg
   go_wp2_with(first
    |(go_at_call 29;refine iR (jL _ _) ?_;try(first|rw [HO.out]|rw [HT.out]|rw [HG.out])))
   go_ret
   rw [R.out]
   exact⟨rfl,HB0.out.trans (HC.out.mono HB0.out.size)⟩
  have HG:=iH hg
  by_cases s3:X.st<3
  ·skip
   have R:=iH (show usC X=true by simp [usC,hb,s1,s2,s3,hn,hg])
   clear hb hn hg
   go_wp2_with(first
    |(go_at_call 29;refine iR (jL _ _) ?_;try(first|rw [HO.out]|rw [HT.out]|rw [HG.out])))
   go_ret
   rw [R.out]
   exact⟨rfl,HB0.out.trans (HC.out.mono HB0.out.size)⟩
  ·have d3:decide (X.st<3)=false:=decide_eq_false s3
   have R:=iH (show usC X=qe X by simp [usC,hb,s1,s2,s3,hn,hg])
   clear hb hn hg
   go_wp2_with(first
    |(go_at_call 29;refine iR (jL _ _) ?_;try(first|rw [HO.out]|rw [HT.out]|rw [HG.out])))
   go_ret
   rw [R.out]
   exact⟨rfl,HB0.out.trans (HC.out.mono HB0.out.size)⟩
 ·have t1:((X.non.length:Int)==16)=false:=by simp;omega
  have R:=iH (show usC X=false by simp [usC,hb,s1,hn])
  clear hb hn
  go_wp2_with fail
  go_ret
  rw [R.out]
  exact⟨rfl,HB0.out.trans (HC.out.mono HB0.out.size)⟩
def Jk(pr st:Int)(c:Bool):Int:=if st=1 then 16 else if st=2 then(if pr=3 then(if c then 0 else 16)else 4)else if st=4 then 8 else 4
theorem KT(X:Exg)(sA nA aA bA:Option Addr)(sc nc ac bc:Nat)(st:Int)(c:Bool)(w:World):Calls Tryz.prog 79 #[.agg #[.int .i64 X.kd,.slice sA X.sec.length sc,.int .i64 X.pr,.int .i64 X.st,.slice nA X.non.length nc,.int .i64 X.x,.int .i64 X.g,.int .i64 X.own,.int .i64 X.oth,.slice aA X.k1.length ac,.slice bA X.k2.length bc,.int .i64 X.ct],.int .i64 st,.bool c] w fun e w'=>e=.returned (.int .i64 (Jk X.pr st c))/\Below w.heap.size w w':=by
 obtain⟨w0,hw0⟩:∃w0,w0=w.alloc (.cells (exX X sA nA aA bA sc nc ac bc) 48):=⟨_,rfl⟩
 have HB0:Hid (Below w.heap.size w w0):=iH (by rw [hw0];exact jo _ _)
 have FR:Hid (∀W,Below w0.heap.size w0 W->W.heap[w.heap.size]?=some (.cells (exX X sA nA aA bA sc nc ac bc) 48 (0,0))):=iH (fun W h=>(h.block w.heap.size (by rw [hw0];simp)).trans (by rw [hw0];exact iN))
 have HW0:=iH hw0
 obtain⟨f0,f1,f2,f3,f4,f5,f6,f7,f8,f9,f10,f11,ff⟩:=j4 (FR.out w0 iB)
 clear hw0 ff
 by_cases s1:st=1
 ·have t1:(st==1)=true:=by simp [s1]
  have R:Hid (Jk X.pr st c=16):=iH (by unfold Jk;rw [iT s1])
  clear s1
  go_enter Tryz.func79,Tryz.ntmps79
  go_upto_region 1 with fail
  rw [<-HW0.out]
  go_wp2_with fail
  go_ret
  rw [R.out]
  exact⟨rfl,HB0.out⟩
 have t1:(st==1)=false:=by simp [s1]
 by_cases s2:st=2
 ·have t2:(st==2)=true:=by simp [s2]
  have t4:(st==4)=false:=by simp [s2]
  by_cases p3:X.pr=3
  ·have tp:(X.pr==3)=true:=by simp [p3]
   cases c
   ·have R:Hid (Jk X.pr st false=16):=iH (by unfold Jk;rw [iF s1,iT s2,iT p3]<;>rfl)
    clear s1 s2 p3
    go_enter Tryz.func79,Tryz.ntmps79
    go_upto_region 1 with fail
    rw [<-HW0.out]
    go_wp2_with fail
    go_ret
    rw [R.out]
    exact⟨rfl,HB0.out⟩
   ·have R:Hid (Jk X.pr st true=0):=iH (by unfold Jk;rw [iF s1,iT s2,iT p3]<;>rfl)
    clear s1 s2 p3
    go_enter Tryz.func79,Tryz.ntmps79
    go_upto_region 1 with fail
    rw [<-HW0.out]
    go_wp2_with fail
    go_ret
    rw [R.out]
    exact⟨rfl,HB0.out⟩
  ·have tp:(X.pr==3)=false:=by simp [p3]
   have R:Hid (Jk X.pr st c=4):=iH (by unfold Jk;rw [iF s1,iT s2,iF p3])
   clear s1 s2 p3
   go_enter Tryz.func79,Tryz.ntmps79
   go_upto_region 1 with fail
   rw [<-HW0.out]
   go_wp2_with fail
   go_ret
   rw [R.out]
   exact⟨rfl,HB0.out⟩
 have t2:(st==2)=false:=by simp [s2]
 by_cases s4:st=4
 ·have t4:(st==4)=true:=by simp [s4]
  have R:Hid (Jk X.pr st c=8):=iH (by unfold Jk;rw [iF s1,iF s2,iT s4])
  clear s1 s2 s4
  go_enter Tryz.func79,Tryz.ntmps79
  go_upto_region 1 with fail
  rw [<-HW0.out]
  go_wp2_with fail
  go_ret
  rw [R.out]
  exact⟨rfl,HB0.out⟩
 have t4:(st==4)=false:=by simp [s4]
 have R:Hid (Jk X.pr st c=4):=iH (by unfold Jk;rw [iF s1,iF s2,iF s4])
 clear s1 s2 s4
 go_enter Tryz.func79,Tryz.ntmps79
 go_upto_region 1 with fail
 rw [<-HW0.out]
 go_wp2_with fail
 go_ret
 rw [R.out]
 exact⟨rfl,HB0.out⟩
theorem K0(x k:Int)(hx:0<=x/\x<2147483579)(hk:0<=k/\k<=1073741789)(w:World):Calls Tryz.prog 61 #[.int .i64 x,.int .i64 k] w fun e w'=>e=.returned (.int .i64 (jM x k))/\w'=w:=by
 obtain⟨a,rfl⟩:∃a:Nat,x=a:=⟨x.toNat,by omega⟩
 obtain⟨b,rfl⟩:∃b:Nat,k=b:=⟨k.toNat,by omega⟩
 exact Jj a b w (by omega) (by omega)
theorem zB(k:Int)(h:0<=k/\k<2147483579)(w:World):Calls Tryz.prog 83 #[.int .i64 k] w fun e w'=>∃A c,e=.returned (.slice A 4 c)/\BsS w' (New w w') (.slice A 4 c) (jd k)/\Below w.heap.size w w':=
 (VJ k w (by omega) (by omega)).mono fun e w' ⟨v,he,hs,hb⟩=>by
   obtain⟨A,c,hv⟩:=Bs.formL hs
   subst hv
   exact⟨A,c,he,hs,hb⟩
section
variable(X:Exg)(sA nA aA bA:Option Addr)(sc nc ac bc:Nat)
include X sA nA aA bA sc nc ac bc
theorem zd(p:Int)(hp:0<=p/\p<2147483579)(h2:X.k2.length=16)(w:World)(hv:Bs w w.heap.size (.slice bA X.k2.length bc) X.k2):Calls Tryz.prog 85 #[.agg #[.int .i64 X.kd,.slice sA X.sec.length sc,.int .i64 X.pr,.int .i64 X.st,.slice nA X.non.length nc,.int .i64 X.x,.int .i64 X.g,.int .i64 X.own,.int .i64 X.oth,.slice aA X.k1.length ac,.slice bA X.k2.length bc,.int .i64 X.ct],.int .i64 p] w fun e w'=>∃A c,e=.returned (.slice A 8 c)/\BsS w' (·<w'.heap.size) (.slice A 8 c) (tkW X p)/\Below w.heap.size w w':=by
 obtain⟨w0,hw0⟩:∃w0,w0=w.alloc (.cells (exX X sA nA aA bA sc nc ac bc) 48):=⟨_,rfl⟩
 have HB0:Hid (Below w.heap.size w w0):=iH (by rw [hw0];exact jo _ _)
 have FR:Hid (∀W,Below w0.heap.size w0 W->W.heap[w.heap.size]?=some (.cells (exX X sA nA aA bA sc nc ac bc) 48 (0,0))):=iH (fun W h=>(h.block w.heap.size (by rw [hw0];simp)).trans (by rw [hw0];exact iN))
 have HW0:=iH hw0
 have HEN:=iH (zB p hp)
 obtain⟨T,hT⟩:∃T,tkW X p=T:=⟨_,rfl⟩
 rw [hT]
 have HT:Hid ((qS X.k2 (jd p)).take 8=T):=iH hT
 have HT8:Hid (((qS X.k2 (jd p)).take 8).length=8):=iH (by rw [List.length_take,xz h2]<;>rfl)
 have HK2:=iH h2;have HV:=iH (hv.lift HB0.out)
 clear hw0 hT h2 hv hp
 go_enter Tryz.func85,Tryz.ntmps85
 go_upto_region 1 with fail
 rw [<-HW0.out]
 refine ja 10 [some 8,some 9,some 10,some 11,some 12,some 13,some 7,some 14,some 15,some 5] [[],[0],[0,1],[],[3],[0,1,2,3,4],[0,1,2,3,4,5],[0,1,2,3,4,5,6],[0,1,2,3,4,5,6],[0,1,2,3,4,5,6,7]]
  (fun _ _ w1=>Below w0.heap.size w0 w1) (fun w1 w2=>Below w1.heap.size w1 w2)
  [.v (.pointer (some ⟨w.heap.size,9,none⟩)),
   .v (.pointer (some ⟨w.heap.size,10,none⟩)),
   .v (.slice bA X.k2.length bc),
   .v (.int .i64 p),
   .p (fun v w1=>∃A4 c4,v 4=.slice A4 4 c4/\Bs w1 w1.heap.size (.slice A4 4 c4) (jd p)) (fun _ _ _ _ _ hr ⟨A,c,h1,h2⟩=>⟨A,c,h1,h2.lift hr⟩),
   .p (fun v w1=>∃A5 c5,v 5=.tuple #[.slice A5 8 c5,.int .i64 0]/\Bs w1 w1.heap.size (.slice A5 8 c5) T) (fun _ _ _ _ _ hr ⟨A,c,h1,h2⟩=>⟨A,c,h1,Bs.lift h2 hr⟩),
   .q fun v=>∃A5 c5,v 5=.tuple #[.slice A5 8 c5,.int .i64 0]/\v 6=.tuple #[.slice A5 8 c5,.int .i64 0],
   .q fun v=>∃A5 c5,v 5=.tuple #[.slice A5 8 c5,.int .i64 0]/\v 7=.slice A5 8 c5,
   .q fun v=>v 8=.int .i64 0,
   .q fun v=>∃A5 c5,v 5=.tuple #[.slice A5 8 c5,.int .i64 0]/\v 9=.slice A5 8 c5]
  (by kernel_rfl) (by kernel_rfl) rfl (fun _=>iB.drew) ?steps ?tail
 case steps=>
  simp only [List.take_succ_cons,List.take_zero]
  repeat' (with_reducible first|exact StepsRG.nil|refine StepsRG.cons ?_ ?_)
  all_goals(intro L v w1 hJ hL hF hD K hK;simp only [jb,Act.put,Nat.zero_add,Nat.reduceAdd,List.setIfInBounds_toArray,List.set_cons_zero,List.set_cons_succ,↓jZ,List.getD_cons_zero,List.getD_cons_succ,Nat.reduceEqDiff,↓reduceIte]at hD hK |-)
  all_goals try((try simp only [hD]at hK |-);go_simp;refine hK _ _ hJ iB ?_;first|exact rfl|exact jh _)
  ·simp only [hD]at hK |-
   have q:=j4 (FR.out w1 hJ)
   go_simp
   refine hK _ _ hJ iB ?_
   first|exact rfl|exact jh _
  ·simp only [hD]at hK |-
   go_simp
   refine(HEN.out w1).mono ?_
   rintro e wk ⟨A4,c4,rfl,hs,hb⟩
   refine hK _ _ (hJ.trans (hb.mono hJ.size)) hb ⟨_,_,rfl,?_⟩
   exact hs.keep fun g hg _=>⟨rfl,hg.2⟩
  ·simp only [hD]at hK |-
   obtain⟨A4,c4,e4,hz⟩:∃A4 c4,v 4=_/\_:=hF 4 (by simp)
   simp only [e4]at hK |-
   go_simp
   refine(ZT _ _ X.k2 (jd p) HK2.out (by simp [jd]) w1 (Bs.lift HV.out hJ) hz).mono ?_
   rintro e wk ⟨v5,rfl,hs,hb⟩
   obtain⟨A5,c5,hv⟩:=Bs.formL hs
   rw [HT8.out]at hv
   subst hv
   rw [HT.out]at hs
   exact hK _ _ (hJ.trans (hb.mono hJ.size)) hb ⟨_,_,rfl,hs⟩
  ·simp only [hD]at hK |-
   obtain⟨A5,c5,e5,_⟩:∃A5 c5,v 5=_/\_:=hF 5 (by simp)
   simp only [e5]at hK |-
   go_simp
   exact hK _ _ hJ iB ⟨A5,c5,e5,rfl⟩
  ·simp only [hD]at hK |-
   obtain⟨A5,c5,e5,e6⟩:∃A5 c5,v 5=_/\v 6=_:=hF 6 (by simp)
   simp only [e5,e6]at hK |-
   go_simp
   exact hK _ _ hJ iB ⟨A5,c5,e5,rfl⟩
  ·simp only [hD]at hK |-
   obtain⟨A5,c5,e5,e6⟩:∃A5 c5,v 5=_/\v 6=_:=hF 6 (by simp)
   simp only [e5,e6]at hK |-
   go_simp
   exact hK _ _ hJ iB rfl
  ·simp only [hD]at hK |-
   obtain⟨A5,c5,e5,e7⟩:∃A5 c5,v 5=_/\v 7=_:=hF 7 (by simp)
   simp only [e5,e7]at hK |-
   go_simp
   exact hK _ _ hJ iB ⟨A5,c5,e5,rfl⟩
 case tail=>
  intro v w1 hJ hF hD
  simp only [kE]at hD
  obtain⟨e0,e1,e2,e3, -⟩:=hD
  simp only [List.drop_succ_cons,List.drop_zero,jb,Act.put,Nat.zero_add,Nat.reduceAdd,List.setIfInBounds_toArray,List.set_cons_zero,List.set_cons_succ]
  obtain⟨A5,c5,e5,hs⟩:∃A5 c5,v 5=_/\_:=hF 5 (by simp)
  obtain⟨A6,c6,e5b,e9⟩:∃A6 c6,v 5=_/\v 9=_:=hF 9 (by simp)
  have hq:=Yj (e5.symm.trans e5b)
  obtain⟨rfl,_,rfl⟩:=Value.slice.inj hq
  have e8:v 8=_:=hF 8 (by simp)
  simp only [e8,e9]
  have HS:=iH hs;have HJ:=iH hJ
  clear hJ hF hs e0 e1 e2 e3 e5 e5b e8 e9 hq
  go_wp2_with fail
  go_ret
  exact⟨_,_,rfl,HS.out,HB0.out.trans (HJ.out.mono HB0.out.size)⟩
theorem JQ(o:Int)(ho:o=X.own)(w:World):Calls Tryz.prog 84 #[.agg #[.int .i64 X.kd,.slice sA X.sec.length sc,.int .i64 X.pr,.int .i64 X.st,.slice nA X.non.length nc,.int .i64 X.x,.int .i64 X.g,.int .i64 X.own,.int .i64 X.oth,.slice aA X.k1.length ac,.slice bA X.k2.length bc,.int .i64 X.ct],.int .i64 o] w fun e w'=>e=.returned (.tuple #[.agg #[.int .i64 X.kd,.slice sA X.sec.length sc,.int .i64 X.pr,.int .i64 X.st,.slice nA X.non.length nc,.int .i64 X.x,.int .i64 X.g,.int .i64 X.own,.int .i64 X.oth,.slice aA X.k1.length ac,.slice bA X.k2.length bc,.int .i64 X.ct],.int .i64 10])/\Below w.heap.size w w':=by
 obtain⟨w0,hw0⟩:∃w0,w0=(w.alloc (.cells (exX X sA nA aA bA sc nc ac bc) 48)).alloc (.cells #[.int .i64 0,.slice none 0 0,.int .i64 0,.int .i64 0,.slice none 0 0,.int .i64 0,.int .i64 0,.int .i64 0,.int .i64 0,.slice none 0 0,.slice none 0 0,.int .i64 0] 48):=⟨_,rfl⟩
 have hb0:Below w.heap.size w w0:=by rw [hw0];exact(iA).alloc (by simp) _
 have hz0:w0.heap.size=w.heap.size+2:=by rw [hw0];simp
 have FR:Hid (w0.heap[w.heap.size]?=some (.cells (exX X sA nA aA bA sc nc ac bc) 48 (0,0))):=iH (by rw [hw0];exact(Below.heap_alloc _ _ _ (by simp)).trans (iN))
 have FZ:Hid (w0.heap[w.heap.size+1]?=some (.cells #[.int .i64 0,.slice none 0 0,.int .i64 0,.int .i64 0,.slice none 0 0,.int .i64 0,.int .i64 0,.int .i64 0,.int .i64 0,.slice none 0 0,.slice none 0 0,.int .i64 0] 48 (0,0))):=iH (by rw [hw0];exact(show((w.alloc (.cells (exX X sA nA aA bA sc nc ac bc) 48)).alloc (.cells #[.int .i64 0,.slice none 0 0,.int .i64 0,.int .i64 0,.slice none 0 0,.int .i64 0,.int .i64 0,.int .i64 0,.int .i64 0,.slice none 0 0,.slice none 0 0,.int .i64 0] 48)).heap[w.heap.size+1]?=_ from by have:=heap_alloc_new (w.alloc (.cells (exX X sA nA aA bA sc nc ac bc) 48)) (.cells #[.int .i64 0,.slice none 0 0,.int .i64 0,.int .i64 0,.slice none 0 0,.int .i64 0,.int .i64 0,.int .i64 0,.int .i64 0,.slice none 0 0,.slice none 0 0,.int .i64 0] 48);simpa using this))
 have HW0:=iH hw0;have HB0:=iH hb0;have HSZ:=iH hz0
 have t1:(o==X.own)=true:=by simp [ho]
 obtain⟨f0,f1,f2,f3,f4,f5,f6,f7,f8,f9,f10,f11,ff⟩:=j4 FR.out
 have z:=j4 FZ.out
 clear hw0 hb0 hz0 ho ff
 go_enter Tryz.func84,Tryz.ntmps84
 go_upto_region 1 with fail
 rw [<-HW0.out]
 go_wp2_with fail
 have y:=j4 ((PtW.start FZ.out).set12 (.int .i64 X.kd) (.slice sA X.sec.length sc) (.int .i64 X.pr) (.int .i64 X.st) (.slice nA X.non.length nc) (.int .i64 X.x) (.int .i64 X.g) (.int .i64 X.own) (.int .i64 X.oth) (.slice aA X.k1.length ac) (.slice bA X.k2.length bc) (.int .i64 X.ct)).1
 have hbel:=iH (HB0.out.trans (Below.mono (((PtW.start FZ.out).set12 (.int .i64 X.kd) (.slice sA X.sec.length sc) (.int .i64 X.pr) (.int .i64 X.st) (.slice nA X.non.length nc) (.int .i64 X.x) (.int .i64 X.g) (.int .i64 X.own) (.int .i64 X.oth) (.slice aA X.k1.length ac) (.slice bA X.k2.length bc) (.int .i64 X.ct)).2.2) (Nat.le_succ _)))
 unfold Go.Proofs.YtalmmiojbmpmiaaGreatDoor.set12 at y hbel
 refine bodyPost_ret (v:=.tuple #[.agg #[.int .i64 X.kd,.slice sA X.sec.length sc,.int .i64 X.pr,.int .i64 X.st,.slice nA X.non.length nc,.int .i64 X.x,.int .i64 X.g,.int .i64 X.own,.int .i64 X.oth,.slice aA X.k1.length ac,.slice bA X.k2.length bc,.int .i64 X.ct],.int .i64 10]) (by simp [results,Tryz.results84,go_sem,y]) rfl ?_
 exact⟨rfl,hbel.out⟩
theorem UO(o:Int)(ho:¬o=X.own)(hoe:0<=o/\o<2147483579)(hx:0<=X.x/\X.x<=1073741789)(w:World)(hK:KR w):Calls Tryz.prog 84 #[.agg #[.int .i64 X.kd,.slice sA X.sec.length sc,.int .i64 X.pr,.int .i64 X.st,.slice nA X.non.length nc,.int .i64 X.x,.int .i64 X.g,.int .i64 X.own,.int .i64 X.oth,.slice aA X.k1.length ac,.slice bA X.k2.length bc,.int .i64 X.ct],.int .i64 o] w fun e w'=>∃aB bB ad bd,e=.returned (.tuple #[.agg #[.int .i64 X.kd,.slice sA X.sec.length sc,.int .i64 X.pr,.int .i64 X.st,.slice nA X.non.length nc,.int .i64 X.x,.int .i64 X.g,.int .i64 X.own,.int .i64 o,.slice aB 16 ad,.slice bB 16 bd,.int .i64 0],.int .i64 0])/\BsS w' (New w w') (.slice aB 16 ad) (xG (jd (jM o X.x)) 1)/\BsS w' (New w w') (.slice bB 16 bd) (xG (jd (jM o X.x)) 2)/\Below w.heap.size w w':=by
 obtain⟨w0,hw0⟩:∃w0,w0=(w.alloc (.cells (exX X sA nA aA bA sc nc ac bc) 48)).alloc (.cells #[.int .i64 0,.slice none 0 0,.int .i64 0,.int .i64 0,.slice none 0 0,.int .i64 0,.int .i64 0,.int .i64 0,.int .i64 0,.slice none 0 0,.slice none 0 0,.int .i64 0] 48):=⟨_,rfl⟩
 have hb0:Below w.heap.size w w0:=by rw [hw0];exact(iA).alloc (by simp) _
 have hz0:w0.heap.size=w.heap.size+2:=by rw [hw0];simp
 have FR:Hid (w0.heap[w.heap.size]?=some (.cells (exX X sA nA aA bA sc nc ac bc) 48 (0,0))):=iH (by rw [hw0];exact(Below.heap_alloc _ _ _ (by simp)).trans (iN))
 have FZ:Hid (w0.heap[w.heap.size+1]?=some (.cells #[.int .i64 0,.slice none 0 0,.int .i64 0,.int .i64 0,.slice none 0 0,.int .i64 0,.int .i64 0,.int .i64 0,.int .i64 0,.slice none 0 0,.slice none 0 0,.int .i64 0] 48 (0,0))):=iH (by rw [hw0];exact(show((w.alloc (.cells (exX X sA nA aA bA sc nc ac bc) 48)).alloc (.cells #[.int .i64 0,.slice none 0 0,.int .i64 0,.int .i64 0,.slice none 0 0,.int .i64 0,.int .i64 0,.int .i64 0,.int .i64 0,.slice none 0 0,.slice none 0 0,.int .i64 0] 48)).heap[w.heap.size+1]?=_ from by have:=heap_alloc_new (w.alloc (.cells (exX X sA nA aA bA sc nc ac bc) 48)) (.cells #[.int .i64 0,.slice none 0 0,.int .i64 0,.int .i64 0,.slice none 0 0,.int .i64 0,.int .i64 0,.int .i64 0,.int .i64 0,.slice none 0 0,.slice none 0 0,.int .i64 0] 48);simpa using this))
 have HW0:=iH hw0;have HB0:=iH hb0;have HSZ:=iH hz0
 have HPW:=iH (K0 o X.x hoe hx)
 have hgi:=zy o X.x
 obtain⟨H,hH⟩:∃H,jM o X.x=H:=⟨_,rfl⟩
 rw [hH]at HPW hgi |-
 have HEN:=iH (zB H hgi)
 have HK:Hid (∀W,Below w.heap.size w W->KR W):=iH (fun W h=>hK.below h hK.lt)
 have t1:(o==X.own)=false:=by simp [ho]
 obtain⟨f0,f1,f2,f3,f4,f5,f6,f7,f8,f9,f10,f11,ff⟩:=j4 FR.out
 have fx:=ff 8
 clear hw0 hb0 hz0 ho ff hK hoe hx hgi hH
 go_enter Tryz.func84,Tryz.ntmps84
 go_upto_region 1 with fail
 rw [<-HW0.out]
 go_upto_region 4 with fail
 obtain⟨w1,hw⟩:∃z,z=w0.setCell ⟨w.heap.size,8,none⟩ (.int .i64 o):=⟨_,rfl⟩
 rw [<-hw]
 have hp:PtW (w.heap.size) w0 w1 #[.int .i64 X.kd,.slice sA X.sec.length sc,.int .i64 X.pr,.int .i64 X.st,.slice nA X.non.length nc,.int .i64 X.x,.int .i64 X.g,.int .i64 X.own,.int .i64 o,.slice aA X.k1.length ac,.slice bA X.k2.length bc,.int .i64 X.ct]:=by rw [hw];exact(PtW.start FR.out).set 8 _
 have HP1:=iH hp
 have g:=j4 hp.1
 clear hw hp f0 f1 f2 f3 f4 f5 f6 f7 f8 f9 f10 f11 fx
 go_upto_region 7 with (first
  |(go_at_call 61;refine iR (HPW.out _) ?_)
  |(go_at_call 83;refine(HEN.out _).mono ?_;rintro e w2 ⟨A2,c2,rfl,hs,hb⟩;have GE2:=iH (hs.madeB HP1.out.lt);have hp:=HP1.out.call hb;have HP2:=iH hp;clear hs hb hp)
  |(go_at_call 50;refine(y5 2 (by omega) (by omega) _ (jd H) w3 (HK.out w3 (HB0.out.trans HP3.out.2.2)) GE3.out.loB (by simp [jd])).mono ?_;rintro e w4 ⟨v4,rfl,hs,hb⟩;obtain⟨A4,c4,hv4⟩:=Bs.formL hs;rw [jG]at hv4;subst hv4;have GB4:=iH (hs.madeB HP3.out.lt);have GA4:=iH (GA3.out.onB hb);have hp:=HP3.out.call hb;have HP4:=iH hp;clear hs hb hp)
  |(go_at_call 50;refine(y5 1 (by omega) (by omega) _ (jd H) w2 (HK.out w2 (HB0.out.trans HP2.out.2.2)) GE2.out.loB (by simp [jd])).mono ?_;rintro e w3 ⟨v3,rfl,hs,hb⟩;obtain⟨A3,c3,hv3⟩:=Bs.formL hs;rw [jG]at hv3;subst hv3;have GA3:=iH (hs.madeB HP2.out.lt);have GE3:=iH (GE2.out.onB hb);have hp:=HP2.out.call hb;have HP3:=iH hp;clear hs hb hp))
 go_upto_region 8 with (go_at_call 136;refine(Y3 _ _ _ _ 0 w4 GA4.out.loB GB4.out.loB (jG _ _) (jG _ _) (by omega) (by omega)).mono ?_;rintro e w5 ⟨v5,rfl,⟨aB,ad,bB,bd,rfl,k1,k2⟩,hb⟩;have GA5:=iH k1;have GB5:=iH k2;have hp:=HP4.out.call hb;have HP5:=iH hp;obtain⟨f0,f1,f2,f3,f4,f5,f6,f7,f8,f9,f10,f11,ff⟩:=j4 hp.1;have x9:=ff 9;have x10:=ff 10;have x11:=ff 11;clear k1 k2 hb hp ff g)
 obtain⟨w6,hw⟩:∃z,z=((w5.setCell ⟨w.heap.size,9,none⟩ (.slice aB 16 ad)).setCell ⟨w.heap.size,10,none⟩ (.slice bB 16 bd)).setCell ⟨w.heap.size,11,none⟩ (.int .i64 0):=⟨_,rfl⟩
 rw [<-hw]
 have hp:PtW (w.heap.size) w0 w6 #[.int .i64 X.kd,.slice sA X.sec.length sc,.int .i64 X.pr,.int .i64 X.st,.slice nA X.non.length nc,.int .i64 X.x,.int .i64 X.g,.int .i64 X.own,.int .i64 o,.slice aB 16 ad,.slice bB 16 bd,.int .i64 0]:=by rw [hw];exact((HP5.out.set 9 _).set 10 _).set 11 _
 have hp5:PtW (w.heap.size) w5 w6 #[.int .i64 X.kd,.slice sA X.sec.length sc,.int .i64 X.pr,.int .i64 X.st,.slice nA X.non.length nc,.int .i64 X.x,.int .i64 X.g,.int .i64 X.own,.int .i64 o,.slice aB 16 ad,.slice bB 16 bd,.int .i64 0]:=by rw [hw];exact(((PtW.start HP5.out.1).set 9 _).set 10 _).set 11 _
 have HP6:=iH hp;have HP56:=iH hp5
 have hz6:w6.heap[w.heap.size+1]?=some (.cells #[.int .i64 0,.slice none 0 0,.int .i64 0,.int .i64 0,.slice none 0 0,.int .i64 0,.int .i64 0,.int .i64 0,.int .i64 0,.slice none 0 0,.slice none 0 0,.int .i64 0] 48 (0,0)):=(hp.2.1.block _ (by have:=HSZ.out;omega) (by intro e;injection e with e;omega)).trans FZ.out
 have HZ6:=iH (PtW.start hz6)
 clear hw f0 f1 f2 f3 f4 f5 f6 f7 f8 f9 f10 f11 x9 x10 x11
 obtain⟨f0,f1,f2,f3,f4,f5,f6,f7,f8,f9,f10,f11,ff⟩:=j4 hp.1
 have z:=j4 hz6
 clear hp hp5 hz6 ff
 go_wp2_with fail
 have y:=j4 (HZ6.out.set12 (.int .i64 X.kd) (.slice sA X.sec.length sc) (.int .i64 X.pr) (.int .i64 X.st) (.slice nA X.non.length nc) (.int .i64 X.x) (.int .i64 X.g) (.int .i64 X.own) (.int .i64 o) (.slice aB 16 ad) (.slice bB 16 bd) (.int .i64 0)).1
 obtain⟨w7,hw⟩:∃z,z=set12 w6 (w.heap.size+1) (.int .i64 X.kd) (.slice sA X.sec.length sc) (.int .i64 X.pr) (.int .i64 X.st) (.slice nA X.non.length nc) (.int .i64 X.x) (.int .i64 X.g) (.int .i64 X.own) (.int .i64 o) (.slice aB 16 ad) (.slice bB 16 bd) (.int .i64 0):=⟨_,rfl⟩
 have h7:PtW (w.heap.size+1) w6 w7 #[.int .i64 X.kd,.slice sA X.sec.length sc,.int .i64 X.pr,.int .i64 X.st,.slice nA X.non.length nc,.int .i64 X.x,.int .i64 X.g,.int .i64 X.own,.int .i64 o,.slice aB 16 ad,.slice bB 16 bd,.int .i64 0]:=by rw [hw];exact HZ6.out.set12 (.int .i64 X.kd) (.slice sA X.sec.length sc) (.int .i64 X.pr) (.int .i64 X.st) (.slice nA X.non.length nc) (.int .i64 X.x) (.int .i64 X.g) (.int .i64 X.own) (.int .i64 o) (.slice aB 16 ad) (.slice bB 16 bd) (.int .i64 0)
 have HP7:=iH h7
 unfold Go.Proofs.YtalmmiojbmpmiaaGreatDoor.set12 at y hw
 refine bodyPost_ret (v:=.tuple #[.agg #[.int .i64 X.kd,.slice sA X.sec.length sc,.int .i64 X.pr,.int .i64 X.st,.slice nA X.non.length nc,.int .i64 X.x,.int .i64 X.g,.int .i64 X.own,.int .i64 o,.slice aB 16 ad,.slice bB 16 bd,.int .i64 0],.int .i64 0]) (by simp [results,Tryz.results84,go_sem,y]) rfl ?_
 rw [<-hw]
 have key:∀ {u:Value} {m:List UInt8},BsS w5 (New w4 w5) u m->BsS w7 (New w w7) u m:=fun h=>h.keep fun g hg hl=>by
  have h1:=hg.1
  have h2:=HP4.out.lt
  have h3:=HP4.out.2.1.size
  have h4:=HSZ.out
  have h5:=HP56.out.2.1.size
  have h6:=HP7.out.2.1.size
  exact⟨(HP7.out.2.1.block g (by omega) (by intro e;injection e with e;omega)).trans (HP56.out.2.1.block g hl (by intro e;injection e with e;omega)),by omega,by omega⟩
 exact⟨_,_,_,_,rfl,key GA5.out,key GB5.out,(HB0.out.trans HP6.out.2.2).trans (HP7.out.2.2.mono (Nat.le_succ _))⟩
end
abbrev j7s(q g:Nat)(W:World):Nat->Prop:=fun b=>b<W.heap.size/\b≠q/\b≠g
structure RS (w:World) (gy:Nat) (xr yr:Array Value) (L:List (Value×List UInt8)) (W:World):Prop where
 bel:Below w.heap.size w W
 rx:W.heap[w.heap.size]?=some (.cells xr 48 (0,0))
 rz:W.heap[w.heap.size+1]?=some (.cells #[.int .i64 0,.slice none 0 0,.int .i64 0,.int .i64 0,.slice none 0 0,.int .i64 0,.int .i64 0,.int .i64 0,.int .i64 0,.slice none 0 0,.slice none 0 0,.int .i64 0] 48 (0,0))
 ry:W.heap[gy]?=some (.cells yr 48 (0,0))
 gy2:w.heap.size+2<=gy
 all:∀x∈L,BsS W (j7s (w.heap.size+1) gy W) x.1 x.2
section
variable {w W W' wz:World} {gy:Nat} {xr yr:Array Value} {L:List (Value×List UInt8)} {v:Value} {l:List UInt8}
section
variable(h:RS w gy xr yr L W)
include h
theorem RS.lt:gy<W.heap.size:=lt_of_block h.ry
theorem RS.on(hb:Below W.heap.size W W'):RS w gy xr yr L W':=
 ⟨h.bel.trans (hb.mono h.bel.size),(hb.block _ (lt_of_block h.rx)).trans h.rx,(hb.block _ (lt_of_block h.rz)).trans h.rz,(hb.block _ h.lt).trans h.ry,h.gy2,fun x hx=>(h.all x hx).keep fun b hs hl=>⟨hb.block b hl,iZ hl hb.size,hs.2⟩⟩
theorem RS.add(hp:gy<wz.heap.size)(hv:BsS W (New wz W) v l):RS w gy xr yr ((v,l) :: L) W:=
 ⟨h.bel,h.rx,h.rz,h.ry,h.gy2,fun x hx=>by
  rcases List.mem_cons.1 hx with rfl|hx
  ·exact hv.keep fun b hs hl=>⟨rfl,hl,by have:=hs.1;have:=h.gy2;omega,by have:=hs.1;omega⟩
  ·exact h.all x hx⟩
section
variable(i:Nat)(hi:L[i]?=some (v,l))
include i hi
theorem RS.at:BsS W (j7s (w.heap.size+1) gy W) v l:=h.all (v,l) (List.mem_of_getElem? hi)
theorem RS.lo:Bs W W.heap.size v l:=BsS.keep (h.at i hi) fun b hs _=>⟨rfl,hs.1⟩
theorem RS.offP:BsS W (j9 (w.heap.size+1) W) v l:=(h.at i hi).keep fun b hs _=>⟨rfl,hs.1,hs.2.1⟩
end
theorem RS.set(i:Nat)(u:Value):RS w gy xr (yr.set! i u) L (W.setCell ⟨gy,i,none⟩ u):=
 ⟨h.bel.setCell (by have:=h.gy2;show w.heap.size<=gy;omega) _,(iO (by have:=h.gy2;show _≠gy;omega)).trans h.rx,(iO (by have:=h.gy2;show _≠gy;omega)).trans h.rz,kD (o:=i) h.ry,h.gy2,
  fun x hx=>(h.all x hx).keep fun b hs hl=>⟨iO hs.2.2,by simpa [World.setCell]using hl,hs.2⟩⟩
end
theorem RS.fill{a' b' c' d' e' f' g' h' i' j' k' l':Value}(hr:RS w gy xr #[a',b',c',d',e',f',g',h',i',j',k',l'] L W)(a b c d e f g h i j k l:Value):RS w gy xr #[a,b,c,d,e,f,g,h,i,j,k,l] L (set12 W gy a b c d e f g h i j k l):=by
 have h0:=(((((((((((hr.set 0 a).set 1 b).set 2 c).set 3 d).set 4 e).set 5 f).set 6 g).set 7 h).set 8 i).set 9 j).set 10 k).set 11 l
 simp only [Array.set!_eq_setIfInBounds,List.setIfInBounds_toArray,List.set_cons_zero,List.set_cons_succ]at h0
 exact h0
theorem RS.noL(h:RS w gy xr yr L W):RS w gy xr yr [] W:=⟨h.bel,h.rx,h.rz,h.ry,h.gy2,fun x hx=>by simp at hx⟩
theorem RS.start(hb:Below w.heap.size w W)(hx:W.heap[w.heap.size]?=some (.cells xr 48 (0,0)))(hz:W.heap[w.heap.size+1]?=some (.cells #[.int .i64 0,.slice none 0 0,.int .i64 0,.int .i64 0,.slice none 0 0,.int .i64 0,.int .i64 0,.int .i64 0,.int .i64 0,.slice none 0 0,.slice none 0 0,.int .i64 0] 48 (0,0)))(hs:w.heap.size+2<=W.heap.size)(hL:∀x∈L,BsS W (j9 (w.heap.size+1) W) x.1 x.2):
 RS w W.heap.size xr yr L (W.alloc (.cells yr 48)):=
 ⟨hb.alloc hb.size _,(Below.heap_alloc _ _ _ (lt_of_block hx)).trans hx,(Below.heap_alloc _ _ _ (lt_of_block hz)).trans hz,iN,hs,fun x hx=>(hL x hx).keep fun b h hl=>⟨Below.heap_alloc _ _ _ hl,by simp;omega,h.2,by omega⟩⟩
end
def j67(w:World)(gy:Nat)(xr:Array Value)(r:Int×Exg×List UInt8×List UInt8)(tag:Int)(vn vr:Value)(W:World):Prop:=
 ∃(Y:Exg) (DT NX:List UInt8) (sA nA aA bA dA eA:Option Addr) (sc nc ac bc dc ec:Nat),vr=.slice dA DT.length dc/\vn=.slice eA NX.length ec/\RS w gy xr #[.int .i64 Y.kd,.slice sA Y.sec.length sc,.int .i64 Y.pr,.int .i64 Y.st,.slice nA Y.non.length nc,.int .i64 Y.x,.int .i64 Y.g,.int .i64 Y.own,.int .i64 Y.oth,.slice aA Y.k1.length ac,.slice bA Y.k2.length bc,.int .i64 Y.ct] [] W/\
  BsS W (j9 (w.heap.size+1) W) (.slice sA Y.sec.length sc) Y.sec/\BsS W (j9 (w.heap.size+1) W) (.slice nA Y.non.length nc) Y.non/\BsS W (j9 (w.heap.size+1) W) (.slice aA Y.k1.length ac) Y.k1/\BsS W (j9 (w.heap.size+1) W) (.slice bA Y.k2.length bc) Y.k2/\
  BsS W (j9 (w.heap.size+1) W) (.slice dA DT.length dc) DT/\BsS W (j9 (w.heap.size+1) W) (.slice eA NX.length ec) NX/\(128<=tag/\tag<=134)/\r=(0,Y,jB tag DT,NX)
def PtA(P:Nat)(w W:World):Prop:=∃a b c d e f g h i j k l:Value,PtW P w W #[a,b,c,d,e,f,g,h,i,j,k,l]
section
variable{P:Nat}{w W:World}(h:PtA P w W)
include P w W h
theorem PtA.gr:w.grownBy W (some P):=by obtain⟨a,b,c,d,e,f,g,h,i,j,k,l,hp⟩:=h;exact hp.2.1
theorem PtA.bel:Below P w W:=by obtain⟨a,b,c,d,e,f,g,h,i,j,k,l,hp⟩:=h;exact hp.2.2
theorem PtA.lt:P<W.heap.size:=by obtain⟨a,b,c,d,e,f,g,h,i,j,k,l,hp⟩:=h;exact hp.lt
end
theorem PtA.call{P:Nat}{w W W':World}(h:PtA P w W)(hb:Below W.heap.size W W'):PtA P w W':=by
 obtain⟨a,b,c,d,e,f,g,h,i,j,k,l,hp⟩:=h
 exact⟨_,_,_,_,_,_,_,_,_,_,_,_,hp.call hb⟩
def RO(P:Nat)(row:Array Value)(w1 w2:World):Prop:=w1.grownBy w2 (some P)/\(w1.heap[P]?=some (.cells row 48 (0,0))->w2.heap[P]?=some (.cells row 48 (0,0)))
theorem j8f(st:Int)(h:st=0\/st=1\/st=2\/st=3)(w:World):(Instr.index 64 (.agg #[.int .i64 0,.int .i64 129,.int .i64 131,.int .i64 133]) (.int .i64 st)).run Tryz.prog w=.ok (.int .i64 (yl st)) w:=by
 rcases h with rfl|rfl|rfl|rfl<;>kernel_rfl
theorem j3h(X:Exg)(h:X.st=0\/X.st=1\/X.st=2\/X.st=3)(B:List UInt8)(v:Value)(w:World)(hv:Bs w w.heap.size v B):Calls Tryz.prog 78 #[v,.int .i64 (yl X.st),.int .i64 (Jk X.pr (X.st+1) false)] w (ValOut (kB B (yl X.st) (Xc X)) w):=by
 by_cases h0:X.st=0
 ·have e:Jk X.pr (X.st+1) false=((16:Nat):Int):=by unfold Jk;rw [iT (by omega)]<;>rfl
  have e0:yl X.st=0:=by unfold yl;rw [iT h0]
  have ev:kB B 0 (Xc X)=kB B 0 16:=by unfold kB;split<;>first|rfl|(unfold K9;rfl)
  rw [e,e0,ev]
  exact V5 16 B v w hv
 ·have e:Jk X.pr (X.st+1) false=((Xc X:Nat):Int):=by
   unfold Jk Xc
   rw [iF (by omega)]
   rcases h with h|h|h|h
   ·omega
   ·rw [iT (by omega),iT h];split<;>rfl
   ·rw [iF (by omega),iF (by omega),iF (by omega),iF (by omega)]<;>rfl
   ·rw [iF (by omega),iT (by omega),iF (by omega),iT h]<;>rfl
  rw [e]
  exact Zj (yl X.st) (by unfold yl;rw [iF h0];omega) _ B v w hv
theorem sdL(s:List UInt8):(sdW s).length=32:=by unfold sdW;exact je _
theorem x8(s:List UInt8):(jt s 16).length=16:=by unfold jt;rw [List.length_take,je]<;>rfl
theorem xL(s DN SD:List UInt8)(hd:jt s 16=DN)(hsd:sdW s=SD)(hl:s.length<=140737488351232)(v:Value)(w:World)(hK:KR w)(hv:Bs w w.heap.size v s):Calls Tryz.prog 80 #[v,.int .i64 16] w fun e w'=>∃A c B d,e=.returned (.tuple #[.slice A DN.length c,.slice B SD.length d,.int .i64 0])/\BsS w' (New w w') (.slice A DN.length c) DN/\BsS w' (New w w') (.slice B SD.length d) SD/\Below w.heap.size w w':=by
 have h1:DN.length=16:=by rw [<-hd];exact x8 s
 have h2:SD.length=32:=by rw [<-hsd];exact sdL s
 rw [h1,h2,<-hd,<-hsd]
 exact XW 16 (by omega) (by omega) v s w hK hv (by omega)
theorem qs(s SD:List UInt8)(K:Int)(hk:jX s=K)(hsd:sdW s=SD)(hl:s.length<=140737488351232)(v:Value)(w:World)(hK:KR w)(hv:Bs w w.heap.size v s):Calls Tryz.prog 82 #[v] w fun e w'=>∃B d,e=.returned (.tuple #[.int .i64 K,.slice B SD.length d])/\BsS w' (New w w') (.slice B SD.length d) SD/\Below w.heap.size w w':=by
 have h2:SD.length=32:=by rw [<-hsd];exact sdL s
 rw [h2,<-hk,<-hsd]
 exact XX v s w hK hv (by omega)
theorem yS(s:List UInt8):0<=jX s/\jX s<=1073741789:=by
 have:=yP (yb s)
 omega
theorem JR(X:Exg)(sA nA aA bA:Option Addr)(sc nc ac bc:Nat)(w:World)(hs:Bs w w.heap.size (.slice sA X.sec.length sc) X.sec)(hn:Bs w w.heap.size (.slice nA X.non.length nc) X.non)(h1:Bs w w.heap.size (.slice aA X.k1.length ac) X.k1)(h2:Bs w w.heap.size (.slice bA X.k2.length bc) X.k2)(ls:X.sec.length<=140737488351232)(ln:X.non.length<=140737488351232)(l1:X.k1.length<=140737488351232)(l2:X.k2.length<=140737488351232):Calls Tryz.prog 77 #[.agg #[.int .i64 X.kd,.slice sA X.sec.length sc,.int .i64 X.pr,.int .i64 X.st,.slice nA X.non.length nc,.int .i64 X.x,.int .i64 X.g,.int .i64 X.own,.int .i64 X.oth,.slice aA X.k1.length ac,.slice bA X.k2.length bc,.int .i64 X.ct]] w fun e w'=>∃sA nA aA bA sc nc ac bc,e=.returned (.agg #[.int .i64 X.kd,.slice sA X.sec.length sc,.int .i64 X.pr,.int .i64 X.st,.slice nA X.non.length nc,.int .i64 X.x,.int .i64 X.g,.int .i64 X.own,.int .i64 X.oth,.slice aA X.k1.length ac,.slice bA X.k2.length bc,.int .i64 X.ct])/\BsS w' (New w w') (.slice sA X.sec.length sc) X.sec/\BsS w' (New w w') (.slice nA X.non.length nc) X.non/\BsS w' (New w w') (.slice aA X.k1.length ac) X.k1/\BsS w' (New w w') (.slice bA X.k2.length bc) X.k2/\Below w.heap.size w w':=by
 obtain⟨w0,hw0⟩:∃w0,w0=(w.alloc (.cells (exX X sA nA aA bA sc nc ac bc) 48)).alloc (.cells #[.int .i64 0,.slice none 0 0,.int .i64 0,.int .i64 0,.slice none 0 0,.int .i64 0,.int .i64 0,.int .i64 0,.int .i64 0,.slice none 0 0,.slice none 0 0,.int .i64 0] 48):=⟨_,rfl⟩
 have hb0:Below w.heap.size w w0:=by rw [hw0];exact(iA).alloc (by simp) _
 have hz0:w0.heap.size=w.heap.size+2:=by rw [hw0];simp
 have HP0:Hid (PtW w.heap.size w0 w0 (exX X sA nA aA bA sc nc ac bc)):=iH (PtW.start (by rw [hw0];exact(Below.heap_alloc _ _ _ (by simp)).trans (iN)))
 have HZ0:Hid (w0.heap[w.heap.size+1]?=some (.cells #[.int .i64 0,.slice none 0 0,.int .i64 0,.int .i64 0,.slice none 0 0,.int .i64 0,.int .i64 0,.int .i64 0,.int .i64 0,.slice none 0 0,.slice none 0 0,.int .i64 0] 48 (0,0))):=iH (by rw [hw0];exact(show((w.alloc (.cells (exX X sA nA aA bA sc nc ac bc) 48)).alloc (.cells #[.int .i64 0,.slice none 0 0,.int .i64 0,.int .i64 0,.slice none 0 0,.int .i64 0,.int .i64 0,.int .i64 0,.int .i64 0,.slice none 0 0,.slice none 0 0,.int .i64 0] 48)).heap[w.heap.size+1]?=_ from by have:=heap_alloc_new (w.alloc (.cells (exX X sA nA aA bA sc nc ac bc) 48)) (.cells #[.int .i64 0,.slice none 0 0,.int .i64 0,.int .i64 0,.slice none 0 0,.int .i64 0,.int .i64 0,.int .i64 0,.int .i64 0,.slice none 0 0,.slice none 0 0,.int .i64 0] 48);simpa using this))
 have off:∀u m,Bs w w.heap.size u m->BsS w0 (j9 w.heap.size w0) u m:=fun u m h=>h.keep fun b hs hl=>⟨hb0.block b hl,by omega,by omega⟩
 have Hs0:=iH (off _ _ hs);have Hn0:=iH (off _ _ hn);have Ha0:=iH (off _ _ h1);have Hb0:=iH (off _ _ h2)
 have HLN:=iH (And.intro ls (And.intro ln (And.intro l1 l2)))
 have HW0:=iH hw0;have HB0:=iH hb0;have HSZ:=iH hz0
 obtain⟨f0,f1,f2,f3,f4,f5,f6,f7,f8,f9,f10,f11,ff⟩:=j4 HP0.out.1
 have ffx:=ff 1
 clear hs hn h1 h2 off hw0 hb0 hz0 ls ln l1 l2 ff
 go_enter Tryz.func77,Tryz.ntmps77
 go_upto_region 1 with fail
 rw [<-HW0.out]
 go_upto_region 2 with (at_builtin;(with_reducible refine j5 rfl (.const (.slice none 0 0)) (.tmp 5) rfl w0.heap.size (.slice none 0 0) [] rfl (OwnB.nil _ _) sA X.sec.length sc X.sec (·<w0.heap.size) rfl Hs0.out.loB (by have:=HLN.out;simp;omega) iL ?_);intro v1 u1 hgr;rw [List.nil_append]at hgr;obtain⟨sB,sd,hv1⟩:=hgr.1.form;subst hv1;have O1:=iH (hgr.1.out (by have:=HLN.out;omega) w0 iL);have B1:=iH hgr.2.1;have hp:=HP0.out.call hgr.2.1;have HQ1:=iH hp;obtain⟨g0,g1,g2,g3,g4,g5,g6,g7,g8,g9,g10,g11,gf⟩:=j4 hp.1;have gfx:=gf 1;clear hp hgr gf f0 f1 f2 f3 f4 f5 f6 f7 f8 f9 f10 f11 ffx)
 obtain⟨w1,hw⟩:∃z,z=u1.setCell ⟨w.heap.size,1,none⟩ (.slice sB X.sec.length sd):=⟨_,rfl⟩
 rw [<-hw]
 have hp:PtW w.heap.size w0 w1 (exX X sB nA aA bA sd nc ac bc):=by rw [hw];exact HQ1.out.set 1 _
 have hzz:=HP0.out.2.1.size
 have M1_1:Hid (BsS w1 (New w0 w1) (.slice sB X.sec.length sd) X.sec):=iH (by rw [hw];exact O1.out.keep fun g hg hl=>⟨iO (by show g≠w.heap.size;have:=hg.1;have:=HSZ.out;omega),by have:=hg.1;omega,by simpa [World.setCell]using hg.2⟩)
 have Hn1:Hid (BsS w1 (j9 w.heap.size w1) (.slice nA X.non.length nc) X.non):=iH (Hn0.out.grownP hp.2.1)
 have Ha1:Hid (BsS w1 (j9 w.heap.size w1) (.slice aA X.k1.length ac) X.k1):=iH (Ha0.out.grownP hp.2.1)
 have Hb1:Hid (BsS w1 (j9 w.heap.size w1) (.slice bA X.k2.length bc) X.k2):=iH (Hb0.out.grownP hp.2.1)
 have HP1:=iH hp
 obtain⟨f0,f1,f2,f3,f4,f5,f6,f7,f8,f9,f10,f11,ff⟩:=j4 hp.1
 have ffx:=ff 4
 clear hw hp hzz g0 g1 g2 g3 g4 g5 g6 g7 g8 g9 g10 g11 gfx ff
 go_upto_region 3 with (at_builtin;(with_reducible refine j5 rfl (.const (.slice none 0 0)) (.tmp 10) rfl w1.heap.size (.slice none 0 0) [] rfl (OwnB.nil _ _) nA X.non.length nc X.non (·<w1.heap.size) rfl Hn1.out.loB (by have:=HLN.out;simp;omega) iL ?_);intro v1 u2 hgr;rw [List.nil_append]at hgr;obtain⟨nB,nd,hv1⟩:=hgr.1.form;subst hv1;have O2:=iH (hgr.1.out (by have:=HLN.out;omega) w1 iL);have B2:=iH hgr.2.1;have hp:=HP1.out.call hgr.2.1;have HQ2:=iH hp;obtain⟨g0,g1,g2,g3,g4,g5,g6,g7,g8,g9,g10,g11,gf⟩:=j4 hp.1;have gfx:=gf 4;clear hp hgr gf f0 f1 f2 f3 f4 f5 f6 f7 f8 f9 f10 f11 ffx)
 obtain⟨w2,hw⟩:∃z,z=u2.setCell ⟨w.heap.size,4,none⟩ (.slice nB X.non.length nd):=⟨_,rfl⟩
 rw [<-hw]
 have hp:PtW w.heap.size w0 w2 (exX X sB nB aA bA sd nd ac bc):=by rw [hw];exact HQ2.out.set 4 _
 have hzz:=HP1.out.2.1.size
 have M2_2:Hid (BsS w2 (New w0 w2) (.slice nB X.non.length nd) X.non):=iH (by rw [hw];exact O2.out.keep fun g hg hl=>⟨iO (by show g≠w.heap.size;have:=hg.1;have:=HSZ.out;omega),by have:=hg.1;omega,by simpa [World.setCell]using hg.2⟩)
 have M1_2:Hid (BsS w2 (New w0 w2) (.slice sB X.sec.length sd) X.sec):=iH (M1_1.out.keep fun g hg hl=>⟨by rw [hw,iO (by show g≠w.heap.size;have:=hg.1;have:=HSZ.out;omega)];exact B2.out.block g hl,hg.1,by rw [hw];simp [World.setCell];exact iZ hl B2.out.size⟩)
 have Ha2:Hid (BsS w2 (j9 w.heap.size w2) (.slice aA X.k1.length ac) X.k1):=iH (Ha0.out.grownP hp.2.1)
 have Hb2:Hid (BsS w2 (j9 w.heap.size w2) (.slice bA X.k2.length bc) X.k2):=iH (Hb0.out.grownP hp.2.1)
 have HP2:=iH hp
 obtain⟨f0,f1,f2,f3,f4,f5,f6,f7,f8,f9,f10,f11,ff⟩:=j4 hp.1
 have ffx:=ff 9
 clear hw hp hzz g0 g1 g2 g3 g4 g5 g6 g7 g8 g9 g10 g11 gfx ff
 go_upto_region 4 with (at_builtin;(with_reducible refine j5 rfl (.const (.slice none 0 0)) (.tmp 15) rfl w2.heap.size (.slice none 0 0) [] rfl (OwnB.nil _ _) aA X.k1.length ac X.k1 (·<w2.heap.size) rfl Ha2.out.loB (by have:=HLN.out;simp;omega) iL ?_);intro v1 u3 hgr;rw [List.nil_append]at hgr;obtain⟨aB,ad,hv1⟩:=hgr.1.form;subst hv1;have O3:=iH (hgr.1.out (by have:=HLN.out;omega) w2 iL);have B3:=iH hgr.2.1;have hp:=HP2.out.call hgr.2.1;have HQ3:=iH hp;obtain⟨g0,g1,g2,g3,g4,g5,g6,g7,g8,g9,g10,g11,gf⟩:=j4 hp.1;have gfx:=gf 9;clear hp hgr gf f0 f1 f2 f3 f4 f5 f6 f7 f8 f9 f10 f11 ffx)
 obtain⟨w3,hw⟩:∃z,z=u3.setCell ⟨w.heap.size,9,none⟩ (.slice aB X.k1.length ad):=⟨_,rfl⟩
 rw [<-hw]
 have hp:PtW w.heap.size w0 w3 (exX X sB nB aB bA sd nd ad bc):=by rw [hw];exact HQ3.out.set 9 _
 have hzz:=HP2.out.2.1.size
 have M3_3:Hid (BsS w3 (New w0 w3) (.slice aB X.k1.length ad) X.k1):=iH (by rw [hw];exact O3.out.keep fun g hg hl=>⟨iO (by show g≠w.heap.size;have:=hg.1;have:=HSZ.out;omega),by have:=hg.1;omega,by simpa [World.setCell]using hg.2⟩)
 have M1_3:Hid (BsS w3 (New w0 w3) (.slice sB X.sec.length sd) X.sec):=iH (M1_2.out.keep fun g hg hl=>⟨by rw [hw,iO (by show g≠w.heap.size;have:=hg.1;have:=HSZ.out;omega)];exact B3.out.block g hl,hg.1,by rw [hw];simp [World.setCell];exact iZ hl B3.out.size⟩)
 have M2_3:Hid (BsS w3 (New w0 w3) (.slice nB X.non.length nd) X.non):=iH (M2_2.out.keep fun g hg hl=>⟨by rw [hw,iO (by show g≠w.heap.size;have:=hg.1;have:=HSZ.out;omega)];exact B3.out.block g hl,hg.1,by rw [hw];simp [World.setCell];exact iZ hl B3.out.size⟩)
 have Hb3:Hid (BsS w3 (j9 w.heap.size w3) (.slice bA X.k2.length bc) X.k2):=iH (Hb0.out.grownP hp.2.1)
 have HP3:=iH hp
 obtain⟨f0,f1,f2,f3,f4,f5,f6,f7,f8,f9,f10,f11,ff⟩:=j4 hp.1
 have ffx:=ff 10
 clear hw hp hzz g0 g1 g2 g3 g4 g5 g6 g7 g8 g9 g10 g11 gfx ff
 go_upto_region 5 with (at_builtin;(with_reducible refine j5 rfl (.const (.slice none 0 0)) (.tmp 21) rfl w3.heap.size (.slice none 0 0) [] rfl (OwnB.nil _ _) bA X.k2.length bc X.k2 (·<w3.heap.size) rfl Hb3.out.loB (by have:=HLN.out;simp;omega) iL ?_);intro v1 u4 hgr;rw [List.nil_append]at hgr;obtain⟨bB,bd,hv1⟩:=hgr.1.form;subst hv1;have O4:=iH (hgr.1.out (by have:=HLN.out;omega) w3 iL);have B4:=iH hgr.2.1;have hp:=HP3.out.call hgr.2.1;have HQ4:=iH hp;obtain⟨g0,g1,g2,g3,g4,g5,g6,g7,g8,g9,g10,g11,gf⟩:=j4 hp.1;have gfx:=gf 10;clear hp hgr gf f0 f1 f2 f3 f4 f5 f6 f7 f8 f9 f10 f11 ffx)
 obtain⟨w4,hw⟩:∃z,z=u4.setCell ⟨w.heap.size,10,none⟩ (.slice bB X.k2.length bd):=⟨_,rfl⟩
 rw [<-hw]
 have hp:PtW w.heap.size w0 w4 (exX X sB nB aB bB sd nd ad bd):=by rw [hw];exact HQ4.out.set 10 _
 have hzz:=HP3.out.2.1.size
 have M4_4:Hid (BsS w4 (New w0 w4) (.slice bB X.k2.length bd) X.k2):=iH (by rw [hw];exact O4.out.keep fun g hg hl=>⟨iO (by show g≠w.heap.size;have:=hg.1;have:=HSZ.out;omega),by have:=hg.1;omega,by simpa [World.setCell]using hg.2⟩)
 have M1_4:Hid (BsS w4 (New w0 w4) (.slice sB X.sec.length sd) X.sec):=iH (M1_3.out.keep fun g hg hl=>⟨by rw [hw,iO (by show g≠w.heap.size;have:=hg.1;have:=HSZ.out;omega)];exact B4.out.block g hl,hg.1,by rw [hw];simp [World.setCell];exact iZ hl B4.out.size⟩)
 have M2_4:Hid (BsS w4 (New w0 w4) (.slice nB X.non.length nd) X.non):=iH (M2_3.out.keep fun g hg hl=>⟨by rw [hw,iO (by show g≠w.heap.size;have:=hg.1;have:=HSZ.out;omega)];exact B4.out.block g hl,hg.1,by rw [hw];simp [World.setCell];exact iZ hl B4.out.size⟩)
 have M3_4:Hid (BsS w4 (New w0 w4) (.slice aB X.k1.length ad) X.k1):=iH (M3_3.out.keep fun g hg hl=>⟨by rw [hw,iO (by show g≠w.heap.size;have:=hg.1;have:=HSZ.out;omega)];exact B4.out.block g hl,hg.1,by rw [hw];simp [World.setCell];exact iZ hl B4.out.size⟩)
 have HP4:=iH hp
 obtain⟨f0,f1,f2,f3,f4,f5,f6,f7,f8,f9,f10,f11,ff⟩:=j4 hp.1
 clear hw hp hzz g0 g1 g2 g3 g4 g5 g6 g7 g8 g9 g10 g11 gfx ff
 have hz5:w4.heap[w.heap.size+1]?=some (.cells #[.int .i64 0,.slice none 0 0,.int .i64 0,.int .i64 0,.slice none 0 0,.int .i64 0,.int .i64 0,.int .i64 0,.int .i64 0,.slice none 0 0,.slice none 0 0,.int .i64 0] 48 (0,0)):=(HP4.out.2.1.block (w.heap.size+1) (by have:=HSZ.out;omega) (by intro e;injection e with e;omega)).trans HZ0.out
 have z:=j4 hz5
 have HZ5:=iH hz5
 clear hz5
 go_wp2_with fail
 have hq:(set12 w4 (w.heap.size+1) (.int .i64 X.kd) (.slice sB X.sec.length sd) (.int .i64 X.pr) (.int .i64 X.st) (.slice nB X.non.length nd) (.int .i64 X.x) (.int .i64 X.g) (.int .i64 X.own) (.int .i64 X.oth) (.slice aB X.k1.length ad) (.slice bB X.k2.length bd) (.int .i64 X.ct)).heap[w.heap.size+1]?=some (.cells (exX X sB nB aB bB sd nd ad bd) 48 (0,0)):=((PtW.start HZ5.out).set12 (.int .i64 X.kd) (.slice sB X.sec.length sd) (.int .i64 X.pr) (.int .i64 X.st) (.slice nB X.non.length nd) (.int .i64 X.x) (.int .i64 X.g) (.int .i64 X.own) (.int .i64 X.oth) (.slice aB X.k1.length ad) (.slice bB X.k2.length bd) (.int .i64 X.ct)).1
 have y:=j4 hq
 unfold Go.Proofs.YtalmmiojbmpmiaaGreatDoor.set12 at y
 refine bodyPost_ret (v:=.agg #[.int .i64 X.kd,.slice sB X.sec.length sd,.int .i64 X.pr,.int .i64 X.st,.slice nB X.non.length nd,.int .i64 X.x,.int .i64 X.g,.int .i64 X.own,.int .i64 X.oth,.slice aB X.k1.length ad,.slice bB X.k2.length bd,.int .i64 X.ct]) (by simp [results,Tryz.results77,go_sem,y]) rfl ?_
 obtain⟨w6,hw6⟩:∃z,z=set12 w4 (w.heap.size+1) (.int .i64 X.kd) (.slice sB X.sec.length sd) (.int .i64 X.pr) (.int .i64 X.st) (.slice nB X.non.length nd) (.int .i64 X.x) (.int .i64 X.g) (.int .i64 X.own) (.int .i64 X.oth) (.slice aB X.k1.length ad) (.slice bB X.k2.length bd) (.int .i64 X.ct):=⟨_,rfl⟩
 have hfin:∀ {u:Value} {m:List UInt8},BsS w4 (New w0 w4) u m->BsS w6 (New w w6) u m:=fun {u m} h=>h.keep fun g hg hl=>⟨by rw [hw6,K6 (by have:=hg.1;have:=HSZ.out;omega)],by have:=hg.1;have:=HSZ.out;omega,by rw [hw6,KV];exact hl⟩
 have hbel:Below w.heap.size w w6:=by rw [hw6];exact HB0.out.trans ((HP4.out.2.2).trans ((PtW.set12 (PtW.start HZ5.out) (.int .i64 X.kd) (.slice sB X.sec.length sd) (.int .i64 X.pr) (.int .i64 X.st) (.slice nB X.non.length nd) (.int .i64 X.x) (.int .i64 X.g) (.int .i64 X.own) (.int .i64 X.oth) (.slice aB X.k1.length ad) (.slice bB X.k2.length bd) (.int .i64 X.ct)).2.2.mono (Nat.le_succ _)))
 unfold Go.Proofs.YtalmmiojbmpmiaaGreatDoor.set12 at hw6
 rw [<-hw6]
 exact⟨_,_,_,_,_,_,_,_,rfl,hfin M1_4.out,hfin M2_4.out,hfin M3_4.out,hfin M4_4.out,hbel⟩
theorem YP(X:Exg)(sA nA aA bA:Option Addr)(sc nc ac bc:Nat)(o:Int)(ho:¬o=X.own)(hoe:0<=o/\o<2147483579)(hx:0<=X.x/\X.x<=1073741789)(KA KB:List UInt8)(ha:xG (jd (jM o X.x)) 1=KA)(hb:xG (jd (jM o X.x)) 2=KB)(w:World)(hK:KR w):Calls Tryz.prog 84 #[.agg #[.int .i64 X.kd,.slice sA X.sec.length sc,.int .i64 X.pr,.int .i64 X.st,.slice nA X.non.length nc,.int .i64 X.x,.int .i64 X.g,.int .i64 X.own,.int .i64 X.oth,.slice aA X.k1.length ac,.slice bA X.k2.length bc,.int .i64 X.ct],.int .i64 o] w fun e w'=>∃aB bB ad bd,e=.returned (.tuple #[.agg #[.int .i64 X.kd,.slice sA X.sec.length sc,.int .i64 X.pr,.int .i64 X.st,.slice nA X.non.length nc,.int .i64 X.x,.int .i64 X.g,.int .i64 X.own,.int .i64 o,.slice aB KA.length ad,.slice bB KB.length bd,.int .i64 0],.int .i64 0])/\BsS w' (New w w') (.slice aB KA.length ad) KA/\BsS w' (New w w') (.slice bB KB.length bd) KB/\Below w.heap.size w w':=by
 have la:KA.length=16:=by rw [<-ha];exact jG _ _
 have lb:KB.length=16:=by rw [<-hb];exact jG _ _
 rw [la,lb,<-ha,<-hb]
 exact UO X sA nA aA bA sc nc ac bc o ho hoe hx w hK
theorem j4l(w:World)(P:Nat):BsS w (j9 P w) (.slice none 0 0) []:=⟨none,0,rfl,by simp,by omega,by simp,fun h=>by simp at h⟩
theorem Xr{v:List UInt8}{o:Int}(h:jc v=(0,o)):jk o=true:=by
 unfold jc at h
 split at h
 ·cases h
 ·split at h
  ·cases h
  ·rename_i h2
   injection h with _ h
   rw [<-h]
   simpa using h2
section
variable(X:Exg)(sA nA aA bA:Option Addr)(sc nc ac bc:Nat)(vA eA:Option Addr)(vc ec:Nat)(B s:List UInt8)(w:World)(hK:KR w)(h1:Bs w w.heap.size (.slice sA X.sec.length sc) X.sec)(h2:Bs w w.heap.size (.slice nA X.non.length nc) X.non)(h3:Bs w w.heap.size (.slice aA X.k1.length ac) X.k1)(h4:Bs w w.heap.size (.slice bA X.k2.length bc) X.k2)(h5:Bs w w.heap.size (.slice vA B.length vc) B)(h6:Bs w w.heap.size (.slice eA s.length ec) s)(ls:X.sec.length<=140737488351232)(ln:X.non.length<=140737488351232)(l1:X.k1.length<=140737488351232)(l2:X.k2.length<=140737488351232)(hl:s.length<=140737488351232)
include X sA nA aA bA sc nc ac bc vA eA vc ec B s w hK h1 h2 h3 h4 h5 h6 ls ln l1 l2 hl
theorem ZU(hst:X.st<0\/3<X.st):Calls Tryz.prog 34 #[.agg #[.int .i64 X.kd,.slice sA X.sec.length sc,.int .i64 X.pr,.int .i64 X.st,.slice nA X.non.length nc,.int .i64 X.x,.int .i64 X.g,.int .i64 X.own,.int .i64 X.oth,.slice aA X.k1.length ac,.slice bA X.k2.length bc,.int .i64 X.ct],.slice vA B.length vc,.slice eA s.length ec] w (ExO (jv X B s) w):=by
 have R:Hid (jv X B s=jA 23):=iH (by unfold jv;rw [iT hst])
 obtain⟨w0,HW0,HB0,HSZ,FR,FZ,H1,H2,H3,H4,H5,H6⟩:=YN X sA nA aA bA sc nc ac bc h1 h2 h3 h4 h5 h6
 have HK:=iH hK;have HLN:=iH (And.intro ls (And.intro ln (And.intro l1 l2)));have HL:=iH hl
 have f:=j4 (FR.out w0 iB)
 have z:=j4 (FZ.out w0 iB)
 clear hK h1 h2 h3 h4 h5 h6 ls ln l1 l2 hl
 rcases hst with hst|hst
 all_goals
  go_enter Tryz.func34,Tryz.ntmps34
  go_upto_region 1 with fail
  rw [<-HW0.out]
  go_wp2_with fail
  have y:=j4 ((PtW.start (FZ.out w0 iB)).z12).1
  unfold Go.Proofs.YtalmmiojbmpmiaaGreatDoor.set12 at y
  refine bodyPost_ret (v:=.tuple #[.agg #[.int .i64 0,.slice none 0 0,.int .i64 0,.int .i64 0,.slice none 0 0,.int .i64 0,.int .i64 0,.int .i64 0,.int .i64 0,.slice none 0 0,.slice none 0 0,.int .i64 0],.slice none 0 0,.slice none 0 0,.int .i64 23]) (by simp [results,Tryz.results34,go_sem,y]) rfl ?_
  exact ExO.err R.out ((HB0.out.trans (iB.mono HB0.out.size)).trans (Below.mono (((PtW.start (FZ.out _ iB)).z12).2.2) (Nat.le_succ _)))
theorem QH(hst:0<=X.st/\X.st<=3)(hus:usC X=false):Calls Tryz.prog 34 #[.agg #[.int .i64 X.kd,.slice sA X.sec.length sc,.int .i64 X.pr,.int .i64 X.st,.slice nA X.non.length nc,.int .i64 X.x,.int .i64 X.g,.int .i64 X.own,.int .i64 X.oth,.slice aA X.k1.length ac,.slice bA X.k2.length bc,.int .i64 X.ct],.slice vA B.length vc,.slice eA s.length ec] w (ExO (jv X B s) w):=by
 have R:Hid (jv X B s=jA 14):=iH (by unfold jv;rw [iF (by omega),iT hus])
 have HUS:=iH hus
 obtain⟨w0,HW0,HB0,HSZ,FR,FZ,H1,H2,H3,H4,H5,H6⟩:=YN X sA nA aA bA sc nc ac bc h1 h2 h3 h4 h5 h6
 have HK:=iH hK;have HLN:=iH (And.intro ls (And.intro ln (And.intro l1 l2)));have HL:=iH hl
 have f:=j4 (FR.out w0 iB)
 have z:=j4 (FZ.out w0 iB)
 clear hK h1 h2 h3 h4 h5 h6 ls ln l1 l2 hl
 clear hus
 go_enter Tryz.func34,Tryz.ntmps34
 go_upto_region 1 with fail
 rw [<-HW0.out]
 go_upto_region 4 with (go_at_call 76;refine(YT X sA nA aA bA sc nc ac bc w0 H3.out H4.out HLN.out.2.2.1 HLN.out.2.2.2).mono ?_;rw [HUS.out];rintro e w1 ⟨rfl,hb⟩;have HB1:=iH hb;clear f;have g:=j4 (FR.out _ hb);clear z;have z:=j4 (FZ.out _ hb);clear hb)
 go_wp2_with fail
 have y:=j4 ((PtW.start (FZ.out w1 HB1.out)).z12).1
 unfold Go.Proofs.YtalmmiojbmpmiaaGreatDoor.set12 at y
 refine bodyPost_ret (v:=.tuple #[.agg #[.int .i64 0,.slice none 0 0,.int .i64 0,.int .i64 0,.slice none 0 0,.int .i64 0,.int .i64 0,.int .i64 0,.int .i64 0,.slice none 0 0,.slice none 0 0,.int .i64 0],.slice none 0 0,.slice none 0 0,.int .i64 14]) (by simp [results,Tryz.results34,go_sem,y]) rfl ?_
 exact ExO.err R.out ((HB0.out.trans (HB1.out.mono HB0.out.size)).trans (Below.mono (((PtW.start (FZ.out _ HB1.out)).z12).2.2) (Nat.le_succ _)))
theorem j3b(hst:0<=X.st/\X.st<=3)(hus:usC X=true):Calls Tryz.prog 34 #[.agg #[.int .i64 X.kd,.slice sA X.sec.length sc,.int .i64 X.pr,.int .i64 X.st,.slice nA X.non.length nc,.int .i64 X.x,.int .i64 X.g,.int .i64 X.own,.int .i64 X.oth,.slice aA X.k1.length ac,.slice bA X.k2.length bc,.int .i64 X.ct],.slice vA B.length vc,.slice eA s.length ec] w (ExO (jv X B s) w):=by
 obtain⟨r,hr⟩:∃r,kB B (yl X.st) (Xc X)=r:=⟨_,rfl⟩
 obtain⟨VB,hVB⟩:∃l,r.getD []=l:=⟨_,rfl⟩
 obtain⟨IB,hIB⟩:∃b,r.isSome=b:=⟨_,rfl⟩
 have HVC:Hid (∀v w,Bs w w.heap.size v B->Calls Tryz.prog 78 #[v,.int .i64 (yl X.st),.int .i64 (Jk X.pr (X.st+1) false)] w fun e w'=>∃v',e=.returned (.tuple #[v',.bool IB])/\BsS w' (New w w') v' VB/\Below w.heap.size w w'):=iH (fun v w h=>by
  have h:=j3h X (by omega) B v w h
  rw [hr]at h
  unfold ValOut at h
  rw [hVB,hIB]at h
  exact h)
 have HV:=iH hr;have HVB:=iH hVB;have HIB:=iH hIB
 have HST:Hid (X.st=0\/X.st=1\/X.st=2\/X.st=3):=iH (by omega)
 have HUS:=iH hus
 obtain⟨w0,HW0,HB0,HSZ,FR,FZ,H1,H2,H3,H4,H5,H6⟩:=YN X sA nA aA bA sc nc ac bc h1 h2 h3 h4 h5 h6
 have HK:=iH hK;have HLN:=iH (And.intro ls (And.intro ln (And.intro l1 l2)));have HL:=iH hl
 have f:=j4 (FR.out w0 iB)
 clear hK h1 h2 h3 h4 h5 h6 ls ln l1 l2 hl
 have d0:decide (X.st<0)=false:=decide_eq_false (by have:=HST.out;omega)
 have d3:decide (3<X.st)=false:=decide_eq_false (by have:=HST.out;omega)
 have HIX:=j8f X.st HST.out
 have hs0:0<=X.st:=by have:=HST.out;omega
 have hs3:X.st<=3:=by have:=HST.out;omega
 clear hus hst hr hVB hIB
 go_enter Tryz.func34,Tryz.ntmps34
 go_upto_region 1 with fail
 rw [<-HW0.out]
 go_upto_region 5 with (go_at_call 76;refine(YT X sA nA aA bA sc nc ac bc w0 H3.out H4.out HLN.out.2.2.1 HLN.out.2.2.2).mono ?_;rw [HUS.out];rintro e w1 ⟨rfl,hb⟩;have HB1:=iH hb;clear f;have f:=j4 (FR.out _ hb);clear hb)
 go_upto_region 6 with (go_at_call 77;refine(JR X sA nA aA bA sc nc ac bc w1 (H1.out.lift HB1.out) (H2.out.lift HB1.out) (H3.out.lift HB1.out) (H4.out.lift HB1.out) HLN.out.1 HLN.out.2.1 HLN.out.2.2.1 HLN.out.2.2.2).mono ?_;rintro e w3 ⟨sB,nB,aB,bB,sd,nd,ad,bd,rfl,k1,k2,k3,k4,hb⟩;have M1:=iH k1;have M2:=iH k2;have M3:=iH k3;have M4:=iH k4;have HB13:=iH hb;have HB3:=iH (HB1.out.trans (hb.mono HB1.out.size));clear k1 k2 k3 k4 hb f;have k:=j4 (show(w3.alloc (.cells #[.int .i64 0,.slice none 0 0,.int .i64 0,.int .i64 0,.slice none 0 0,.int .i64 0,.int .i64 0,.int .i64 0,.int .i64 0,.slice none 0 0,.slice none 0 0,.int .i64 0] 48)).heap[w3.heap.size]?=some (.cells #[.int .i64 0,.slice none 0 0,.int .i64 0,.int .i64 0,.slice none 0 0,.int .i64 0,.int .i64 0,.int .i64 0,.int .i64 0,.slice none 0 0,.slice none 0 0,.int .i64 0] 48 (0,0)) from iN))
 have hz3:w.heap.size+2<=w3.heap.size:=by have:=HSZ.out;have:=HB3.out.size;omega
 have hz1:w.heap.size+1<w1.heap.size:=by have:=HSZ.out;have:=HB1.out.size;omega
 have hL:∀x∈([(.slice sB X.sec.length sd,X.sec),(.slice nB X.non.length nd,X.non),(.slice aB X.k1.length ad,X.k1),(.slice bB X.k2.length bd,X.k2),(.slice sA X.sec.length sc,X.sec),(.slice nA X.non.length nc,X.non),(.slice aA X.k1.length ac,X.k1),(.slice bA X.k2.length bc,X.k2),(.slice vA B.length vc,B),(.slice eA s.length ec,s)]:List (Value×List UInt8)),BsS w3 (j9 (w.heap.size+1) w3) x.1 x.2:=by
  intro x hx
  simp only [List.mem_cons,List.not_mem_nil,or_false]at hx
  rcases hx with rfl|rfl|rfl|rfl|rfl|rfl|rfl|rfl|rfl|rfl
  ·exact M1.out.madeB hz1
  ·exact M2.out.madeB hz1
  ·exact M3.out.madeB hz1
  ·exact M4.out.madeB hz1
  ·exact BsS.keep (BsS.off (H1.out.lift HB3.out) (FZ.out _ HB3.out) Zo) fun g hs _=>⟨rfl,hs⟩
  ·exact BsS.keep (BsS.off (H2.out.lift HB3.out) (FZ.out _ HB3.out) Zo) fun g hs _=>⟨rfl,hs⟩
  ·exact BsS.keep (BsS.off (H3.out.lift HB3.out) (FZ.out _ HB3.out) Zo) fun g hs _=>⟨rfl,hs⟩
  ·exact BsS.keep (BsS.off (H4.out.lift HB3.out) (FZ.out _ HB3.out) Zo) fun g hs _=>⟨rfl,hs⟩
  ·exact BsS.keep (BsS.off (H5.out.lift HB3.out) (FZ.out _ HB3.out) Zo) fun g hs _=>⟨rfl,hs⟩
  ·exact BsS.keep (BsS.off (H6.out.lift HB3.out) (FZ.out _ HB3.out) Zo) fun g hs _=>⟨rfl,hs⟩
 obtain⟨w4,hw⟩:∃z,z=w3.alloc (.cells (exX X sB nB aB bB sd nd ad bd) 48):=⟨_,rfl⟩
 have hs:RS w w3.heap.size #[.int .i64 X.kd,.slice sA X.sec.length sc,.int .i64 X.pr,.int .i64 X.st,.slice nA X.non.length nc,.int .i64 X.x,.int .i64 X.g,.int .i64 X.own,.int .i64 X.oth,.slice aA X.k1.length ac,.slice bA X.k2.length bc,.int .i64 X.ct] #[.int .i64 X.kd,.slice sB X.sec.length sd,.int .i64 X.pr,.int .i64 X.st,.slice nB X.non.length nd,.int .i64 X.x,.int .i64 X.g,.int .i64 X.own,.int .i64 X.oth,.slice aB X.k1.length ad,.slice bB X.k2.length bd,.int .i64 X.ct] [(.slice sB X.sec.length sd,X.sec),(.slice nB X.non.length nd,X.non),(.slice aB X.k1.length ad,X.k1),(.slice bB X.k2.length bd,X.k2),(.slice sA X.sec.length sc,X.sec),(.slice nA X.non.length nc,X.non),(.slice aA X.k1.length ac,X.k1),(.slice bA X.k2.length bc,X.k2),(.slice vA B.length vc,B),(.slice eA s.length ec,s)] w4:=by rw [hw];exact(RS.start (HB0.out.trans (HB3.out.mono HB0.out.size)) (FR.out _ HB3.out) (FZ.out _ HB3.out) hz3 hL)
 rw [<-hw]
 obtain⟨gy,hgy⟩:∃g,g=w3.heap.size:=⟨_,rfl⟩
 rw [<-hgy]at hs |-
 have S4:=iH hs
 clear hw hs hgy hL hz3 hz1 k
 have f:=j4 S4.out.rx;have g:=j4 S4.out.ry
 go_upto_region 7 with fail
 obtain⟨w5,hw⟩:∃z,z=w4.setCell ⟨gy,3,none⟩ (.int .i64 (X.st+1)):=⟨_,rfl⟩
 rw [<-hw]
 have S5:Hid (RS w gy _ #[.int .i64 X.kd,.slice sB X.sec.length sd,.int .i64 X.pr,.int .i64 (X.st+1),.slice nB X.non.length nd,.int .i64 X.x,.int .i64 X.g,.int .i64 X.own,.int .i64 X.oth,.slice aB X.k1.length ad,.slice bB X.k2.length bd,.int .i64 X.ct] _ w5):=iH (by rw [hw];exact S4.out.set 3 _)
 clear f g;clear hw
 have f:=j4 S5.out.rx;have g:=j4 S5.out.ry
 go_upto_region 8 with (at_builtin;(with_reducible refine j5 rfl (.const (.slice none 0 0)) (.tmp 41) rfl w5.heap.size (.slice none 0 0) [] rfl (OwnB.nil _ _) eA s.length ec s _ rfl (S5.out.at 9 rfl) (by have:=HL.out;simp;omega) iL ?_);intro v6 w6 hgr;rw [List.nil_append]at hgr;obtain⟨eB,ed,hv6⟩:=hgr.1.form;subst hv6;have S6:=iH ((S5.out.on hgr.2.1).add S5.out.lt (hgr.1.out (by have:=HL.out;omega) w5 iL));clear f g;clear hgr;have f:=j4 S6.out.rx;have g:=j4 S6.out.ry)
 go_upto_region 9 with fail
 go_upto_region 10 with (first|(go_at_call 78;refine(HVC.out _ w7 (S7.out.lo 9 rfl)).mono ?_;rintro e w8 ⟨v8,rfl,hs,hb⟩;obtain⟨A8,c8,hp⟩:=Bs.formL hs;subst hp;have S8:=iH ((S7.out.on hb).add S7.out.lt hs);clear f g;clear hb hs;have f:=j4 S8.out.rx;have g:=j4 S8.out.ry)|(go_at_call 79;refine(KT X sA nA aA bA sc nc ac bc (X.st+1) false w6).mono ?_;rintro e w7 ⟨rfl,hb⟩;have S7:=iH (S6.out.on hb);clear f g;clear hb;have f:=j4 S7.out.rx;have g:=j4 S7.out.ry))
 rcases r with _|v
 ·obtain rfl:IB=false:=HIB.out.symm
  have R:Hid (jv X B s=jA 1):=iH (by have hus:=HUS.out;have hst:=HST.out;unfold jv;rw [iF (by omega),iF (by rw [hus];simp),HV.out])
  go_upto_region 11 with fail
  clear f g;have z:=j4 S8.out.rz
  go_wp2_with fail
  have y:=j4 ((PtW.start S8.out.rz).z12).1
  have hbel:=iH (S8.out.bel.trans (Below.mono (((PtW.start S8.out.rz).z12).2.2) (Nat.le_succ _)))
  unfold Go.Proofs.YtalmmiojbmpmiaaGreatDoor.set12 at y hbel
  refine bodyPost_ret (v:=.tuple #[.agg #[.int .i64 0,.slice none 0 0,.int .i64 0,.int .i64 0,.slice none 0 0,.int .i64 0,.int .i64 0,.int .i64 0,.int .i64 0,.slice none 0 0,.slice none 0 0,.int .i64 0],.slice none 0 0,.slice none 0 0,.int .i64 1]) (by simp [results,Tryz.results34,go_sem,y]) rfl ?_
  exact ExO.err R.out hbel.out
 obtain rfl:IB=true:=HIB.out.symm
 obtain rfl:v=VB:=HVB.out
 go_upto_block 0 with fail
 go_cut [11,15] (fun vn vr wx=>j67 w gy #[.int .i64 X.kd,.slice sA X.sec.length sc,.int .i64 X.pr,.int .i64 X.st,.slice nA X.non.length nc,.int .i64 X.x,.int .i64 X.g,.int .i64 X.own,.int .i64 X.oth,.slice aA X.k1.length ac,.slice bA X.k2.length bc,.int .i64 X.ct] (jv X B s) (128+2*X.st) vn vr wx)
 case first=>
  have hq:=HST.out
  clear HIB HVB HVC
  rcases hq with q|q|q|q
  ·have hus:=HUS.out;have hv:=HV.out
   obtain⟨SD,hSD⟩:∃l,sdW s=l:=⟨_,rfl⟩
   obtain⟨DN,hDN⟩:∃l,jt s 16=l:=⟨_,rfl⟩
   obtain⟨SK,hKK⟩:∃k,jX s=k:=⟨_,rfl⟩
   have DRW:=iH (xL s DN SD hDN hSD HL.out)
   have SEC:=iH (qs s SD SK hKK hSD HL.out)
   have hDL:DN.length=16:=by rw [<-hDN];exact x8 s
   have hKI:0<=SK/\SK<=1073741789:=by rw [<-hKK];exact yS s
   have hp:vPw X.kd X.sec=true:=(qt hus).1
   obtain⟨HD,hHD⟩:∃l,qg (kX X.kd X.sec) Z16 DN=l:=⟨_,rfl⟩
   have hh:qr X.kd X.sec DN=(0,HD):=by
    unfold qr
    rw [iF (by rw [hp];simp),iF (by omega),hHD]
   have HH:=iH hh
   have HTG:Hid (128<=128+2*X.st/\128+2*X.st<=134):=iH ⟨by omega,by omega⟩
   have R:Hid (jv X B s=(0,⟨X.kd,X.sec,X.pr,X.st+1,DN,X.x,X.g,X.own,X.oth,X.k1,X.k2,X.ct⟩,jB (128+2*X.st) HD,SD)):=iH (by unfold jv;rw [iF (by omega),iF (by rw [hus];simp),hv];simp only [];rw [iT q,hDN,hh,hSD,q]<;>rfl)
   have b1:(X.st+1==1)=true:=by simp;omega
   clear hus hv q hp hHD hh hSD hDN hKK hDL hKI
   go_upto_region 20 with (go_at_call 80;refine(DRW.out _ w8 (HK.out.below S8.out.bel HK.out.lt) (S8.out.lo 11 rfl)).mono ?_;rintro e w9 ⟨A9,c9,B9,d9,rfl,h1,h2,hb⟩;have S9:=iH (((S8.out.on hb).add S8.out.lt h2).add S8.out.lt h1);clear f g;clear hb h2 h1;have f:=j4 S9.out.rx;have g:=j4 S9.out.ry)
   obtain⟨w10,hw⟩:∃z,z=w9.setCell ⟨gy,4,none⟩ (.slice A9 DN.length c9):=⟨_,rfl⟩
   rw [<-hw]
   have S10:Hid (RS w gy _ #[.int .i64 X.kd,.slice sB X.sec.length sd,.int .i64 X.pr,.int .i64 (X.st+1),.slice A9 DN.length c9,.int .i64 X.x,.int .i64 X.g,.int .i64 X.own,.int .i64 X.oth,.slice aB X.k1.length ad,.slice bB X.k2.length bd,.int .i64 X.ct] _ w10):=iH (by rw [hw];exact S9.out.set 4 _)
   clear f g;clear hw
   have f:=j4 S10.out.rx;have g:=j4 S10.out.ry
   go_wp2_with(go_at_call 19;refine(j0p X.kd X.sec sA sc DN A9 c9 w10 (HK.out.below S10.out.bel HK.out.lt) (S10.out.lo 8 rfl) (S10.out.lo 0 rfl)).mono ?_;rw [HH.out];rintro e w11 ⟨v10,rfl,hs,hb⟩;obtain⟨A10,c10,hp⟩:=Bs.formL hs;subst hp;have S11:=iH ((S10.out.on hb).add S10.out.lt hs);clear f g;clear hb hs;have f:=j4 S11.out.rx;have g:=j4 S11.out.ry)
   go_meet
   exact⟨⟨X.kd,X.sec,X.pr,X.st+1,DN,X.x,X.g,X.own,X.oth,X.k1,X.k2,X.ct⟩,HD,SD,sB,A9,aB,bB,A10,B9,sd,c9,ad,bd,c10,d9,rfl,rfl,S11.out.noL,(S11.out.offP 5 rfl),(S11.out.offP 1 rfl),(S11.out.offP 7 rfl),(S11.out.offP 8 rfl),(S11.out.offP 0 rfl),(S11.out.offP 2 rfl),HTG.out,R.out⟩
  ·by_cases hp3:X.pr=3
   ·have hus:=HUS.out;have hv:=HV.out
    have hn:=(qt hus).2.2.1 (by omega)
    obtain⟨gi,hi⟩:∃g,yj X.non v=(0,g):=⟨_,by unfold yj;rw [iF (fun x=>x ⟨hn,Zi q hp3 hv⟩)]⟩
    have HI:=iH hi
    have tp:(X.pr==3)=true:=by simp [hp3]
    have HTG:Hid (128<=128+2*X.st/\128+2*X.st<=134):=iH ⟨by omega,by omega⟩
    have R:Hid (jv X B s=(0,⟨X.kd,X.sec,X.pr,X.st+1,X.non,X.x,gi,X.own,X.oth,X.k1,X.k2,X.ct⟩,jB (128+2*X.st) [],s)):=iH (by unfold jv;rw [iF (by omega),iF (by rw [hus];simp),hv];simp only [];rw [iF (by omega),iT q,iT hp3,hi,q]<;>rfl)
    have b1:(X.st+1==1)=false:=by simp;omega
    have b2:(X.st+1==2)=true:=by simp;omega
    clear hus hv q hn hi hp3
    go_wp2_with(go_at_call 28;refine(KQ X.non v _ _ w8 (HK.out.below S8.out.bel HK.out.lt) (S8.out.lo 7 rfl) (S8.out.lo 0 rfl)).mono ?_;rw [HI.out];rintro e w9 ⟨rfl,hb⟩;have S9:=iH (S8.out.on hb);clear f g;clear hb;have f:=j4 S9.out.rx;have g:=j4 S9.out.ry)
    obtain⟨w10,hw⟩:∃z,z=w9.setCell ⟨gy,6,none⟩ (.int .i64 gi):=⟨_,rfl⟩
    rw [<-hw]
    have S10:Hid (RS w gy _ #[.int .i64 X.kd,.slice sB X.sec.length sd,.int .i64 X.pr,.int .i64 (X.st+1),.slice nB X.non.length nd,.int .i64 X.x,.int .i64 gi,.int .i64 X.own,.int .i64 X.oth,.slice aB X.k1.length ad,.slice bB X.k2.length bd,.int .i64 X.ct] _ w10):=iH (by rw [hw];exact S9.out.set 6 _)
    clear f g;clear hw
    have f:=j4 S10.out.rx;have g:=j4 S10.out.ry
    go_meet
    exact⟨⟨X.kd,X.sec,X.pr,X.st+1,X.non,X.x,gi,X.own,X.oth,X.k1,X.k2,X.ct⟩,[],s,sB,nB,aB,bB,none,eB,sd,nd,ad,bd,0,ed,rfl,rfl,S10.out.noL,(S10.out.offP 2 rfl),(S10.out.offP 3 rfl),(S10.out.offP 4 rfl),(S10.out.offP 5 rfl),(j4l w10 (w.heap.size+1)),(S10.out.offP 1 rfl),HTG.out,R.out⟩
   have hus:=HUS.out;have hv:=HV.out
   have hp2:X.pr=2:=by have:=(qt hus).2.1;omega
   have tp:(X.pr==3)=false:=by simp [hp2]
   clear hp3
   obtain⟨⟨er,o⟩,hde⟩:∃r,jc v=r:=⟨_,rfl⟩
   by_cases he:er=0
   ·subst he
    obtain⟨⟨er,gi⟩,hg⟩:∃r,qT X.non (jX s) o=r:=⟨_,rfl⟩
    by_cases he:er=0
    ·subst he
     obtain⟨SD,hSD⟩:∃l,sdW s=l:=⟨_,rfl⟩
     obtain⟨DN,hDN⟩:∃l,jt s 16=l:=⟨_,rfl⟩
     obtain⟨SK,hKK⟩:∃k,jX s=k:=⟨_,rfl⟩
     have DRW:=iH (xL s DN SD hDN hSD HL.out)
     have SEC:=iH (qs s SD SK hKK hSD HL.out)
     have hDL:DN.length=16:=by rw [<-hDN];exact x8 s
     have hKI:0<=SK/\SK<=1073741789:=by rw [<-hKK];exact yS s
     have HDE:=iH hde
     have hge:qT X.non SK o=(0,gi):=by rw [<-hKK];exact hg
     have HGE:=iH hge
     obtain⟨G,hG⟩:∃g,jM 4 SK=g:=⟨_,rfl⟩
     have hgi:=zy 4 SK
     rw [hG]at hgi
     have HPW:=iH (K0 4 SK ⟨by omega,by omega⟩ hKI)
     rw [hG]at HPW
     have HEN:=iH (zB G hgi)
     have HTG:Hid (128<=128+2*X.st/\128+2*X.st<=134):=iH ⟨by omega,by omega⟩
     have R:Hid (jv X B s=(0,⟨X.kd,X.sec,X.pr,X.st+1,X.non,X.x,gi,X.own,X.oth,X.k1,X.k2,X.ct⟩,jB (128+2*X.st) (jd G),SD)):=iH (by unfold jv;rw [iF (by omega),iF (by rw [hus];simp),hv];simp only [];rw [iF (by omega),iT q,iF (by omega),hde];simp only [];rw [hg,iF (by simp),iF (by simp),hSD,hKK,hG,q]<;>rfl)
     have b1:(X.st+1==1)=false:=by simp;omega
     have b2:(X.st+1==2)=true:=by simp;omega
     clear hus hv q hde hge hg hp2 hSD hDN hKK hDL hKI hG hgi
     go_upto_region 28 with (go_at_call 81;refine(jO v _ _ w8 (S8.out.at 0 rfl)).mono ?_;rw [HDE.out];rintro e w' ⟨rfl,hw⟩;rw [hw];clear hw w')
     go_upto_region 30 with (first|(go_at_call 24;refine(qR X.non _ SK o w9 (S9.out.lo 8 rfl)).mono ?_;rw [HGE.out];rintro e w' ⟨rfl,hw⟩;rw [hw];clear hw w')|(go_at_call 82;refine(SEC.out _ w8 (HK.out.below S8.out.bel HK.out.lt) (S8.out.lo 11 rfl)).mono ?_;rintro e w9 ⟨B9,d9,rfl,h2,hb⟩;have S9:=iH ((S8.out.on hb).add S8.out.lt h2);clear f g;clear hb h2;have f:=j4 S9.out.rx;have g:=j4 S9.out.ry))
     obtain⟨w10,hw⟩:∃z,z=w9.setCell ⟨gy,6,none⟩ (.int .i64 gi):=⟨_,rfl⟩
     rw [<-hw]
     have S10:Hid (RS w gy _ #[.int .i64 X.kd,.slice sB X.sec.length sd,.int .i64 X.pr,.int .i64 (X.st+1),.slice nB X.non.length nd,.int .i64 X.x,.int .i64 gi,.int .i64 X.own,.int .i64 X.oth,.slice aB X.k1.length ad,.slice bB X.k2.length bd,.int .i64 X.ct] _ w10):=iH (by rw [hw];exact S9.out.set 6 _)
     clear f g;clear hw
     have f:=j4 S10.out.rx;have g:=j4 S10.out.ry
     go_wp2_with(first|(go_at_call 83;refine(HEN.out _).mono ?_;rintro e w11 ⟨A12,c12,rfl,hs,hb⟩;have S11:=iH ((S10.out.on hb).add S10.out.lt hs);clear f g;clear hb hs;have f:=j4 S11.out.rx;have g:=j4 S11.out.ry)|(go_at_call 61;refine(HPW.out _).mono ?_;rintro e w' ⟨rfl,hw⟩;rw [hw];clear hw w'))
     go_meet
     exact⟨⟨X.kd,X.sec,X.pr,X.st+1,X.non,X.x,gi,X.own,X.oth,X.k1,X.k2,X.ct⟩,jd G,SD,sB,nB,aB,bB,A12,B9,sd,nd,ad,bd,c12,d9,rfl,rfl,S11.out.noL,(S11.out.offP 4 rfl),(S11.out.offP 5 rfl),(S11.out.offP 6 rfl),(S11.out.offP 7 rfl),(S11.out.offP 0 rfl),(S11.out.offP 1 rfl),HTG.out,R.out⟩
    ·have hne:=he
     have he:=qi he
     obtain⟨SD,hSD⟩:∃l,sdW s=l:=⟨_,rfl⟩
     obtain⟨DN,hDN⟩:∃l,jt s 16=l:=⟨_,rfl⟩
     obtain⟨SK,hKK⟩:∃k,jX s=k:=⟨_,rfl⟩
     have DRW:=iH (xL s DN SD hDN hSD HL.out)
     have SEC:=iH (qs s SD SK hKK hSD HL.out)
     have hDL:DN.length=16:=by rw [<-hDN];exact x8 s
     have hKI:0<=SK/\SK<=1073741789:=by rw [<-hKK];exact yS s
     have HDE:=iH hde
     have hge:qT X.non SK o=(er,gi):=by rw [<-hKK];exact hg
     have HGE:=iH hge
     have R:Hid (jv X B s=jA er):=iH (by unfold jv;rw [iF (by omega),iF (by rw [hus];simp),hv];simp only [];rw [iF (by omega),iT q,iF (by omega),hde];simp only [];rw [hg,iF (by simp),iT hne])
     have b1:(X.st+1==1)=false:=by simp;omega
     have b2:(X.st+1==2)=true:=by simp;omega
     clear hus hv q hde hge hg hne hp2 hSD hDN hKK hDL hKI
     go_upto_region 28 with (go_at_call 81;refine(jO v _ _ w8 (S8.out.at 0 rfl)).mono ?_;rw [HDE.out];rintro e w' ⟨rfl,hw⟩;rw [hw];clear hw w')
     go_upto_region 30 with (first|(go_at_call 24;refine(qR X.non _ SK o w9 (S9.out.lo 8 rfl)).mono ?_;rw [HGE.out];rintro e w' ⟨rfl,hw⟩;rw [hw];clear hw w')|(go_at_call 82;refine(SEC.out _ w8 (HK.out.below S8.out.bel HK.out.lt) (S8.out.lo 11 rfl)).mono ?_;rintro e w9 ⟨B9,d9,rfl,h2,hb⟩;have S9:=iH ((S8.out.on hb).add S8.out.lt h2);clear f g;clear hb h2;have f:=j4 S9.out.rx;have g:=j4 S9.out.ry))
     obtain⟨w10,hw⟩:∃z,z=w9.setCell ⟨gy,6,none⟩ (.int .i64 gi):=⟨_,rfl⟩
     rw [<-hw]
     have S10:Hid (RS w gy _ #[.int .i64 X.kd,.slice sB X.sec.length sd,.int .i64 X.pr,.int .i64 (X.st+1),.slice nB X.non.length nd,.int .i64 X.x,.int .i64 gi,.int .i64 X.own,.int .i64 X.oth,.slice aB X.k1.length ad,.slice bB X.k2.length bd,.int .i64 X.ct] _ w10):=iH (by rw [hw];exact S9.out.set 6 _)
     clear f g;clear hw
     have f:=j4 S10.out.rx;have g:=j4 S10.out.ry
     go_upto_region 31 with fail
     clear f g;have z:=j4 S10.out.rz
     go_wp2_with fail
     have y:=j4 ((PtW.start S10.out.rz).z12).1
     have hbel:=iH (S10.out.bel.trans (Below.mono (((PtW.start S10.out.rz).z12).2.2) (Nat.le_succ _)))
     unfold Go.Proofs.YtalmmiojbmpmiaaGreatDoor.set12 at y hbel
     refine bodyPost_ret (v:=.tuple #[.agg #[.int .i64 0,.slice none 0 0,.int .i64 0,.int .i64 0,.slice none 0 0,.int .i64 0,.int .i64 0,.int .i64 0,.int .i64 0,.slice none 0 0,.slice none 0 0,.int .i64 0],.slice none 0 0,.slice none 0 0,.int .i64 er]) (by simp [results,Tryz.results34,go_sem,y]) rfl ?_
     exact ExO.err R.out hbel.out
   ·have hne:=he
    have he:=qi he
    have HDE:=iH hde
    have R:Hid (jv X B s=jA er):=iH (by unfold jv;rw [iF (by omega),iF (by rw [hus];simp),hv];simp only [];rw [iF (by omega),iT q,iF (by omega),hde];simp only [];rw [iT hne])
    have b1:(X.st+1==1)=false:=by simp;omega
    have b2:(X.st+1==2)=true:=by simp;omega
    clear hus hv q hde hne hp2
    go_upto_region 26 with (go_at_call 81;refine(jO v _ _ w8 (S8.out.at 0 rfl)).mono ?_;rw [HDE.out];rintro e w' ⟨rfl,hw⟩;rw [hw];clear hw w')
    clear f g;have z:=j4 S8.out.rz
    go_wp2_with fail
    have y:=j4 ((PtW.start S8.out.rz).z12).1
    have hbel:=iH (S8.out.bel.trans (Below.mono (((PtW.start S8.out.rz).z12).2.2) (Nat.le_succ _)))
    unfold Go.Proofs.YtalmmiojbmpmiaaGreatDoor.set12 at y hbel
    refine bodyPost_ret (v:=.tuple #[.agg #[.int .i64 0,.slice none 0 0,.int .i64 0,.int .i64 0,.slice none 0 0,.int .i64 0,.int .i64 0,.int .i64 0,.int .i64 0,.slice none 0 0,.slice none 0 0,.int .i64 0],.slice none 0 0,.slice none 0 0,.int .i64 er]) (by simp [results,Tryz.results34,go_sem,y]) rfl ?_
    exact ExO.err R.out hbel.out
  ·obtain⟨⟨er,o⟩,hde⟩:∃r,jc v=r:=⟨_,rfl⟩
   have hus:=HUS.out;have hv:=HV.out
   by_cases he:er=0
   ·subst he
    by_cases hne:o=jM X.g (jX s)
    ·obtain⟨SD,hSD⟩:∃l,sdW s=l:=⟨_,rfl⟩
     obtain⟨DN,hDN⟩:∃l,jt s 16=l:=⟨_,rfl⟩
     obtain⟨SK,hKK⟩:∃k,jX s=k:=⟨_,rfl⟩
     have DRW:=iH (xL s DN SD hDN hSD HL.out)
     have SEC:=iH (qs s SD SK hKK hSD HL.out)
     have hDL:DN.length=16:=by rw [<-hDN];exact x8 s
     have hKI:0<=SK/\SK<=1073741789:=by rw [<-hKK];exact yS s
     have hg:=(qt hus).2.2.2.1 (by omega)
     have HDE:=iH hde
     obtain⟨OW,hOW⟩:∃g,jM X.g SK=g:=⟨_,rfl⟩
     have hgi:=zy X.g SK
     rw [hOW]at hgi
     have hxg:0<=X.g/\X.g<2147483579:=by have:=jF hg;omega
     have HPW:=iH (K0 X.g SK hxg hKI)
     rw [hOW]at HPW
     have hno:o=OW:=by rw [<-hOW,<-hKK];exact hne
     have HNE:=iH hno
     have R:Hid (jv X B s=jA 10):=iH (by unfold jv;rw [iF (by omega),iF (by rw [hus];simp),hv];simp only [];rw [iF (by omega),iF (by omega),iT q,hde];simp only [];rw [iF (by simp),iT hne])
     have b1:(X.st+1==1)=false:=by simp;omega
     have b2:(X.st+1==2)=false:=by simp;omega
     have b3:(X.st+1==3)=true:=by simp;omega
     clear hus hv q hde hne hno hg hSD hDN hKK hDL hKI hOW hgi hxg
     go_upto_region 37 with (go_at_call 81;refine(jO v _ _ w8 (S8.out.at 0 rfl)).mono ?_;rw [HDE.out];rintro e w' ⟨rfl,hw⟩;rw [hw];clear hw w')
     go_upto_region 38 with (go_at_call 82;refine(SEC.out _ w8 (HK.out.below S8.out.bel HK.out.lt) (S8.out.lo 11 rfl)).mono ?_;rintro e w9 ⟨B9,d9,rfl,h2,hb⟩;have S9:=iH ((S8.out.on hb).add S8.out.lt h2);clear f g;clear hb h2;have f:=j4 S9.out.rx;have g:=j4 S9.out.ry)
     obtain⟨w10,hw⟩:∃z,z=w9.setCell ⟨gy,5,none⟩ (.int .i64 SK):=⟨_,rfl⟩
     rw [<-hw]
     have S10:Hid (RS w gy _ #[.int .i64 X.kd,.slice sB X.sec.length sd,.int .i64 X.pr,.int .i64 (X.st+1),.slice nB X.non.length nd,.int .i64 SK,.int .i64 X.g,.int .i64 X.own,.int .i64 X.oth,.slice aB X.k1.length ad,.slice bB X.k2.length bd,.int .i64 X.ct] _ w10):=iH (by rw [hw];exact S9.out.set 5 _)
     clear f g;clear hw
     have f:=j4 S10.out.rx;have g:=j4 S10.out.ry
     go_upto_region 39 with (go_at_call 61;refine(HPW.out _).mono ?_;rintro e w' ⟨rfl,hw⟩;rw [hw];clear hw w')
     obtain⟨w11,hw⟩:∃z,z=w10.setCell ⟨gy,7,none⟩ (.int .i64 OW):=⟨_,rfl⟩
     rw [<-hw]
     have S11:Hid (RS w gy _ #[.int .i64 X.kd,.slice sB X.sec.length sd,.int .i64 X.pr,.int .i64 (X.st+1),.slice nB X.non.length nd,.int .i64 SK,.int .i64 X.g,.int .i64 OW,.int .i64 X.oth,.slice aB X.k1.length ad,.slice bB X.k2.length bd,.int .i64 X.ct] _ w11):=iH (by rw [hw];exact S10.out.set 7 _)
     clear f g;clear hw
     have f:=j4 S11.out.rx;have g:=j4 S11.out.ry
     go_upto_region 40 with (go_at_call 84;refine(JQ (Exg.mk (X.kd) (X.sec) (X.pr) (X.st+1) (X.non) (SK) (X.g) (OW) (X.oth) (X.k1) (X.k2) (X.ct)) sB nB aB bB sd nd ad bd o HNE.out w11).mono ?_;rintro e w12 ⟨rfl,hb⟩;have S12:=iH (S11.out.on hb);clear f g;clear hb;have f:=j4 S12.out.rx;have g:=j4 S12.out.ry)
     obtain⟨w13,hw⟩:∃z,z=set12 w12 gy (.int .i64 X.kd) (.slice sB X.sec.length sd) (.int .i64 X.pr) (.int .i64 (X.st+1)) (.slice nB X.non.length nd) (.int .i64 SK) (.int .i64 X.g) (.int .i64 OW) (.int .i64 X.oth) (.slice aB X.k1.length ad) (.slice bB X.k2.length bd) (.int .i64 X.ct):=⟨_,rfl⟩
     have S13:Hid (RS w gy _ #[.int .i64 X.kd,.slice sB X.sec.length sd,.int .i64 X.pr,.int .i64 (X.st+1),.slice nB X.non.length nd,.int .i64 SK,.int .i64 X.g,.int .i64 OW,.int .i64 X.oth,.slice aB X.k1.length ad,.slice bB X.k2.length bd,.int .i64 X.ct] _ w13):=iH (by rw [hw];exact S12.out.fill (.int .i64 X.kd) (.slice sB X.sec.length sd) (.int .i64 X.pr) (.int .i64 (X.st+1)) (.slice nB X.non.length nd) (.int .i64 SK) (.int .i64 X.g) (.int .i64 OW) (.int .i64 X.oth) (.slice aB X.k1.length ad) (.slice bB X.k2.length bd) (.int .i64 X.ct))
     unfold Go.Proofs.YtalmmiojbmpmiaaGreatDoor.set12 at hw
     rw [<-hw]
     clear f g;clear hw
     have f:=j4 S13.out.rx;have g:=j4 S13.out.ry
     go_upto_region 41 with fail
     clear f g;have z:=j4 S13.out.rz
     go_wp2_with fail
     have y:=j4 ((PtW.start S13.out.rz).z12).1
     have hbel:=iH (S13.out.bel.trans (Below.mono (((PtW.start S13.out.rz).z12).2.2) (Nat.le_succ _)))
     unfold Go.Proofs.YtalmmiojbmpmiaaGreatDoor.set12 at y hbel
     refine bodyPost_ret (v:=.tuple #[.agg #[.int .i64 0,.slice none 0 0,.int .i64 0,.int .i64 0,.slice none 0 0,.int .i64 0,.int .i64 0,.int .i64 0,.int .i64 0,.slice none 0 0,.slice none 0 0,.int .i64 0],.slice none 0 0,.slice none 0 0,.int .i64 10]) (by simp [results,Tryz.results34,go_sem,y]) rfl ?_
     exact ExO.err R.out hbel.out
    ·obtain⟨SD,hSD⟩:∃l,sdW s=l:=⟨_,rfl⟩
     obtain⟨DN,hDN⟩:∃l,jt s 16=l:=⟨_,rfl⟩
     obtain⟨SK,hKK⟩:∃k,jX s=k:=⟨_,rfl⟩
     have DRW:=iH (xL s DN SD hDN hSD HL.out)
     have SEC:=iH (qs s SD SK hKK hSD HL.out)
     have hDL:DN.length=16:=by rw [<-hDN];exact x8 s
     have hKI:0<=SK/\SK<=1073741789:=by rw [<-hKK];exact yS s
     have hg:=(qt hus).2.2.2.1 (by omega)
     have HDE:=iH hde
     obtain⟨OW,hOW⟩:∃g,jM X.g SK=g:=⟨_,rfl⟩
     have hgi:=zy X.g SK
     rw [hOW]at hgi
     have hxg:0<=X.g/\X.g<2147483579:=by have:=jF hg;omega
     have HPW:=iH (K0 X.g SK hxg hKI)
     rw [hOW]at HPW
     have hno:¬o=OW:=by rw [<-hOW,<-hKK];exact hne
     have hoi:0<=o/\o<2147483579:=by have:=jF (Xr hde);omega
     have HNE:=iH hno;have HOI:=iH hoi;have HKI:=iH hKI
     have HEN:=iH (zB OW hgi)
     obtain⟨KA,hKA⟩:∃l,xG (jd (jM o SK)) 1=l:=⟨_,rfl⟩
     obtain⟨KB,hKB⟩:∃l,xG (jd (jM o SK)) 2=l:=⟨_,rfl⟩
     have HKA:=iH hKA;have HKB:=iH hKB
     have HTG:Hid (128<=128+2*X.st/\128+2*X.st<=134):=iH ⟨by omega,by omega⟩
     have R:Hid (jv X B s=(0,⟨X.kd,X.sec,X.pr,X.st+1,X.non,SK,X.g,OW,o,KA,KB,0⟩,jB (128+2*X.st) (jd OW),SD)):=iH (by unfold jv;rw [iF (by omega),iF (by rw [hus];simp),hv];simp only [];rw [iF (by omega),iF (by omega),iT q,hde];simp only [];rw [iF (by simp),iF hne,hKK,hOW,hSD,q];unfold kf;simp only [];rw [iF hno,hKA,hKB]<;>rfl)
     have b1:(X.st+1==1)=false:=by simp;omega
     have b2:(X.st+1==2)=false:=by simp;omega
     have b3:(X.st+1==3)=true:=by simp;omega
     clear hus hv q hde hne hno hg hSD hDN hKK hDL hKI hOW hgi hxg hoi hKA hKB
     go_upto_region 37 with (go_at_call 81;refine(jO v _ _ w8 (S8.out.at 0 rfl)).mono ?_;rw [HDE.out];rintro e w' ⟨rfl,hw⟩;rw [hw];clear hw w')
     go_upto_region 38 with (go_at_call 82;refine(SEC.out _ w8 (HK.out.below S8.out.bel HK.out.lt) (S8.out.lo 11 rfl)).mono ?_;rintro e w9 ⟨B9,d9,rfl,h2,hb⟩;have S9:=iH ((S8.out.on hb).add S8.out.lt h2);clear f g;clear hb h2;have f:=j4 S9.out.rx;have g:=j4 S9.out.ry)
     obtain⟨w10,hw⟩:∃z,z=w9.setCell ⟨gy,5,none⟩ (.int .i64 SK):=⟨_,rfl⟩
     rw [<-hw]
     have S10:Hid (RS w gy _ #[.int .i64 X.kd,.slice sB X.sec.length sd,.int .i64 X.pr,.int .i64 (X.st+1),.slice nB X.non.length nd,.int .i64 SK,.int .i64 X.g,.int .i64 X.own,.int .i64 X.oth,.slice aB X.k1.length ad,.slice bB X.k2.length bd,.int .i64 X.ct] _ w10):=iH (by rw [hw];exact S9.out.set 5 _)
     clear f g;clear hw
     have f:=j4 S10.out.rx;have g:=j4 S10.out.ry
     go_upto_region 39 with (go_at_call 61;refine(HPW.out _).mono ?_;rintro e w' ⟨rfl,hw⟩;rw [hw];clear hw w')
     obtain⟨w11,hw⟩:∃z,z=w10.setCell ⟨gy,7,none⟩ (.int .i64 OW):=⟨_,rfl⟩
     rw [<-hw]
     have S11:Hid (RS w gy _ #[.int .i64 X.kd,.slice sB X.sec.length sd,.int .i64 X.pr,.int .i64 (X.st+1),.slice nB X.non.length nd,.int .i64 SK,.int .i64 X.g,.int .i64 OW,.int .i64 X.oth,.slice aB X.k1.length ad,.slice bB X.k2.length bd,.int .i64 X.ct] _ w11):=iH (by rw [hw];exact S10.out.set 7 _)
     clear f g;clear hw
     have f:=j4 S11.out.rx;have g:=j4 S11.out.ry
     go_upto_region 40 with (go_at_call 84;refine(YP (Exg.mk (X.kd) (X.sec) (X.pr) (X.st+1) (X.non) (SK) (X.g) (OW) (X.oth) (X.k1) (X.k2) (X.ct)) sB nB aB bB sd nd ad bd o HNE.out HOI.out HKI.out KA KB HKA.out HKB.out w11 (HK.out.below S11.out.bel HK.out.lt)).mono ?_;rintro e w12 ⟨aC,bC,ae,be,rfl,m1,m2,hb⟩;have S12:=iH (((S11.out.on hb).add S11.out.lt m2).add S11.out.lt m1);clear f g;clear hb m2 m1;have f:=j4 S12.out.rx;have g:=j4 S12.out.ry)
     obtain⟨w13,hw⟩:∃z,z=set12 w12 gy (.int .i64 X.kd) (.slice sB X.sec.length sd) (.int .i64 X.pr) (.int .i64 (X.st+1)) (.slice nB X.non.length nd) (.int .i64 SK) (.int .i64 X.g) (.int .i64 OW) (.int .i64 o) (.slice aC KA.length ae) (.slice bC KB.length be) (.int .i64 0):=⟨_,rfl⟩
     have S13:Hid (RS w gy _ #[.int .i64 X.kd,.slice sB X.sec.length sd,.int .i64 X.pr,.int .i64 (X.st+1),.slice nB X.non.length nd,.int .i64 SK,.int .i64 X.g,.int .i64 OW,.int .i64 o,.slice aC KA.length ae,.slice bC KB.length be,.int .i64 0] _ w13):=iH (by rw [hw];exact S12.out.fill (.int .i64 X.kd) (.slice sB X.sec.length sd) (.int .i64 X.pr) (.int .i64 (X.st+1)) (.slice nB X.non.length nd) (.int .i64 SK) (.int .i64 X.g) (.int .i64 OW) (.int .i64 o) (.slice aC KA.length ae) (.slice bC KB.length be) (.int .i64 0))
     unfold Go.Proofs.YtalmmiojbmpmiaaGreatDoor.set12 at hw
     rw [<-hw]
     clear f g;clear hw
     have f:=j4 S13.out.rx;have g:=j4 S13.out.ry
     go_wp2_with(go_at_call 83;refine(HEN.out _).mono ?_;rintro e w14 ⟨A12,c12,rfl,hs,hb⟩;have S14:=iH ((S13.out.on hb).add S13.out.lt hs);clear f g;clear hb hs;have f:=j4 S14.out.rx;have g:=j4 S14.out.ry)
     go_meet
     exact⟨⟨X.kd,X.sec,X.pr,X.st+1,X.non,SK,X.g,OW,o,KA,KB,0⟩,jd OW,SD,sB,nB,aC,bC,A12,B9,sd,nd,ae,be,c12,d9,rfl,rfl,S14.out.noL,(S14.out.offP 6 rfl),(S14.out.offP 7 rfl),(S14.out.offP 1 rfl),(S14.out.offP 2 rfl),(S14.out.offP 0 rfl),(S14.out.offP 3 rfl),HTG.out,R.out⟩
   ·have hne:=he
    have he:=qi he
    have HDE:=iH hde
    have R:Hid (jv X B s=jA er):=iH (by unfold jv;rw [iF (by omega),iF (by rw [hus];simp),hv];simp only [];rw [iF (by omega),iF (by omega),iT q,hde];simp only [];rw [iT hne])
    have b1:(X.st+1==1)=false:=by simp;omega
    have b2:(X.st+1==2)=false:=by simp;omega
    have b3:(X.st+1==3)=true:=by simp;omega
    clear hus hv q hde hne
    go_upto_region 36 with (go_at_call 81;refine(jO v _ _ w8 (S8.out.at 0 rfl)).mono ?_;rw [HDE.out];rintro e w' ⟨rfl,hw⟩;rw [hw];clear hw w')
    clear f g;have z:=j4 S8.out.rz
    go_wp2_with fail
    have y:=j4 ((PtW.start S8.out.rz).z12).1
    have hbel:=iH (S8.out.bel.trans (Below.mono (((PtW.start S8.out.rz).z12).2.2) (Nat.le_succ _)))
    unfold Go.Proofs.YtalmmiojbmpmiaaGreatDoor.set12 at y hbel
    refine bodyPost_ret (v:=.tuple #[.agg #[.int .i64 0,.slice none 0 0,.int .i64 0,.int .i64 0,.slice none 0 0,.int .i64 0,.int .i64 0,.int .i64 0,.int .i64 0,.slice none 0 0,.slice none 0 0,.int .i64 0],.slice none 0 0,.slice none 0 0,.int .i64 er]) (by simp [results,Tryz.results34,go_sem,y]) rfl ?_
    exact ExO.err R.out hbel.out
  ·by_cases heq:v=tkW X X.own
   ·have hus:=HUS.out;have hv:=HV.out
    obtain⟨T,hT⟩:∃T,tkW X X.own=T:=⟨_,rfl⟩
    have hpa:=(qt hus).2.2.2.2 (by omega)
    have hoi:0<=X.own/\X.own<2147483579:=by have:=jF hpa.1;omega
    have hti:0<=X.oth/\X.oth<2147483579:=by have:=jF hpa.2.1;omega
    have TK:=iH (fun W h=>zd X sA nA aA bA sc nc ac bc X.own hoi hpa.2.2 W h)
    rw [hT]at TK
    have hdc:decide (v=T)=true:=decide_eq_true (by rw [<-hT];exact heq)
    have HDC:=iH hdc
    obtain⟨T2,hT2⟩:∃T,tkW X X.oth=T:=⟨_,rfl⟩
    have TK2:=iH (fun W h=>zd X sA nA aA bA sc nc ac bc X.oth hti hpa.2.2 W h)
    rw [hT2]at TK2
    have h8:T2.length=8:=by rw [<-hT2];exact tkl X _ hpa.2.2
    have H8:=iH h8
    have HTG:Hid (128<=128+2*X.st/\128+2*X.st<=134):=iH ⟨by omega,by omega⟩
    have R:Hid (jv X B s=(0,⟨X.kd,X.sec,X.pr,X.st+1,X.non,X.x,X.g,X.own,X.oth,X.k1,X.k2,X.ct⟩,jB (128+2*X.st) T2,s)):=iH (by unfold jv;rw [iF (by omega),iF (by rw [hus];simp),hv];simp only [];rw [iF (by omega),iF (by omega),iF (by omega),iF (fun x=>x heq),hT2,q]<;>rfl)
    have b1:(X.st+1==1)=false:=by simp;omega
    have b2:(X.st+1==2)=false:=by simp;omega
    have b3:(X.st+1==3)=false:=by simp;omega
    clear hus hv q heq hpa hoi hti hT hdc hT2 h8
    go_upto_region 17 with (first|(go_at_call 22;refine(kL _ _ v T _ _ w9 (S9.out.at 0 rfl) T9.out).mono ?_;rw [HDC.out];rintro e w10 ⟨rfl,nr,hw⟩;have hb:Below w9.heap.size w9 w10:=(by rw [hw];exact j3 iB nr);clear hw T9;have S10:=iH (S9.out.on hb);clear f g;clear hb;have f:=j4 S10.out.rx;have g:=j4 S10.out.ry)|(go_at_call 85;refine(TK.out w8 (S8.out.lo 9 rfl)).mono ?_;rintro e w9 ⟨A11,c11,rfl,ht,hb⟩;have T9:=iH ht;clear ht;have S9:=iH (S8.out.on hb);clear f g;clear hb;have f:=j4 S9.out.rx;have g:=j4 S9.out.ry))
    go_wp2_with(go_at_call 85;refine(TK2.out w10 (S10.out.lo 9 rfl)).mono ?_;rintro e w11 ⟨A12,c12,rfl,ht,hb⟩;have T12:=iH ht;clear ht;have S11:=iH (S10.out.on hb);clear f g;clear hb;have f:=j4 S11.out.rx;have g:=j4 S11.out.ry)
    go_meet
    exact⟨⟨X.kd,X.sec,X.pr,X.st+1,X.non,X.x,X.g,X.own,X.oth,X.k1,X.k2,X.ct⟩,T2,s,sB,nB,aB,bB,A12,eB,sd,nd,ad,bd,c12,ed,by rw [H8.out],rfl,S11.out.noL,(S11.out.offP 2 rfl),(S11.out.offP 3 rfl),(S11.out.offP 4 rfl),(S11.out.offP 5 rfl),by rw [H8.out];exact(BsS.keep (BsS.off T12.out S11.out.rz Zo) fun g hs _=>⟨rfl,hs⟩),(S11.out.offP 1 rfl),HTG.out,R.out⟩
   ·have hne:=heq
    clear heq
    have hus:=HUS.out;have hv:=HV.out
    obtain⟨T,hT⟩:∃T,tkW X X.own=T:=⟨_,rfl⟩
    have hpa:=(qt hus).2.2.2.2 (by omega)
    have hoi:0<=X.own/\X.own<2147483579:=by have:=jF hpa.1;omega
    have hti:0<=X.oth/\X.oth<2147483579:=by have:=jF hpa.2.1;omega
    have TK:=iH (fun W h=>zd X sA nA aA bA sc nc ac bc X.own hoi hpa.2.2 W h)
    rw [hT]at TK
    have hdc:decide (v=T)=false:=decide_eq_false (by rw [<-hT];exact hne)
    have HDC:=iH hdc
    have R:Hid (jv X B s=jA 21):=iH (by unfold jv;rw [iF (by omega),iF (by rw [hus];simp),hv];simp only [];rw [iF (by omega),iF (by omega),iF (by omega),iT hne])
    have b1:(X.st+1==1)=false:=by simp;omega
    have b2:(X.st+1==2)=false:=by simp;omega
    have b3:(X.st+1==3)=false:=by simp;omega
    clear hus hv q hne hpa hoi hti hT hdc
    go_upto_region 16 with (first|(go_at_call 22;refine(kL _ _ v T _ _ w9 (S9.out.at 0 rfl) T9.out).mono ?_;rw [HDC.out];rintro e w10 ⟨rfl,nr,hw⟩;have hb:Below w9.heap.size w9 w10:=(by rw [hw];exact j3 iB nr);clear hw T9;have S10:=iH (S9.out.on hb);clear f g;clear hb;have f:=j4 S10.out.rx;have g:=j4 S10.out.ry)|(go_at_call 85;refine(TK.out w8 (S8.out.lo 9 rfl)).mono ?_;rintro e w9 ⟨A11,c11,rfl,ht,hb⟩;have T9:=iH ht;clear ht;have S9:=iH (S8.out.on hb);clear f g;clear hb;have f:=j4 S9.out.rx;have g:=j4 S9.out.ry))
    clear f g;have z:=j4 S10.out.rz
    go_wp2_with fail
    have y:=j4 ((PtW.start S10.out.rz).z12).1
    have hbel:=iH (S10.out.bel.trans (Below.mono (((PtW.start S10.out.rz).z12).2.2) (Nat.le_succ _)))
    unfold Go.Proofs.YtalmmiojbmpmiaaGreatDoor.set12 at y hbel
    refine bodyPost_ret (v:=.tuple #[.agg #[.int .i64 0,.slice none 0 0,.int .i64 0,.int .i64 0,.slice none 0 0,.int .i64 0,.int .i64 0,.int .i64 0,.int .i64 0,.slice none 0 0,.slice none 0 0,.int .i64 0],.slice none 0 0,.slice none 0 0,.int .i64 21]) (by simp [results,Tryz.results34,go_sem,y]) rfl ?_
    exact ExO.err R.out hbel.out
 case rest=>
  obtain⟨Y,DT,NX,sE,nE,aE,bE,dE,eE,se,ne,ae,be,de,ee,rfl,rfl,hS,h1,h2,h3,h4,h5,h6,htg,hR⟩:=hcut
  obtain⟨wk0,hw⟩:∃z,z=wc:=⟨_,rfl⟩
  rw [<-hw]at hS h1 h2 h3 h4 h5 h6 |-
  obtain⟨U,hU⟩:∃U,jB (128+2*X.st) DT=U:=⟨_,rfl⟩
  rw [hU]at hR
  have HWR:Hid (∀(A:Option Addr) (c:Nat) (W:World),Bs W W.heap.size (.slice A DT.length c) DT->Calls Tryz.prog 86 #[.int .i64 (128+2*X.st),.slice A DT.length c] W (Q6 U W)):=iH (by rw [<-hU];exact fun A c W h=>U4 (128+2*X.st) htg A c DT W h)
  have S99:=iH hS;have L0:=iH h1;have L1:=iH h2;have L2:=iH h3;have L3:=iH h4;have D9:=iH h5;have N9:=iH h6;have R:=iH hR
  clear hw hU hS h1 h2 h3 h4 h5 h6 htg hR
  go_upto_region 43 with fail
  refine ja 12 [some 170,some 171,some 172,some 173,some 174,some 175,some 176,some 177,none,some 7,some 8,some 9] [[],[],[1],[1,2],[1,2,3],[],[1,2,3,4,5],[],[0,1,2,3,4,5,6],[0,1,2,3,4,5,6,8],[0,1,2,3,4,5,6,7,8,9],[0,1,2,3,4,5,6,7,8,9,10]]
   (fun _ _ w1=>PtA (w.heap.size+1) wk0 w1) (fun w1 w2=>RO (w.heap.size+1) #[.int .i64 Y.kd,.slice sE Y.sec.length se,.int .i64 Y.pr,.int .i64 Y.st,.slice nE Y.non.length ne,.int .i64 Y.x,.int .i64 Y.g,.int .i64 Y.own,.int .i64 Y.oth,.slice aE Y.k1.length ae,.slice bE Y.k2.length be,.int .i64 Y.ct] w1 w2)
   [.v (.agg #[.int .i64 Y.kd,.slice sE Y.sec.length se,.int .i64 Y.pr,.int .i64 Y.st,.slice nE Y.non.length ne,.int .i64 Y.x,.int .i64 Y.g,.int .i64 Y.own,.int .i64 Y.oth,.slice aE Y.k1.length ae,.slice bE Y.k2.length be,.int .i64 Y.ct]),
    .v (.pointer (some ⟨w.heap.size,3,none⟩)),
    .v (.int .i64 X.st),
    .v (.int .i64 (2*X.st)),
    .v (.int .i64 (128+2*X.st)),
    .v (.slice dE DT.length de),
    .p (fun v w1=>∃A c,v 6=.slice A U.length c/\BsS w1 (j9 (w.heap.size+1) w1) (.slice A U.length c) U) (fun _ _ _ _ _ hr ⟨A,c,h1,h2⟩=>⟨A,c,h1,h2.grownP hr.1⟩),
    .v (.slice eE NX.length ee),
    .p (fun v w1=>w1.heap[w.heap.size+1]?=some (.cells (exX Y sE nE aE bE se ne ae be) 48 (0,0))) (fun _ _ _ _ _ hr h=>hr.2 h),
    .q fun v=>∃A c,v 6=.slice A U.length c/\v 9=.slice A U.length c,
    .v (.slice eE NX.length ee),
    .v (.int .i64 0)]
   (by kernel_rfl) (by kernel_rfl) rfl (fun _=>⟨_,_,_,_,_,_,_,_,_,_,_,_,(PtW.start S99.out.rz).drew⟩) ?steps ?tail
  case steps=>
   simp only [List.take_succ_cons,List.take_zero]
   repeat' (with_reducible first|exact StepsRG.nil|refine StepsRG.cons ?_ ?_)
   all_goals(intro L v w1 hJ hL hF hD K hK;simp only [jb,Act.put,Nat.zero_add,Nat.reduceAdd,List.setIfInBounds_toArray,List.set_cons_zero,List.set_cons_succ,↓jZ,List.getD_cons_zero,List.getD_cons_succ,Nat.reduceEqDiff,↓reduceIte]at hD hK |-)
   all_goals try(have q:=j4 ((hJ.gr.block _ S99.out.lt (by intro e;injection e with e;have:=S99.out.gy2;omega)).trans S99.out.ry);have q1x:=j4 ((hJ.gr.block _ (lt_of_block S99.out.rx) (by intro e;injection e with e;omega)).trans S99.out.rx);(try simp only [hD]at hK |-);go_simp;refine hK _ _ hJ ⟨World.grownBy.refl _ _,id⟩ ?_;first|exact rfl|exact jh _|exact Ua (by have:=HST.out;omega))
   ·simp only [hD]at hK |-
    go_simp
    refine(HWR.out _ _ w1 (D9.out.grownP hJ.gr).loB).mono ?_
    rintro e wk ⟨A3,c3,rfl,hs,hb⟩
    refine hK _ _ (hJ.call hb) ⟨qH hb,fun h=>(hb.block _ hJ.lt).trans h⟩ ⟨_,_,rfl,?_⟩
    exact hs.madeB hJ.lt
   ·simp only [hD]at hK |-
    obtain⟨a0,a1,a2,a3,a4,a5,a6,a7,a8,a9,a10,a11,hp⟩:=hJ
    have q:=j4 hp.1
    have HJq:=iH hp
    clear hp hL hF
    go_simp
    exact hK undef _ ⟨_,_,_,_,_,_,_,_,_,_,_,_,HJq.out.s12⟩ ⟨((PtW.start HJq.out.1).s12).2.1,fun _=>((PtW.start HJq.out.1).s12).1⟩ ((PtW.start HJq.out.1).s12).1
   ·simp only [hD]at hK |-
    obtain⟨A,c,e6,_⟩:∃A c,v 6=_/\_:=hF 6 (by simp)
    simp only [e6]at hK |-
    go_simp
    exact hK _ _ hJ ⟨World.grownBy.refl _ _,id⟩ ⟨A,c,e6,rfl⟩
  case tail=>
   intro v w1 hJ hF hD
   simp only [kE]at hD
   obtain⟨e0,e1,e2,e3,e4,e5,e7,e10,e11, -⟩:=hD
   simp only [List.drop_succ_cons,List.drop_zero,jb,Act.put,Nat.zero_add,Nat.reduceAdd,List.setIfInBounds_toArray,List.set_cons_zero,List.set_cons_succ]
   obtain⟨A7,c7,e6,hu⟩:∃A c,v 6=_/\_:=hF 6 (by simp)
   obtain⟨A8x,c8x,e6b,e9⟩:∃A c,v 6=_/\v 9=_:=hF 9 (by simp)
   obtain⟨rfl,_,rfl⟩:=Value.slice.inj (e6.symm.trans e6b)
   have h8:w1.heap[w.heap.size+1]?=some (.cells (exX Y sE nE aE bE se ne ae be) 48 (0,0)):=hF 8 (by simp)
   simp only [e0,e1,e2,e3,e4,e5,e6,e7,e9,e10,e11]
   have HP7:=iH hJ;have HU:=iH hu
   have y:=j4 h8
   clear hJ hF hu h8 e0 e1 e2 e3 e4 e5 e6 e6b e7 e9 e10 e11
   go_wp2_with fail
   refine bodyPost_ret (v:=.tuple #[.agg #[.int .i64 Y.kd,.slice sE Y.sec.length se,.int .i64 Y.pr,.int .i64 Y.st,.slice nE Y.non.length ne,.int .i64 Y.x,.int .i64 Y.g,.int .i64 Y.own,.int .i64 Y.oth,.slice aE Y.k1.length ae,.slice bE Y.k2.length be,.int .i64 Y.ct],.slice A7 U.length c7,.slice eE NX.length ee,.int .i64 0]) (by simp [results,Tryz.results34,go_sem,y]) rfl ?_
   have hfin:∀ {u:Value} {m:List UInt8},BsS wk0 (j9 (w.heap.size+1) wk0) u m->Bs w1 w1.heap.size u m:=fun {u m} h=>(h.grownP HP7.out.gr).loB
   have hbel:Below w.heap.size w w1:=S99.out.bel.trans (HP7.out.bel.mono (Nat.le_succ _))
   rw [R.out]
   exact⟨_,_,_,_,_,rfl,⟨_,_,_,_,rfl,hfin L0.out,hfin L1.out,hfin L2.out,hfin L3.out⟩,HU.out.loB,hfin N9.out,hbel⟩
theorem j0l:Calls Tryz.prog 34 #[.agg #[.int .i64 X.kd,.slice sA X.sec.length sc,.int .i64 X.pr,.int .i64 X.st,.slice nA X.non.length nc,.int .i64 X.x,.int .i64 X.g,.int .i64 X.own,.int .i64 X.oth,.slice aA X.k1.length ac,.slice bA X.k2.length bc,.int .i64 X.ct],.slice vA B.length vc,.slice eA s.length ec] w (ExO (jv X B s) w):=by
 by_cases hst:X.st<0\/3<X.st
 ·exact ZU X sA nA aA bA sc nc ac bc vA eA vc ec B s w hK h1 h2 h3 h4 h5 h6 ls ln l1 l2 hl hst
 have hst:0<=X.st/\X.st<=3:=by omega
 rcases hus:usC X with _|_
 ·exact QH X sA nA aA bA sc nc ac bc vA eA vc ec B s w hK h1 h2 h3 h4 h5 h6 ls ln l1 l2 hl hst hus
 exact j3b X sA nA aA bA sc nc ac bc vA eA vc ec B s w hK h1 h2 h3 h4 h5 h6 ls ln l1 l2 hl hst hus
end
end Go.Proofs.YtalmmiojbmpmiaaGreatDoor
