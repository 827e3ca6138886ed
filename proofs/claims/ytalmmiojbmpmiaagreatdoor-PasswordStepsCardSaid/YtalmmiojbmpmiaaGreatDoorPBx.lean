/- Layer 21: which exchanges are usable, on both sides -/
import Derived.Test.YtalmmiojbmpmiaaGreatDoorPBk
set_option linter.all false
set_option maxRecDepth 100000
set_option maxHeartbeats 8000000
namespace Go.Proofs.YtalmmiojbmpmiaaGreatDoor
open Go.RowKit Go.Deep
theorem YU(X:Exg)(sA nA aA bA:Option Addr)(sc nc ac bc:Nat)(w:World)(h1:Bs w w.heap.size (.slice aA X.k1.length ac) X.k1)(h2:Bs w w.heap.size (.slice bA X.k2.length bc) X.k2)(l1:X.k1.length<=140737488351232)(l2:X.k2.length<=140737488351232):Calls Tryz.prog 76 #[.agg #[.int .i64 X.kd,.slice sA X.sec.length sc,.int .i64 X.pr,.int .i64 X.st,.slice nA X.non.length nc,.int .i64 X.x,.int .i64 X.g,.int .i64 X.own,.int .i64 X.oth,.slice aA X.k1.length ac,.slice bA X.k2.length bc,.int .i64 X.ct],.bool false] w fun e w'=>e=.returned (.bool (usT X))/\Below w.heap.size w w':=by
 obtain⟨w0,hw0⟩:∃w0,w0=w.alloc (.cells (exX X sA nA aA bA sc nc ac bc) 48):=⟨_,rfl⟩
 have HB0:Hid (Below w.heap.size w w0):=iH (by rw [hw0];exact jo _ _)
 have FR:Hid (∀W,Below w0.heap.size w0 W->W.heap[w.heap.size]?=some (.cells (exX X sA nA aA bA sc nc ac bc) 48 (0,0))):=iH (fun W h=>(h.block w.heap.size (by rw [hw0];simp)).trans (by rw [hw0];exact iN))
 have HW0:=iH hw0
 have HP:=iH (jY X.kd X.sec sA sc w0)
 have HA:=iH (h1.lift HB0.out);have HB:=iH (h2.lift HB0.out);have HL:=iH (And.intro l1 l2)
 have f:=j4 (FR.out w0 iB)
 clear hw0 h1 h2 l1 l2
 rcases hv:vPw X.kd X.sec with _|_
 ·rw [hv]at HP
  have hb:kj X=false:=by unfold kj;rw [hv]<;>rfl
  have R:=iH (show usT X=false by simp [usC,usT,hb])
  clear hv hb
  go_enter Tryz.func76,Tryz.ntmps76
  go_upto_region 1 with fail
  rw [<-HW0.out]
  go_wp2_with(go_at_call 48;refine HP.out.mono ?_;rintro e w1 ⟨rfl,hb⟩;have HB1:=iH hb;have g:=j4 (FR.out w1 hb);clear hb)
  go_ret
  rw [R.out]
  exact⟨rfl,HB0.out.trans (HB1.out.mono HB0.out.size)⟩
 rw [hv]at HP
 by_cases hp:X.pr=2\/X.pr=3
 case neg=>
  have hb:kj X=false:=by unfold kj;rw [hv,decide_eq_false hp]<;>rfl
  have R:=iH (show usT X=false by simp [usC,usT,hb])
  have e5:(X.pr != 2)=true:=by simp;omega
  have e6:(X.pr != 3)=true:=by simp;omega
  clear hv hb hp
  go_enter Tryz.func76,Tryz.ntmps76
  go_upto_region 1 with fail
  rw [<-HW0.out]
  go_wp2_with(go_at_call 48;refine HP.out.mono ?_;rintro e w1 ⟨rfl,hb⟩;have HB1:=iH hb;have g:=j4 (FR.out w1 hb);clear hb)
  go_ret
  rw [R.out]
  exact⟨rfl,HB0.out.trans (HB1.out.mono HB0.out.size)⟩
 have hb:kj X=true:=by unfold kj;rw [hv,decide_eq_true hp]<;>rfl
 have HPR:=iH hp
 clear hv hp
 go_enter Tryz.func76,Tryz.ntmps76
 go_upto_region 1 with fail
 rw [<-HW0.out]
 go_cut [19] from 6 to 19 (fun y wc=>y=.bool false/\Below w0.heap.size w0 wc)
 case first=>
  rcases HPR.out with hp|hp
  ·have e5:(X.pr != 2)=false:=by simp [hp]
   clear hp
   go_wp2_with(go_at_call 48;refine HP.out.mono ?_;rintro e w1 ⟨rfl,hb⟩;have HB1:=iH hb;have g:=j4 (FR.out w1 hb);clear hb)
   go_meet
   exact⟨rfl,HB1.out⟩
  ·have e5:(X.pr != 2)=true:=by simp [hp]
   have e6:(X.pr != 3)=false:=by simp [hp]
   clear hp
   go_wp2_with(go_at_call 48;refine HP.out.mono ?_;rintro e w1 ⟨rfl,hb⟩;have HB1:=iH hb;have g:=j4 (FR.out w1 hb);clear hb)
   go_meet
   exact⟨rfl,HB1.out⟩
 case rest=>
 obtain⟨rfl,hbc⟩:=hcut
 clear f
 have f:=j4 (FR.out _ hbc)
 have HB1:=iH hbc
 clear hbc
 go_upto_region 3 with fail
 go_cut [5] from 20 to 32 (fun y wd=>y=.bool (qe X)/\Below w0.heap.size w0 wd)
 case first=>
  rcases ho:jk X.own with _|_
  ·have R:Hid (qe X=false):=iH (by unfold qe;rw [ho]<;>rfl)
   have HO:=iH ho
   clear ho
   go_wp2_with(go_at_call 29;refine iR (jL _ _) ?_;try(first|rw [HO.out]|rw [HT.out]|rw [HG.out]))
   go_meet
   exact⟨by rw [R.out],HB1.out⟩
  have HO:=iH ho
  rcases ht:jk X.oth with _|_
  ·have R:Hid (qe X=false):=iH (by unfold qe;rw [ho,ht]<;>rfl)
   have HT:=iH ht
   clear ho ht
   go_wp2_with(go_at_call 29;refine iR (jL _ _) ?_;try(first|rw [HO.out]|rw [HT.out]|rw [HG.out]))
   go_meet
   exact⟨by rw [R.out],HB1.out⟩
  ·have R:Hid (qe X=vS X.k1 X.k2 X.ct):=iH (by unfold qe;rw [ho,ht]<;>rfl)
   have HT:=iH ht
   clear ho ht
   go_wp2_with(first|(go_at_call 29;refine iR (jL _ _) ?_;try(first|rw [HO.out]|rw [HT.out]|rw [HG.out]))|(go_at_call 40;refine(K5 _ X.k1 X.k2 X.ct _ _ ⟨_,_,rfl,HA.out.lift HB1.out,HB.out.lift HB1.out⟩).mono ?_;rintro e w2 ⟨rfl,hb⟩;have HB2:=iH (HB1.out.trans (hb.mono HB1.out.size));clear hb))
   go_meet
   exact⟨by rw [R.out],HB2.out⟩
 case rest=>
 obtain⟨rfl,hbd⟩:=hcut
 clear f
 have f:=j4 (FR.out _ hbd)
 have HC:=iH hbd
 clear hbd
 by_cases s2:X.st=2
 ·have e2:(X.st==2)=true:=by simp [s2]
  by_cases hn:X.non.length=16
  ·have t1:((X.non.length:Int)==16)=true:=by simp;omega
   by_cases hp:X.pr=2
   ·have e5:(X.pr==2)=true:=by simp [hp]
    have e6:(X.pr==3)=false:=by simp [hp]
    rcases hx:okS X.x with _|_
    ·have R:=iH (show usT X=false by simp [usT,hb,s2,hn,hp,hx])
     clear hb s2 hn hp;have HX:=iH hx;clear hx
     go_wp2_with(first
      |(go_at_call 119;refine iR (qa X.x _) ?_;rw [HX.out]))
     go_ret
     rw [R.out]
     exact⟨rfl,HB0.out.trans (HC.out.mono HB0.out.size)⟩
    ·have R:=iH (show usT X=true by simp [usT,hb,s2,hn,hp,hx])
     clear hb s2 hn hp;have HX:=iH hx;clear hx
     go_wp2_with(first
      |(go_at_call 119;refine iR (qa X.x _) ?_;rw [HX.out]))
     go_ret
     rw [R.out]
     exact⟨rfl,HB0.out.trans (HC.out.mono HB0.out.size)⟩
   ·have e5:(X.pr==2)=false:=by simp [hp]
    have e6:(X.pr==3)=true:=by simp;have:=HPR.out;omega
    have R:=iH (show usT X=jk X.g by simp [usT,hb,s2,hn,hp])
    clear hb s2 hn hp
    go_wp2_with(first
     |(go_at_call 29;refine iR (jL _ _) ?_;try(first|rw [HO.out]|rw [HT.out]|rw [HG.out])))
    go_ret
    rw [R.out]
    exact⟨rfl,HB0.out.trans (HC.out.mono HB0.out.size)⟩
  ·have t1:((X.non.length:Int)==16)=false:=by simp;omega
   obtain⟨o5,e5⟩:∃o,(X.pr==2)=o:=⟨_,rfl⟩
   cases o5
   all_goals
    have R:=iH (show usT X=false by simp [usT,hb,s2,hn])
    clear hb s2 hn
    go_wp2_with fail
    go_ret
    rw [R.out]
    exact⟨rfl,HB0.out.trans (HC.out.mono HB0.out.size)⟩
 have e2:(X.st==2)=false:=by simp [s2]
 by_cases s3:X.st=3
 ·have e3:(X.st==3)=true:=by simp [s3]
  by_cases hn:X.non.length=16
  ·have t1:((X.non.length:Int)==16)=true:=by simp;omega
   rcases hg:jk X.g with _|_
   ·have HG:=iH hg
    have R:=iH (show usT X=false by simp [usT,hb,s3,hn,hg])
    clear hb s2 s3 hn hg
    go_wp2_with(first
     |(go_at_call 29;refine iR (jL _ _) ?_;try(first|rw [HO.out]|rw [HT.out]|rw [HG.out])))
    go_ret
    rw [R.out]
    exact⟨rfl,HB0.out.trans (HC.out.mono HB0.out.size)⟩
   have HG:=iH hg
   rcases ho:jk X.own with _|_
   ·have HO:=iH ho
    have R:=iH (show usT X=false by simp [usT,hb,s3,hn,hg,ho])
    clear hb s2 s3 hn hg ho
    go_wp2_with(first
     |(go_at_call 29;refine iR (jL _ _) ?_;try(first|rw [HO.out]|rw [HT.out]|rw [HG.out])))
    go_ret
    rw [R.out]
    exact⟨rfl,HB0.out.trans (HC.out.mono HB0.out.size)⟩
   ·have HO:=iH ho
    have R:=iH (show usT X=okS X.x by simp [usT,hb,s3,hn,hg,ho])
    clear hb s2 s3 hn hg ho
    go_wp2_with(first
     |(go_at_call 29;refine iR (jL _ _) ?_;try(first|rw [HO.out]|rw [HT.out]|rw [HG.out]))
     |(go_at_call 119;refine iR (qa X.x _) ?_))
    go_ret
    rw [R.out]
    exact⟨rfl,HB0.out.trans (HC.out.mono HB0.out.size)⟩
  ·have t1:((X.non.length:Int)==16)=false:=by simp;omega
   have R:=iH (show usT X=false by simp [usT,hb,s3,hn])
   clear hb s2 s3 hn
   go_wp2_with fail
   go_ret
   rw [R.out]
   exact⟨rfl,HB0.out.trans (HC.out.mono HB0.out.size)⟩
 have e3:(X.st==3)=false:=by simp [s3]
 by_cases s4:X.st=4
 ·have e4:(X.st==4)=true:=by simp [s4]
  have R:=iH (show usT X=qe X by simp [usT,hb,s4])
  clear hb s2 s3 s4
  go_wp2_with fail
  go_ret
  rw [R.out]
  exact⟨rfl,HB0.out.trans (HC.out.mono HB0.out.size)⟩
 ·have e4:(X.st==4)=false:=by simp [s4]
  have R:=iH (show usT X=true by simp [usT,hb,s2,s3,s4])
  clear hb s2 s3 s4
  go_wp2_with fail
  go_ret
  rw [R.out]
  exact⟨rfl,HB0.out.trans (HC.out.mono HB0.out.size)⟩
end Go.Proofs.YtalmmiojbmpmiaaGreatDoor
