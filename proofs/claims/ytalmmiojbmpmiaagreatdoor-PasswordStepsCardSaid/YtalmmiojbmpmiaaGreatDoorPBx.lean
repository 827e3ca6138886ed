/- Layer 21: which exchanges are usable, on both sides -/
import Derived.Test.YtalmmiojbmpmiaaGreatDoorPBg
set_option linter.all false
set_option maxRecDepth 100000
set_option maxHeartbeats 8000000
namespace Go.Proofs.YtalmmiojbmpmiaaGreatDoor
open Go.RowKit Go.Deep
theorem U1(X:Exg)(sA nA aA bA:Option Addr)(sc nc ac bc:Nat)(w:World)(h1:Bs w w.heap.size (.slice aA X.k1.length ac) X.k1)(h2:Bs w w.heap.size (.slice bA X.k2.length bc) X.k2)(l1:X.k1.length<=140737488351232)(l2:X.k2.length<=140737488351232):Calls Tryz.prog 76 #[.agg #[.int .i64 X.kd,.slice sA X.sec.length sc,.int .i64 X.pr,.int .i64 X.st,.slice nA X.non.length nc,.int .i64 X.x,.int .i64 X.g,.int .i64 X.own,.int .i64 X.oth,.slice aA X.k1.length ac,.slice bA X.k2.length bc,.int .i64 X.ct],.bool false] w fun e w'=>e=.returned (.bool (usT X))/\Below w.heap.size w w':=by
 obtain⟨w0,hw0⟩:∃w0,w0=w.alloc (.cells #[.int .i64 X.kd,.slice sA X.sec.length sc,.int .i64 X.pr,.int .i64 X.st,.slice nA X.non.length nc,.int .i64 X.x,.int .i64 X.g,.int .i64 X.own,.int .i64 X.oth,.slice aA X.k1.length ac,.slice bA X.k2.length bc,.int .i64 X.ct] 48):=⟨_,rfl⟩
 have HB0:Hid (Below w.heap.size w w0):=iH (by rw [hw0];exact ju _ _)
 have FR:Hid (∀W,Below w0.heap.size w0 W->W.heap[w.heap.size]?=some (.cells #[.int .i64 X.kd,.slice sA X.sec.length sc,.int .i64 X.pr,.int .i64 X.st,.slice nA X.non.length nc,.int .i64 X.x,.int .i64 X.g,.int .i64 X.own,.int .i64 X.oth,.slice aA X.k1.length ac,.slice bA X.k2.length bc,.int .i64 X.ct] 48 (0,0))):=iH (fun W h=>(h.block w.heap.size (by rw [hw0];simp)).trans (by rw [hw0];exact iN))
 have HW0:=iH hw0
 have HP:=iH (qo X.kd X.sec sA sc w0)
 have HA:=iH (h1.lift HB0.out);have HB:=iH (h2.lift HB0.out);have HL:=iH (And.intro l1 l2)
 obtain⟨f0,f1,f2,f3,f4,f5,f6,f7,f8,f9,f10,f11,ff⟩:=j4 (FR.out w0 iB)
 clear hw0 h1 h2 l1 l2
 rcases hv:vPw X.kd X.sec with _|_
 ·rw [hv]at HP
  have hb:kh X=false:=by unfold kh;rw [hv]<;>rfl
  have R:=iH (show usT X=false by simp [usC,usT,hb])
  clear hv hb
  go_enter Tryz.func76,Tryz.ntmps76
  go_upto_region 1 with fail
  rw [<-HW0.out]
  go_wp2_with(go_at_call 48;refine HP.out.mono ?_;rintro e w1 ⟨rfl,hb⟩;have HB1:=iH hb;obtain⟨g0,g1,g2,g3,g4,g5,g6,g7,g8,g9,g10,g11,gf⟩:=j4 (FR.out w1 hb);clear hb)
  exact m4
 rw [hv]at HP
 by_cases hp:X.pr=2\/X.pr=3
 case neg=>
  have hb:kh X=false:=by unfold kh;rw [hv,decide_eq_false hp]<;>rfl
  have R:=iH (show usT X=false by simp [usC,usT,hb])
  exact m0k
 have hb:kh X=true:=by unfold kh;rw [hv,decide_eq_true hp]<;>rfl
 have HPR:=iH hp
 clear hv hp
 go_enter Tryz.func76,Tryz.ntmps76
 go_upto_region 1 with fail
 rw [<-HW0.out]
 go_cut [19] from 6 to 19 (fun y wc=>y=.bool false/\Below w0.heap.size w0 wc)
 case first=>
  rcases HPR.out with hp|hp
  ·have e5:(X.pr != 2)=false:=by simp [hp]
   exact mp
  ·have e5:(X.pr != 2)=true:=by simp [hp]
   have e6:(X.pr != 3)=false:=by simp [hp]
   exact mp
 case rest=>
 obtain⟨rfl,hbc⟩:=hcut
 clear f0 f1 f2 f3 f4 f5 f6 f7 f8 f9 f10 f11 ff
 obtain⟨f0,f1,f2,f3,f4,f5,f6,f7,f8,f9,f10,f11,ff⟩:=j4 (FR.out _ hbc)
 have HB1:=iH hbc
 clear hbc
 go_upto_region 3 with fail
 go_cut [5] from 20 to 32 (fun y wd=>y=.bool (kY X)/\Below w0.heap.size w0 wd)
 case first=>
  exact m05
 case rest=>
 obtain⟨rfl,hbd⟩:=hcut
 clear f0 f1 f2 f3 f4 f5 f6 f7 f8 f9 f10 f11 ff
 obtain⟨f0,f1,f2,f3,f4,f5,f6,f7,f8,f9,f10,f11,ff⟩:=j4 (FR.out _ hbd)
 have HC:=iH hbd
 clear hbd
 by_cases s2:X.st=2
 ·have e2:(X.st==2)=true:=by simp [s2]
  by_cases hn:X.non.length=16
  ·have t1:((X.non.length:Int)==16)=true:=by simp;omega
   by_cases hp:X.pr=2
   ·have e5:(X.pr==2)=true:=by simp [hp]
    have e6:(X.pr==3)=false:=by simp [hp]
    rcases hx:okS X.x with _|_
    ·have R:=iH (show usT X=false by simp [usT,hb,s2,hn,hp,hx])
     clear hb s2 hn hp;have HX:=iH hx;clear hx
     go_wp2_with(first
      |(go_at_call 119;refine iR (kW X.x _) ?_;rw [HX.out]))
     exact m5
    ·have R:=iH (show usT X=true by simp [usT,hb,s2,hn,hp,hx])
     clear hb s2 hn hp;have HX:=iH hx;clear hx
     go_wp2_with(first
      |(go_at_call 119;refine iR (kW X.x _) ?_;rw [HX.out]))
     exact m5
   ·have e5:(X.pr==2)=false:=by simp [hp]
    have e6:(X.pr==3)=true:=by simp;have:=HPR.out;omega
    have R:=iH (show usT X=jk X.g by simp [usT,hb,s2,hn,hp])
    clear hb s2 hn hp
    go_wp2_with(first
     |(go_at_call 29;refine iR (jK _ _) ?_;try(first|rw [HO.out]|rw [HT.out]|rw [HG.out])))
    go_ret
    rw [R.out]
    exact⟨rfl,HB0.out.trans (HC.out.mono HB0.out.size)⟩
  ·have t1:((X.non.length:Int)==16)=false:=by simp;omega
   obtain⟨o5,e5⟩:∃o,(X.pr==2)=o:=⟨_,rfl⟩
   cases o5
   all_goals
    have R:=iH (show usT X=false by simp [usT,hb,s2,hn])
    clear hb s2 hn
    go_wp2_with fail
    go_ret
    rw [R.out]
    exact⟨rfl,HB0.out.trans (HC.out.mono HB0.out.size)⟩
 have e2:(X.st==2)=false:=by simp [s2]
 by_cases s3:X.st=3
 ·have e3:(X.st==3)=true:=by simp [s3]
  by_cases hn:X.non.length=16
  ·have t1:((X.non.length:Int)==16)=true:=by simp;omega
   rcases hg:jk X.g with _|_
   ·have HG:=iH hg
    have R:=iH (show usT X=false by simp [usT,hb,s3,hn,hg])
    clear hb s2 s3 hn hg
    go_wp2_with(first
     |(go_at_call 29;refine iR (jK _ _) ?_;try(first|rw [HO.out]|rw [HT.out]|rw [HG.out])))
    exact m5
   have HG:=iH hg
   rcases ho:jk X.own with _|_
   ·have HO:=iH ho
    have R:=iH (show usT X=false by simp [usT,hb,s3,hn,hg,ho])
    clear hb s2 s3 hn hg ho
    go_wp2_with(first
     |(go_at_call 29;refine iR (jK _ _) ?_;try(first|rw [HO.out]|rw [HT.out]|rw [HG.out])))
    exact m5
   ·have HO:=iH ho
    have R:=iH (show usT X=okS X.x by simp [usT,hb,s3,hn,hg,ho])
    clear hb s2 s3 hn hg ho
    go_wp2_with(first
     |(go_at_call 29;refine iR (jK _ _) ?_;try(first|rw [HO.out]|rw [HT.out]|rw [HG.out]))
     |(go_at_call 119;refine iR (kW X.x _) ?_))
    exact m5
  ·have t1:((X.non.length:Int)==16)=false:=by simp;omega
   have R:=iH (show usT X=false by simp [usT,hb,s3,hn])
   clear hb s2 s3 hn
   go_wp2_with fail
   go_ret
   rw [R.out]
   exact⟨rfl,HB0.out.trans (HC.out.mono HB0.out.size)⟩
 have e3:(X.st==3)=false:=by simp [s3]
 by_cases s4:X.st=4
 ·have e4:(X.st==4)=true:=by simp [s4]
  have R:=iH (show usT X=kY X by simp [usT,hb,s4])
  clear hb s2 s3 s4
  go_wp2_with fail
  exact m5
 ·have e4:(X.st==4)=false:=by simp [s4]
  have R:=iH (show usT X=true by simp [usT,hb,s2,s3,s4])
  clear hb s2 s3 s4
  go_wp2_with fail
  exact m5
end Go.Proofs.YtalmmiojbmpmiaaGreatDoor
