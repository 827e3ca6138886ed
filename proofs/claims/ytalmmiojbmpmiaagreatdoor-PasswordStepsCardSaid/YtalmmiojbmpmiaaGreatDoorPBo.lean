/- Layer 21: which exchanges are usable, on both sides; Layer 21: what a terminal reads of a reply; Layer 21: the terminal's step; Layer 21: the terminal's step... -/
import Derived.Test.YtalmmiojbmpmiaaGreatDoorPBi
set_option linter.all false
set_option maxRecDepth 100000
set_option maxHeartbeats 16000000
namespace Go.Proofs.YtalmmiojbmpmiaaGreatDoor
open Go.RowKit Go.Deep
theorem mB{P:Prop}(h:P:=by
 rcases HF.out with ⟨h4,rfl⟩|⟨h4,rfl⟩|⟨h4,rfl⟩|⟨h4,rfl⟩|⟨h4,rfl⟩
 all_goals(rw [h4]at f3;clear h4;go_wp2_with fail;go_meet;exact⟨rfl,rfl⟩)):P:=h
theorem qW(X:Exg)(sA nA aA bA:Option Addr)(sc nc ac bc:Nat)(w:World)(h1:Bs w w.heap.size (.slice aA X.k1.length ac) X.k1)(h2:Bs w w.heap.size (.slice bA X.k2.length bc) X.k2)(l1:X.k1.length<=140737488351232)(l2:X.k2.length<=140737488351232):Calls Tryz.prog 87 #[.agg #[.int .i64 X.kd,.slice sA X.sec.length sc,.int .i64 X.pr,.int .i64 X.st,.slice nA X.non.length nc,.int .i64 X.x,.int .i64 X.g,.int .i64 X.own,.int .i64 X.oth,.slice aA X.k1.length ac,.slice bA X.k2.length bc,.int .i64 X.ct]] w fun e w'=>e=.returned (.bool (usT X))/\Below w.heap.size w w':=by
 obtain⟨w0,hw0⟩:∃w0,w0=w.alloc (.cells #[.int .i64 X.kd,.slice sA X.sec.length sc,.int .i64 X.pr,.int .i64 X.st,.slice nA X.non.length nc,.int .i64 X.x,.int .i64 X.g,.int .i64 X.own,.int .i64 X.oth,.slice aA X.k1.length ac,.slice bA X.k2.length bc,.int .i64 X.ct] 48):=⟨_,rfl⟩
 have HB0:Hid (Below w.heap.size w w0):=iH (by rw [hw0];exact ju _ _)
 have FR:Hid (∀W,Below w0.heap.size w0 W->W.heap[w.heap.size]?=some (.cells #[.int .i64 X.kd,.slice sA X.sec.length sc,.int .i64 X.pr,.int .i64 X.st,.slice nA X.non.length nc,.int .i64 X.x,.int .i64 X.g,.int .i64 X.own,.int .i64 X.oth,.slice aA X.k1.length ac,.slice bA X.k2.length bc,.int .i64 X.ct] 48 (0,0))):=iH (fun W h=>(h.block w.heap.size (by rw [hw0];simp)).trans (by rw [hw0];exact iN))
 have HW0:=iH hw0
 have HBG:=iH (Xx X sA nA aA bA sc nc ac bc w0)
 have HA:=iH (h1.lift HB0.out);have HB:=iH (h2.lift HB0.out);have HL:=iH (And.intro l1 l2)
 obtain⟨f0,f1,f2,f3,f4,f5,f6,f7,f8,f9,f10,f11,ff⟩:=j4 (FR.out w0 iB)
 clear hw0 h1 h2 l1 l2
 have b1:Below w0.heap.size w0 w0:=Below.refl _ _
 clear b1
 rcases hb:kh X with _|_
 ·rw [hb]at HBG
  obtain⟨o1,t1⟩:∃o,((X.non.length:Int)==16)=o:=⟨_,rfl⟩
  have R:=iH (show usT X=false by simp [usT,hb])
  clear hb
  go_enter Tryz.func87,Tryz.ntmps87
  go_upto_region 1 with fail
  rw [<-HW0.out]
  go_wp2_with(first
  |(go_at_call 122;refine HBG.out.mono ?_;rintro e w1 ⟨rfl,hb⟩;have HB1:=iH hb;obtain⟨g0,g1,g2,g3,g4,g5,g6,g7,g8,g9,g10,g11,gf⟩:=j4 (FR.out w1 hb);clear hb))
  exact m4
 rw [hb]at HBG
 by_cases s2:X.st=2
 ·have e2:(X.st==2)=true:=by simp [s2]
  by_cases hn:X.non.length=16
  ·have t1:((X.non.length:Int)==16)=true:=by simp;omega
   by_cases hp:X.pr=2
   ·have e5:(X.pr==2)=true:=by simp [hp]
    have R:=iH (show usT X=okS X.x by simp [usT,hb,s2,hn,hp])
    clear hb s2 hn hp
    go_enter Tryz.func87,Tryz.ntmps87
    go_upto_region 1 with fail
    rw [<-HW0.out]
    go_wp2_with(first
     |(go_at_call 122;refine HBG.out.mono ?_;rintro e w1 ⟨rfl,hb⟩;have HB1:=iH hb;obtain⟨g0,g1,g2,g3,g4,g5,g6,g7,g8,g9,g10,g11,gf⟩:=j4 (FR.out w1 hb);clear hb)
     |(go_at_call 140;refine iR (YW X.x _) ?_))
    exact m4
   ·have e5:(X.pr==2)=false:=by simp [hp]
    have R:=iH (show usT X=jk X.g by simp [usT,hb,s2,hn,hp])
    clear hb s2 hn hp
    go_enter Tryz.func87,Tryz.ntmps87
    go_upto_region 1 with fail
    rw [<-HW0.out]
    go_wp2_with(first
     |(go_at_call 122;refine HBG.out.mono ?_;rintro e w1 ⟨rfl,hb⟩;have HB1:=iH hb;obtain⟨g0,g1,g2,g3,g4,g5,g6,g7,g8,g9,g10,g11,gf⟩:=j4 (FR.out w1 hb);clear hb)
     |(go_at_call 115;refine iR (kj _ _) ?_;try(first|rw [HO.out]|rw [HT.out]|rw [HG.out])))
    exact m4
  ·have t1:((X.non.length:Int)==16)=false:=by simp;omega
   obtain⟨o5,e5⟩:∃o,(X.pr==2)=o:=⟨_,rfl⟩
   cases o5
   all_goals
    have R:=iH (show usT X=false by simp [usT,hb,s2,hn])
    clear hb s2 hn
    go_enter Tryz.func87,Tryz.ntmps87
    go_upto_region 1 with fail
    rw [<-HW0.out]
    go_wp2_with(first
     |(go_at_call 122;refine HBG.out.mono ?_;rintro e w1 ⟨rfl,hb⟩;have HB1:=iH hb;obtain⟨g0,g1,g2,g3,g4,g5,g6,g7,g8,g9,g10,g11,gf⟩:=j4 (FR.out w1 hb);clear hb))
    go_ret
    rw [R.out]
    exact⟨rfl,HB0.out.trans (HB1.out.mono HB0.out.size)⟩
 have e2:(X.st==2)=false:=by simp [s2]
 by_cases s3:X.st=3
 ·have e3:(X.st==3)=true:=by simp [s3]
  by_cases hn:X.non.length=16
  ·have t1:((X.non.length:Int)==16)=true:=by simp;omega
   rcases hg:jk X.g with _|_
   ·have HG:=iH hg
    have R:=iH (show usT X=false by simp [usT,hb,s3,hn,hg])
    clear hb s2 s3 hn hg
    go_enter Tryz.func87,Tryz.ntmps87
    go_upto_region 1 with fail
    rw [<-HW0.out]
    go_wp2_with(first
     |(go_at_call 122;refine HBG.out.mono ?_;rintro e w1 ⟨rfl,hb⟩;have HB1:=iH hb;obtain⟨g0,g1,g2,g3,g4,g5,g6,g7,g8,g9,g10,g11,gf⟩:=j4 (FR.out w1 hb);clear hb)
     |(go_at_call 115;refine iR (kj _ _) ?_;try(first|rw [HO.out]|rw [HT.out]|rw [HG.out])))
    exact m4
   have HG:=iH hg
   rcases ho:jk X.own with _|_
   ·have HO:=iH ho
    have R:=iH (show usT X=false by simp [usT,hb,s3,hn,hg,ho])
    clear hb s2 s3 hn hg ho
    go_enter Tryz.func87,Tryz.ntmps87
    go_upto_region 1 with fail
    rw [<-HW0.out]
    go_wp2_with(first
     |(go_at_call 122;refine HBG.out.mono ?_;rintro e w1 ⟨rfl,hb⟩;have HB1:=iH hb;obtain⟨g0,g1,g2,g3,g4,g5,g6,g7,g8,g9,g10,g11,gf⟩:=j4 (FR.out w1 hb);clear hb)
     |(go_at_call 115;refine iR (kj _ _) ?_;try(first|rw [HO.out]|rw [HT.out]|rw [HG.out])))
    exact m4
   ·have HO:=iH ho
    have R:=iH (show usT X=okS X.x by simp [usT,hb,s3,hn,hg,ho])
    clear hb s2 s3 hn hg ho
    go_enter Tryz.func87,Tryz.ntmps87
    go_upto_region 1 with fail
    rw [<-HW0.out]
    go_wp2_with(first
     |(go_at_call 122;refine HBG.out.mono ?_;rintro e w1 ⟨rfl,hb⟩;have HB1:=iH hb;obtain⟨g0,g1,g2,g3,g4,g5,g6,g7,g8,g9,g10,g11,gf⟩:=j4 (FR.out w1 hb);clear hb)
     |(go_at_call 115;refine iR (kj _ _) ?_;try(first|rw [HO.out]|rw [HT.out]|rw [HG.out]))
     |(go_at_call 140;refine iR (YW X.x _) ?_))
    exact m4
  ·have t1:((X.non.length:Int)==16)=false:=by simp;omega
   have R:=iH (show usT X=false by simp [usT,hb,s3,hn])
   clear hb s2 s3 hn
   go_enter Tryz.func87,Tryz.ntmps87
   go_upto_region 1 with fail
   rw [<-HW0.out]
   go_wp2_with(first
    |(go_at_call 122;refine HBG.out.mono ?_;rintro e w1 ⟨rfl,hb⟩;have HB1:=iH hb;obtain⟨g0,g1,g2,g3,g4,g5,g6,g7,g8,g9,g10,g11,gf⟩:=j4 (FR.out w1 hb);clear hb))
   go_ret
   rw [R.out]
   exact⟨rfl,HB0.out.trans (HB1.out.mono HB0.out.size)⟩
 have e3:(X.st==3)=false:=by simp [s3]
 obtain⟨o1,t1⟩:∃o,((X.non.length:Int)==16)=o:=⟨_,rfl⟩
 by_cases s4:X.st=4
 ·have e4:(X.st==4)=true:=by simp [s4]
  have R:=iH (show usT X=kY X by simp [usT,hb,s4])
  clear hb s2 s3 s4
  go_enter Tryz.func87,Tryz.ntmps87
  go_upto_region 1 with fail
  rw [<-HW0.out]
  go_wp2_with(first
  |(go_at_call 122;refine HBG.out.mono ?_;rintro e w1 ⟨rfl,hb⟩;have HB1:=iH hb;obtain⟨g0,g1,g2,g3,g4,g5,g6,g7,g8,g9,g10,g11,gf⟩:=j4 (FR.out w1 hb);clear hb)
  |(go_at_call 123;refine(KK X sA nA aA bA sc nc ac bc w1 (HA.out.lift HB1.out) (HB.out.lift HB1.out) HL.out.1 HL.out.2).mono ?_;rintro e w2 ⟨rfl,hb⟩;have HB2:=iH hb;clear hb))
  exact m1u
 ·have e4:(X.st==4)=false:=by simp [s4]
  have R:=iH (show usT X=true by simp [usT,hb,s2,s3,s4])
  clear hb s2 s3 s4
  go_enter Tryz.func87,Tryz.ntmps87
  go_upto_region 1 with fail
  rw [<-HW0.out]
  go_wp2_with(first
  |(go_at_call 122;refine HBG.out.mono ?_;rintro e w1 ⟨rfl,hb⟩;have HB1:=iH hb;obtain⟨g0,g1,g2,g3,g4,g5,g6,g7,g8,g9,g10,g11,gf⟩:=j4 (FR.out w1 hb);clear hb))
  exact m4
section
variable(m:Int)(w:World)
include m w
theorem j8k:(Instr.index 82 (.agg #[.int .i64 128,.int .i64 16,.int .i64 130,.int .i64 m,.int .i64 132,.int .i64 4,.int .i64 134,.int .i64 8]) (.int .i64 0)).run Tryz.prog w=.ok (.agg #[.int .i64 128,.int .i64 16]) w:=by kernel_rfl
theorem j8l:(Instr.index 82 (.agg #[.int .i64 128,.int .i64 16,.int .i64 130,.int .i64 m,.int .i64 132,.int .i64 4,.int .i64 134,.int .i64 8]) (.int .i64 1)).run Tryz.prog w=.ok (.agg #[.int .i64 130,.int .i64 m]) w:=by kernel_rfl
theorem j8m:(Instr.index 82 (.agg #[.int .i64 128,.int .i64 16,.int .i64 130,.int .i64 m,.int .i64 132,.int .i64 4,.int .i64 134,.int .i64 8]) (.int .i64 2)).run Tryz.prog w=.ok (.agg #[.int .i64 132,.int .i64 4]) w:=by kernel_rfl
theorem j8n:(Instr.index 82 (.agg #[.int .i64 128,.int .i64 16,.int .i64 130,.int .i64 m,.int .i64 132,.int .i64 4,.int .i64 134,.int .i64 8]) (.int .i64 3)).run Tryz.prog w=.ok (.agg #[.int .i64 134,.int .i64 8]) w:=by kernel_rfl
end
def Xs(X:Exg)(B:List UInt8):Option (List UInt8):=if X.st=0 then(if B.length=0 then some []else none)else kw B (126+2*X.st) (U3 X)
theorem xl(X:Exg)(sA nA aA bA:Option Addr)(sc nc ac bc:Nat)(vA:Option Addr)(vc:Nat)(B:List UInt8)(w:World)(h5:Bs w w.heap.size (.slice vA B.length vc) B)(hst:0<=X.st/\X.st<=4):Calls Tryz.prog 88 #[.agg #[.int .i64 X.kd,.slice sA X.sec.length sc,.int .i64 X.pr,.int .i64 X.st,.slice nA X.non.length nc,.int .i64 X.x,.int .i64 X.g,.int .i64 X.own,.int .i64 X.oth,.slice aA X.k1.length ac,.slice bA X.k2.length bc,.int .i64 X.ct],.slice vA B.length vc] w (ValOut (Xs X B) w):=by
 obtain⟨w0,hw0⟩:∃w0,w0=w.alloc (.cells #[.int .i64 X.kd,.slice sA X.sec.length sc,.int .i64 X.pr,.int .i64 X.st,.slice nA X.non.length nc,.int .i64 X.x,.int .i64 X.g,.int .i64 X.own,.int .i64 X.oth,.slice aA X.k1.length ac,.slice bA X.k2.length bc,.int .i64 X.ct] 48):=⟨_,rfl⟩
 have HB0:Hid (Below w.heap.size w w0):=iH (by rw [hw0];exact ju _ _)
 have FR:Hid (∀W,Below w0.heap.size w0 W->W.heap[w.heap.size]?=some (.cells #[.int .i64 X.kd,.slice sA X.sec.length sc,.int .i64 X.pr,.int .i64 X.st,.slice nA X.non.length nc,.int .i64 X.x,.int .i64 X.g,.int .i64 X.own,.int .i64 X.oth,.slice aA X.k1.length ac,.slice bA X.k2.length bc,.int .i64 X.ct] 48 (0,0))):=iH (fun W h=>(h.block w.heap.size (by rw [hw0];simp)).trans (by rw [hw0];exact iN))
 have HW0:=iH hw0
 have H5:=iH (h5.lift HB0.out);have HST:=iH hst
 obtain⟨f0,f1,f2,f3,f4,f5,f6,f7,f8,f9,f10,f11,ff⟩:=j4 (FR.out w0 iB)
 clear hw0 h5
 by_cases s0:X.st=0
 ·have e0:(X.st==0)=true:=by simp [s0]
  by_cases hb:B.length=0
  ·have R:Hid (Xs X B=some []):=iH (by unfold Xs;rw [iT s0,iT hb])
   have t1:((B.length:Int)==0)=true:=by rw [beq_iff_eq];omega
   clear s0 hst hb
   go_enter Tryz.func88,Tryz.ntmps88
   go_upto_region 1 with fail
   rw [<-HW0.out]
   go_wp2_with fail
   go_ret2
   exact ValOut.nil0 R.out HB0.out
  ·have R:Hid (Xs X B=none):=iH (by unfold Xs;rw [iT s0,iF hb])
   have t1:((B.length:Int)==0)=false:=by rw [beq_eq_false_iff_ne];omega
   clear s0 hst hb
   go_enter Tryz.func88,Tryz.ntmps88
   go_upto_region 1 with fail
   rw [<-HW0.out]
   go_wp2_with fail
   go_ret2
   exact ValOut.no0 R.out HB0.out
 have e0:(X.st==0)=false:=by simp [s0]
 have R:Hid (Xs X B=kw B (126+2*X.st) (U3 X)):=iH (by unfold Xs;rw [iF s0])
 have HS0:=iH s0
 have I0:=j8k;have I1:=j8l;have I2:=j8m;have I3:=j8n
 obtain⟨o5,e5⟩:∃o,(X.pr==3)=o:=⟨_,rfl⟩
 clear s0 hst
 cases o5
 all_goals(
  have HP3:=iH e5
  go_enter Tryz.func88,Tryz.ntmps88
  go_upto_region 1 with fail
  rw [<-HW0.out]
  go_upto_region 6 with fail
  go_cut [7] from 17 to 26 (fun y wc=>∃q ty,y=.pointer (some ⟨q,0,none⟩)/\wc.heap[q]?=some (.cells #[.int .i64 (126+2*X.st),.int .i64 (U3 X)] ty (0,0))/\Below w0.heap.size w0 wc)
  case first=>
   have h4:X.st=1\/X.st=2\/X.st=3\/X.st=4:=by have:=HST.out;have:=HS0.out;omega
   rcases h4 with h4|h4|h4|h4
   all_goals(rw [h4]at f3;have H4':=iH h4;clear h4;go_wp2_with fail;go_meet;exact⟨_,81,rfl,(iN).trans (by have hq:=HP3.out;simp at hq;simp [U3,H4'.out,hq]),iA⟩)
  case rest=>
  obtain⟨q,ty,rfl,hq,hbw⟩:=hcut
  obtain⟨q0,q1,_⟩:=two hq
  have HBC:=iH hbw
  clear hq hbw f0 f1 f2 f3 f4 f5 f6 f7 f8 f9 f10 f11 ff e5 I0 I1 I2 I3
  go_wp2_with(go_at_call 69;refine(Qi (126+2*X.st) (by have:=HST.out;have:=HS0.out;omega) (U3 X) B _ _ (Bs.lift H5.out HBC.out)).mono ?_;rintro e w2 ⟨v2,rfl,hs,hb⟩;obtain⟨A2,c2,hv2⟩:=Bs.formL hs;subst hv2;have GV:=iH hs;have HB2:=iH hb;clear hs hb)
  go_ret2
  have hq:=HB0.out.trans (HBC.out.mono HB0.out.size)
  refine⟨_,by rw [R.out]<;>rfl,?_,hq.trans (HB2.out.mono hq.size)⟩
  rw [R.out]
  exact GV.out.keep fun g hg _=>⟨rfl,Nat.le_trans hq.size hg.1,hg.2⟩)
section
variable(w:World)
include w
theorem j7q:(Instr.index 102 (.agg #[.func (.func 89) #[] #[],.func (.func 90) #[] #[],.func (.func 91) #[] #[],.func (.func 92) #[] #[],.func (.func 93) #[] #[]]) (.int .i64 0)).run Tryz.prog w=.ok (.func (.func 89) #[] #[]) w:=by kernel_rfl
theorem j7r:(Instr.index 102 (.agg #[.func (.func 89) #[] #[],.func (.func 90) #[] #[],.func (.func 91) #[] #[],.func (.func 92) #[] #[],.func (.func 93) #[] #[]]) (.int .i64 1)).run Tryz.prog w=.ok (.func (.func 90) #[] #[]) w:=by kernel_rfl
theorem j7s:(Instr.index 102 (.agg #[.func (.func 89) #[] #[],.func (.func 90) #[] #[],.func (.func 91) #[] #[],.func (.func 92) #[] #[],.func (.func 93) #[] #[]]) (.int .i64 2)).run Tryz.prog w=.ok (.func (.func 91) #[] #[]) w:=by kernel_rfl
theorem j7t:(Instr.index 102 (.agg #[.func (.func 89) #[] #[],.func (.func 90) #[] #[],.func (.func 91) #[] #[],.func (.func 92) #[] #[],.func (.func 93) #[] #[]]) (.int .i64 3)).run Tryz.prog w=.ok (.func (.func 92) #[] #[]) w:=by kernel_rfl
theorem j7u:(Instr.index 102 (.agg #[.func (.func 89) #[] #[],.func (.func 90) #[] #[],.func (.func 91) #[] #[],.func (.func 92) #[] #[],.func (.func 93) #[] #[]]) (.int .i64 4)).run Tryz.prog w=.ok (.func (.func 93) #[] #[]) w:=by kernel_rfl
end
theorem j3w(X:Exg)(B s:List UInt8)(hst:0<=X.st/\X.st<=4)(hu:usT X=true)(hr:Xs X B=none):jn X B s=jI 1:=by
 unfold Xs at hr
 unfold jn
 rw [iF (by omega),iF (by rw [hu];simp)]
 split
 ·rename_i h0
  rw [iT h0]at hr
  split at hr
  ·cases hr
  ·rename_i hb;rw [iT hb]
 ·rename_i h0
  rw [iF h0]at hr
  rw [hr]
section
variable(X:Exg)(sA nA aA bA:Option Addr)(sc nc ac bc:Nat)(vA eA:Option Addr)(vc ec:Nat)(B s:List UInt8)(w:World)(hK:KD w)(h1:Bs w w.heap.size (.slice sA X.sec.length sc) X.sec)(h2:Bs w w.heap.size (.slice nA X.non.length nc) X.non)(h3:Bs w w.heap.size (.slice aA X.k1.length ac) X.k1)(h4:Bs w w.heap.size (.slice bA X.k2.length bc) X.k2)(h5:Bs w w.heap.size (.slice vA B.length vc) B)(h6:Bs w w.heap.size (.slice eA s.length ec) s)(ls:X.sec.length<=140737488351232)(ln:X.non.length<=140737488351232)(l1:X.k1.length<=140737488351232)(l2:X.k2.length<=140737488351232)(hl:s.length<=140737488351232)
include X sA nA aA bA sc nc ac bc vA eA vc ec B s w hK h1 h2 h3 h4 h5 h6 ls ln l1 l2 hl
theorem Vg(hst:X.st<0\/4<X.st):Calls Tryz.prog 35 #[.agg #[.int .i64 X.kd,.slice sA X.sec.length sc,.int .i64 X.pr,.int .i64 X.st,.slice nA X.non.length nc,.int .i64 X.x,.int .i64 X.g,.int .i64 X.own,.int .i64 X.oth,.slice aA X.k1.length ac,.slice bA X.k2.length bc,.int .i64 X.ct],.slice vA B.length vc,.slice eA s.length ec] w (ExO (jn X B s) w):=by
 have R:Hid (jn X B s=jI 23):=iH (by unfold jn;rw [iT hst])
 obtain⟨w0,HW0,HB0,HSZ,FR,FZ,H1,H2,H3,H4,H5,H6⟩:=Za X sA nA aA bA sc nc ac bc h1 h2 h3 h4 h5 h6
 have HK:=iH hK;have HLN:=iH (And.intro ls (And.intro ln (And.intro l1 l2)));have HL:=iH hl
 obtain⟨f0,f1,f2,f3,f4,f5,f6,f7,f8,f9,f10,f11,ff⟩:=j4 (FR.out w0 iB)
 obtain⟨z0,z1,z2,z3,z4,z5,z6,z7,z8,z9,z10,z11,zf⟩:=j4 (FZ.out w0 iB)
 have zf0:=zf 0;have zf1:=zf 1;have zf2:=zf 2;have zf3:=zf 3;have zf4:=zf 4;have zf5:=zf 5;have zf6:=zf 6;have zf7:=zf 7;have zf8:=zf 8;have zf9:=zf 9;have zf10:=zf 10;have zf11:=zf 11
 clear hK h1 h2 h3 h4 h5 h6 ls ln l1 l2 hl zf ff
 rcases hst with hst|hst
 all_goals
  go_enter Tryz.func35,Tryz.ntmps35
  go_upto_region 1 with fail
  rw [<-HW0.out]
  go_wp2_with fail
  obtain⟨y0,y1,y2,y3,y4,y5,y6,y7,y8,y9,y10,y11,yf⟩:=j4 ((PtW.start (FZ.out w0 iB)).set12 (.int .i64 0) (.slice none 0 0) (.int .i64 0) (.int .i64 0) (.slice none 0 0) (.int .i64 0) (.int .i64 0) (.int .i64 0) (.int .i64 0) (.slice none 0 0) (.slice none 0 0) (.int .i64 0)).1
  unfold Go.Proofs.YtalmmiojbmpmiaaGreatDoor.set12 at y0 y1 y2 y3 y4 y5 y6 y7 y8 y9 y10 y11
  refine bodyPost_ret (v:=.tuple #[.agg #[.int .i64 0,.slice none 0 0,.int .i64 0,.int .i64 0,.slice none 0 0,.int .i64 0,.int .i64 0,.int .i64 0,.int .i64 0,.slice none 0 0,.slice none 0 0,.int .i64 0],.slice none 0 0,.slice none 0 0,.int .i64 23]) (by simp [results,Tryz.results35,go_sem,y0,y1,y2,y3,y4,y5,y6,y7,y8,y9,y10,y11]) rfl ?_
  exact ExO.err R.out ((HB0.out.trans (iB.mono HB0.out.size)).trans (Below.mono (((PtW.start (FZ.out _ iB)).set12 (.int .i64 0) (.slice none 0 0) (.int .i64 0) (.int .i64 0) (.slice none 0 0) (.int .i64 0) (.int .i64 0) (.int .i64 0) (.int .i64 0) (.slice none 0 0) (.slice none 0 0) (.int .i64 0)).2.2) (Nat.le_succ _)))
theorem Zs(hst:0<=X.st/\X.st<=4)(hus:usT X=false):Calls Tryz.prog 35 #[.agg #[.int .i64 X.kd,.slice sA X.sec.length sc,.int .i64 X.pr,.int .i64 X.st,.slice nA X.non.length nc,.int .i64 X.x,.int .i64 X.g,.int .i64 X.own,.int .i64 X.oth,.slice aA X.k1.length ac,.slice bA X.k2.length bc,.int .i64 X.ct],.slice vA B.length vc,.slice eA s.length ec] w (ExO (jn X B s) w):=by
 have R:Hid (jn X B s=jI 14):=iH (by unfold jn;rw [iF (by omega),iT hus])
 have HUS:=iH hus
 obtain⟨w0,HW0,HB0,HSZ,FR,FZ,H1,H2,H3,H4,H5,H6⟩:=Za X sA nA aA bA sc nc ac bc h1 h2 h3 h4 h5 h6
 have HK:=iH hK;have HLN:=iH (And.intro ls (And.intro ln (And.intro l1 l2)));have HL:=iH hl
 obtain⟨f0,f1,f2,f3,f4,f5,f6,f7,f8,f9,f10,f11,ff⟩:=j4 (FR.out w0 iB)
 obtain⟨z0,z1,z2,z3,z4,z5,z6,z7,z8,z9,z10,z11,zf⟩:=j4 (FZ.out w0 iB)
 have zf0:=zf 0;have zf1:=zf 1;have zf2:=zf 2;have zf3:=zf 3;have zf4:=zf 4;have zf5:=zf 5;have zf6:=zf 6;have zf7:=zf 7;have zf8:=zf 8;have zf9:=zf 9;have zf10:=zf 10;have zf11:=zf 11
 clear hK h1 h2 h3 h4 h5 h6 ls ln l1 l2 hl zf ff
 clear hus
 go_enter Tryz.func35,Tryz.ntmps35
 go_upto_region 1 with fail
 rw [<-HW0.out]
 go_upto_region 4 with (go_at_call 87;refine(qW X sA nA aA bA sc nc ac bc w0 H3.out H4.out HLN.out.2.2.1 HLN.out.2.2.2).mono ?_;rw [HUS.out];rintro e w1 ⟨rfl,hb⟩;have HB1:=iH hb;clear f0 f1 f2 f3 f4 f5 f6 f7 f8 f9 f10 f11;obtain⟨g0,g1,g2,g3,g4,g5,g6,g7,g8,g9,g10,g11,gf⟩:=j4 (FR.out _ hb);clear z0 zf0 z1 zf1 z2 zf2 z3 zf3 z4 zf4 z5 zf5 z6 zf6 z7 zf7 z8 zf8 z9 zf9 z10 zf10 z11 zf11;obtain⟨z0,z1,z2,z3,z4,z5,z6,z7,z8,z9,z10,z11,zf⟩:=j4 (FZ.out _ hb);have zf0:=zf 0;have zf1:=zf 1;have zf2:=zf 2;have zf3:=zf 3;have zf4:=zf 4;have zf5:=zf 5;have zf6:=zf 6;have zf7:=zf 7;have zf8:=zf 8;have zf9:=zf 9;have zf10:=zf 10;have zf11:=zf 11;clear hb zf gf)
 go_wp2_with fail
 obtain⟨y0,y1,y2,y3,y4,y5,y6,y7,y8,y9,y10,y11,yf⟩:=j4 ((PtW.start (FZ.out w1 HB1.out)).set12 (.int .i64 0) (.slice none 0 0) (.int .i64 0) (.int .i64 0) (.slice none 0 0) (.int .i64 0) (.int .i64 0) (.int .i64 0) (.int .i64 0) (.slice none 0 0) (.slice none 0 0) (.int .i64 0)).1
 unfold Go.Proofs.YtalmmiojbmpmiaaGreatDoor.set12 at y0 y1 y2 y3 y4 y5 y6 y7 y8 y9 y10 y11
 refine bodyPost_ret (v:=.tuple #[.agg #[.int .i64 0,.slice none 0 0,.int .i64 0,.int .i64 0,.slice none 0 0,.int .i64 0,.int .i64 0,.int .i64 0,.int .i64 0,.slice none 0 0,.slice none 0 0,.int .i64 0],.slice none 0 0,.slice none 0 0,.int .i64 14]) (by simp [results,Tryz.results35,go_sem,y0,y1,y2,y3,y4,y5,y6,y7,y8,y9,y10,y11]) rfl ?_
 exact mo
theorem j1e(hst:0<=X.st/\X.st<=4)(hus:usT X=true)(hv:Xs X B=none):Calls Tryz.prog 35 #[.agg #[.int .i64 X.kd,.slice sA X.sec.length sc,.int .i64 X.pr,.int .i64 X.st,.slice nA X.non.length nc,.int .i64 X.x,.int .i64 X.g,.int .i64 X.own,.int .i64 X.oth,.slice aA X.k1.length ac,.slice bA X.k2.length bc,.int .i64 X.ct],.slice vA B.length vc,.slice eA s.length ec] w (ExO (jn X B s) w):=by
 have R:Hid (jn X B s=jI 1):=iH (j3w X B s hst hus hv)
 have HUS:=iH hus;have HST:=iH hst;have HV:=iH hv
 obtain⟨w0,HW0,HB0,HSZ,FR,FZ,H1,H2,H3,H4,H5,H6⟩:=Za X sA nA aA bA sc nc ac bc h1 h2 h3 h4 h5 h6
 have HK:=iH hK;have HLN:=iH (And.intro ls (And.intro ln (And.intro l1 l2)));have HL:=iH hl
 obtain⟨f0,f1,f2,f3,f4,f5,f6,f7,f8,f9,f10,f11,ff⟩:=j4 (FR.out w0 iB)
 obtain⟨z0,z1,z2,z3,z4,z5,z6,z7,z8,z9,z10,z11,zf⟩:=j4 (FZ.out w0 iB)
 have zf0:=zf 0;have zf1:=zf 1;have zf2:=zf 2;have zf3:=zf 3;have zf4:=zf 4;have zf5:=zf 5;have zf6:=zf 6;have zf7:=zf 7;have zf8:=zf 8;have zf9:=zf 9;have zf10:=zf 10;have zf11:=zf 11
 clear hK h1 h2 h3 h4 h5 h6 ls ln l1 l2 hl zf ff
 have d0:decide (X.st<0)=false:=decide_eq_false (by omega)
 have d3:decide (4<X.st)=false:=decide_eq_false (by omega)
 clear hus hst hv
 go_enter Tryz.func35,Tryz.ntmps35
 go_upto_region 1 with fail
 rw [<-HW0.out]
 go_upto_region 5 with (go_at_call 87;refine(qW X sA nA aA bA sc nc ac bc w0 H3.out H4.out HLN.out.2.2.1 HLN.out.2.2.2).mono ?_;rw [HUS.out];rintro e w1 ⟨rfl,hb⟩;have HB1:=iH hb;clear f0 f1 f2 f3 f4 f5 f6 f7 f8 f9 f10 f11;obtain⟨g0,g1,g2,g3,g4,g5,g6,g7,g8,g9,g10,g11,gf⟩:=j4 (FR.out _ hb);clear z0 zf0 z1 zf1 z2 zf2 z3 zf3 z4 zf4 z5 zf5 z6 zf6 z7 zf7 z8 zf8 z9 zf9 z10 zf10 z11 zf11;obtain⟨z0,z1,z2,z3,z4,z5,z6,z7,z8,z9,z10,z11,zf⟩:=j4 (FZ.out _ hb);have zf0:=zf 0;have zf1:=zf 1;have zf2:=zf 2;have zf3:=zf 3;have zf4:=zf 4;have zf5:=zf 5;have zf6:=zf 6;have zf7:=zf 7;have zf8:=zf 8;have zf9:=zf 9;have zf10:=zf 10;have zf11:=zf 11;clear hb zf gf)
 go_upto_region 7 with (go_at_call 88;refine(xl X sA nA aA bA sc nc ac bc vA vc B w1 (Bs.lift H5.out HB1.out) HST.out).mono ?_;rw [HV.out];rintro e w2 ⟨v2,rfl,hs,hb⟩;obtain⟨A2,c2,hv2⟩:=Bs.formL hs;subst hv2;have GV:=iH hs;have HB2:=iH (HB1.out.trans (hb.mono HB1.out.size));clear g0 g1 g2 g3 g4 g5 g6 g7 g8 g9 g10 g11;obtain⟨f0,f1,f2,f3,f4,f5,f6,f7,f8,f9,f10,f11,ff⟩:=j4 (FR.out _ HB2.out);clear z0 zf0 z1 zf1 z2 zf2 z3 zf3 z4 zf4 z5 zf5 z6 zf6 z7 zf7 z8 zf8 z9 zf9 z10 zf10 z11 zf11;obtain⟨z0,z1,z2,z3,z4,z5,z6,z7,z8,z9,z10,z11,zf⟩:=j4 (FZ.out _ HB2.out);have zf0:=zf 0;have zf1:=zf 1;have zf2:=zf 2;have zf3:=zf 3;have zf4:=zf 4;have zf5:=zf 5;have zf6:=zf 6;have zf7:=zf 7;have zf8:=zf 8;have zf9:=zf 9;have zf10:=zf 10;have zf11:=zf 11;clear hs hb ff zf)
 go_wp2_with fail
 obtain⟨y0,y1,y2,y3,y4,y5,y6,y7,y8,y9,y10,y11,yf⟩:=j4 ((PtW.start (FZ.out w2 HB2.out)).set12 (.int .i64 0) (.slice none 0 0) (.int .i64 0) (.int .i64 0) (.slice none 0 0) (.int .i64 0) (.int .i64 0) (.int .i64 0) (.int .i64 0) (.slice none 0 0) (.slice none 0 0) (.int .i64 0)).1
 unfold Go.Proofs.YtalmmiojbmpmiaaGreatDoor.set12 at y0 y1 y2 y3 y4 y5 y6 y7 y8 y9 y10 y11
 refine bodyPost_ret (v:=.tuple #[.agg #[.int .i64 0,.slice none 0 0,.int .i64 0,.int .i64 0,.slice none 0 0,.int .i64 0,.int .i64 0,.int .i64 0,.int .i64 0,.slice none 0 0,.slice none 0 0,.int .i64 0],.slice none 0 0,.slice none 0 0,.int .i64 1]) (by simp [results,Tryz.results35,go_sem,y0,y1,y2,y3,y4,y5,y6,y7,y8,y9,y10,y11]) rfl ?_
 exact ExO.err R.out ((HB0.out.trans (HB2.out.mono HB0.out.size)).trans (Below.mono (((PtW.start (FZ.out _ HB2.out)).set12 (.int .i64 0) (.slice none 0 0) (.int .i64 0) (.int .i64 0) (.slice none 0 0) (.int .i64 0) (.int .i64 0) (.int .i64 0) (.int .i64 0) (.slice none 0 0) (.slice none 0 0) (.int .i64 0)).2.2) (Nat.le_succ _)))
section
variable(F:Nat)(hF:(X.st=0/\F=89)\/(X.st=1/\F=90)\/(X.st=2/\F=91)\/(X.st=3/\F=92)\/(X.st=4/\F=93))(hst:0<=X.st/\X.st<=4)
include F hF hst
theorem yB(hus:usT X=true)(v:List UInt8)(hv:Xs X B=some v)(er:Int)(he:(er != 0)=true)(hdo:j66 F X v s er)(hr:jn X B s=jI er):Calls Tryz.prog 35 #[.agg #[.int .i64 X.kd,.slice sA X.sec.length sc,.int .i64 X.pr,.int .i64 X.st,.slice nA X.non.length nc,.int .i64 X.x,.int .i64 X.g,.int .i64 X.own,.int .i64 X.oth,.slice aA X.k1.length ac,.slice bA X.k2.length bc,.int .i64 X.ct],.slice vA B.length vc,.slice eA s.length ec] w (ExO (jn X B s) w):=by
 have R:=iH hr
 have HF:=iH hF;have HUS:=iH hus;have HST:=iH hst;have HV:=iH hv;have HDO:=iH hdo
 obtain⟨w0,HW0,HB0,HSZ,FR,FZ,H1,H2,H3,H4,H5,H6⟩:=Za X sA nA aA bA sc nc ac bc h1 h2 h3 h4 h5 h6
 have HK:=iH hK;have HLN:=iH (And.intro ls (And.intro ln (And.intro l1 l2)));have HL:=iH hl
 obtain⟨f0,f1,f2,f3,f4,f5,f6,f7,f8,f9,f10,f11,ff⟩:=j4 (FR.out w0 iB)
 obtain⟨z0,z1,z2,z3,z4,z5,z6,z7,z8,z9,z10,z11,zf⟩:=j4 (FZ.out w0 iB)
 have zf0:=zf 0;have zf1:=zf 1;have zf2:=zf 2;have zf3:=zf 3;have zf4:=zf 4;have zf5:=zf 5;have zf6:=zf 6;have zf7:=zf 7;have zf8:=zf 8;have zf9:=zf 9;have zf10:=zf 10;have zf11:=zf 11
 clear hK h1 h2 h3 h4 h5 h6 ls ln l1 l2 hl zf ff
 have d0:decide (X.st<0)=false:=decide_eq_false (by omega)
 have d3:decide (4<X.st)=false:=decide_eq_false (by omega)
 clear hF hus hst hv hdo hr
 go_enter Tryz.func35,Tryz.ntmps35
 go_upto_region 1 with fail
 rw [<-HW0.out]
 go_upto_region 5 with (go_at_call 87;refine(qW X sA nA aA bA sc nc ac bc w0 H3.out H4.out HLN.out.2.2.1 HLN.out.2.2.2).mono ?_;rw [HUS.out];rintro e w1 ⟨rfl,hb⟩;have HB1:=iH hb;clear f0 f1 f2 f3 f4 f5 f6 f7 f8 f9 f10 f11;obtain⟨g0,g1,g2,g3,g4,g5,g6,g7,g8,g9,g10,g11,gf⟩:=j4 (FR.out _ hb);clear z0 zf0 z1 zf1 z2 zf2 z3 zf3 z4 zf4 z5 zf5 z6 zf6 z7 zf7 z8 zf8 z9 zf9 z10 zf10 z11 zf11;obtain⟨z0,z1,z2,z3,z4,z5,z6,z7,z8,z9,z10,z11,zf⟩:=j4 (FZ.out _ hb);have zf0:=zf 0;have zf1:=zf 1;have zf2:=zf 2;have zf3:=zf 3;have zf4:=zf 4;have zf5:=zf 5;have zf6:=zf 6;have zf7:=zf 7;have zf8:=zf 8;have zf9:=zf 9;have zf10:=zf 10;have zf11:=zf 11;clear hb zf gf)
 go_upto_region 8 with (go_at_call 88;refine(xl X sA nA aA bA sc nc ac bc vA vc B w1 (Bs.lift H5.out HB1.out) HST.out).mono ?_;rw [HV.out];rintro e w2 ⟨v2,rfl,hs,hb⟩;obtain⟨A2,c2,hv2⟩:=Bs.formL hs;subst hv2;have GV:=iH hs;have HB2:=iH (HB1.out.trans (hb.mono HB1.out.size));clear g0 g1 g2 g3 g4 g5 g6 g7 g8 g9 g10 g11;obtain⟨f0,f1,f2,f3,f4,f5,f6,f7,f8,f9,f10,f11,ff⟩:=j4 (FR.out _ HB2.out);clear z0 zf0 z1 zf1 z2 zf2 z3 zf3 z4 zf4 z5 zf5 z6 zf6 z7 zf7 z8 zf8 z9 zf9 z10 zf10 z11 zf11;obtain⟨z0,z1,z2,z3,z4,z5,z6,z7,z8,z9,z10,z11,zf⟩:=j4 (FZ.out _ HB2.out);have zf0:=zf 0;have zf1:=zf 1;have zf2:=zf 2;have zf3:=zf 3;have zf4:=zf 4;have zf5:=zf 5;have zf6:=zf 6;have zf7:=zf 7;have zf8:=zf 8;have zf9:=zf 9;have zf10:=zf 10;have zf11:=zf 11;clear hs hb ff zf)
 go_upto_region 9 with (go_at_call 70;refine(qX X sA nA aA bA sc nc ac bc w2 (H1.out.lift HB2.out) (H2.out.lift HB2.out) (H3.out.lift HB2.out) (H4.out.lift HB2.out) HLN.out.1 HLN.out.2.1 HLN.out.2.2.1 HLN.out.2.2.2).mono ?_;rintro e w3 ⟨sB,nB,aB,bB,sd,nd,ad,bd,rfl,k1,k2,k3,k4,hb⟩;have HB3:=iH (HB2.out.trans (hb.mono HB2.out.size));have hpz:=PtW.start (FZ.out _ HB3.out);clear f0 f1 f2 f3 f4 f5 f6 f7 f8 f9 f10 f11 z0 zf0 z1 zf1 z2 zf2 z3 zf3 z4 zf4 z5 zf5 z6 zf6 z7 zf7 z8 zf8 z9 zf9 z10 zf10 z11 zf11;obtain⟨f0,f1,f2,f3,f4,f5,f6,f7,f8,f9,f10,f11,ff⟩:=j4 (FR.out _ HB3.out);obtain⟨z0,z1,z2,z3,z4,z5,z6,z7,z8,z9,z10,z11,zf⟩:=j4 hpz.1;have zf0:=zf 0;have zf1:=zf 1;have zf2:=zf 2;have zf3:=zf 3;have zf4:=zf 4;have zf5:=zf 5;have zf6:=zf 6;have zf7:=zf 7;have zf8:=zf 8;have zf9:=zf 9;have zf10:=zf 10;have zf11:=zf 11;have G1:=iH (BsS.madeB (p:=w.heap.size+1) k1 (by have:=HSZ.out;have:=HB2.out.size;omega));have G2:=iH (BsS.madeB (p:=w.heap.size+1) k2 (by have:=HSZ.out;have:=HB2.out.size;omega));have G3:=iH (BsS.madeB (p:=w.heap.size+1) k3 (by have:=HSZ.out;have:=HB2.out.size;omega));have G4:=iH (BsS.madeB (p:=w.heap.size+1) k4 (by have:=HSZ.out;have:=HB2.out.size;omega));have G5:=iH (BsS.onB (BsS.madeB (p:=w.heap.size+1) GV.out (by have:=HSZ.out;have:=HB1.out.size;omega)) hb);have HPZ:=iH hpz;clear k1 k2 k3 k4 hb hpz ff zf)
 obtain⟨w4,hw4⟩:∃z,z=set12 w3 (w.heap.size+1) (.int .i64 X.kd) (.slice sB X.sec.length sd) (.int .i64 X.pr) (.int .i64 X.st) (.slice nB X.non.length nd) (.int .i64 X.x) (.int .i64 X.g) (.int .i64 X.own) (.int .i64 X.oth) (.slice aB X.k1.length ad) (.slice bB X.k2.length bd) (.int .i64 X.ct):=⟨_,rfl⟩
 have hp4:PtW (w.heap.size+1) w3 w4 #[.int .i64 X.kd,.slice sB X.sec.length sd,.int .i64 X.pr,.int .i64 X.st,.slice nB X.non.length nd,.int .i64 X.x,.int .i64 X.g,.int .i64 X.own,.int .i64 X.oth,.slice aB X.k1.length ad,.slice bB X.k2.length bd,.int .i64 X.ct]:=by rw [hw4];exact HPZ.out.set12 (.int .i64 X.kd) (.slice sB X.sec.length sd) (.int .i64 X.pr) (.int .i64 X.st) (.slice nB X.non.length nd) (.int .i64 X.x) (.int .i64 X.g) (.int .i64 X.own) (.int .i64 X.oth) (.slice aB X.k1.length ad) (.slice bB X.k2.length bd) (.int .i64 X.ct)
 have g4:=fun {u:Value} {m:List UInt8} (h:BsS w3 (j7 (w.heap.size+1) w3) u m)=>(by rw [hw4];exact BsS.set12 h (.int .i64 X.kd) (.slice sB X.sec.length sd) (.int .i64 X.pr) (.int .i64 X.st) (.slice nB X.non.length nd) (.int .i64 X.x) (.int .i64 X.g) (.int .i64 X.own) (.int .i64 X.oth) (.slice aB X.k1.length ad) (.slice bB X.k2.length bd) (.int .i64 X.ct):BsS w4 (j7 (w.heap.size+1) w4) u m)
 have J1:=iH (g4 G1.out);have J2:=iH (g4 G2.out);have J3:=iH (g4 G3.out);have J4:=iH (g4 G4.out);have J5:=iH (g4 G5.out)
 have H6w:Hid (BsS w3 (j7 (w.heap.size+1) w3) (.slice eA s.length ec) s):=iH (BsS.keep (BsS.off (H6.out.lift HB3.out) (FZ.out _ HB3.out) QL) fun g hs _=>⟨rfl,hs⟩)
 have J6:=iH (g4 H6w.out)
 have HQ4:=iH hp4
 have hfr4:w4.heap[w.heap.size]?=some (.cells #[.int .i64 X.kd,.slice sA X.sec.length sc,.int .i64 X.pr,.int .i64 X.st,.slice nA X.non.length nc,.int .i64 X.x,.int .i64 X.g,.int .i64 X.own,.int .i64 X.oth,.slice aA X.k1.length ac,.slice bA X.k2.length bc,.int .i64 X.ct] 48 (0,0)):=(hp4.2.1.block w.heap.size (by have:=HSZ.out;have:=HB3.out.size;omega) (by intro e;injection e with e;omega)).trans (FR.out _ HB3.out)
 unfold Go.Proofs.YtalmmiojbmpmiaaGreatDoor.set12 at hw4
 rw [<-hw4]
 clear hw4 hp4 g4 f0 f1 f2 f3 f4 f5 f6 f7 f8 f9 f10 f11 z0 zf0 z1 zf1 z2 zf2 z3 zf3 z4 zf4 z5 zf5 z6 zf6 z7 zf7 z8 zf8 z9 zf9 z10 zf10 z11 zf11
 obtain⟨f0,f1,f2,f3,f4,f5,f6,f7,f8,f9,f10,f11,ff⟩:=j4 hfr4
 clear hfr4 ff
 have HK4:Hid (∀W,Below (w.heap.size+1) w4 W->KD W):=iH (fun W h=>HK.out.below (((HB0.out.trans (HB3.out.mono HB0.out.size)).mono iL).trans ((HQ4.out.2.2.mono (Nat.le_succ _)).trans (h.mono (Nat.le_succ _)))) HK.out.lt)
 have I0:=j7q;have I1:=j7r;have I2:=j7s;have I3:=j7t;have I4:=j7u
 have HCF:∀(args:Array Value) (W:World),Sem.run Tryz.prog (callFunc F args) W=.ok (.enter F args) W:=by rcases HF.out with ⟨_,rfl⟩|⟨_,rfl⟩|⟨_,rfl⟩|⟨_,rfl⟩|⟨_,rfl⟩<;>(intro args W;kernel_rfl)
 go_cut [12] from 39 to 42 (fun y wc=>y=.func (.func F) #[] #[]/\wc=w4)
 case first=>
  exact mB
 case rest=>
 obtain⟨rfl,hwc⟩:=hcut
 have hwc:=hwc.symm
 subst hwc
 clear I0 I1 I2 I3 I4
 go_wp2_with(refine(HDO.out (w.heap.size+1) sB nB aB bB sd nd ad bd A2 eA c2 ec _ HK4.out HQ4.out.1 J1.out J2.out J3.out J4.out J5.out J6.out HL.out).mono ?_;rintro e w5 ⟨rfl,e0,e1,e2,e3,e4,e5,e6,e7,e8,e9,e10,e11,hpt⟩;have HPT:=iH hpt;obtain⟨p0,p1,p2,p3,p4,p5,p6,p7,p8,p9,p10,p11,pf⟩:=j4 hpt.1;have pf0:=pf 0;have pf1:=pf 1;have pf2:=pf 2;have pf3:=pf 3;have pf4:=pf 4;have pf5:=pf 5;have pf6:=pf 6;have pf7:=pf 7;have pf8:=pf 8;have pf9:=pf 9;have pf10:=pf 10;have pf11:=pf 11;clear hpt pf)
 obtain⟨y0,y1,y2,y3,y4,y5,y6,y7,y8,y9,y10,y11,yf⟩:=j4 (HPT.out.set12 (.int .i64 0) (.slice none 0 0) (.int .i64 0) (.int .i64 0) (.slice none 0 0) (.int .i64 0) (.int .i64 0) (.int .i64 0) (.int .i64 0) (.slice none 0 0) (.slice none 0 0) (.int .i64 0)).1
 unfold Go.Proofs.YtalmmiojbmpmiaaGreatDoor.set12 at y0 y1 y2 y3 y4 y5 y6 y7 y8 y9 y10 y11
 refine bodyPost_ret (v:=.tuple #[.agg #[.int .i64 0,.slice none 0 0,.int .i64 0,.int .i64 0,.slice none 0 0,.int .i64 0,.int .i64 0,.int .i64 0,.int .i64 0,.slice none 0 0,.slice none 0 0,.int .i64 0],.slice none 0 0,.slice none 0 0,.int .i64 er]) (by simp [results,Tryz.results35,go_sem,y0,y1,y2,y3,y4,y5,y6,y7,y8,y9,y10,y11]) rfl ?_
 exact ExO.err R.out ((HB0.out.trans (HB3.out.mono HB0.out.size)).trans (Below.mono ((HQ4.out.2.2.trans HPT.out.2.2).trans (((PtW.start HPT.out.1).set12 (.int .i64 0) (.slice none 0 0) (.int .i64 0) (.int .i64 0) (.slice none 0 0) (.int .i64 0) (.int .i64 0) (.int .i64 0) (.int .i64 0) (.slice none 0 0) (.slice none 0 0) (.int .i64 0)).2.2)) (Nat.le_succ _)))
theorem zQ(hlt:X.st<4)(hus:usT X=true)(v:List UInt8)(hv:Xs X B=some v)(tag:Int)(Y:Exg)(hyst:Y.st=X.st)(dt nx U:List UInt8)(hw:∀(A:Option Addr) (c:Nat) (W:World),Bs W W.heap.size (.slice A dt.length c) dt->Calls Tryz.prog 75 #[.int .i64 tag,.slice A dt.length c] W (xw U W))(hdo:j7a F X v s tag Y dt nx)(hr:jn X B s=(0,{Y with st:=Y.st+1},U,nx)):Calls Tryz.prog 35 #[.agg #[.int .i64 X.kd,.slice sA X.sec.length sc,.int .i64 X.pr,.int .i64 X.st,.slice nA X.non.length nc,.int .i64 X.x,.int .i64 X.g,.int .i64 X.own,.int .i64 X.oth,.slice aA X.k1.length ac,.slice bA X.k2.length bc,.int .i64 X.ct],.slice vA B.length vc,.slice eA s.length ec] w (ExO (jn X B s) w):=by
 have R:=iH hr
 have HWR:=iH hw
 have HF:=iH hF;have HUS:=iH hus;have HST:=iH hst;have HV:=iH hv;have HDO:=iH hdo
 obtain⟨w0,HW0,HB0,HSZ,FR,FZ,H1,H2,H3,H4,H5,H6⟩:=Za X sA nA aA bA sc nc ac bc h1 h2 h3 h4 h5 h6
 have HK:=iH hK;have HLN:=iH (And.intro ls (And.intro ln (And.intro l1 l2)));have HL:=iH hl
 obtain⟨f0,f1,f2,f3,f4,f5,f6,f7,f8,f9,f10,f11,ff⟩:=j4 (FR.out w0 iB)
 obtain⟨z0,z1,z2,z3,z4,z5,z6,z7,z8,z9,z10,z11,zf⟩:=j4 (FZ.out w0 iB)
 have zf0:=zf 0;have zf1:=zf 1;have zf2:=zf 2;have zf3:=zf 3;have zf4:=zf 4;have zf5:=zf 5;have zf6:=zf 6;have zf7:=zf 7;have zf8:=zf 8;have zf9:=zf 9;have zf10:=zf 10;have zf11:=zf 11
 clear hK h1 h2 h3 h4 h5 h6 ls ln l1 l2 hl zf ff
 have d0:decide (X.st<0)=false:=decide_eq_false (by omega)
 have d3:decide (4<X.st)=false:=decide_eq_false (by omega)
 have hy0:0<=Y.st:=by omega
 have hy3:Y.st<=4:=by omega
 have d4:decide (X.st<4)=true:=decide_eq_true hlt
 clear hF hus hst hv hdo hr hyst hw hlt
 go_enter Tryz.func35,Tryz.ntmps35
 go_upto_region 1 with fail
 rw [<-HW0.out]
 go_upto_region 5 with (go_at_call 87;refine(qW X sA nA aA bA sc nc ac bc w0 H3.out H4.out HLN.out.2.2.1 HLN.out.2.2.2).mono ?_;rw [HUS.out];rintro e w1 ⟨rfl,hb⟩;have HB1:=iH hb;clear f0 f1 f2 f3 f4 f5 f6 f7 f8 f9 f10 f11;obtain⟨g0,g1,g2,g3,g4,g5,g6,g7,g8,g9,g10,g11,gf⟩:=j4 (FR.out _ hb);clear z0 zf0 z1 zf1 z2 zf2 z3 zf3 z4 zf4 z5 zf5 z6 zf6 z7 zf7 z8 zf8 z9 zf9 z10 zf10 z11 zf11;obtain⟨z0,z1,z2,z3,z4,z5,z6,z7,z8,z9,z10,z11,zf⟩:=j4 (FZ.out _ hb);have zf0:=zf 0;have zf1:=zf 1;have zf2:=zf 2;have zf3:=zf 3;have zf4:=zf 4;have zf5:=zf 5;have zf6:=zf 6;have zf7:=zf 7;have zf8:=zf 8;have zf9:=zf 9;have zf10:=zf 10;have zf11:=zf 11;clear hb zf gf)
 go_upto_region 8 with (go_at_call 88;refine(xl X sA nA aA bA sc nc ac bc vA vc B w1 (Bs.lift H5.out HB1.out) HST.out).mono ?_;rw [HV.out];rintro e w2 ⟨v2,rfl,hs,hb⟩;obtain⟨A2,c2,hv2⟩:=Bs.formL hs;subst hv2;have GV:=iH hs;have HB2:=iH (HB1.out.trans (hb.mono HB1.out.size));clear g0 g1 g2 g3 g4 g5 g6 g7 g8 g9 g10 g11;obtain⟨f0,f1,f2,f3,f4,f5,f6,f7,f8,f9,f10,f11,ff⟩:=j4 (FR.out _ HB2.out);clear z0 zf0 z1 zf1 z2 zf2 z3 zf3 z4 zf4 z5 zf5 z6 zf6 z7 zf7 z8 zf8 z9 zf9 z10 zf10 z11 zf11;obtain⟨z0,z1,z2,z3,z4,z5,z6,z7,z8,z9,z10,z11,zf⟩:=j4 (FZ.out _ HB2.out);have zf0:=zf 0;have zf1:=zf 1;have zf2:=zf 2;have zf3:=zf 3;have zf4:=zf 4;have zf5:=zf 5;have zf6:=zf 6;have zf7:=zf 7;have zf8:=zf 8;have zf9:=zf 9;have zf10:=zf 10;have zf11:=zf 11;clear hs hb ff zf)
 go_upto_region 9 with (go_at_call 70;refine(qX X sA nA aA bA sc nc ac bc w2 (H1.out.lift HB2.out) (H2.out.lift HB2.out) (H3.out.lift HB2.out) (H4.out.lift HB2.out) HLN.out.1 HLN.out.2.1 HLN.out.2.2.1 HLN.out.2.2.2).mono ?_;rintro e w3 ⟨sB,nB,aB,bB,sd,nd,ad,bd,rfl,k1,k2,k3,k4,hb⟩;have HB3:=iH (HB2.out.trans (hb.mono HB2.out.size));have hpz:=PtW.start (FZ.out _ HB3.out);clear f0 f1 f2 f3 f4 f5 f6 f7 f8 f9 f10 f11 z0 zf0 z1 zf1 z2 zf2 z3 zf3 z4 zf4 z5 zf5 z6 zf6 z7 zf7 z8 zf8 z9 zf9 z10 zf10 z11 zf11;obtain⟨f0,f1,f2,f3,f4,f5,f6,f7,f8,f9,f10,f11,ff⟩:=j4 (FR.out _ HB3.out);obtain⟨z0,z1,z2,z3,z4,z5,z6,z7,z8,z9,z10,z11,zf⟩:=j4 hpz.1;have zf0:=zf 0;have zf1:=zf 1;have zf2:=zf 2;have zf3:=zf 3;have zf4:=zf 4;have zf5:=zf 5;have zf6:=zf 6;have zf7:=zf 7;have zf8:=zf 8;have zf9:=zf 9;have zf10:=zf 10;have zf11:=zf 11;have G1:=iH (BsS.madeB (p:=w.heap.size+1) k1 (by have:=HSZ.out;have:=HB2.out.size;omega));have G2:=iH (BsS.madeB (p:=w.heap.size+1) k2 (by have:=HSZ.out;have:=HB2.out.size;omega));have G3:=iH (BsS.madeB (p:=w.heap.size+1) k3 (by have:=HSZ.out;have:=HB2.out.size;omega));have G4:=iH (BsS.madeB (p:=w.heap.size+1) k4 (by have:=HSZ.out;have:=HB2.out.size;omega));have G5:=iH (BsS.onB (BsS.madeB (p:=w.heap.size+1) GV.out (by have:=HSZ.out;have:=HB1.out.size;omega)) hb);have HPZ:=iH hpz;clear k1 k2 k3 k4 hb hpz ff zf)
 obtain⟨w4,hw4⟩:∃z,z=set12 w3 (w.heap.size+1) (.int .i64 X.kd) (.slice sB X.sec.length sd) (.int .i64 X.pr) (.int .i64 X.st) (.slice nB X.non.length nd) (.int .i64 X.x) (.int .i64 X.g) (.int .i64 X.own) (.int .i64 X.oth) (.slice aB X.k1.length ad) (.slice bB X.k2.length bd) (.int .i64 X.ct):=⟨_,rfl⟩
 have hp4:PtW (w.heap.size+1) w3 w4 #[.int .i64 X.kd,.slice sB X.sec.length sd,.int .i64 X.pr,.int .i64 X.st,.slice nB X.non.length nd,.int .i64 X.x,.int .i64 X.g,.int .i64 X.own,.int .i64 X.oth,.slice aB X.k1.length ad,.slice bB X.k2.length bd,.int .i64 X.ct]:=by rw [hw4];exact HPZ.out.set12 (.int .i64 X.kd) (.slice sB X.sec.length sd) (.int .i64 X.pr) (.int .i64 X.st) (.slice nB X.non.length nd) (.int .i64 X.x) (.int .i64 X.g) (.int .i64 X.own) (.int .i64 X.oth) (.slice aB X.k1.length ad) (.slice bB X.k2.length bd) (.int .i64 X.ct)
 have g4:=fun {u:Value} {m:List UInt8} (h:BsS w3 (j7 (w.heap.size+1) w3) u m)=>(by rw [hw4];exact BsS.set12 h (.int .i64 X.kd) (.slice sB X.sec.length sd) (.int .i64 X.pr) (.int .i64 X.st) (.slice nB X.non.length nd) (.int .i64 X.x) (.int .i64 X.g) (.int .i64 X.own) (.int .i64 X.oth) (.slice aB X.k1.length ad) (.slice bB X.k2.length bd) (.int .i64 X.ct):BsS w4 (j7 (w.heap.size+1) w4) u m)
 have J1:=iH (g4 G1.out);have J2:=iH (g4 G2.out);have J3:=iH (g4 G3.out);have J4:=iH (g4 G4.out);have J5:=iH (g4 G5.out)
 have H6w:Hid (BsS w3 (j7 (w.heap.size+1) w3) (.slice eA s.length ec) s):=iH (BsS.keep (BsS.off (H6.out.lift HB3.out) (FZ.out _ HB3.out) QL) fun g hs _=>⟨rfl,hs⟩)
 have J6:=iH (g4 H6w.out)
 have HQ4:=iH hp4
 have hfr4:w4.heap[w.heap.size]?=some (.cells #[.int .i64 X.kd,.slice sA X.sec.length sc,.int .i64 X.pr,.int .i64 X.st,.slice nA X.non.length nc,.int .i64 X.x,.int .i64 X.g,.int .i64 X.own,.int .i64 X.oth,.slice aA X.k1.length ac,.slice bA X.k2.length bc,.int .i64 X.ct] 48 (0,0)):=(hp4.2.1.block w.heap.size (by have:=HSZ.out;have:=HB3.out.size;omega) (by intro e;injection e with e;omega)).trans (FR.out _ HB3.out)
 unfold Go.Proofs.YtalmmiojbmpmiaaGreatDoor.set12 at hw4
 rw [<-hw4]
 clear hw4 hp4 g4 f0 f1 f2 f3 f4 f5 f6 f7 f8 f9 f10 f11 z0 zf0 z1 zf1 z2 zf2 z3 zf3 z4 zf4 z5 zf5 z6 zf6 z7 zf7 z8 zf8 z9 zf9 z10 zf10 z11 zf11
 obtain⟨f0,f1,f2,f3,f4,f5,f6,f7,f8,f9,f10,f11,ff⟩:=j4 hfr4
 clear hfr4 ff
 have HK4:Hid (∀W,Below (w.heap.size+1) w4 W->KD W):=iH (fun W h=>HK.out.below (((HB0.out.trans (HB3.out.mono HB0.out.size)).mono iL).trans ((HQ4.out.2.2.mono (Nat.le_succ _)).trans (h.mono (Nat.le_succ _)))) HK.out.lt)
 have I0:=j7q;have I1:=j7r;have I2:=j7s;have I3:=j7t;have I4:=j7u
 have HCF:∀(args:Array Value) (W:World),Sem.run Tryz.prog (callFunc F args) W=.ok (.enter F args) W:=by rcases HF.out with ⟨_,rfl⟩|⟨_,rfl⟩|⟨_,rfl⟩|⟨_,rfl⟩|⟨_,rfl⟩<;>(intro args W;kernel_rfl)
 go_cut [12] from 39 to 42 (fun y wc=>y=.func (.func F) #[] #[]/\wc=w4)
 case first=>
  exact mB
 case rest=>
 obtain⟨rfl,hwc⟩:=hcut
 have hwc:=hwc.symm
 subst hwc
 clear I0 I1 I2 I3 I4
 go_upto_region 13 with (refine(HDO.out (w.heap.size+1) sB nB aB bB sd nd ad bd A2 eA c2 ec _ HK4.out HQ4.out.1 J1.out J2.out J3.out J4.out J5.out J6.out HL.out).mono ?_;rintro e w5 ⟨dA,dc,nA1,nc1,rfl,⟨sY,nY,aY,bY,sy,ny,ay,by_,hpt,k1,k2,k3,k4⟩,hd,hn⟩;have HPT:=iH hpt;have HX5:=iH (hpt.2.1.block w.heap.size (by have:=HSZ.out;have:=HB3.out.size;have:=HQ4.out.2.1.size;omega) (by intro e;injection e with e;omega));have K1:=iH k1;have K2:=iH k2;have K3:=iH k3;have K4:=iH k4;have KD1:=iH hd;have KN:=iH hn;clear hpt k1 k2 k3 k4 hd hn)
 clear f0 f1 f2 f3 f4 f5 f6 f7 f8 f9 f10 f11
 obtain⟨f0,f1,f2,f3,f4,f5,f6,f7,f8,f9,f10,f11,ff⟩:=j4 (HX5.out.trans ((HQ4.out.2.1.block w.heap.size (by have:=HSZ.out;have:=HB3.out.size;omega) (by intro e;injection e with e;omega)).trans (FR.out _ HB3.out)))
 clear ff
 go_upto_region 15 with (go_at_call 75;refine(HWR.out dA dc w5 KD1.out.loB).mono ?_;rintro e w9 ⟨A7,c7,rfl,hs,hb⟩;have HU:=iH (hs.madeB HPT.out.lt);have HB9:=iH hb;clear hs hb)
 have hp9:PtW (w.heap.size+1) w4 w9 #[.int .i64 Y.kd,.slice sY Y.sec.length sy,.int .i64 Y.pr,.int .i64 Y.st,.slice nY Y.non.length ny,.int .i64 Y.x,.int .i64 Y.g,.int .i64 Y.own,.int .i64 Y.oth,.slice aY Y.k1.length ay,.slice bY Y.k2.length by_,.int .i64 Y.ct]:=HPT.out.call HB9.out
 have HP9:=iH hp9
 obtain⟨p0,p1,p2,p3,p4,p5,p6,p7,p8,p9,p10,p11,pf⟩:=j4 hp9.1
 have pf3:=pf 3
 have M1:=iH (K1.out.onB HB9.out)
 have M2:=iH (K2.out.onB HB9.out)
 have M3:=iH (K3.out.onB HB9.out)
 have M4:=iH (K4.out.onB HB9.out)
 have MN:=iH (KN.out.onB HB9.out)
 clear hp9 pf
 go_upto_region 16 with fail
 obtain⟨w6,hw6⟩:∃z,z=w9.setCell ⟨w.heap.size+1,3,none⟩ (.int .i64 (Y.st+1)):=⟨_,rfl⟩
 rw [<-hw6]
 have hp6:PtW (w.heap.size+1) w4 w6 #[.int .i64 Y.kd,.slice sY Y.sec.length sy,.int .i64 Y.pr,.int .i64 (Y.st+1),.slice nY Y.non.length ny,.int .i64 Y.x,.int .i64 Y.g,.int .i64 Y.own,.int .i64 Y.oth,.slice aY Y.k1.length ay,.slice bY Y.k2.length by_,.int .i64 Y.ct]:=by rw [hw6];exact HP9.out.set 3 _
 have HP6:=iH hp6
 have N6:Hid (BsS w6 (j7 (w.heap.size+1) w6) _ _):=iH (by rw [hw6];exact BsS.setP MN.out 3 _)
 have L1:Hid (BsS w6 (j7 (w.heap.size+1) w6) _ _):=iH (by rw [hw6];exact BsS.setP M1.out 3 _)
 have L2:Hid (BsS w6 (j7 (w.heap.size+1) w6) _ _):=iH (by rw [hw6];exact BsS.setP M2.out 3 _)
 have L3:Hid (BsS w6 (j7 (w.heap.size+1) w6) _ _):=iH (by rw [hw6];exact BsS.setP M3.out 3 _)
 have L4:Hid (BsS w6 (j7 (w.heap.size+1) w6) _ _):=iH (by rw [hw6];exact BsS.setP M4.out 3 _)
 have U6:Hid (BsS w6 (j7 (w.heap.size+1) w6) _ _):=iH (by rw [hw6];exact BsS.setP HU.out 3 _)
 clear hw6 p0 p1 p2 p3 p4 p5 p6 p7 p8 p9 p10 p11 pf3 f0 f1 f2 f3 f4 f5 f6 f7 f8 f9 f10 f11
 obtain⟨p0,p1,p2,p3,p4,p5,p6,p7,p8,p9,p10,p11,pf⟩:=j4 hp6.1
 have pf0:=pf 0;have pf1:=pf 1;have pf2:=pf 2;have pf3:=pf 3;have pf4:=pf 4;have pf5:=pf 5;have pf6:=pf 6;have pf7:=pf 7;have pf8:=pf 8;have pf9:=pf 9;have pf10:=pf 10;have pf11:=pf 11
 clear hp6 pf
 go_wp2_with fail
 obtain⟨y0,y1,y2,y3,y4,y5,y6,y7,y8,y9,y10,y11,yf⟩:=j4 (HP6.out.set12 (.int .i64 Y.kd) (.slice sY Y.sec.length sy) (.int .i64 Y.pr) (.int .i64 (Y.st+1)) (.slice nY Y.non.length ny) (.int .i64 Y.x) (.int .i64 Y.g) (.int .i64 Y.own) (.int .i64 Y.oth) (.slice aY Y.k1.length ay) (.slice bY Y.k2.length by_) (.int .i64 Y.ct)).1
 obtain⟨w8,hw8⟩:∃z,z=set12 w6 (w.heap.size+1) (.int .i64 Y.kd) (.slice sY Y.sec.length sy) (.int .i64 Y.pr) (.int .i64 (Y.st+1)) (.slice nY Y.non.length ny) (.int .i64 Y.x) (.int .i64 Y.g) (.int .i64 Y.own) (.int .i64 Y.oth) (.slice aY Y.k1.length ay) (.slice bY Y.k2.length by_) (.int .i64 Y.ct):=⟨_,rfl⟩
 have hfin:∀ {u:Value} {m:List UInt8},BsS w6 (j7 (w.heap.size+1) w6) u m->Bs w8 w8.heap.size u m:=fun {u m} h=>by rw [hw8];exact(BsS.set12 h (.int .i64 Y.kd) (.slice sY Y.sec.length sy) (.int .i64 Y.pr) (.int .i64 (Y.st+1)) (.slice nY Y.non.length ny) (.int .i64 Y.x) (.int .i64 Y.g) (.int .i64 Y.own) (.int .i64 Y.oth) (.slice aY Y.k1.length ay) (.slice bY Y.k2.length by_) (.int .i64 Y.ct)).loB
 have hbel:Below w.heap.size w w8:=by rw [hw8];exact(HB0.out.trans (HB3.out.mono HB0.out.size)).trans (Below.mono ((HQ4.out.2.2.trans HP6.out.2.2).trans (((PtW.start HP6.out.1).set12 (.int .i64 Y.kd) (.slice sY Y.sec.length sy) (.int .i64 Y.pr) (.int .i64 (Y.st+1)) (.slice nY Y.non.length ny) (.int .i64 Y.x) (.int .i64 Y.g) (.int .i64 Y.own) (.int .i64 Y.oth) (.slice aY Y.k1.length ay) (.slice bY Y.k2.length by_) (.int .i64 Y.ct)).2.2)) (Nat.le_succ _))
 unfold Go.Proofs.YtalmmiojbmpmiaaGreatDoor.set12 at y0 y1 y2 y3 y4 y5 y6 y7 y8 y9 y10 y11
 refine bodyPost_ret (v:=.tuple #[.agg #[.int .i64 Y.kd,.slice sY Y.sec.length sy,.int .i64 Y.pr,.int .i64 (Y.st+1),.slice nY Y.non.length ny,.int .i64 Y.x,.int .i64 Y.g,.int .i64 Y.own,.int .i64 Y.oth,.slice aY Y.k1.length ay,.slice bY Y.k2.length by_,.int .i64 Y.ct],.slice A7 U.length c7,.slice nA1 nx.length nc1,.int .i64 0]) (by simp [results,Tryz.results35,go_sem,y0,y1,y2,y3,y4,y5,y6,y7,y8,y9,y10,y11]) rfl ?_
 unfold Go.Proofs.YtalmmiojbmpmiaaGreatDoor.set12 at hw8
 rw [<-hw8,R.out]
 exact⟨_,_,_,_,_,rfl,⟨_,_,_,_,rfl,hfin L1.out,hfin L2.out,hfin L3.out,hfin L4.out⟩,hfin U6.out,hfin N6.out,hbel⟩
theorem j1f(hlt:X.st=4)(hus:usT X=true)(v:List UInt8)(hv:Xs X B=some v)(tag:Int)(Y:Exg)(hyst:Y.st=X.st)(dt nx U:List UInt8)(hw:∀(A:Option Addr) (c:Nat) (W:World),Bs W W.heap.size (.slice A dt.length c) dt->Calls Tryz.prog 75 #[.int .i64 tag,.slice A dt.length c] W (xw U W))(hdo:j7a F X v s tag Y dt nx)(hr:jn X B s=(0,{Y with st:=Y.st+1},[],nx)):Calls Tryz.prog 35 #[.agg #[.int .i64 X.kd,.slice sA X.sec.length sc,.int .i64 X.pr,.int .i64 X.st,.slice nA X.non.length nc,.int .i64 X.x,.int .i64 X.g,.int .i64 X.own,.int .i64 X.oth,.slice aA X.k1.length ac,.slice bA X.k2.length bc,.int .i64 X.ct],.slice vA B.length vc,.slice eA s.length ec] w (ExO (jn X B s) w):=by
 have R:=iH hr
 have HWR:=iH hw
 have HF:=iH hF;have HUS:=iH hus;have HST:=iH hst;have HV:=iH hv;have HDO:=iH hdo
 obtain⟨w0,HW0,HB0,HSZ,FR,FZ,H1,H2,H3,H4,H5,H6⟩:=Za X sA nA aA bA sc nc ac bc h1 h2 h3 h4 h5 h6
 have HK:=iH hK;have HLN:=iH (And.intro ls (And.intro ln (And.intro l1 l2)));have HL:=iH hl
 obtain⟨f0,f1,f2,f3,f4,f5,f6,f7,f8,f9,f10,f11,ff⟩:=j4 (FR.out w0 iB)
 obtain⟨z0,z1,z2,z3,z4,z5,z6,z7,z8,z9,z10,z11,zf⟩:=j4 (FZ.out w0 iB)
 have zf0:=zf 0;have zf1:=zf 1;have zf2:=zf 2;have zf3:=zf 3;have zf4:=zf 4;have zf5:=zf 5;have zf6:=zf 6;have zf7:=zf 7;have zf8:=zf 8;have zf9:=zf 9;have zf10:=zf 10;have zf11:=zf 11
 clear hK h1 h2 h3 h4 h5 h6 ls ln l1 l2 hl zf ff
 have d0:decide (X.st<0)=false:=decide_eq_false (by omega)
 have d3:decide (4<X.st)=false:=decide_eq_false (by omega)
 have hy0:0<=Y.st:=by omega
 have hy3:Y.st<=4:=by omega
 have d4:decide (X.st<4)=false:=decide_eq_false (by omega)
 clear hF hus hst hv hdo hr hyst hw hlt
 go_enter Tryz.func35,Tryz.ntmps35
 go_upto_region 1 with fail
 rw [<-HW0.out]
 go_upto_region 5 with (go_at_call 87;refine(qW X sA nA aA bA sc nc ac bc w0 H3.out H4.out HLN.out.2.2.1 HLN.out.2.2.2).mono ?_;rw [HUS.out];rintro e w1 ⟨rfl,hb⟩;have HB1:=iH hb;clear f0 f1 f2 f3 f4 f5 f6 f7 f8 f9 f10 f11;obtain⟨g0,g1,g2,g3,g4,g5,g6,g7,g8,g9,g10,g11,gf⟩:=j4 (FR.out _ hb);clear z0 zf0 z1 zf1 z2 zf2 z3 zf3 z4 zf4 z5 zf5 z6 zf6 z7 zf7 z8 zf8 z9 zf9 z10 zf10 z11 zf11;obtain⟨z0,z1,z2,z3,z4,z5,z6,z7,z8,z9,z10,z11,zf⟩:=j4 (FZ.out _ hb);have zf0:=zf 0;have zf1:=zf 1;have zf2:=zf 2;have zf3:=zf 3;have zf4:=zf 4;have zf5:=zf 5;have zf6:=zf 6;have zf7:=zf 7;have zf8:=zf 8;have zf9:=zf 9;have zf10:=zf 10;have zf11:=zf 11;clear hb zf gf)
 go_upto_region 8 with (go_at_call 88;refine(xl X sA nA aA bA sc nc ac bc vA vc B w1 (Bs.lift H5.out HB1.out) HST.out).mono ?_;rw [HV.out];rintro e w2 ⟨v2,rfl,hs,hb⟩;obtain⟨A2,c2,hv2⟩:=Bs.formL hs;subst hv2;have GV:=iH hs;have HB2:=iH (HB1.out.trans (hb.mono HB1.out.size));clear g0 g1 g2 g3 g4 g5 g6 g7 g8 g9 g10 g11;obtain⟨f0,f1,f2,f3,f4,f5,f6,f7,f8,f9,f10,f11,ff⟩:=j4 (FR.out _ HB2.out);clear z0 zf0 z1 zf1 z2 zf2 z3 zf3 z4 zf4 z5 zf5 z6 zf6 z7 zf7 z8 zf8 z9 zf9 z10 zf10 z11 zf11;obtain⟨z0,z1,z2,z3,z4,z5,z6,z7,z8,z9,z10,z11,zf⟩:=j4 (FZ.out _ HB2.out);have zf0:=zf 0;have zf1:=zf 1;have zf2:=zf 2;have zf3:=zf 3;have zf4:=zf 4;have zf5:=zf 5;have zf6:=zf 6;have zf7:=zf 7;have zf8:=zf 8;have zf9:=zf 9;have zf10:=zf 10;have zf11:=zf 11;clear hs hb ff zf)
 go_upto_region 9 with (go_at_call 70;refine(qX X sA nA aA bA sc nc ac bc w2 (H1.out.lift HB2.out) (H2.out.lift HB2.out) (H3.out.lift HB2.out) (H4.out.lift HB2.out) HLN.out.1 HLN.out.2.1 HLN.out.2.2.1 HLN.out.2.2.2).mono ?_;rintro e w3 ⟨sB,nB,aB,bB,sd,nd,ad,bd,rfl,k1,k2,k3,k4,hb⟩;have HB3:=iH (HB2.out.trans (hb.mono HB2.out.size));have hpz:=PtW.start (FZ.out _ HB3.out);clear f0 f1 f2 f3 f4 f5 f6 f7 f8 f9 f10 f11 z0 zf0 z1 zf1 z2 zf2 z3 zf3 z4 zf4 z5 zf5 z6 zf6 z7 zf7 z8 zf8 z9 zf9 z10 zf10 z11 zf11;obtain⟨f0,f1,f2,f3,f4,f5,f6,f7,f8,f9,f10,f11,ff⟩:=j4 (FR.out _ HB3.out);obtain⟨z0,z1,z2,z3,z4,z5,z6,z7,z8,z9,z10,z11,zf⟩:=j4 hpz.1;have zf0:=zf 0;have zf1:=zf 1;have zf2:=zf 2;have zf3:=zf 3;have zf4:=zf 4;have zf5:=zf 5;have zf6:=zf 6;have zf7:=zf 7;have zf8:=zf 8;have zf9:=zf 9;have zf10:=zf 10;have zf11:=zf 11;have G1:=iH (BsS.madeB (p:=w.heap.size+1) k1 (by have:=HSZ.out;have:=HB2.out.size;omega));have G2:=iH (BsS.madeB (p:=w.heap.size+1) k2 (by have:=HSZ.out;have:=HB2.out.size;omega));have G3:=iH (BsS.madeB (p:=w.heap.size+1) k3 (by have:=HSZ.out;have:=HB2.out.size;omega));have G4:=iH (BsS.madeB (p:=w.heap.size+1) k4 (by have:=HSZ.out;have:=HB2.out.size;omega));have G5:=iH (BsS.onB (BsS.madeB (p:=w.heap.size+1) GV.out (by have:=HSZ.out;have:=HB1.out.size;omega)) hb);have HPZ:=iH hpz;clear k1 k2 k3 k4 hb hpz ff zf)
 obtain⟨w4,hw4⟩:∃z,z=set12 w3 (w.heap.size+1) (.int .i64 X.kd) (.slice sB X.sec.length sd) (.int .i64 X.pr) (.int .i64 X.st) (.slice nB X.non.length nd) (.int .i64 X.x) (.int .i64 X.g) (.int .i64 X.own) (.int .i64 X.oth) (.slice aB X.k1.length ad) (.slice bB X.k2.length bd) (.int .i64 X.ct):=⟨_,rfl⟩
 have hp4:PtW (w.heap.size+1) w3 w4 #[.int .i64 X.kd,.slice sB X.sec.length sd,.int .i64 X.pr,.int .i64 X.st,.slice nB X.non.length nd,.int .i64 X.x,.int .i64 X.g,.int .i64 X.own,.int .i64 X.oth,.slice aB X.k1.length ad,.slice bB X.k2.length bd,.int .i64 X.ct]:=by rw [hw4];exact HPZ.out.set12 (.int .i64 X.kd) (.slice sB X.sec.length sd) (.int .i64 X.pr) (.int .i64 X.st) (.slice nB X.non.length nd) (.int .i64 X.x) (.int .i64 X.g) (.int .i64 X.own) (.int .i64 X.oth) (.slice aB X.k1.length ad) (.slice bB X.k2.length bd) (.int .i64 X.ct)
 have g4:=fun {u:Value} {m:List UInt8} (h:BsS w3 (j7 (w.heap.size+1) w3) u m)=>(by rw [hw4];exact BsS.set12 h (.int .i64 X.kd) (.slice sB X.sec.length sd) (.int .i64 X.pr) (.int .i64 X.st) (.slice nB X.non.length nd) (.int .i64 X.x) (.int .i64 X.g) (.int .i64 X.own) (.int .i64 X.oth) (.slice aB X.k1.length ad) (.slice bB X.k2.length bd) (.int .i64 X.ct):BsS w4 (j7 (w.heap.size+1) w4) u m)
 have J1:=iH (g4 G1.out);have J2:=iH (g4 G2.out);have J3:=iH (g4 G3.out);have J4:=iH (g4 G4.out);have J5:=iH (g4 G5.out)
 have H6w:Hid (BsS w3 (j7 (w.heap.size+1) w3) (.slice eA s.length ec) s):=iH (BsS.keep (BsS.off (H6.out.lift HB3.out) (FZ.out _ HB3.out) QL) fun g hs _=>⟨rfl,hs⟩)
 have J6:=iH (g4 H6w.out)
 have HQ4:=iH hp4
 have hfr4:w4.heap[w.heap.size]?=some (.cells #[.int .i64 X.kd,.slice sA X.sec.length sc,.int .i64 X.pr,.int .i64 X.st,.slice nA X.non.length nc,.int .i64 X.x,.int .i64 X.g,.int .i64 X.own,.int .i64 X.oth,.slice aA X.k1.length ac,.slice bA X.k2.length bc,.int .i64 X.ct] 48 (0,0)):=(hp4.2.1.block w.heap.size (by have:=HSZ.out;have:=HB3.out.size;omega) (by intro e;injection e with e;omega)).trans (FR.out _ HB3.out)
 unfold Go.Proofs.YtalmmiojbmpmiaaGreatDoor.set12 at hw4
 rw [<-hw4]
 clear hw4 hp4 g4 f0 f1 f2 f3 f4 f5 f6 f7 f8 f9 f10 f11 z0 zf0 z1 zf1 z2 zf2 z3 zf3 z4 zf4 z5 zf5 z6 zf6 z7 zf7 z8 zf8 z9 zf9 z10 zf10 z11 zf11
 obtain⟨f0,f1,f2,f3,f4,f5,f6,f7,f8,f9,f10,f11,ff⟩:=j4 hfr4
 clear hfr4 ff
 have HK4:Hid (∀W,Below (w.heap.size+1) w4 W->KD W):=iH (fun W h=>HK.out.below (((HB0.out.trans (HB3.out.mono HB0.out.size)).mono iL).trans ((HQ4.out.2.2.mono (Nat.le_succ _)).trans (h.mono (Nat.le_succ _)))) HK.out.lt)
 have I0:=j7q;have I1:=j7r;have I2:=j7s;have I3:=j7t;have I4:=j7u
 have HCF:∀(args:Array Value) (W:World),Sem.run Tryz.prog (callFunc F args) W=.ok (.enter F args) W:=by rcases HF.out with ⟨_,rfl⟩|⟨_,rfl⟩|⟨_,rfl⟩|⟨_,rfl⟩|⟨_,rfl⟩<;>(intro args W;kernel_rfl)
 go_cut [12] from 39 to 42 (fun y wc=>y=.func (.func F) #[] #[]/\wc=w4)
 case first=>
  exact mB
 case rest=>
 obtain⟨rfl,hwc⟩:=hcut
 have hwc:=hwc.symm
 subst hwc
 clear I0 I1 I2 I3 I4
 go_upto_region 13 with (refine(HDO.out (w.heap.size+1) sB nB aB bB sd nd ad bd A2 eA c2 ec _ HK4.out HQ4.out.1 J1.out J2.out J3.out J4.out J5.out J6.out HL.out).mono ?_;rintro e w5 ⟨dA,dc,nA1,nc1,rfl,⟨sY,nY,aY,bY,sy,ny,ay,by_,hpt,k1,k2,k3,k4⟩,hd,hn⟩;have HPT:=iH hpt;have HX5:=iH (hpt.2.1.block w.heap.size (by have:=HSZ.out;have:=HB3.out.size;have:=HQ4.out.2.1.size;omega) (by intro e;injection e with e;omega));have K1:=iH k1;have K2:=iH k2;have K3:=iH k3;have K4:=iH k4;have KD1:=iH hd;have KN:=iH hn;clear hpt k1 k2 k3 k4 hd hn)
 clear f0 f1 f2 f3 f4 f5 f6 f7 f8 f9 f10 f11
 obtain⟨f0,f1,f2,f3,f4,f5,f6,f7,f8,f9,f10,f11,ff⟩:=j4 (HX5.out.trans ((HQ4.out.2.1.block w.heap.size (by have:=HSZ.out;have:=HB3.out.size;omega) (by intro e;injection e with e;omega)).trans (FR.out _ HB3.out)))
 clear ff
 go_upto_region 15 with fail
 have hp9:PtW (w.heap.size+1) w4 w5 #[.int .i64 Y.kd,.slice sY Y.sec.length sy,.int .i64 Y.pr,.int .i64 Y.st,.slice nY Y.non.length ny,.int .i64 Y.x,.int .i64 Y.g,.int .i64 Y.own,.int .i64 Y.oth,.slice aY Y.k1.length ay,.slice bY Y.k2.length by_,.int .i64 Y.ct]:=HPT.out
 have HP9:=iH hp9
 obtain⟨p0,p1,p2,p3,p4,p5,p6,p7,p8,p9,p10,p11,pf⟩:=j4 hp9.1
 have pf3:=pf 3
 have M1:=iH K1.out
 have M2:=iH K2.out
 have M3:=iH K3.out
 have M4:=iH K4.out
 have MN:=iH KN.out
 clear hp9 pf
 go_upto_region 16 with fail
 obtain⟨w6,hw6⟩:∃z,z=w5.setCell ⟨w.heap.size+1,3,none⟩ (.int .i64 (Y.st+1)):=⟨_,rfl⟩
 rw [<-hw6]
 have hp6:PtW (w.heap.size+1) w4 w6 #[.int .i64 Y.kd,.slice sY Y.sec.length sy,.int .i64 Y.pr,.int .i64 (Y.st+1),.slice nY Y.non.length ny,.int .i64 Y.x,.int .i64 Y.g,.int .i64 Y.own,.int .i64 Y.oth,.slice aY Y.k1.length ay,.slice bY Y.k2.length by_,.int .i64 Y.ct]:=by rw [hw6];exact HP9.out.set 3 _
 have HP6:=iH hp6
 have N6:Hid (BsS w6 (j7 (w.heap.size+1) w6) _ _):=iH (by rw [hw6];exact BsS.setP MN.out 3 _)
 have L1:Hid (BsS w6 (j7 (w.heap.size+1) w6) _ _):=iH (by rw [hw6];exact BsS.setP M1.out 3 _)
 have L2:Hid (BsS w6 (j7 (w.heap.size+1) w6) _ _):=iH (by rw [hw6];exact BsS.setP M2.out 3 _)
 have L3:Hid (BsS w6 (j7 (w.heap.size+1) w6) _ _):=iH (by rw [hw6];exact BsS.setP M3.out 3 _)
 have L4:Hid (BsS w6 (j7 (w.heap.size+1) w6) _ _):=iH (by rw [hw6];exact BsS.setP M4.out 3 _)
 clear hw6 p0 p1 p2 p3 p4 p5 p6 p7 p8 p9 p10 p11 pf3 f0 f1 f2 f3 f4 f5 f6 f7 f8 f9 f10 f11
 obtain⟨p0,p1,p2,p3,p4,p5,p6,p7,p8,p9,p10,p11,pf⟩:=j4 hp6.1
 have pf0:=pf 0;have pf1:=pf 1;have pf2:=pf 2;have pf3:=pf 3;have pf4:=pf 4;have pf5:=pf 5;have pf6:=pf 6;have pf7:=pf 7;have pf8:=pf 8;have pf9:=pf 9;have pf10:=pf 10;have pf11:=pf 11
 clear hp6 pf
 go_wp2_with fail
 obtain⟨y0,y1,y2,y3,y4,y5,y6,y7,y8,y9,y10,y11,yf⟩:=j4 (HP6.out.set12 (.int .i64 Y.kd) (.slice sY Y.sec.length sy) (.int .i64 Y.pr) (.int .i64 (Y.st+1)) (.slice nY Y.non.length ny) (.int .i64 Y.x) (.int .i64 Y.g) (.int .i64 Y.own) (.int .i64 Y.oth) (.slice aY Y.k1.length ay) (.slice bY Y.k2.length by_) (.int .i64 Y.ct)).1
 obtain⟨w8,hw8⟩:∃z,z=set12 w6 (w.heap.size+1) (.int .i64 Y.kd) (.slice sY Y.sec.length sy) (.int .i64 Y.pr) (.int .i64 (Y.st+1)) (.slice nY Y.non.length ny) (.int .i64 Y.x) (.int .i64 Y.g) (.int .i64 Y.own) (.int .i64 Y.oth) (.slice aY Y.k1.length ay) (.slice bY Y.k2.length by_) (.int .i64 Y.ct):=⟨_,rfl⟩
 have hfin:∀ {u:Value} {m:List UInt8},BsS w6 (j7 (w.heap.size+1) w6) u m->Bs w8 w8.heap.size u m:=fun {u m} h=>by rw [hw8];exact(BsS.set12 h (.int .i64 Y.kd) (.slice sY Y.sec.length sy) (.int .i64 Y.pr) (.int .i64 (Y.st+1)) (.slice nY Y.non.length ny) (.int .i64 Y.x) (.int .i64 Y.g) (.int .i64 Y.own) (.int .i64 Y.oth) (.slice aY Y.k1.length ay) (.slice bY Y.k2.length by_) (.int .i64 Y.ct)).loB
 have hbel:Below w.heap.size w w8:=by rw [hw8];exact(HB0.out.trans (HB3.out.mono HB0.out.size)).trans (Below.mono ((HQ4.out.2.2.trans HP6.out.2.2).trans (((PtW.start HP6.out.1).set12 (.int .i64 Y.kd) (.slice sY Y.sec.length sy) (.int .i64 Y.pr) (.int .i64 (Y.st+1)) (.slice nY Y.non.length ny) (.int .i64 Y.x) (.int .i64 Y.g) (.int .i64 Y.own) (.int .i64 Y.oth) (.slice aY Y.k1.length ay) (.slice bY Y.k2.length by_) (.int .i64 Y.ct)).2.2)) (Nat.le_succ _))
 unfold Go.Proofs.YtalmmiojbmpmiaaGreatDoor.set12 at y0 y1 y2 y3 y4 y5 y6 y7 y8 y9 y10 y11
 refine bodyPost_ret (v:=.tuple #[.agg #[.int .i64 Y.kd,.slice sY Y.sec.length sy,.int .i64 Y.pr,.int .i64 (Y.st+1),.slice nY Y.non.length ny,.int .i64 Y.x,.int .i64 Y.g,.int .i64 Y.own,.int .i64 Y.oth,.slice aY Y.k1.length ay,.slice bY Y.k2.length by_,.int .i64 Y.ct],.slice none 0 0,.slice nA1 nx.length nc1,.int .i64 0]) (by simp [results,Tryz.results35,go_sem,y0,y1,y2,y3,y4,y5,y6,y7,y8,y9,y10,y11]) rfl ?_
 unfold Go.Proofs.YtalmmiojbmpmiaaGreatDoor.set12 at hw8
 rw [<-hw8,R.out]
 exact⟨_,none,0,_,_,rfl,⟨_,_,_,_,rfl,hfin L1.out,hfin L2.out,hfin L3.out,hfin L4.out⟩,kH _ _,hfin N6.out,hbel⟩
end
end
end Go.Proofs.YtalmmiojbmpmiaaGreatDoor
