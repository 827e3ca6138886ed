/- Layer 21: exchanges that came in or went out, in rows side by side; Layer 21, plain: two sides with the same password reach the same session; the lengths of ... -/
import Derived.Test.YtalmmiojbmpmiaaGreatDoorPBr
import Derived.Test.YtalmmiojbmpmiaaGreatDoorPBs
set_option linter.all false
set_option maxRecDepth 100000
set_option maxHeartbeats 16000000
namespace Go.Proofs.YtalmmiojbmpmiaaGreatDoor
open Go.RowKit Go.Deep
section
variable {w wx wy:World} {Rs:List (Nat×Array Value)} {L:List (Value×List UInt8)} {v:Value} {l:List UInt8}
end
theorem KZ(tag:Int)(v:List UInt8)(ht:tag=0\/(128<=tag/\tag<=134))(hv:v.length<=64):
 yi (kR tag v)=.ok (kR tag v).enc/\jB tag v=(kR tag v).enc/\(kR tag v).enc.length<=200/\kl (jB tag v) true=.ok (kR tag v):=by
 have hlen:∀n,n<128->(qL n).length=1:=by intro n h;unfold qL;rw [iT h]<;>rfl
 have htb:∀t:Int,t<=255->(ki t).length=1:=by intro t h;unfold ki;rw [iF (by omega)]<;>rfl
 have t124:xu 124=true:=by decide
 have c124:kr 124=true:=by decide
 have htag:tag=0\/(xu tag=true/\kr tag=false):=by
  rcases ht with h|⟨h1,h2⟩
  ·exact .inl h
  ·right
   have:tag=128\/tag=129\/tag=130\/tag=131\/tag=132\/tag=133\/tag=134:=by omega
   rcases this with rfl|rfl|rfl|rfl|rfl|rfl|rfl<;>exact⟨by decide,by decide⟩
 obtain⟨hc,ha,hl⟩:(kR tag v).chk 1=0/\(kR tag v).all<=256/\(kR tag v).enc.length<=200:=by
  rcases htag with rfl|⟨h1,h2⟩
  ·refine⟨?_,?_,?_⟩
   ·simp [kR,Ns.chk,t124,c124,Ns.len]
   ·simp [kR,Ns.all]
   ·simp [kR,Ns.enc,c124,hlen,htb]
  ·have ht0:¬tag=0:=by intro h;rw [h]at h1;exact absurd h1 (by decide)
   have e0:∀K:Ns,(Ns.cons 124 [] K .nil).enc=ki 124++qL K.enc.length++K.enc:=by intro K;simp [Ns.enc,c124]
   refine⟨?_,?_,?_⟩
   ·simp [kR,Ns.chk,t124,c124,h1,h2,ht0,Ns.len]
   ·simp [kR,Ns.all,ht0]
   ·have e1:((Ns.cons tag v .nil .nil).enc).length=2+v.length:=by
     simp only [Ns.enc,h2,List.length_append,List.length_nil,Bool.false_eq_true,if_false]
     rw [htb tag (by omega),hlen v.length (by omega)]
     omega
    unfold kR
    rw [iF ht0,e0]
    simp only [List.length_append]
    rw [e1,htb 124 (by omega),hlen _ (by omega)]
    omega
 have hE:yi (kR tag v)=.ok (kR tag v).enc:=by
  unfold yi
  rw [iF (by rw [hc];simp),iF (by omega),iF (by omega)]
 have hW:jB tag v=(kR tag v).enc:=by unfold jB;rw [hE]<;>rfl
 refine⟨hE,hW,hl,?_⟩
 rw [hW]
 exact Xo true _ _ (VF true _ (by omega)) hc ha (by omega)
theorem j1g(n:Nat):kB (jB 0 []) 0 n=some []:=by
 unfold kB
 rw [(KZ 0 [] (.inl rfl) (by simp)).2.2.2]
 simp [kR,K9,Ns.len]
theorem VL(kd:Int)(sec N:List UInt8)(h:N.length=16):(qg (kX kd sec) Z16 N).length=16:=by rw [ze _ _ _ (m:=1) (by omega),KU]
theorem yE(X:Exg)(sA nA aA bA:Option Addr)(sc nc ac bc:Nat)(w:World)(h1:Bs w w.heap.size (.slice aA X.k1.length ac) X.k1)(h2:Bs w w.heap.size (.slice bA X.k2.length bc) X.k2)(l1:X.k1.length<=140737488351232)(l2:X.k2.length<=140737488351232):Calls Tryz.prog 87 #[.agg #[.int .i64 X.kd,.slice sA X.sec.length sc,.int .i64 X.pr,.int .i64 X.st,.slice nA X.non.length nc,.int .i64 X.x,.int .i64 X.g,.int .i64 X.own,.int .i64 X.oth,.slice aA X.k1.length ac,.slice bA X.k2.length bc,.int .i64 X.ct]] w fun e w'=>e=.returned (.bool (usT X))/\Below w.heap.size w w':=by
 obtain⟨w0,hw0⟩:∃w0,w0=w.alloc (.cells (exX X sA nA aA bA sc nc ac bc) 48):=⟨_,rfl⟩
 have HB0:Hid (Below w.heap.size w w0):=iH (by rw [hw0];exact jo _ _)
 have FR:Hid (∀W,Below w0.heap.size w0 W->W.heap[w.heap.size]?=some (.cells (exX X sA nA aA bA sc nc ac bc) 48 (0,0))):=iH (fun W h=>(h.block w.heap.size (by rw [hw0];simp)).trans (by rw [hw0];exact iN))
 have HW0:=iH hw0
 have HBG:=iH (Xh X sA nA aA bA sc nc ac bc w0)
 have HA:=iH (h1.lift HB0.out);have HB:=iH (h2.lift HB0.out);have HL:=iH (And.intro l1 l2)
 have f:=j4 (FR.out w0 iB)
 clear hw0 h1 h2 l1 l2
 have b1:Below w0.heap.size w0 w0:=Below.refl _ _
 clear b1
 rcases hb:kj X with _|_
 ·rw [hb]at HBG
  obtain⟨o1,t1⟩:∃o,((X.non.length:Int)==16)=o:=⟨_,rfl⟩
  have R:=iH (show usT X=false by simp [usT,hb])
  clear hb
  go_enter Tryz.func87,Tryz.ntmps87
  go_upto_region 1 with fail
  rw [<-HW0.out]
  go_wp2_with(first
  |(go_at_call 122;refine HBG.out.mono ?_;rintro e w1 ⟨rfl,hb⟩;have HB1:=iH hb;have g:=j4 (FR.out w1 hb);clear hb))
  go_ret
  rw [R.out]
  exact⟨rfl,HB0.out.trans (HB1.out.mono HB0.out.size)⟩
 rw [hb]at HBG
 by_cases s2:X.st=2
 ·have e2:(X.st==2)=true:=by simp [s2]
  by_cases hn:X.non.length=16
  ·have t1:((X.non.length:Int)==16)=true:=by simp;omega
   by_cases hp:X.pr=2
   ·have e5:(X.pr==2)=true:=by simp [hp]
    have R:=iH (show usT X=okS X.x by simp [usT,hb,s2,hn,hp])
    clear hb s2 hn hp
    go_enter Tryz.func87,Tryz.ntmps87
    go_upto_region 1 with fail
    rw [<-HW0.out]
    go_wp2_with(first
     |(go_at_call 122;refine HBG.out.mono ?_;rintro e w1 ⟨rfl,hb⟩;have HB1:=iH hb;have g:=j4 (FR.out w1 hb);clear hb)
     |(go_at_call 140;refine iR (YO X.x _) ?_))
    go_ret
    rw [R.out]
    exact⟨rfl,HB0.out.trans (HB1.out.mono HB0.out.size)⟩
   ·have e5:(X.pr==2)=false:=by simp [hp]
    have R:=iH (show usT X=jk X.g by simp [usT,hb,s2,hn,hp])
    clear hb s2 hn hp
    go_enter Tryz.func87,Tryz.ntmps87
    go_upto_region 1 with fail
    rw [<-HW0.out]
    go_wp2_with(first
     |(go_at_call 122;refine HBG.out.mono ?_;rintro e w1 ⟨rfl,hb⟩;have HB1:=iH hb;have g:=j4 (FR.out w1 hb);clear hb)
     |(go_at_call 115;refine iR (km _ _) ?_;try(first|rw [HO.out]|rw [HT.out]|rw [HG.out])))
    go_ret
    rw [R.out]
    exact⟨rfl,HB0.out.trans (HB1.out.mono HB0.out.size)⟩
  ·have t1:((X.non.length:Int)==16)=false:=by simp;omega
   obtain⟨o5,e5⟩:∃o,(X.pr==2)=o:=⟨_,rfl⟩
   cases o5
   all_goals
    have R:=iH (show usT X=false by simp [usT,hb,s2,hn])
    clear hb s2 hn
    go_enter Tryz.func87,Tryz.ntmps87
    go_upto_region 1 with fail
    rw [<-HW0.out]
    go_wp2_with(first
     |(go_at_call 122;refine HBG.out.mono ?_;rintro e w1 ⟨rfl,hb⟩;have HB1:=iH hb;have g:=j4 (FR.out w1 hb);clear hb))
    go_ret
    rw [R.out]
    exact⟨rfl,HB0.out.trans (HB1.out.mono HB0.out.size)⟩
 have e2:(X.st==2)=false:=by simp [s2]
 by_cases s3:X.st=3
 ·have e3:(X.st==3)=true:=by simp [s3]
  by_cases hn:X.non.length=16
  ·have t1:((X.non.length:Int)==16)=true:=by simp;omega
   rcases hg:jk X.g with _|_
   ·have HG:=iH hg
    have R:=iH (show usT X=false by simp [usT,hb,s3,hn,hg])
    clear hb s2 s3 hn hg
    go_enter Tryz.func87,Tryz.ntmps87
    go_upto_region 1 with fail
    rw [<-HW0.out]
    go_wp2_with(first
     |(go_at_call 122;refine HBG.out.mono ?_;rintro e w1 ⟨rfl,hb⟩;have HB1:=iH hb;have g:=j4 (FR.out w1 hb);clear hb)
     |(go_at_call 115;refine iR (km _ _) ?_;try(first|rw [HO.out]|rw [HT.out]|rw [HG.out])))
    go_ret
    rw [R.out]
    exact⟨rfl,HB0.out.trans (HB1.out.mono HB0.out.size)⟩
   have HG:=iH hg
   rcases ho:jk X.own with _|_
   ·have HO:=iH ho
    have R:=iH (show usT X=false by simp [usT,hb,s3,hn,hg,ho])
    clear hb s2 s3 hn hg ho
    go_enter Tryz.func87,Tryz.ntmps87
    go_upto_region 1 with fail
    rw [<-HW0.out]
    go_wp2_with(first
     |(go_at_call 122;refine HBG.out.mono ?_;rintro e w1 ⟨rfl,hb⟩;have HB1:=iH hb;have g:=j4 (FR.out w1 hb);clear hb)
     |(go_at_call 115;refine iR (km _ _) ?_;try(first|rw [HO.out]|rw [HT.out]|rw [HG.out])))
    go_ret
    rw [R.out]
    exact⟨rfl,HB0.out.trans (HB1.out.mono HB0.out.size)⟩
   ·have HO:=iH ho
    have R:=iH (show usT X=okS X.x by simp [usT,hb,s3,hn,hg,ho])
    clear hb s2 s3 hn hg ho
    go_enter Tryz.func87,Tryz.ntmps87
    go_upto_region 1 with fail
    rw [<-HW0.out]
    go_wp2_with(first
     |(go_at_call 122;refine HBG.out.mono ?_;rintro e w1 ⟨rfl,hb⟩;have HB1:=iH hb;have g:=j4 (FR.out w1 hb);clear hb)
     |(go_at_call 115;refine iR (km _ _) ?_;try(first|rw [HO.out]|rw [HT.out]|rw [HG.out]))
     |(go_at_call 140;refine iR (YO X.x _) ?_))
    go_ret
    rw [R.out]
    exact⟨rfl,HB0.out.trans (HB1.out.mono HB0.out.size)⟩
  ·have t1:((X.non.length:Int)==16)=false:=by simp;omega
   have R:=iH (show usT X=false by simp [usT,hb,s3,hn])
   clear hb s2 s3 hn
   go_enter Tryz.func87,Tryz.ntmps87
   go_upto_region 1 with fail
   rw [<-HW0.out]
   go_wp2_with(first
    |(go_at_call 122;refine HBG.out.mono ?_;rintro e w1 ⟨rfl,hb⟩;have HB1:=iH hb;have g:=j4 (FR.out w1 hb);clear hb))
   go_ret
   rw [R.out]
   exact⟨rfl,HB0.out.trans (HB1.out.mono HB0.out.size)⟩
 have e3:(X.st==3)=false:=by simp [s3]
 obtain⟨o1,t1⟩:∃o,((X.non.length:Int)==16)=o:=⟨_,rfl⟩
 by_cases s4:X.st=4
 ·have e4:(X.st==4)=true:=by simp [s4]
  have R:=iH (show usT X=qe X by simp [usT,hb,s4])
  clear hb s2 s3 s4
  go_enter Tryz.func87,Tryz.ntmps87
  go_upto_region 1 with fail
  rw [<-HW0.out]
  go_wp2_with(first
  |(go_at_call 122;refine HBG.out.mono ?_;rintro e w1 ⟨rfl,hb⟩;have HB1:=iH hb;have g:=j4 (FR.out w1 hb);clear hb)
  |(go_at_call 123;refine(Kq X sA nA aA bA sc nc ac bc w1 (HA.out.lift HB1.out) (HB.out.lift HB1.out) HL.out.1 HL.out.2).mono ?_;rintro e w2 ⟨rfl,hb⟩;have HB2:=iH hb;clear hb))
  go_ret
  rw [R.out]
  exact⟨rfl,(HB0.out.trans (HB1.out.mono HB0.out.size)).trans (HB2.out.mono (HB0.out.trans (HB1.out.mono HB0.out.size)).size)⟩
 ·have e4:(X.st==4)=false:=by simp [s4]
  have R:=iH (show usT X=true by simp [usT,hb,s2,s3,s4])
  clear hb s2 s3 s4
  go_enter Tryz.func87,Tryz.ntmps87
  go_upto_region 1 with fail
  rw [<-HW0.out]
  go_wp2_with(first
  |(go_at_call 122;refine HBG.out.mono ?_;rintro e w1 ⟨rfl,hb⟩;have HB1:=iH hb;have g:=j4 (FR.out w1 hb);clear hb))
  go_ret
  rw [R.out]
  exact⟨rfl,HB0.out.trans (HB1.out.mono HB0.out.size)⟩
section
variable(m:Int)(w:World)
include m w
theorem j8g:(Instr.index 82 (.agg #[.int .i64 128,.int .i64 16,.int .i64 130,.int .i64 m,.int .i64 132,.int .i64 4,.int .i64 134,.int .i64 8]) (.int .i64 0)).run Tryz.prog w=.ok (.agg #[.int .i64 128,.int .i64 16]) w:=by kernel_rfl
theorem j8h:(Instr.index 82 (.agg #[.int .i64 128,.int .i64 16,.int .i64 130,.int .i64 m,.int .i64 132,.int .i64 4,.int .i64 134,.int .i64 8]) (.int .i64 1)).run Tryz.prog w=.ok (.agg #[.int .i64 130,.int .i64 m]) w:=by kernel_rfl
theorem j8i:(Instr.index 82 (.agg #[.int .i64 128,.int .i64 16,.int .i64 130,.int .i64 m,.int .i64 132,.int .i64 4,.int .i64 134,.int .i64 8]) (.int .i64 2)).run Tryz.prog w=.ok (.agg #[.int .i64 132,.int .i64 4]) w:=by kernel_rfl
theorem j8j:(Instr.index 82 (.agg #[.int .i64 128,.int .i64 16,.int .i64 130,.int .i64 m,.int .i64 132,.int .i64 4,.int .i64 134,.int .i64 8]) (.int .i64 3)).run Tryz.prog w=.ok (.agg #[.int .i64 134,.int .i64 8]) w:=by kernel_rfl
end
def Zp(X:Exg)(B:List UInt8):Option (List UInt8):=if X.st=0 then(if B.length=0 then some []else none)else kB B (126+2*X.st) (YW X)
theorem JU(X:Exg)(sA nA aA bA:Option Addr)(sc nc ac bc:Nat)(vA:Option Addr)(vc:Nat)(B:List UInt8)(w:World)(h5:Bs w w.heap.size (.slice vA B.length vc) B)(hst:0<=X.st/\X.st<=4):Calls Tryz.prog 88 #[.agg #[.int .i64 X.kd,.slice sA X.sec.length sc,.int .i64 X.pr,.int .i64 X.st,.slice nA X.non.length nc,.int .i64 X.x,.int .i64 X.g,.int .i64 X.own,.int .i64 X.oth,.slice aA X.k1.length ac,.slice bA X.k2.length bc,.int .i64 X.ct],.slice vA B.length vc] w (ValOut (Zp X B) w):=by
 obtain⟨w0,hw0⟩:∃w0,w0=w.alloc (.cells (exX X sA nA aA bA sc nc ac bc) 48):=⟨_,rfl⟩
 have HB0:Hid (Below w.heap.size w w0):=iH (by rw [hw0];exact jo _ _)
 have FR:Hid (∀W,Below w0.heap.size w0 W->W.heap[w.heap.size]?=some (.cells (exX X sA nA aA bA sc nc ac bc) 48 (0,0))):=iH (fun W h=>(h.block w.heap.size (by rw [hw0];simp)).trans (by rw [hw0];exact iN))
 have HW0:=iH hw0
 have H5:=iH (h5.lift HB0.out);have HST:=iH hst
 have f:=j4 (FR.out w0 iB)
 clear hw0 h5
 by_cases s0:X.st=0
 ·have e0:(X.st==0)=true:=by simp [s0]
  by_cases hb:B.length=0
  ·have R:Hid (Zp X B=some []):=iH (by unfold Zp;rw [iT s0,iT hb])
   have t1:((B.length:Int)==0)=true:=by rw [beq_iff_eq];omega
   clear s0 hst hb
   go_enter Tryz.func88,Tryz.ntmps88
   go_upto_region 1 with fail
   rw [<-HW0.out]
   go_wp2_with fail
   go_ret2
   exact ValOut.nil0 R.out HB0.out
  ·have R:Hid (Zp X B=none):=iH (by unfold Zp;rw [iT s0,iF hb])
   have t1:((B.length:Int)==0)=false:=by rw [beq_eq_false_iff_ne];omega
   clear s0 hst hb
   go_enter Tryz.func88,Tryz.ntmps88
   go_upto_region 1 with fail
   rw [<-HW0.out]
   go_wp2_with fail
   go_ret2
   exact ValOut.no0 R.out HB0.out
 have e0:(X.st==0)=false:=by simp [s0]
 have R:Hid (Zp X B=kB B (126+2*X.st) (YW X)):=iH (by unfold Zp;rw [iF s0])
 have HS0:=iH s0
 have I0:=j8g;have I1:=j8h;have I2:=j8i;have I3:=j8j
 obtain⟨o5,e5⟩:∃o,(X.pr==3)=o:=⟨_,rfl⟩
 clear s0 hst
 cases o5
 all_goals(
  have HP3:=iH e5
  go_enter Tryz.func88,Tryz.ntmps88
  go_upto_region 1 with fail
  rw [<-HW0.out]
  go_upto_region 6 with fail
  go_cut [7] from 17 to 26 (fun y wc=>∃q ty,y=.pointer (some ⟨q,0,none⟩)/\wc.heap[q]?=some (.cells #[.int .i64 (126+2*X.st),.int .i64 (YW X)] ty (0,0))/\Below w0.heap.size w0 wc)
  case first=>
   have h4:X.st=1\/X.st=2\/X.st=3\/X.st=4:=by have:=HST.out;have:=HS0.out;omega
   rcases h4 with h4|h4|h4|h4
   all_goals(rw [h4]at f;have H4':=iH h4;clear h4;go_wp2_with fail;go_meet;exact⟨_,81,rfl,(iN).trans (by have hq:=HP3.out;simp at hq;simp [YW,H4'.out,hq]),iA⟩)
  case rest=>
  obtain⟨q,ty,rfl,hq,hbw⟩:=hcut
  obtain⟨q0,q1,_⟩:=two hq
  have HBC:=iH hbw
  clear hq hbw f e5 I0 I1 I2 I3
  go_wp2_with(go_at_call 69;refine(Q0 (126+2*X.st) (by have:=HST.out;have:=HS0.out;omega) (YW X) B _ _ (Bs.lift H5.out HBC.out)).mono ?_;rintro e w2 ⟨v2,rfl,hs,hb⟩;obtain⟨A2,c2,hv2⟩:=Bs.formL hs;subst hv2;have GV:=iH hs;have HB2:=iH hb;clear hs hb)
  go_ret2
  have hq:=HB0.out.trans (HBC.out.mono HB0.out.size)
  refine⟨_,by rw [R.out]<;>rfl,?_,hq.trans (HB2.out.mono hq.size)⟩
  rw [R.out]
  exact GV.out.keep fun g hg _=>⟨rfl,Nat.le_trans hq.size hg.1,hg.2⟩)
section
variable(w:World)
include w
theorem j8l:(Instr.index 102 (.agg #[.func (.func 89) #[] #[],.func (.func 90) #[] #[],.func (.func 91) #[] #[],.func (.func 92) #[] #[],.func (.func 93) #[] #[]]) (.int .i64 0)).run Tryz.prog w=.ok (.func (.func 89) #[] #[]) w:=by kernel_rfl
theorem j8m:(Instr.index 102 (.agg #[.func (.func 89) #[] #[],.func (.func 90) #[] #[],.func (.func 91) #[] #[],.func (.func 92) #[] #[],.func (.func 93) #[] #[]]) (.int .i64 1)).run Tryz.prog w=.ok (.func (.func 90) #[] #[]) w:=by kernel_rfl
theorem j8n:(Instr.index 102 (.agg #[.func (.func 89) #[] #[],.func (.func 90) #[] #[],.func (.func 91) #[] #[],.func (.func 92) #[] #[],.func (.func 93) #[] #[]]) (.int .i64 2)).run Tryz.prog w=.ok (.func (.func 91) #[] #[]) w:=by kernel_rfl
theorem j8o:(Instr.index 102 (.agg #[.func (.func 89) #[] #[],.func (.func 90) #[] #[],.func (.func 91) #[] #[],.func (.func 92) #[] #[],.func (.func 93) #[] #[]]) (.int .i64 3)).run Tryz.prog w=.ok (.func (.func 92) #[] #[]) w:=by kernel_rfl
theorem j8p:(Instr.index 102 (.agg #[.func (.func 89) #[] #[],.func (.func 90) #[] #[],.func (.func 91) #[] #[],.func (.func 92) #[] #[],.func (.func 93) #[] #[]]) (.int .i64 4)).run Tryz.prog w=.ok (.func (.func 93) #[] #[]) w:=by kernel_rfl
end
theorem j3o(X:Exg)(B s:List UInt8)(hst:0<=X.st/\X.st<=4)(hu:usT X=true)(hr:Zp X B=none):jl X B s=jA 1:=by
 unfold Zp at hr
 unfold jl
 rw [iF (by omega),iF (by rw [hu];simp)]
 split
 ·rename_i h0
  rw [iT h0]at hr
  split at hr
  ·cases hr
  ·rename_i hb;rw [iT hb]
 ·rename_i h0
  rw [iF h0]at hr
  rw [hr]
section
variable(X:Exg)(sA nA aA bA:Option Addr)(sc nc ac bc:Nat)(vA eA:Option Addr)(vc ec:Nat)(B s:List UInt8)(w:World)(hK:KD w)(h1:Bs w w.heap.size (.slice sA X.sec.length sc) X.sec)(h2:Bs w w.heap.size (.slice nA X.non.length nc) X.non)(h3:Bs w w.heap.size (.slice aA X.k1.length ac) X.k1)(h4:Bs w w.heap.size (.slice bA X.k2.length bc) X.k2)(h5:Bs w w.heap.size (.slice vA B.length vc) B)(h6:Bs w w.heap.size (.slice eA s.length ec) s)(ls:X.sec.length<=140737488351232)(ln:X.non.length<=140737488351232)(l1:X.k1.length<=140737488351232)(l2:X.k2.length<=140737488351232)(hl:s.length<=140737488351232)
include X sA nA aA bA sc nc ac bc vA eA vc ec B s w hK h1 h2 h3 h4 h5 h6 ls ln l1 l2 hl
theorem V4(hst:X.st<0\/4<X.st):Calls Tryz.prog 35 #[.agg #[.int .i64 X.kd,.slice sA X.sec.length sc,.int .i64 X.pr,.int .i64 X.st,.slice nA X.non.length nc,.int .i64 X.x,.int .i64 X.g,.int .i64 X.own,.int .i64 X.oth,.slice aA X.k1.length ac,.slice bA X.k2.length bc,.int .i64 X.ct],.slice vA B.length vc,.slice eA s.length ec] w (ExO (jl X B s) w):=by
 have R:Hid (jl X B s=jA 23):=iH (by unfold jl;rw [iT hst])
 obtain⟨w0,HW0,HB0,HSZ,FR,FZ,H1,H2,H3,H4,H5,H6⟩:=YN X sA nA aA bA sc nc ac bc h1 h2 h3 h4 h5 h6
 have HK:=iH hK;have HLN:=iH (And.intro ls (And.intro ln (And.intro l1 l2)));have HL:=iH hl
 have f:=j4 (FR.out w0 iB)
 have z:=j4 (FZ.out w0 iB)
 clear hK h1 h2 h3 h4 h5 h6 ls ln l1 l2 hl
 rcases hst with hst|hst
 all_goals
  go_enter Tryz.func35,Tryz.ntmps35
  go_upto_region 1 with fail
  rw [<-HW0.out]
  go_wp2_with fail
  have y:=j4 ((PtW.start (FZ.out w0 iB)).z12).1
  unfold Go.Proofs.YtalmmiojbmpmiaaGreatDoor.set12 at y
  refine bodyPost_ret (v:=.tuple #[.agg #[.int .i64 0,.slice none 0 0,.int .i64 0,.int .i64 0,.slice none 0 0,.int .i64 0,.int .i64 0,.int .i64 0,.int .i64 0,.slice none 0 0,.slice none 0 0,.int .i64 0],.slice none 0 0,.slice none 0 0,.int .i64 23]) (by simp [results,Tryz.results35,go_sem,y]) rfl ?_
  exact ExO.err R.out ((HB0.out.trans (iB.mono HB0.out.size)).trans (Below.mono (((PtW.start (FZ.out _ iB)).z12).2.2) (Nat.le_succ _)))
theorem Zd(hst:0<=X.st/\X.st<=4)(hus:usT X=false):Calls Tryz.prog 35 #[.agg #[.int .i64 X.kd,.slice sA X.sec.length sc,.int .i64 X.pr,.int .i64 X.st,.slice nA X.non.length nc,.int .i64 X.x,.int .i64 X.g,.int .i64 X.own,.int .i64 X.oth,.slice aA X.k1.length ac,.slice bA X.k2.length bc,.int .i64 X.ct],.slice vA B.length vc,.slice eA s.length ec] w (ExO (jl X B s) w):=by
 have R:Hid (jl X B s=jA 14):=iH (by unfold jl;rw [iF (by omega),iT hus])
 have HUS:=iH hus
 obtain⟨w0,HW0,HB0,HSZ,FR,FZ,H1,H2,H3,H4,H5,H6⟩:=YN X sA nA aA bA sc nc ac bc h1 h2 h3 h4 h5 h6
 have HK:=iH hK;have HLN:=iH (And.intro ls (And.intro ln (And.intro l1 l2)));have HL:=iH hl
 have f:=j4 (FR.out w0 iB)
 have z:=j4 (FZ.out w0 iB)
 clear hK h1 h2 h3 h4 h5 h6 ls ln l1 l2 hl
 clear hus
 go_enter Tryz.func35,Tryz.ntmps35
 go_upto_region 1 with fail
 rw [<-HW0.out]
 go_upto_region 4 with (go_at_call 87;refine(yE X sA nA aA bA sc nc ac bc w0 H3.out H4.out HLN.out.2.2.1 HLN.out.2.2.2).mono ?_;rw [HUS.out];rintro e w1 ⟨rfl,hb⟩;have HB1:=iH hb;clear f;obtain⟨g0,g1,g2,g3,g4,g5,g6,g7,g8,g9,g10,g11,gf⟩:=j4 (FR.out _ hb);clear z;have z:=j4 (FZ.out _ hb);clear hb gf)
 go_wp2_with fail
 have y:=j4 ((PtW.start (FZ.out w1 HB1.out)).z12).1
 unfold Go.Proofs.YtalmmiojbmpmiaaGreatDoor.set12 at y
 refine bodyPost_ret (v:=.tuple #[.agg #[.int .i64 0,.slice none 0 0,.int .i64 0,.int .i64 0,.slice none 0 0,.int .i64 0,.int .i64 0,.int .i64 0,.int .i64 0,.slice none 0 0,.slice none 0 0,.int .i64 0],.slice none 0 0,.slice none 0 0,.int .i64 14]) (by simp [results,Tryz.results35,go_sem,y]) rfl ?_
 exact ExO.err R.out ((HB0.out.trans (HB1.out.mono HB0.out.size)).trans (Below.mono (((PtW.start (FZ.out _ HB1.out)).z12).2.2) (Nat.le_succ _)))
theorem j17(hst:0<=X.st/\X.st<=4)(hus:usT X=true)(hv:Zp X B=none):Calls Tryz.prog 35 #[.agg #[.int .i64 X.kd,.slice sA X.sec.length sc,.int .i64 X.pr,.int .i64 X.st,.slice nA X.non.length nc,.int .i64 X.x,.int .i64 X.g,.int .i64 X.own,.int .i64 X.oth,.slice aA X.k1.length ac,.slice bA X.k2.length bc,.int .i64 X.ct],.slice vA B.length vc,.slice eA s.length ec] w (ExO (jl X B s) w):=by
 have R:Hid (jl X B s=jA 1):=iH (j3o X B s hst hus hv)
 have HUS:=iH hus;have HST:=iH hst;have HV:=iH hv
 obtain⟨w0,HW0,HB0,HSZ,FR,FZ,H1,H2,H3,H4,H5,H6⟩:=YN X sA nA aA bA sc nc ac bc h1 h2 h3 h4 h5 h6
 have HK:=iH hK;have HLN:=iH (And.intro ls (And.intro ln (And.intro l1 l2)));have HL:=iH hl
 have f:=j4 (FR.out w0 iB)
 have z:=j4 (FZ.out w0 iB)
 clear hK h1 h2 h3 h4 h5 h6 ls ln l1 l2 hl
 have d0:decide (X.st<0)=false:=decide_eq_false (by omega)
 have d3:decide (4<X.st)=false:=decide_eq_false (by omega)
 clear hus hst hv
 go_enter Tryz.func35,Tryz.ntmps35
 go_upto_region 1 with fail
 rw [<-HW0.out]
 go_upto_region 5 with (go_at_call 87;refine(yE X sA nA aA bA sc nc ac bc w0 H3.out H4.out HLN.out.2.2.1 HLN.out.2.2.2).mono ?_;rw [HUS.out];rintro e w1 ⟨rfl,hb⟩;have HB1:=iH hb;clear f;obtain⟨g0,g1,g2,g3,g4,g5,g6,g7,g8,g9,g10,g11,gf⟩:=j4 (FR.out _ hb);clear z;have z:=j4 (FZ.out _ hb);clear hb gf)
 go_upto_region 7 with (go_at_call 88;refine(JU X sA nA aA bA sc nc ac bc vA vc B w1 (Bs.lift H5.out HB1.out) HST.out).mono ?_;rw [HV.out];rintro e w2 ⟨v2,rfl,hs,hb⟩;obtain⟨A2,c2,hv2⟩:=Bs.formL hs;subst hv2;have GV:=iH hs;have HB2:=iH (HB1.out.trans (hb.mono HB1.out.size));clear g0 g1 g2 g3 g4 g5 g6 g7 g8 g9 g10 g11;have f:=j4 (FR.out _ HB2.out);clear z;have z:=j4 (FZ.out _ HB2.out);clear hs hb)
 go_wp2_with fail
 have y:=j4 ((PtW.start (FZ.out w2 HB2.out)).z12).1
 unfold Go.Proofs.YtalmmiojbmpmiaaGreatDoor.set12 at y
 refine bodyPost_ret (v:=.tuple #[.agg #[.int .i64 0,.slice none 0 0,.int .i64 0,.int .i64 0,.slice none 0 0,.int .i64 0,.int .i64 0,.int .i64 0,.int .i64 0,.slice none 0 0,.slice none 0 0,.int .i64 0],.slice none 0 0,.slice none 0 0,.int .i64 1]) (by simp [results,Tryz.results35,go_sem,y]) rfl ?_
 exact ExO.err R.out ((HB0.out.trans (HB2.out.mono HB0.out.size)).trans (Below.mono (((PtW.start (FZ.out _ HB2.out)).z12).2.2) (Nat.le_succ _)))
theorem kM(F:Nat)(hF:(X.st=0/\F=89)\/(X.st=1/\F=90)\/(X.st=2/\F=91)\/(X.st=3/\F=92)\/(X.st=4/\F=93))(hst:0<=X.st/\X.st<=4)(hus:usT X=true)(v:List UInt8)(hv:Zp X B=some v)(hdo:(∃er:Int,(er != 0)=true/\j65 F X v s er/\jl X B s=jA er)\/∃(tag:Int) (Y:Exg) (dt nx U:List UInt8),Y.st=X.st/\(∀(A:Option Addr) (c:Nat) (W:World),Bs W W.heap.size (.slice A dt.length c) dt->Calls Tryz.prog 75 #[.int .i64 tag,.slice A dt.length c] W (Q6 U W))/\j7r F X v s tag Y dt nx/\(X.st<4/\jl X B s=(0,{Y with st:=Y.st+1},U,nx)\/X.st=4/\jl X B s=(0,{Y with st:=Y.st+1},[],nx))):Calls Tryz.prog 35 #[.agg #[.int .i64 X.kd,.slice sA X.sec.length sc,.int .i64 X.pr,.int .i64 X.st,.slice nA X.non.length nc,.int .i64 X.x,.int .i64 X.g,.int .i64 X.own,.int .i64 X.oth,.slice aA X.k1.length ac,.slice bA X.k2.length bc,.int .i64 X.ct],.slice vA B.length vc,.slice eA s.length ec] w (ExO (jl X B s) w):=by
 have HF:=iH hF;have HUS:=iH hus;have HST:=iH hst;have HV:=iH hv;have HDO:=iH hdo
 obtain⟨w0,HW0,HB0,HSZ,FR,FZ,H1,H2,H3,H4,H5,H6⟩:=YN X sA nA aA bA sc nc ac bc h1 h2 h3 h4 h5 h6
 have HK:=iH hK;have HLN:=iH (And.intro ls (And.intro ln (And.intro l1 l2)));have HL:=iH hl
 have f:=j4 (FR.out w0 iB)
 have z:=j4 (FZ.out w0 iB)
 clear hK h1 h2 h3 h4 h5 h6 ls ln l1 l2 hl
 have d0:decide (X.st<0)=false:=decide_eq_false (by omega)
 have d3:decide (4<X.st)=false:=decide_eq_false (by omega)
 clear hF hus hst hv hdo
 go_enter Tryz.func35,Tryz.ntmps35
 go_upto_region 1 with fail
 rw [<-HW0.out]
 go_upto_region 5 with (go_at_call 87;refine(yE X sA nA aA bA sc nc ac bc w0 H3.out H4.out HLN.out.2.2.1 HLN.out.2.2.2).mono ?_;rw [HUS.out];rintro e w1 ⟨rfl,hb⟩;have HB1:=iH hb;clear f;obtain⟨g0,g1,g2,g3,g4,g5,g6,g7,g8,g9,g10,g11,gf⟩:=j4 (FR.out _ hb);clear z;have z:=j4 (FZ.out _ hb);clear hb gf)
 go_upto_region 8 with (go_at_call 88;refine(JU X sA nA aA bA sc nc ac bc vA vc B w1 (Bs.lift H5.out HB1.out) HST.out).mono ?_;rw [HV.out];rintro e w2 ⟨v2,rfl,hs,hb⟩;obtain⟨A2,c2,hv2⟩:=Bs.formL hs;subst hv2;have GV:=iH hs;have HB2:=iH (HB1.out.trans (hb.mono HB1.out.size));clear g0 g1 g2 g3 g4 g5 g6 g7 g8 g9 g10 g11;have f:=j4 (FR.out _ HB2.out);clear z;have z:=j4 (FZ.out _ HB2.out);clear hs hb)
 go_upto_region 9 with (go_at_call 70;refine(Q4 X sA nA aA bA sc nc ac bc w2 (H1.out.lift HB2.out) (H2.out.lift HB2.out) (H3.out.lift HB2.out) (H4.out.lift HB2.out) HLN.out.1 HLN.out.2.1 HLN.out.2.2.1 HLN.out.2.2.2).mono ?_;rintro e w3 ⟨sB,nB,aB,bB,sd,nd,ad,bd,rfl,k1,k2,k3,k4,hb⟩;have HB3:=iH (HB2.out.trans (hb.mono HB2.out.size));have hpz:=PtW.start (FZ.out _ HB3.out);clear f z;have f:=j4 (FR.out _ HB3.out);have z:=j4 hpz.1;have G1:=iH (BsS.madeB (p:=w.heap.size+1) k1 (by have:=HSZ.out;have:=HB2.out.size;omega));have G2:=iH (BsS.madeB (p:=w.heap.size+1) k2 (by have:=HSZ.out;have:=HB2.out.size;omega));have G3:=iH (BsS.madeB (p:=w.heap.size+1) k3 (by have:=HSZ.out;have:=HB2.out.size;omega));have G4:=iH (BsS.madeB (p:=w.heap.size+1) k4 (by have:=HSZ.out;have:=HB2.out.size;omega));have G5:=iH (BsS.onB (BsS.madeB (p:=w.heap.size+1) GV.out (by have:=HSZ.out;have:=HB1.out.size;omega)) hb);have HPZ:=iH hpz;clear k1 k2 k3 k4 hb hpz)
 obtain⟨w4,hw4⟩:∃z,z=set12 w3 (w.heap.size+1) (.int .i64 X.kd) (.slice sB X.sec.length sd) (.int .i64 X.pr) (.int .i64 X.st) (.slice nB X.non.length nd) (.int .i64 X.x) (.int .i64 X.g) (.int .i64 X.own) (.int .i64 X.oth) (.slice aB X.k1.length ad) (.slice bB X.k2.length bd) (.int .i64 X.ct):=⟨_,rfl⟩
 have hp4:PtW (w.heap.size+1) w3 w4 #[.int .i64 X.kd,.slice sB X.sec.length sd,.int .i64 X.pr,.int .i64 X.st,.slice nB X.non.length nd,.int .i64 X.x,.int .i64 X.g,.int .i64 X.own,.int .i64 X.oth,.slice aB X.k1.length ad,.slice bB X.k2.length bd,.int .i64 X.ct]:=by rw [hw4];exact HPZ.out.set12 (.int .i64 X.kd) (.slice sB X.sec.length sd) (.int .i64 X.pr) (.int .i64 X.st) (.slice nB X.non.length nd) (.int .i64 X.x) (.int .i64 X.g) (.int .i64 X.own) (.int .i64 X.oth) (.slice aB X.k1.length ad) (.slice bB X.k2.length bd) (.int .i64 X.ct)
 have g4:=fun {u:Value} {m:List UInt8} (h:BsS w3 (j9 (w.heap.size+1) w3) u m)=>(by rw [hw4];exact BsS.set12 h (.int .i64 X.kd) (.slice sB X.sec.length sd) (.int .i64 X.pr) (.int .i64 X.st) (.slice nB X.non.length nd) (.int .i64 X.x) (.int .i64 X.g) (.int .i64 X.own) (.int .i64 X.oth) (.slice aB X.k1.length ad) (.slice bB X.k2.length bd) (.int .i64 X.ct):BsS w4 (j9 (w.heap.size+1) w4) u m)
 have J1:=iH (g4 G1.out);have J2:=iH (g4 G2.out);have J3:=iH (g4 G3.out);have J4:=iH (g4 G4.out);have J5:=iH (g4 G5.out)
 have H6w:Hid (BsS w3 (j9 (w.heap.size+1) w3) (.slice eA s.length ec) s):=iH (BsS.keep (BsS.off (H6.out.lift HB3.out) (FZ.out _ HB3.out) Zo) fun g hs _=>⟨rfl,hs⟩)
 have J6:=iH (g4 H6w.out)
 have HQ4:=iH hp4
 have hfr4:w4.heap[w.heap.size]?=some (.cells (exX X sA nA aA bA sc nc ac bc) 48 (0,0)):=(hp4.2.1.block w.heap.size (by have:=HSZ.out;have:=HB3.out.size;omega) (by intro e;injection e with e;omega)).trans (FR.out _ HB3.out)
 unfold Go.Proofs.YtalmmiojbmpmiaaGreatDoor.set12 at hw4
 rw [<-hw4]
 clear hw4 hp4 g4 f z
 have f:=j4 hfr4
 clear hfr4
 have HK4:Hid (∀W,Below (w.heap.size+1) w4 W->KD W):=iH (fun W h=>HK.out.below (((HB0.out.trans (HB3.out.mono HB0.out.size)).mono iL).trans ((HQ4.out.2.2.mono (Nat.le_succ _)).trans (h.mono (Nat.le_succ _)))) HK.out.lt)
 have I0:=j8l;have I1:=j8m;have I2:=j8n;have I3:=j8o;have I4:=j8p
 have HCF:∀(args:Array Value) (W:World),Sem.run Tryz.prog (callFunc F args) W=.ok (.enter F args) W:=by rcases HF.out with ⟨_,rfl⟩|⟨_,rfl⟩|⟨_,rfl⟩|⟨_,rfl⟩|⟨_,rfl⟩<;>(intro args W;kernel_rfl)
 go_cut [12] from 39 to 42 (fun y wc=>y=.func (.func F) #[] #[]/\wc=w4)
 case first=>
  rcases HF.out with ⟨h4,rfl⟩|⟨h4,rfl⟩|⟨h4,rfl⟩|⟨h4,rfl⟩|⟨h4,rfl⟩
  all_goals(rw [h4]at f;clear h4;go_wp2_with fail;go_meet;exact⟨rfl,rfl⟩)
 case rest=>
 obtain⟨rfl,hwc⟩:=hcut
 have hwc:=hwc.symm
 subst hwc
 clear I0 I1 I2 I3 I4
 rcases HDO.out with ⟨er,he,hdo,hr⟩|⟨tag,Y,dt,nx,U,hyst,hw,hdo,hr⟩
 ·have R:=iH hr;have HDQ:=iH hdo
  clear hdo hr
  go_wp2_with(refine(HDQ.out (w.heap.size+1) sB nB aB bB sd nd ad bd A2 eA c2 ec _ HK4.out HQ4.out.1 J1.out J2.out J3.out J4.out J5.out J6.out HL.out).mono ?_;rintro e w5 ⟨rfl,e0,e1,e2,e3,e4,e5,e6,e7,e8,e9,e10,e11,hpt⟩;have HPT:=iH hpt;have p:=j4 hpt.1;clear hpt)
  have y:=j4 (HPT.out.z12).1
  unfold Go.Proofs.YtalmmiojbmpmiaaGreatDoor.set12 at y
  refine bodyPost_ret (v:=.tuple #[.agg #[.int .i64 0,.slice none 0 0,.int .i64 0,.int .i64 0,.slice none 0 0,.int .i64 0,.int .i64 0,.int .i64 0,.int .i64 0,.slice none 0 0,.slice none 0 0,.int .i64 0],.slice none 0 0,.slice none 0 0,.int .i64 er]) (by simp [results,Tryz.results35,go_sem,y]) rfl ?_
  exact ExO.err R.out ((HB0.out.trans (HB3.out.mono HB0.out.size)).trans (Below.mono ((HQ4.out.2.2.trans HPT.out.2.2).trans (((PtW.start HPT.out.1).z12).2.2)) (Nat.le_succ _)))
 ·have R:=iH hr;have HDQ:=iH hdo;have HWR:=iH hw
  have hy0:0<=Y.st:=by have:=HST.out;omega
  have hy3:Y.st<=4:=by have:=HST.out;omega
  clear hyst hw hdo hr
  go_upto_region 13 with (refine(HDQ.out (w.heap.size+1) sB nB aB bB sd nd ad bd A2 eA c2 ec _ HK4.out HQ4.out.1 J1.out J2.out J3.out J4.out J5.out J6.out HL.out).mono ?_;rintro e w5 ⟨dA,dc,nA1,nc1,rfl,⟨sY,nY,aY,bY,sy,ny,ay,by_,hpt,k1,k2,k3,k4⟩,hd,hn⟩;have HPT:=iH hpt;have HX5:=iH (hpt.2.1.block w.heap.size (by have:=HSZ.out;have:=HB3.out.size;have:=HQ4.out.2.1.size;omega) (by intro e;injection e with e;omega));have K1:=iH k1;have K2:=iH k2;have K3:=iH k3;have K4:=iH k4;have KD1:=iH hd;have KN:=iH hn;clear hpt k1 k2 k3 k4 hd hn)
  clear f
  have f:=j4 (HX5.out.trans ((HQ4.out.2.1.block w.heap.size (by have:=HSZ.out;have:=HB3.out.size;omega) (by intro e;injection e with e;omega)).trans (FR.out _ HB3.out)))
  obtain⟨o4,ho⟩:∃o,decide (X.st<4)=o:=⟨_,rfl⟩
  go_upto_if 58 with fail
  have HO:=iH ho
  clear ho
  go_cut [7] from 56 to 62 (fun y wx=>∃(T:List UInt8) (A:Option Addr) (c:Nat),y=.slice A T.length c/\BsS wx (j9 (w.heap.size+1) wx) (.slice A T.length c) T/\Below w5.heap.size w5 wx/\jl X B s=(0,{Y with st:=Y.st+1},T,nx))
  case first=>
   rcases R.out with ⟨h4,hr⟩|⟨h4,hr⟩
   ·obtain rfl:o4=true:=by rw [<-HO.out];exact decide_eq_true h4
    have HR:=iH hr
    clear h4 hr
    go_wp2_with(go_at_call 75;refine(HWR.out dA dc w5 KD1.out.loB).mono ?_;rintro e w9 ⟨A7,c7,rfl,hs,hb⟩;have HU:=iH (hs.madeB HPT.out.lt);have HB9:=iH hb;clear hs hb)
    go_meet
    exact⟨U,A7,c7,rfl,HU.out,HB9.out,HR.out⟩
   ·obtain rfl:o4=false:=by rw [<-HO.out];exact decide_eq_false (by omega)
    have HR:=iH hr
    clear h4 hr
    go_wp2_with fail
    go_meet
    exact⟨[],none,0,rfl,⟨none,0,rfl,by simp,by omega,by simp,fun h=>by simp at h⟩,Below.refl _ _,HR.out⟩
  case rest=>
  obtain⟨T,A7,c7,rfl,hT,hb,hr⟩:=hcut
  obtain⟨w9,hwq⟩:∃z,z=wc:=⟨_,rfl⟩
  rw [<-hwq]at hT hb |-
  have HU:=iH hT;have HB9:=iH hb;have RR:=iH hr
  clear hwq hT hb hr
  have hp9:PtW (w.heap.size+1) w4 w9 #[.int .i64 Y.kd,.slice sY Y.sec.length sy,.int .i64 Y.pr,.int .i64 Y.st,.slice nY Y.non.length ny,.int .i64 Y.x,.int .i64 Y.g,.int .i64 Y.own,.int .i64 Y.oth,.slice aY Y.k1.length ay,.slice bY Y.k2.length by_,.int .i64 Y.ct]:=HPT.out.call HB9.out
  have HP9:=iH hp9
  have p:=j4 hp9.1
  have M1:=iH (K1.out.onB HB9.out)
  have M2:=iH (K2.out.onB HB9.out)
  have M3:=iH (K3.out.onB HB9.out)
  have M4:=iH (K4.out.onB HB9.out)
  have MN:=iH (KN.out.onB HB9.out)
  clear hp9
  go_upto_region 16 with fail
  obtain⟨w6,hw6⟩:∃z,z=w9.setCell ⟨w.heap.size+1,3,none⟩ (.int .i64 (Y.st+1)):=⟨_,rfl⟩
  rw [<-hw6]
  have hp6:PtW (w.heap.size+1) w4 w6 #[.int .i64 Y.kd,.slice sY Y.sec.length sy,.int .i64 Y.pr,.int .i64 (Y.st+1),.slice nY Y.non.length ny,.int .i64 Y.x,.int .i64 Y.g,.int .i64 Y.own,.int .i64 Y.oth,.slice aY Y.k1.length ay,.slice bY Y.k2.length by_,.int .i64 Y.ct]:=by rw [hw6];exact HP9.out.set 3 _
  have HP6:=iH hp6
  have N6:Hid (BsS w6 (j9 (w.heap.size+1) w6) _ _):=iH (by rw [hw6];exact BsS.setP MN.out 3 _)
  have L1:Hid (BsS w6 (j9 (w.heap.size+1) w6) _ _):=iH (by rw [hw6];exact BsS.setP M1.out 3 _)
  have L2:Hid (BsS w6 (j9 (w.heap.size+1) w6) _ _):=iH (by rw [hw6];exact BsS.setP M2.out 3 _)
  have L3:Hid (BsS w6 (j9 (w.heap.size+1) w6) _ _):=iH (by rw [hw6];exact BsS.setP M3.out 3 _)
  have L4:Hid (BsS w6 (j9 (w.heap.size+1) w6) _ _):=iH (by rw [hw6];exact BsS.setP M4.out 3 _)
  have U6:Hid (BsS w6 (j9 (w.heap.size+1) w6) _ _):=iH (by rw [hw6];exact BsS.setP HU.out 3 _)
  clear hw6 p f
  have p:=j4 hp6.1
  clear hp6
  go_wp2_with fail
  have y:=j4 (HP6.out.set12 (.int .i64 Y.kd) (.slice sY Y.sec.length sy) (.int .i64 Y.pr) (.int .i64 (Y.st+1)) (.slice nY Y.non.length ny) (.int .i64 Y.x) (.int .i64 Y.g) (.int .i64 Y.own) (.int .i64 Y.oth) (.slice aY Y.k1.length ay) (.slice bY Y.k2.length by_) (.int .i64 Y.ct)).1
  obtain⟨w8,hw8⟩:∃z,z=set12 w6 (w.heap.size+1) (.int .i64 Y.kd) (.slice sY Y.sec.length sy) (.int .i64 Y.pr) (.int .i64 (Y.st+1)) (.slice nY Y.non.length ny) (.int .i64 Y.x) (.int .i64 Y.g) (.int .i64 Y.own) (.int .i64 Y.oth) (.slice aY Y.k1.length ay) (.slice bY Y.k2.length by_) (.int .i64 Y.ct):=⟨_,rfl⟩
  have hfin:∀ {u:Value} {m:List UInt8},BsS w6 (j9 (w.heap.size+1) w6) u m->Bs w8 w8.heap.size u m:=fun {u m} h=>by rw [hw8];exact(BsS.set12 h (.int .i64 Y.kd) (.slice sY Y.sec.length sy) (.int .i64 Y.pr) (.int .i64 (Y.st+1)) (.slice nY Y.non.length ny) (.int .i64 Y.x) (.int .i64 Y.g) (.int .i64 Y.own) (.int .i64 Y.oth) (.slice aY Y.k1.length ay) (.slice bY Y.k2.length by_) (.int .i64 Y.ct)).loB
  have hbel:Below w.heap.size w w8:=by rw [hw8];exact(HB0.out.trans (HB3.out.mono HB0.out.size)).trans (Below.mono ((HQ4.out.2.2.trans HP6.out.2.2).trans (((PtW.start HP6.out.1).set12 (.int .i64 Y.kd) (.slice sY Y.sec.length sy) (.int .i64 Y.pr) (.int .i64 (Y.st+1)) (.slice nY Y.non.length ny) (.int .i64 Y.x) (.int .i64 Y.g) (.int .i64 Y.own) (.int .i64 Y.oth) (.slice aY Y.k1.length ay) (.slice bY Y.k2.length by_) (.int .i64 Y.ct)).2.2)) (Nat.le_succ _))
  unfold Go.Proofs.YtalmmiojbmpmiaaGreatDoor.set12 at y
  refine bodyPost_ret (v:=.tuple #[.agg #[.int .i64 Y.kd,.slice sY Y.sec.length sy,.int .i64 Y.pr,.int .i64 (Y.st+1),.slice nY Y.non.length ny,.int .i64 Y.x,.int .i64 Y.g,.int .i64 Y.own,.int .i64 Y.oth,.slice aY Y.k1.length ay,.slice bY Y.k2.length by_,.int .i64 Y.ct],.slice A7 T.length c7,.slice nA1 nx.length nc1,.int .i64 0]) (by simp [results,Tryz.results35,go_sem,y]) rfl ?_
  unfold Go.Proofs.YtalmmiojbmpmiaaGreatDoor.set12 at hw8
  rw [<-hw8,RR.out]
  exact⟨_,_,_,_,_,rfl,⟨_,_,_,_,rfl,hfin L1.out,hfin L2.out,hfin L3.out,hfin L4.out⟩,hfin U6.out,hfin N6.out,hbel⟩
end
section
variable(P:Nat)(X:Exg)(sA nA aA bA:Option Addr)(sc nc ac bc:Nat)(vA eA:Option Addr)(vc ec:Nat)(v s:List UInt8)(w:World)(hK:∀W,Below P w W->KD W)(hr:w.heap[P]?=some (.cells (exX X sA nA aA bA sc nc ac bc) 48 (0,0)))(h1:BsS w (j9 P w) (.slice sA X.sec.length sc) X.sec)(h2:BsS w (j9 P w) (.slice nA X.non.length nc) X.non)(h3:BsS w (j9 P w) (.slice aA X.k1.length ac) X.k1)(h4:BsS w (j9 P w) (.slice bA X.k2.length bc) X.k2)(h5:BsS w (j9 P w) (.slice vA v.length vc) v)(h6:BsS w (j9 P w) (.slice eA s.length ec) s)(hl:s.length<=140737488351232)
include P X sA nA aA bA sc nc ac bc vA eA vc ec v s w hK hr h1 h2 h3 h4 h5 h6 hl
theorem Yi(hp:X.pr=3)(N:List UInt8)(hrv:QL X.kd X.sec v=(0,N))(gi:Int)(hi:yj N (jt s 16)=(0,gi)):
 Calls Tryz.prog 90 #[.pointer (some ⟨P,0,none⟩),.slice vA v.length vc,.slice eA s.length ec] w (ym P w 129 {X with non:=N,g:=gi} (jt s 16) (sdW s)):=by
 have HRV:=iH (KP X.kd X.sec sA sc v vA vc w (hK w iB) h1.loB h5.loB)
 rw [hrv]at HRV
 have t1:(X.pr==3)=true:=by simp [hp]
 have hr16:(jt s 16).length=16:=by unfold jt;rw [List.length_take,je];omega
 have HDR:=iH (fun W k (h:Bs W W.heap.size (.slice eA s.length ec) s)=>Qm 16 (by omega) (by omega) _ s W k h (by omega))
 obtain⟨rr,hrr⟩:∃r,jt s 16=r:=⟨_,rfl⟩
 rw [hrr]at HDR hi hr16 |-
 have HIN:=iH (fun(a b:Value) W k h1 h2=>XG N rr a b W k h1 h2)
 rw [hi]at HIN
 have HR16:=iH hr16
 clear hi hp hrv hrr hr16
 have HP0:Hid (PtW P w w (exX X sA nA aA bA sc nc ac bc)):=iH (PtW.start hr)
 have HK:=iH hK;have Gs0:=iH h1;have Gn0:=iH h2;have Ga0:=iH h3;have Gb0:=iH h4;have Gv0:=iH h5;have Ge0:=iH h6;have HL:=iH hl
 obtain⟨f0,f1,f2,f3,f4,f5,f6,f7,f8,f9,f10,f11,ff⟩:=j4 hr
 clear hK hr h1 h2 h3 h4 h5 h6 hl
 go_enter Tryz.func90,Tryz.ntmps90
 go_upto_region 2 with (go_at_call 20;refine HRV.out.mono ?_;rintro e w1 ⟨v1,rfl,hs,hb⟩;obtain⟨A1,c1,hv1⟩:=Bs.formL hs;subst hv1;have GN1:=iH (hs.madeB HP0.out.lt);have Gs1:=iH (Gs0.out.onB hb);have Gn1:=iH (Gn0.out.onB hb);have Ga1:=iH (Ga0.out.onB hb);have Gb1:=iH (Gb0.out.onB hb);have Gv1:=iH (Gv0.out.onB hb);have Ge1:=iH (Ge0.out.onB hb);have hp:=HP0.out.call hb;have HP1:=iH hp;obtain⟨g0,g1,g2,g3,g4,g5,g6,g7,g8,g9,g10,g11,gf⟩:=j4 hp.1;clear hp f0 f1 f2 f3 f4 f5 f6 f7 f8 f9 f10 f11 ff;have gx:=gf 4;clear hb hs gf)
 obtain⟨w2,hw⟩:∃z,z=w1.setCell ⟨P,4,none⟩ (.slice A1 N.length c1):=⟨_,rfl⟩
 rw [<-hw]
 have hp:PtW P w w2 #[.int .i64 X.kd,.slice sA X.sec.length sc,.int .i64 X.pr,.int .i64 X.st,.slice A1 N.length c1,.int .i64 X.x,.int .i64 X.g,.int .i64 X.own,.int .i64 X.oth,.slice aA X.k1.length ac,.slice bA X.k2.length bc,.int .i64 X.ct]:=by rw [hw];exact HP1.out.set 4 _
 have Gs2:Hid (BsS w2 (j9 P w2) _ _):=iH (by rw [hw];exact BsS.setP Gs1.out 4 _)
 have Gn2:Hid (BsS w2 (j9 P w2) _ _):=iH (by rw [hw];exact BsS.setP Gn1.out 4 _)
 have Ga2:Hid (BsS w2 (j9 P w2) _ _):=iH (by rw [hw];exact BsS.setP Ga1.out 4 _)
 have Gb2:Hid (BsS w2 (j9 P w2) _ _):=iH (by rw [hw];exact BsS.setP Gb1.out 4 _)
 have Gv2:Hid (BsS w2 (j9 P w2) _ _):=iH (by rw [hw];exact BsS.setP Gv1.out 4 _)
 have Ge2:Hid (BsS w2 (j9 P w2) _ _):=iH (by rw [hw];exact BsS.setP Ge1.out 4 _)
 have GN2:Hid (BsS w2 (j9 P w2) _ _):=iH (by rw [hw];exact BsS.setP GN1.out 4 _)
 have HP2:=iH hp
 obtain⟨f0,f1,f2,f3,f4,f5,f6,f7,f8,f9,f10,f11,ff⟩:=j4 hp.1
 clear hw hp g0 g1 g2 g3 g4 g5 g6 g7 g8 g9 g10 g11 gx
 clear ff
 go_upto_region 5 with (first
  |(go_at_call 27;refine(HIN.out _ _ w3 (HK.out w3 HP3.out.2.2) GN3.out.loB GR3.out.loB).mono ?_;rintro e w4 ⟨rfl,hb⟩;have GR4:=iH (GR3.out.onB hb);have GX4:=iH (GX3.out.onB hb);have Gs4:=iH (Gs3.out.onB hb);have Gn4:=iH (Gn3.out.onB hb);have Ga4:=iH (Ga3.out.onB hb);have Gb4:=iH (Gb3.out.onB hb);have Gv4:=iH (Gv3.out.onB hb);have Ge4:=iH (Ge3.out.onB hb);have GN4:=iH (GN3.out.onB hb);have hp:=HP3.out.call hb;have HP4:=iH hp;obtain⟨f0,f1,f2,f3,f4,f5,f6,f7,f8,f9,f10,f11,ff⟩:=j4 hp.1;have fx:=ff 6;clear hp hb ff g0 g1 g2 g3 g4 g5 g6 g7 g8 g9 g10 g11)
  |(go_at_call 125;refine(HDR.out w2 (HK.out w2 HP2.out.2.2) Ge2.out.loB).mono ?_;rintro e w3 ⟨A3,c3,B3,d3,rfl,ha,hbx,hb⟩;have GR3:=iH (ha.madeB HP2.out.lt);have GX3:=iH (hbx.madeB HP2.out.lt);have Gs3:=iH (Gs2.out.onB hb);have Gn3:=iH (Gn2.out.onB hb);have Ga3:=iH (Ga2.out.onB hb);have Gb3:=iH (Gb2.out.onB hb);have Gv3:=iH (Gv2.out.onB hb);have Ge3:=iH (Ge2.out.onB hb);have GN3:=iH (GN2.out.onB hb);have hp:=HP2.out.call hb;have HP3:=iH hp;obtain⟨g0,g1,g2,g3,g4,g5,g6,g7,g8,g9,g10,g11,gf⟩:=j4 hp.1;clear hp hb ha hbx gf f0 f1 f2 f3 f4 f5 f6 f7 f8 f9 f10 f11))
 go_upto_region 6 with fail
 obtain⟨w5,hw⟩:∃z,z=w4.setCell ⟨P,6,none⟩ (.int .i64 gi):=⟨_,rfl⟩
 rw [<-hw]
 have hp:PtW P w w5 #[.int .i64 X.kd,.slice sA X.sec.length sc,.int .i64 X.pr,.int .i64 X.st,.slice A1 N.length c1,.int .i64 X.x,.int .i64 gi,.int .i64 X.own,.int .i64 X.oth,.slice aA X.k1.length ac,.slice bA X.k2.length bc,.int .i64 X.ct]:=by rw [hw];exact HP4.out.set 6 _
 have Gs5:Hid (BsS w5 (j9 P w5) _ _):=iH (by rw [hw];exact BsS.setP Gs4.out 6 _)
 have Gn5:Hid (BsS w5 (j9 P w5) _ _):=iH (by rw [hw];exact BsS.setP Gn4.out 6 _)
 have Ga5:Hid (BsS w5 (j9 P w5) _ _):=iH (by rw [hw];exact BsS.setP Ga4.out 6 _)
 have Gb5:Hid (BsS w5 (j9 P w5) _ _):=iH (by rw [hw];exact BsS.setP Gb4.out 6 _)
 have Gv5:Hid (BsS w5 (j9 P w5) _ _):=iH (by rw [hw];exact BsS.setP Gv4.out 6 _)
 have Ge5:Hid (BsS w5 (j9 P w5) _ _):=iH (by rw [hw];exact BsS.setP Ge4.out 6 _)
 have GN5:Hid (BsS w5 (j9 P w5) _ _):=iH (by rw [hw];exact BsS.setP GN4.out 6 _)
 have GR5:Hid (BsS w5 (j9 P w5) _ _):=iH (by rw [hw];exact BsS.setP GR4.out 6 _)
 have GX5:Hid (BsS w5 (j9 P w5) _ _):=iH (by rw [hw];exact BsS.setP GX4.out 6 _)
 have HP5:=iH hp
 obtain⟨g0,g1,g2,g3,g4,g5,g6,g7,g8,g9,g10,g11,gf⟩:=j4 hp.1
 clear hw hp f0 f1 f2 f3 f4 f5 f6 f7 f8 f9 f10 f11 fx
 go_wp2_with fail
 refine bodyPost_ret (v:=.tuple #[.int .i64 129,.slice A3 16 c3,.slice B3 32 d3,.int .i64 0]) (by simp [results,Tryz.results90,go_sem]) rfl ?_
 have hx:(sdW s).length=32:=je _
 have x5:BsS w5 (j9 P w5) (.slice B3 (sdW s).length d3) (sdW s):=by rw [hx];exact GX5.out
 have r5:BsS w5 (j9 P w5) (.slice A3 rr.length c3) rr:=by rw [HR16.out];exact GR5.out
 exact⟨A3,c3,B3,d3,by rw [hx,HR16.out],⟨_,_,_,_,_,_,_,_,HP5.out,Gs5.out,GN5.out,Ga5.out,Gb5.out⟩,r5,x5⟩
theorem Yh(hp:X.pr=2)(N:List UInt8)(hrv:QL X.kd X.sec v=(0,N)):
 Calls Tryz.prog 90 #[.pointer (some ⟨P,0,none⟩),.slice vA v.length vc,.slice eA s.length ec] w (ym P w 129 {X with non:=N,x:=jX s} (jd (jM 4 (jX s))) (sdW s)):=by
 have HRV:=iH (KP X.kd X.sec sA sc v vA vc w (hK w iB) h1.loB h5.loB)
 rw [hrv]at HRV
 have t1:(X.pr==3)=false:=by simp [hp]
 have HSE:=iH (fun W k (h:Bs W W.heap.size (.slice eA s.length ec) s)=>xd _ s W k h (by omega))
 unfold Ko at HSE
 have hks:=yb s
 obtain⟨ks,hk⟩:∃ks,jX s=ks:=⟨_,rfl⟩
 rw [hk]at HSE hks |-
 have HPB:=iH (XD ks hks)
 obtain⟨G,hG⟩:∃G,jM 4 ks=G:=⟨_,rfl⟩
 have hge:jk G=true:=by rw [<-hG];exact kg 4 ks xE hks
 rw [hG]at HPB |-
 have HEN:=iH (kW G hge)
 clear hG hge
 clear hp hrv hk hks
 have HP0:Hid (PtW P w w (exX X sA nA aA bA sc nc ac bc)):=iH (PtW.start hr)
 have HK:=iH hK;have Gs0:=iH h1;have Gn0:=iH h2;have Ga0:=iH h3;have Gb0:=iH h4;have Gv0:=iH h5;have Ge0:=iH h6;have HL:=iH hl
 obtain⟨f0,f1,f2,f3,f4,f5,f6,f7,f8,f9,f10,f11,ff⟩:=j4 hr
 clear hK hr h1 h2 h3 h4 h5 h6 hl
 go_enter Tryz.func90,Tryz.ntmps90
 go_upto_region 2 with (go_at_call 20;refine HRV.out.mono ?_;rintro e w1 ⟨v1,rfl,hs,hb⟩;obtain⟨A1,c1,hv1⟩:=Bs.formL hs;subst hv1;have GN1:=iH (hs.madeB HP0.out.lt);have Gs1:=iH (Gs0.out.onB hb);have Gn1:=iH (Gn0.out.onB hb);have Ga1:=iH (Ga0.out.onB hb);have Gb1:=iH (Gb0.out.onB hb);have Gv1:=iH (Gv0.out.onB hb);have Ge1:=iH (Ge0.out.onB hb);have hp:=HP0.out.call hb;have HP1:=iH hp;obtain⟨g0,g1,g2,g3,g4,g5,g6,g7,g8,g9,g10,g11,gf⟩:=j4 hp.1;clear hp f0 f1 f2 f3 f4 f5 f6 f7 f8 f9 f10 f11 ff;have gx:=gf 4;clear hb hs gf)
 obtain⟨w2,hw⟩:∃z,z=w1.setCell ⟨P,4,none⟩ (.slice A1 N.length c1):=⟨_,rfl⟩
 rw [<-hw]
 have hp:PtW P w w2 #[.int .i64 X.kd,.slice sA X.sec.length sc,.int .i64 X.pr,.int .i64 X.st,.slice A1 N.length c1,.int .i64 X.x,.int .i64 X.g,.int .i64 X.own,.int .i64 X.oth,.slice aA X.k1.length ac,.slice bA X.k2.length bc,.int .i64 X.ct]:=by rw [hw];exact HP1.out.set 4 _
 have Gs2:Hid (BsS w2 (j9 P w2) _ _):=iH (by rw [hw];exact BsS.setP Gs1.out 4 _)
 have Gn2:Hid (BsS w2 (j9 P w2) _ _):=iH (by rw [hw];exact BsS.setP Gn1.out 4 _)
 have Ga2:Hid (BsS w2 (j9 P w2) _ _):=iH (by rw [hw];exact BsS.setP Ga1.out 4 _)
 have Gb2:Hid (BsS w2 (j9 P w2) _ _):=iH (by rw [hw];exact BsS.setP Gb1.out 4 _)
 have Gv2:Hid (BsS w2 (j9 P w2) _ _):=iH (by rw [hw];exact BsS.setP Gv1.out 4 _)
 have Ge2:Hid (BsS w2 (j9 P w2) _ _):=iH (by rw [hw];exact BsS.setP Ge1.out 4 _)
 have GN2:Hid (BsS w2 (j9 P w2) _ _):=iH (by rw [hw];exact BsS.setP GN1.out 4 _)
 have HP2:=iH hp
 obtain⟨f0,f1,f2,f3,f4,f5,f6,f7,f8,f9,f10,f11,ff⟩:=j4 hp.1
 clear hw hp g0 g1 g2 g3 g4 g5 g6 g7 g8 g9 g10 g11 gx
 clear ff
 go_upto_region 8 with (go_at_call 127;refine(HSE.out w2 (HK.out w2 HP2.out.2.2) Ge2.out.loB).mono ?_;rintro e w3 ⟨B1,d1,rfl,hbx,hb⟩;have GX3:=iH (hbx.madeB HP2.out.lt);have Gs3:=iH (Gs2.out.onB hb);have Gn3:=iH (Gn2.out.onB hb);have Ga3:=iH (Ga2.out.onB hb);have Gb3:=iH (Gb2.out.onB hb);have Gv3:=iH (Gv2.out.onB hb);have Ge3:=iH (Ge2.out.onB hb);have GN3:=iH (GN2.out.onB hb);have hp:=HP2.out.call hb;have HP3:=iH hp;obtain⟨g0,g1,g2,g3,g4,g5,g6,g7,g8,g9,g10,g11,gf⟩:=j4 hp.1;have gx:=gf 5;clear hp hb hbx gf f0 f1 f2 f3 f4 f5 f6 f7 f8 f9 f10 f11)
 go_upto_region 9 with fail
 obtain⟨w4,hw⟩:∃z,z=w3.setCell ⟨P,5,none⟩ (.int .i64 ks):=⟨_,rfl⟩
 rw [<-hw]
 have hp:PtW P w w4 #[.int .i64 X.kd,.slice sA X.sec.length sc,.int .i64 X.pr,.int .i64 X.st,.slice A1 N.length c1,.int .i64 ks,.int .i64 X.g,.int .i64 X.own,.int .i64 X.oth,.slice aA X.k1.length ac,.slice bA X.k2.length bc,.int .i64 X.ct]:=by rw [hw];exact HP3.out.set 5 _
 have Gs4:Hid (BsS w4 (j9 P w4) _ _):=iH (by rw [hw];exact BsS.setP Gs3.out 5 _)
 have Gn4:Hid (BsS w4 (j9 P w4) _ _):=iH (by rw [hw];exact BsS.setP Gn3.out 5 _)
 have Ga4:Hid (BsS w4 (j9 P w4) _ _):=iH (by rw [hw];exact BsS.setP Ga3.out 5 _)
 have Gb4:Hid (BsS w4 (j9 P w4) _ _):=iH (by rw [hw];exact BsS.setP Gb3.out 5 _)
 have Gv4:Hid (BsS w4 (j9 P w4) _ _):=iH (by rw [hw];exact BsS.setP Gv3.out 5 _)
 have Ge4:Hid (BsS w4 (j9 P w4) _ _):=iH (by rw [hw];exact BsS.setP Ge3.out 5 _)
 have GN4:Hid (BsS w4 (j9 P w4) _ _):=iH (by rw [hw];exact BsS.setP GN3.out 5 _)
 have GX4:Hid (BsS w4 (j9 P w4) _ _):=iH (by rw [hw];exact BsS.setP GX3.out 5 _)
 have HP4:=iH hp
 obtain⟨f0,f1,f2,f3,f4,f5,f6,f7,f8,f9,f10,f11,ff⟩:=j4 hp.1
 clear hw hp g0 g1 g2 g3 g4 g5 g6 g7 g8 g9 g10 g11 gx
 go_wp2_with(first
  |(go_at_call 128;refine iR (HPB.out _) ?_)
  |(go_at_call 129;refine(HEN.out w4).mono ?_;rintro e w5 ⟨A3,c3,rfl,hs,hb⟩;have GE3:=iH (hs.madeB HP4.out.lt);have Gs5:=iH (Gs4.out.onB hb);have Gn5:=iH (Gn4.out.onB hb);have Ga5:=iH (Ga4.out.onB hb);have Gb5:=iH (Gb4.out.onB hb);have Gv5:=iH (Gv4.out.onB hb);have Ge5:=iH (Ge4.out.onB hb);have GN5:=iH (GN4.out.onB hb);have GX5:=iH (GX4.out.onB hb);have hp:=HP4.out.call hb;have HP5:=iH hp;obtain⟨g0,g1,g2,g3,g4,g5,g6,g7,g8,g9,g10,g11,gf⟩:=j4 hp.1;clear hp f0 f1 f2 f3 f4 f5 f6 f7 f8 f9 f10 f11 ff;clear hs hb))
 refine bodyPost_ret (v:=.tuple #[.int .i64 129,.slice A3 4 c3,.slice B1 32 d1,.int .i64 0]) (by simp [results,Tryz.results90,go_sem]) rfl ?_
 have hx:(sdW s).length=32:=je _
 have x3:BsS w5 (j9 P w5) (.slice B1 (sdW s).length d1) (sdW s):=by rw [hx];exact GX5.out
 exact⟨A3,c3,B1,d1,by rw [hx]<;>rfl,⟨_,_,_,_,_,_,_,_,HP5.out,Gs5.out,GN5.out,Ga5.out,Gb5.out⟩,GE3.out,x3⟩
theorem Yg(hp:X.pr=3)(hg:jk X.g=true):
 Calls Tryz.prog 91 #[.pointer (some ⟨P,0,none⟩),.slice vA v.length vc,.slice eA s.length ec] w (ym P w 131 {X with x:=jX s,own:=jM X.g (jX s)} (jd (jM X.g (jX s))) (sdW s)):=by
 have t1:(X.pr==2)=false:=by simp [hp]
 have HPU:=iH (z9 P X sA nA aA bA sc nc ac bc w hK hr eA ec s h6 hl hg)
 have hks:=yb s
 obtain⟨ks,hk⟩:∃ks,jX s=ks:=⟨_,rfl⟩
 rw [hk]at HPU hks |-
 obtain⟨G,hG⟩:∃G,jM X.g ks=G:=⟨_,rfl⟩
 have hge:jk G=true:=by rw [<-hG];exact kg X.g ks hg hks
 rw [hG]at HPU |-
 have HEN:=iH (kW G hge)
 clear hk hks hG hge hg hp
 have HP0:Hid (PtW P w w (exX X sA nA aA bA sc nc ac bc)):=iH (PtW.start hr)
 have HK:=iH hK;have Gs0:=iH h1;have Gn0:=iH h2;have Ga0:=iH h3;have Gb0:=iH h4;have Gv0:=iH h5;have Ge0:=iH h6;have HL:=iH hl
 have f:=j4 hr
 clear hK hr h1 h2 h3 h4 h5 h6 hl
 go_enter Tryz.func91,Tryz.ntmps91
 go_wp2_with(first
  |(go_at_call 130;refine HPU.out.mono ?_;rintro e w1 ⟨B1,d1,rfl,hq,hx⟩;have HP1:=iH hq;have GX1:=iH hx;have Gs1:=iH (Gs0.out.grownP hq.2.1);have Gn1:=iH (Gn0.out.grownP hq.2.1);have Ga1:=iH (Ga0.out.grownP hq.2.1);have Gb1:=iH (Gb0.out.grownP hq.2.1);have Gv1:=iH (Gv0.out.grownP hq.2.1);have Ge1:=iH (Ge0.out.grownP hq.2.1);have g:=j4 hq.1;clear hq hx f)
  |(go_at_call 129;refine(HEN.out w1).mono ?_;rintro e w3 ⟨A3,c3,rfl,hs,hb⟩;have GE3:=iH (hs.madeB HP1.out.lt);have HP3:=iH (HP1.out.call hb);have Gs3:=iH (Gs1.out.onB hb);have Gn3:=iH (Gn1.out.onB hb);have Ga3:=iH (Ga1.out.onB hb);have Gb3:=iH (Gb1.out.onB hb);have Gv3:=iH (Gv1.out.onB hb);have Ge3:=iH (Ge1.out.onB hb);have GX3:=iH (GX1.out.onB hb);clear hs hb))
 refine bodyPost_ret (v:=.tuple #[.int .i64 131,.slice A3 4 c3,.slice B1 32 d1,.int .i64 0]) (by simp [results,Tryz.results91,go_sem]) rfl ?_
 have hx:(sdW s).length=32:=je _
 have x3:BsS w3 (j9 P w3) (.slice B1 (sdW s).length d1) (sdW s):=by rw [hx];exact GX3.out
 exact⟨A3,c3,B1,d1,by rw [hx]<;>rfl,⟨_,_,_,_,_,_,_,_,HP3.out,Gs3.out,Gn3.out,Ga3.out,Gb3.out⟩,GE3.out,x3⟩
theorem Ye(hp:X.pr=2)(er o:Int)(hd:jc v=(er,o))(he:(er != 0)=true):
 Calls Tryz.prog 91 #[.pointer (some ⟨P,0,none⟩),.slice vA v.length vc,.slice eA s.length ec] w (Jp P w er):=by
 have HD:=iH (jW v _ _ w h5)
 rw [hd]at HD
 have t1:(X.pr==2)=true:=by simp [hp]
 clear hd hp
 have HP0:Hid (PtW P w w (exX X sA nA aA bA sc nc ac bc)):=iH (PtW.start hr)
 have HK:=iH hK;have Gs0:=iH h1;have Gn0:=iH h2;have Ga0:=iH h3;have Gb0:=iH h4;have Gv0:=iH h5;have Ge0:=iH h6;have HL:=iH hl
 have f:=j4 hr
 clear hK hr h1 h2 h3 h4 h5 h6 hl
 go_enter Tryz.func91,Tryz.ntmps91
 go_wp2_with(go_at_call 126;refine iR HD.out ?_)
 refine bodyPost_ret (v:=.tuple #[.int .i64 0,.slice none 0 0,.slice none 0 0,.int .i64 er]) (by simp [results,Tryz.results91,go_sem]) rfl ?_
 exact⟨rfl,_,_,_,_,_,_,_,_,_,_,_,_,HP0.out⟩
theorem Yf(hp:X.pr=2)(o:Int)(hd:jc v=(0,o))(er zg:Int)(hg:qT X.non X.x o=(er,zg))(he:(er != 0)=true):
 Calls Tryz.prog 91 #[.pointer (some ⟨P,0,none⟩),.slice vA v.length vc,.slice eA s.length ec] w (Jp P w er):=by
 have HD:=iH (jW v _ _ w h5)
 rw [hd]at HD
 have t1:(X.pr==2)=true:=by simp [hp]
 have HGE:=iH (fun(u:Value) (W:World) h=>xe X.non u X.x o W h)
 rw [hg]at HGE
 obtain⟨val,rfl⟩:∃l,l=v:=⟨_,rfl⟩
 clear hd hp hg
 have HP0:Hid (PtW P w w (exX X sA nA aA bA sc nc ac bc)):=iH (PtW.start hr)
 have HK:=iH hK;have Gs0:=iH h1;have Gn0:=iH h2;have Ga0:=iH h3;have Gb0:=iH h4;have Gv0:=iH h5;have Ge0:=iH h6;have HL:=iH hl
 have f:=j4 hr
 clear hK hr h1 h2 h3 h4 h5 h6 hl
 go_enter Tryz.func91,Tryz.ntmps91
 go_upto_region 5 with (go_at_call 126;refine iR HD.out ?_)
 have hjx:∀ {L:Nat->Bool} {i:Nat} {wz:World},i≠16->(∃u,PtW P w wz #[.int .i64 X.kd,.slice sA X.sec.length sc,.int .i64 X.pr,.int .i64 X.st,.slice nA X.non.length nc,.int .i64 X.x,u,.int .i64 X.own,.int .i64 X.oth,.slice aA X.k1.length ac,.slice bA X.k2.length bc,.int .i64 X.ct]/\(L 16=true->u=.int .i64 zg))->∃u,PtW P w wz #[.int .i64 X.kd,.slice sA X.sec.length sc,.int .i64 X.pr,.int .i64 X.st,.slice nA X.non.length nc,.int .i64 X.x,u,.int .i64 X.own,.int .i64 X.oth,.slice aA X.k1.length ac,.slice bA X.k2.length bc,.int .i64 X.ct]/\(Km L i 16=true->u=.int .i64 zg):=fun {L i wz} hi ⟨u,h1,h2⟩=>⟨u,h1,fun h=>h2 (by unfold Km at h;rwa [iF (fun e=>hi e.symm)]at h)⟩
 refine ja 17 [some 27,some 28,some 29,some 30,some 31,some 32,some 33,some 34,some 35,some 36,some 37,some 26,some 38,some 39,some 40,some 41,none] [[],[],[1],[1,2],[1,2,3],[],[5],[5,6],[5,6,7],[],[1,2,3,4,5,6,7,8,9],[1,2,3,4,5,6,7,8,9,10],[1,2,3,4,5,6,7,8,9,10,11],[1,2,3,4,5,6,7,8,9,10,11],[0,1,2,3,4,5,6,7,8,9,10,11,12],[0,1,2,3,4,5,6,7,8,9,10,11,12,14],[0,1,2,3,4,5,6,7,8,9,10,11,12,14,15]]
  (fun L _ w1=>∃u,PtW P w w1 #[.int .i64 X.kd,.slice sA X.sec.length sc,.int .i64 X.pr,.int .i64 X.st,.slice nA X.non.length nc,.int .i64 X.x,u,.int .i64 X.own,.int .i64 X.oth,.slice aA X.k1.length ac,.slice bA X.k2.length bc,.int .i64 X.ct]/\(L 16=true->u=.int .i64 zg)) (fun w1 w2=>w1.grownBy w2 (some P))
  [.v (.pointer (some ⟨P,0,none⟩)),
   .v (.pointer (some ⟨P,0,none⟩)),
   .v (.pointer (some ⟨P,0,none⟩)),
   .v (.pointer (some ⟨P,4,none⟩)),
   .v (.slice nA X.non.length nc),
   .v (.pointer (some ⟨P,0,none⟩)),
   .v (.pointer (some ⟨P,0,none⟩)),
   .v (.pointer (some ⟨P,5,none⟩)),
   .v (.int .i64 X.x),
   .v (.int .i64 o),
   .v (.tuple #[.int .i64 zg,.int .i64 er]),
   .v (.tuple #[.int .i64 zg,.int .i64 er]),
   .v (.int .i64 zg),
   .v (.int .i64 er),
   .v (.pointer (some ⟨P,0,none⟩)),
   .v (.pointer (some ⟨P,6,none⟩)),
   .q fun v=>True]
  (by kernel_rfl) (by kernel_rfl) rfl (fun _=>⟨_,HP0.out.drew,fun h=>by cases h⟩) ?steps ?tail
 case steps=>
  simp only [List.take_succ_cons,List.take_zero]
  repeat' (with_reducible first|exact StepsRG.nil|refine StepsRG.cons ?_ ?_)
  all_goals(intro L v w1 hJ hL hF hD K hK;simp only [jb,Act.put,Nat.zero_add,Nat.reduceAdd,List.setIfInBounds_toArray,List.set_cons_zero,List.set_cons_succ,↓jZ,List.getD_cons_zero,List.getD_cons_succ,Nat.reduceEqDiff,↓reduceIte]at hD hK |-)
  all_goals(first
   |((try simp only [hD]at hK |-);have hJ2:=iH hJ;go_simp;exact hK _ _ (hjx (by decide) hJ2.out) (World.grownBy.refl _ _) rfl)
   |((try simp only [hD]at hK |-);have hJ2:=iH hJ;obtain⟨u,hp,_⟩:=hJ;obtain⟨q0,q1,q2,q3,q4,q5,q6,q7,q8,q9,q10,q11,qf⟩:=j4 hp.1;go_simp;exact hK _ _ (hjx (by decide) hJ2.out) (World.grownBy.refl _ _) rfl)
   |skip)
  ·simp only [hD]at hK |-
   go_simp
   refine(HGE.out _ w1 (Gn0.out.grownP (by obtain⟨u,hp,_⟩:=hJ;exact hp.2.1)).loB).mono ?_
   rintro e wk ⟨rfl,hwk⟩
   subst hwk
   exact hK _ _ (hjx (by decide) hJ) (World.grownBy.refl _ _) rfl
  ·simp only [hD]at hK |-
   obtain⟨u,hp,_⟩:=hJ
   obtain⟨q0,q1,q2,q3,q4,q5,q6,q7,q8,q9,q10,q11,qf⟩:=j4 hp.1
   have qx:=qf 6
   have HPQ:=iH hp
   clear hp qf
   go_simp
   exact hK undef _ ⟨_,HPQ.out.set 6 _,fun _=>rfl⟩ ((PtW.start HPQ.out.1).set 6 _).2.1 trivial
 case tail=>
  intro v w1 hJ hF hD
  simp only [kE]at hD
  obtain⟨e0,e1,e2,e3,e4,e5,e6,e7,e8,e9,e10,e11,e12,e13,e14,e15, -⟩:=hD
  simp only [List.drop_succ_cons,List.drop_zero,jb,Act.put,Nat.zero_add,Nat.reduceAdd,List.setIfInBounds_toArray,List.set_cons_zero,List.set_cons_succ]
  simp only [e13]
  obtain⟨u,hp,hu⟩:=hJ
  obtain rfl:=hu rfl
  have HP3:=iH hp;have Gs3:=iH (Gs0.out.grownP hp.2.1);have Gn3:=iH (Gn0.out.grownP hp.2.1);have Ga3:=iH (Ga0.out.grownP hp.2.1);have Gb3:=iH (Gb0.out.grownP hp.2.1);have Gv3:=iH (Gv0.out.grownP hp.2.1);have Ge3:=iH (Ge0.out.grownP hp.2.1)
  have g:=j4 hp.1
  clear hF hp hu e13 f
  go_wp2_with fail
  refine bodyPost_ret (v:=.tuple #[.int .i64 0,.slice none 0 0,.slice none 0 0,.int .i64 er]) (by simp [results,Tryz.results91,go_sem]) rfl ?_
  exact⟨rfl,_,_,_,_,_,_,_,_,_,_,_,_,HP3.out⟩
theorem Yd(hp:X.pr=2)(o:Int)(hd:jc v=(0,o))(gi:Int)(hg:qT X.non X.x o=(0,gi))(hge:jk gi=true):
 Calls Tryz.prog 91 #[.pointer (some ⟨P,0,none⟩),.slice vA v.length vc,.slice eA s.length ec] w (ym P w 131 {X with g:=gi,x:=jX s,own:=jM gi (jX s)} (jd (jM gi (jX s))) (sdW s)):=by
 have HD:=iH (jW v _ _ w h5)
 rw [hd]at HD
 have t1:(X.pr==2)=true:=by simp [hp]
 have HGE:=iH (fun(u:Value) (W:World) h=>xe X.non u X.x o W h)
 rw [hg]at HGE
 obtain⟨Y,hY⟩:∃Y:Exg,Y= {X with g:=gi}:=⟨_,rfl⟩
 have hYg:Y.g=gi:=by rw [hY]
 have hye:jk Y.g=true:=by rw [hYg];exact hge
 have HPU:=iH (fun(W:World) k h hs=>z9 P Y sA nA aA bA sc nc ac bc W k h eA ec s hs hl hye)
 rw [hYg]at HPU
 clear hye hYg
 have hks:=yb s
 obtain⟨ks,hk⟩:∃ks,jX s=ks:=⟨_,rfl⟩
 rw [hk]at HPU hks |-
 obtain⟨G,hG⟩:∃G,jM gi ks=G:=⟨_,rfl⟩
 have hge2:jk G=true:=by rw [<-hG];exact kg gi ks hge hks
 rw [hG]at HPU |-
 simp only [hY]at HPU
 clear hY
 have HEN:=iH (kW G hge2)
 obtain⟨val,rfl⟩:∃l,l=v:=⟨_,rfl⟩
 clear hd hp hg hk hks hG hge hge2
 have HP0:Hid (PtW P w w (exX X sA nA aA bA sc nc ac bc)):=iH (PtW.start hr)
 have HK:=iH hK;have Gs0:=iH h1;have Gn0:=iH h2;have Ga0:=iH h3;have Gb0:=iH h4;have Gv0:=iH h5;have Ge0:=iH h6;have HL:=iH hl
 have f:=j4 hr
 clear hK hr h1 h2 h3 h4 h5 h6 hl
 go_enter Tryz.func91,Tryz.ntmps91
 go_upto_region 5 with (go_at_call 126;refine iR HD.out ?_)
 have hjx:∀ {L:Nat->Bool} {i:Nat} {wz:World},i≠16->(∃u,PtW P w wz #[.int .i64 X.kd,.slice sA X.sec.length sc,.int .i64 X.pr,.int .i64 X.st,.slice nA X.non.length nc,.int .i64 X.x,u,.int .i64 X.own,.int .i64 X.oth,.slice aA X.k1.length ac,.slice bA X.k2.length bc,.int .i64 X.ct]/\(L 16=true->u=.int .i64 gi))->∃u,PtW P w wz #[.int .i64 X.kd,.slice sA X.sec.length sc,.int .i64 X.pr,.int .i64 X.st,.slice nA X.non.length nc,.int .i64 X.x,u,.int .i64 X.own,.int .i64 X.oth,.slice aA X.k1.length ac,.slice bA X.k2.length bc,.int .i64 X.ct]/\(Km L i 16=true->u=.int .i64 gi):=fun {L i wz} hi ⟨u,h1,h2⟩=>⟨u,h1,fun h=>h2 (by unfold Km at h;rwa [iF (fun e=>hi e.symm)]at h)⟩
 refine ja 17 [some 27,some 28,some 29,some 30,some 31,some 32,some 33,some 34,some 35,some 36,some 37,some 26,some 38,some 39,some 40,some 41,none] [[],[],[1],[1,2],[1,2,3],[],[5],[5,6],[5,6,7],[],[1,2,3,4,5,6,7,8,9],[1,2,3,4,5,6,7,8,9,10],[1,2,3,4,5,6,7,8,9,10,11],[1,2,3,4,5,6,7,8,9,10,11],[0,1,2,3,4,5,6,7,8,9,10,11,12],[0,1,2,3,4,5,6,7,8,9,10,11,12,14],[0,1,2,3,4,5,6,7,8,9,10,11,12,14,15]]
  (fun L _ w1=>∃u,PtW P w w1 #[.int .i64 X.kd,.slice sA X.sec.length sc,.int .i64 X.pr,.int .i64 X.st,.slice nA X.non.length nc,.int .i64 X.x,u,.int .i64 X.own,.int .i64 X.oth,.slice aA X.k1.length ac,.slice bA X.k2.length bc,.int .i64 X.ct]/\(L 16=true->u=.int .i64 gi)) (fun w1 w2=>w1.grownBy w2 (some P))
  [.v (.pointer (some ⟨P,0,none⟩)),
   .v (.pointer (some ⟨P,0,none⟩)),
   .v (.pointer (some ⟨P,0,none⟩)),
   .v (.pointer (some ⟨P,4,none⟩)),
   .v (.slice nA X.non.length nc),
   .v (.pointer (some ⟨P,0,none⟩)),
   .v (.pointer (some ⟨P,0,none⟩)),
   .v (.pointer (some ⟨P,5,none⟩)),
   .v (.int .i64 X.x),
   .v (.int .i64 o),
   .v (.tuple #[.int .i64 gi,.int .i64 0]),
   .v (.tuple #[.int .i64 gi,.int .i64 0]),
   .v (.int .i64 gi),
   .v (.int .i64 0),
   .v (.pointer (some ⟨P,0,none⟩)),
   .v (.pointer (some ⟨P,6,none⟩)),
   .q fun v=>True]
  (by kernel_rfl) (by kernel_rfl) rfl (fun _=>⟨_,HP0.out.drew,fun h=>by cases h⟩) ?steps ?tail
 case steps=>
  simp only [List.take_succ_cons,List.take_zero]
  repeat' (with_reducible first|exact StepsRG.nil|refine StepsRG.cons ?_ ?_)
  all_goals(intro L v w1 hJ hL hF hD K hK;simp only [jb,Act.put,Nat.zero_add,Nat.reduceAdd,List.setIfInBounds_toArray,List.set_cons_zero,List.set_cons_succ,↓jZ,List.getD_cons_zero,List.getD_cons_succ,Nat.reduceEqDiff,↓reduceIte]at hD hK |-)
  all_goals(first
   |((try simp only [hD]at hK |-);have hJ2:=iH hJ;go_simp;exact hK _ _ (hjx (by decide) hJ2.out) (World.grownBy.refl _ _) rfl)
   |((try simp only [hD]at hK |-);have hJ2:=iH hJ;obtain⟨u,hp,_⟩:=hJ;obtain⟨q0,q1,q2,q3,q4,q5,q6,q7,q8,q9,q10,q11,qf⟩:=j4 hp.1;go_simp;exact hK _ _ (hjx (by decide) hJ2.out) (World.grownBy.refl _ _) rfl)
   |skip)
  ·simp only [hD]at hK |-
   go_simp
   refine(HGE.out _ w1 (Gn0.out.grownP (by obtain⟨u,hp,_⟩:=hJ;exact hp.2.1)).loB).mono ?_
   rintro e wk ⟨rfl,hwk⟩
   subst hwk
   exact hK _ _ (hjx (by decide) hJ) (World.grownBy.refl _ _) rfl
  ·simp only [hD]at hK |-
   obtain⟨u,hp,_⟩:=hJ
   obtain⟨q0,q1,q2,q3,q4,q5,q6,q7,q8,q9,q10,q11,qf⟩:=j4 hp.1
   have qx:=qf 6
   have HPQ:=iH hp
   clear hp qf
   go_simp
   exact hK undef _ ⟨_,HPQ.out.set 6 _,fun _=>rfl⟩ ((PtW.start HPQ.out.1).set 6 _).2.1 trivial
 case tail=>
  intro v w1 hJ hF hD
  simp only [kE]at hD
  obtain⟨e0,e1,e2,e3,e4,e5,e6,e7,e8,e9,e10,e11,e12,e13,e14,e15, -⟩:=hD
  simp only [List.drop_succ_cons,List.drop_zero,jb,Act.put,Nat.zero_add,Nat.reduceAdd,List.setIfInBounds_toArray,List.set_cons_zero,List.set_cons_succ]
  simp only [e13]
  obtain⟨u,hp,hu⟩:=hJ
  obtain rfl:=hu rfl
  have HP3:=iH hp;have Gs3:=iH (Gs0.out.grownP hp.2.1);have Gn3:=iH (Gn0.out.grownP hp.2.1);have Ga3:=iH (Ga0.out.grownP hp.2.1);have Gb3:=iH (Gb0.out.grownP hp.2.1);have Gv3:=iH (Gv0.out.grownP hp.2.1);have Ge3:=iH (Ge0.out.grownP hp.2.1)
  have g:=j4 hp.1
  clear hF hp hu e13 f
  obtain⟨wm,rfl⟩:∃z:World,z=w1:=⟨_,rfl⟩
  go_wp2_with(first
   |(go_at_call 130;refine(HPU.out wm (fun W h=>HK.out W (HP3.out.2.2.trans h)) HP3.out.1 Ge3.out).mono ?_;rintro e w5 ⟨B1,d1,rfl,hq,hx⟩;have hq:PtW P wm w5 #[.int .i64 X.kd,.slice sA X.sec.length sc,.int .i64 X.pr,.int .i64 X.st,.slice nA X.non.length nc,.int .i64 ks,.int .i64 gi,.int .i64 G,.int .i64 X.oth,.slice aA X.k1.length ac,.slice bA X.k2.length bc,.int .i64 X.ct]:=hq;have HP5:Hid (PtW P w w5 #[.int .i64 X.kd,.slice sA X.sec.length sc,.int .i64 X.pr,.int .i64 X.st,.slice nA X.non.length nc,.int .i64 ks,.int .i64 gi,.int .i64 G,.int .i64 X.oth,.slice aA X.k1.length ac,.slice bA X.k2.length bc,.int .i64 X.ct]):=iH (HP3.out.trans hq);have GX5:=iH hx;have Gs5:=iH (Gs3.out.grownP hq.2.1);have Gn5:=iH (Gn3.out.grownP hq.2.1);have Ga5:=iH (Ga3.out.grownP hq.2.1);have Gb5:=iH (Gb3.out.grownP hq.2.1);have Gv5:=iH (Gv3.out.grownP hq.2.1);have Ge5:=iH (Ge3.out.grownP hq.2.1);have p:=j4 hq.1;clear hq hx g)
   |(go_at_call 129;refine(HEN.out w5).mono ?_;rintro e w6 ⟨A3,c3,rfl,hs,hb⟩;have GE6:=iH (hs.madeB HP5.out.lt);have HP6:=iH (HP5.out.call hb);have Gs6:=iH (Gs5.out.onB hb);have Gn6:=iH (Gn5.out.onB hb);have Ga6:=iH (Ga5.out.onB hb);have Gb6:=iH (Gb5.out.onB hb);have Gv6:=iH (Gv5.out.onB hb);have Ge6:=iH (Ge5.out.onB hb);have GX6:=iH (GX5.out.onB hb);clear hs hb))
  refine bodyPost_ret (v:=.tuple #[.int .i64 131,.slice A3 4 c3,.slice B1 32 d1,.int .i64 0]) (by simp [results,Tryz.results91,go_sem]) rfl ?_
  have hx:(sdW s).length=32:=je _
  have x3:BsS w6 (j9 P w6) (.slice B1 (sdW s).length d1) (sdW s):=by rw [hx];exact GX6.out
  exact⟨A3,c3,B1,d1,by rw [hx]<;>rfl,⟨_,_,_,_,_,_,_,_,HP6.out,Gs6.out,Gn6.out,Ga6.out,Gb6.out⟩,GE6.out,x3⟩
end
theorem qJ{X:Exg}(h:usT X=true):vPw X.kd X.sec=true/\(X.pr=2\/X.pr=3)/\(X.st=2->X.non.length=16/\(X.pr=2->okS X.x=true)/\(X.pr=3->jk X.g=true))/\(X.st=3->X.non.length=16/\jk X.g=true/\jk X.own=true/\okS X.x=true)/\(X.st=4->jk X.own=true/\jk X.oth=true/\X.k2.length=16):=by
 unfold usT kj at h
 simp only [Bool.and_eq_true,decide_eq_true_eq]at h
 obtain⟨⟨hp,hpr⟩,h1⟩:=h
 refine⟨hp,hpr,fun q=> ?_,fun q=> ?_,fun q=> ?_⟩
 ·rw [iT q]at h1
  simp only [Bool.and_eq_true,decide_eq_true_eq]at h1
  obtain⟨a,b⟩:=h1
  exact⟨a,fun p=>by rwa [iT p]at b,fun p=>by rwa [iF (by omega)]at b⟩
 ·rw [iF (by omega),iT q]at h1
  simp only [Bool.and_eq_true,decide_eq_true_eq]at h1
  obtain⟨⟨⟨a,b⟩,c⟩,d⟩:=h1
  exact⟨a,b,c,d⟩
 ·rw [iF (by omega),iF (by omega),iT q]at h1
  unfold qe vS at h1
  simp only [Bool.and_eq_true,decide_eq_true_eq]at h1
  obtain⟨⟨a,b⟩,c⟩:=h1
  exact⟨a,b,c.2.1⟩
theorem j08(k n:List UInt8)(h:n.length=16):(zp k Z16 n).length=16:=by rw [j33 _ _ _ (m:=1) (by omega),j6p]
theorem j5m{X:Exg}{B:List UInt8}(h:¬X.st=0):Zp X B=kB B (126+2*X.st) (YW X):=by unfold Zp;rw [iF h]
theorem XZ{X:Exg}{B v:List UInt8}(q:X.st=1)(h:kB B (126+2*X.st) (YW X)=some v):v.length=16:=by
 have hs:YW X=16:=by unfold YW;rw [iT q]
 rw [hs]at h
 unfold kB at h
 split at h
 ·cases h
 ·exact U7 (by rw [q];decide) h
theorem Xx{n:List UInt8}{k o gi:Int}(h:qT n k o=(0,gi)):jk gi=true:=by
 unfold qT at h
 split at h
 ·cases h
 ·split at h
  ·cases h
  ·split at h
   ·cases h
   ·split at h
    ·cases h
    ·rename_i h1 h2 h3
     injection h with _ h
     rw [<-h]
     exact j2a n k o (by simpa using h1) (by simpa using h2) h3
theorem j4s(s:List UInt8):(jt s 16).length=16:=by unfold jt;rw [List.length_take,je];omega
theorem j3n(X:Exg)(sA nA aA bA:Option Addr)(sc nc ac bc:Nat)(vA eA:Option Addr)(vc ec:Nat)(B s:List UInt8)(w:World)(hK:KD w)(h1:Bs w w.heap.size (.slice sA X.sec.length sc) X.sec)(h2:Bs w w.heap.size (.slice nA X.non.length nc) X.non)(h3:Bs w w.heap.size (.slice aA X.k1.length ac) X.k1)(h4:Bs w w.heap.size (.slice bA X.k2.length bc) X.k2)(h5:Bs w w.heap.size (.slice vA B.length vc) B)(h6:Bs w w.heap.size (.slice eA s.length ec) s)(ls:X.sec.length<=140737488351232)(ln:X.non.length<=140737488351232)(l1:X.k1.length<=140737488351232)(l2:X.k2.length<=140737488351232)(hl:s.length<=140737488351232):Calls Tryz.prog 35 #[.agg #[.int .i64 X.kd,.slice sA X.sec.length sc,.int .i64 X.pr,.int .i64 X.st,.slice nA X.non.length nc,.int .i64 X.x,.int .i64 X.g,.int .i64 X.own,.int .i64 X.oth,.slice aA X.k1.length ac,.slice bA X.k2.length bc,.int .i64 X.ct],.slice vA B.length vc,.slice eA s.length ec] w (ExO (jl X B s) w):=by
 by_cases hst:X.st<0\/4<X.st
 ·exact V4 X sA nA aA bA sc nc ac bc vA eA vc ec B s w hK h1 h2 h3 h4 h5 h6 ls ln l1 l2 hl hst
 have hst:0<=X.st/\X.st<=4:=by omega
 rcases hus:usT X with _|_
 ·exact Zd X sA nA aA bA sc nc ac bc vA eA vc ec B s w hK h1 h2 h3 h4 h5 h6 ls ln l1 l2 hl hst hus
 rcases hv:Zp X B with _|v
 ·exact j17 X sA nA aA bA sc nc ac bc vA eA vc ec B s w hK h1 h2 h3 h4 h5 h6 ls ln l1 l2 hl hst hus hv
 obtain⟨hp,hpr,hk2,hk3,hk4⟩:=qJ hus
 by_cases q:X.st=0
 ·have hv0:B.length=0/\v= []:=by
   unfold Zp at hv
   rw [iT q]at hv
   split at hv
   ·rename_i h;injection hv with hv;exact⟨h,hv.symm⟩
   ·cases hv
  obtain⟨hB,rfl⟩:=hv0
  have hr:jl X B s=(0,{X with st:=X.st+1},jB 0 [],s):=by
   unfold jl
   rw [iF (by omega),iF (by rw [hus];simp),iT q,iF (by omega),q]
   rfl
  exact kM X sA nA aA bA sc nc ac bc vA eA vc ec B s w hK h1 h2 h3 h4 h5 h6 ls ln l1 l2 hl 89 (.inl ⟨q,rfl⟩) hst hus [] hv (.inr ⟨(-1),X,[],s,(jB 0 []),rfl,(fun A c W _=>Kc _ W),(fun P sA nA aA bA sc nc ac bc vA eA vc ec w k r h1 h2 h3 h4 h5 h6 h7=>Vn P X sA nA aA bA sc nc ac bc vA eA vc ec [] s w k r h1 h2 h3 h4 h5 h6 h7),(.inl ⟨by omega,hr⟩)⟩)
 have hv2:=hv
 rw [j5m q]at hv2
 have hq:X.st=1\/X.st=2\/X.st=3\/X.st=4:=by omega
 rcases hq with q|q|q|q
 ·have hl16:=XZ q hv2
  have hrv:QL X.kd X.sec v=(0,zp (kX X.kd X.sec) Z16 v):=by
   unfold QL
   rw [iF (by rw [hp];simp),iF (by omega)]
  obtain⟨N,hN⟩:∃N,zp (kX X.kd X.sec) Z16 v=N:=⟨_,rfl⟩
  have hNl:N.length=16:=by rw [<-hN];exact j08 _ _ hl16
  rw [hN]at hrv
  by_cases hp3:X.pr=3
  ·obtain⟨gi,hi⟩:∃g,yj N (jt s 16)=(0,g):=⟨_,by unfold yj;rw [iF (fun x=>x ⟨hNl,j4s s⟩)]⟩
   have hr:jl X B s=(0,{({X with non:=N,g:=gi}:Exg)with st:=X.st+1},jB 129 (jt s 16),sdW s):=by
    unfold jl;rw [iF (by omega),iF (by rw [hus];simp),iF (by omega),hv2];simp only [];rw [iT q,iT hp3,hrv,hi,q]<;>rfl
   exact kM X sA nA aA bA sc nc ac bc vA eA vc ec B s w hK h1 h2 h3 h4 h5 h6 ls ln l1 l2 hl 90 (.inr (.inl ⟨q,rfl⟩)) hst hus v hv (.inr ⟨129,{X with non:=N,g:=gi},(jt s 16),(sdW s),(jB 129 (jt s 16)),rfl,(fun A c W h=>zk 129 ⟨by omega,by omega⟩ A c _ W h (by rw [j4s];omega)),(fun P sA nA aA bA sc nc ac bc vA eA vc ec w k r h1 h2 h3 h4 h5 h6 h7=>Yi P X sA nA aA bA sc nc ac bc vA eA vc ec v s w k r h1 h2 h3 h4 h5 h6 h7 hp3 N hrv gi hi),(.inl ⟨by omega,hr⟩)⟩)
  have hp2:X.pr=2:=by omega
  have hr:jl X B s=(0,{({X with non:=N,x:=jX s}:Exg)with st:=X.st+1},jB 129 (jd (jM 4 (jX s))),sdW s):=by
   unfold jl;rw [iF (by omega),iF (by rw [hus];simp),iF (by omega),hv2];simp only [];rw [iT q,iF hp3,hrv,q]<;>rfl
  exact kM X sA nA aA bA sc nc ac bc vA eA vc ec B s w hK h1 h2 h3 h4 h5 h6 ls ln l1 l2 hl 90 (.inr (.inl ⟨q,rfl⟩)) hst hus v hv (.inr ⟨129,{X with non:=N,x:=jX s},(jd (jM 4 (jX s))),(sdW s),(jB 129 (jd (jM 4 (jX s)))),rfl,(fun A c W h=>zk 129 ⟨by omega,by omega⟩ A c _ W h (by simp [jd])),(fun P sA nA aA bA sc nc ac bc vA eA vc ec w k r h1 h2 h3 h4 h5 h6 h7=>Yh P X sA nA aA bA sc nc ac bc vA eA vc ec v s w k r h1 h2 h3 h4 h5 h6 h7 hp2 N hrv),(.inl ⟨by omega,hr⟩)⟩)
 ·obtain⟨hn,hx,hg⟩:=hk2 q
  by_cases hp3:X.pr=3
  ·have hn2:¬X.pr=2:=by omega
   have hr:jl X B s=(0,{({X with x:=jX s,own:=jM X.g (jX s)}:Exg)with st:=X.st+1},jB 131 (jd (jM X.g (jX s))),sdW s):=by
    unfold jl;rw [iF (by omega),iF (by rw [hus];simp),iF (by omega),hv2];simp only [];rw [iF (by omega),iT q,iF (fun x=>hn2 x.1),iF (fun x=>hn2 x.1),iF hn2,q]<;>rfl
   exact kM X sA nA aA bA sc nc ac bc vA eA vc ec B s w hK h1 h2 h3 h4 h5 h6 ls ln l1 l2 hl 91 (.inr (.inr (.inl ⟨q,rfl⟩))) hst hus v hv (.inr ⟨131,{X with x:=jX s,own:=jM X.g (jX s)},(jd (jM X.g (jX s))),(sdW s),(jB 131 (jd (jM X.g (jX s)))),rfl,(fun A c W h=>zk 131 ⟨by omega,by omega⟩ A c _ W h (by simp [jd])),(fun P sA nA aA bA sc nc ac bc vA eA vc ec w k r h1 h2 h3 h4 h5 h6 h7=>Yg P X sA nA aA bA sc nc ac bc vA eA vc ec v s w k r h1 h2 h3 h4 h5 h6 h7 hp3 (hg hp3)),(.inl ⟨by omega,hr⟩)⟩)
  have hp2:X.pr=2:=by omega
  obtain⟨⟨er,o⟩,hde⟩:∃r,jc v=r:=⟨_,rfl⟩
  by_cases he:er=0
  ·subst he
   obtain⟨⟨er,gi⟩,hge⟩:∃r,qT X.non X.x o=r:=⟨_,rfl⟩
   by_cases he:er=0
   ·subst he
    have hr:jl X B s=(0,{({X with g:=gi,x:=jX s,own:=jM gi (jX s)}:Exg)with st:=X.st+1},jB 131 (jd (jM gi (jX s))),sdW s):=by
     unfold jl;rw [iF (by omega),iF (by rw [hus];simp),iF (by omega),hv2];simp only [];rw [iF (by omega),iT q,hde];simp only [];rw [hge,iF (by simp),iF (by simp),iT hp2,q]<;>rfl
    exact kM X sA nA aA bA sc nc ac bc vA eA vc ec B s w hK h1 h2 h3 h4 h5 h6 ls ln l1 l2 hl 91 (.inr (.inr (.inl ⟨q,rfl⟩))) hst hus v hv (.inr ⟨131,{X with g:=gi,x:=jX s,own:=jM gi (jX s)},(jd (jM gi (jX s))),(sdW s),(jB 131 (jd (jM gi (jX s)))),rfl,(fun A c W h=>zk 131 ⟨by omega,by omega⟩ A c _ W h (by simp [jd])),(fun P sA nA aA bA sc nc ac bc vA eA vc ec w k r h1 h2 h3 h4 h5 h6 h7=>Yd P X sA nA aA bA sc nc ac bc vA eA vc ec v s w k r h1 h2 h3 h4 h5 h6 h7 hp2 o hde gi hge (Xx hge)),(.inl ⟨by omega,hr⟩)⟩)
   ·have hr:jl X B s=jA er:=by
     unfold jl;rw [iF (by omega),iF (by rw [hus];simp),iF (by omega),hv2];simp only [];rw [iF (by omega),iT q,hde];simp only [];rw [hge,iF (by simp),iT ⟨hp2,he⟩]
    exact kM X sA nA aA bA sc nc ac bc vA eA vc ec B s w hK h1 h2 h3 h4 h5 h6 ls ln l1 l2 hl 91 (.inr (.inr (.inl ⟨q,rfl⟩))) hst hus v hv (.inl ⟨er,(qi he),(fun P sA nA aA bA sc nc ac bc vA eA vc ec w k r h1 h2 h3 h4 h5 h6 h7=>Yf P X sA nA aA bA sc nc ac bc vA eA vc ec v s w k r h1 h2 h3 h4 h5 h6 h7 hp2 o hde er gi hge (qi he)),hr⟩)
  ·have hr:jl X B s=jA er:=by
    unfold jl;rw [iF (by omega),iF (by rw [hus];simp),iF (by omega),hv2];simp only [];rw [iF (by omega),iT q,hde];simp only [];rw [iT ⟨hp2,he⟩]
   exact kM X sA nA aA bA sc nc ac bc vA eA vc ec B s w hK h1 h2 h3 h4 h5 h6 ls ln l1 l2 hl 91 (.inr (.inr (.inl ⟨q,rfl⟩))) hst hus v hv (.inl ⟨er,(qi he),(fun P sA nA aA bA sc nc ac bc vA eA vc ec w k r h1 h2 h3 h4 h5 h6 h7=>Ye P X sA nA aA bA sc nc ac bc vA eA vc ec v s w k r h1 h2 h3 h4 h5 h6 h7 hp2 er o hde (qi he)),hr⟩)
 ·obtain⟨hn,hg,ho,hx⟩:=hk3 q
  obtain⟨⟨er,o⟩,hde⟩:∃r,jc v=r:=⟨_,rfl⟩
  by_cases he:er=0
  ·subst he
   by_cases heq:o=X.own
   ·have hr:jl X B s=jA 10:=by
     unfold jl;rw [iF (by omega),iF (by rw [hus];simp),iF (by omega),hv2];simp only [];rw [iF (by omega),iF (by omega),iT q,hde];simp only [];rw [iF (by simp),iT heq]
    exact kM X sA nA aA bA sc nc ac bc vA eA vc ec B s w hK h1 h2 h3 h4 h5 h6 ls ln l1 l2 hl 92 (.inr (.inr (.inr (.inl ⟨q,rfl⟩)))) hst hus v hv (.inl ⟨10,(by decide),(fun P sA nA aA bA sc nc ac bc vA eA vc ec w k r h1 h2 h3 h4 h5 h6 h7=>Kn P X sA nA aA bA sc nc ac bc vA eA vc ec v s w k r h1 h2 h3 h4 h5 h6 h7 o hde heq),hr⟩)
   ·have hys:(kf X o).2.st=X.st:=by unfold kf;rw [iF heq]
    have hk:(kf X o).2.k2.length=16:=by unfold kf;rw [iF heq];exact jG _ _
    have hr:jl X B s=(0,{(kf X o).2 with st:=(kf X o).2.st+1},jB 133 (tkW (kf X o).2 o),s):=by
     rw [hys];unfold jl;rw [iF (by omega),iF (by rw [hus];simp),iF (by omega),hv2];simp only [];rw [iF (by omega),iF (by omega),iT q,hde];simp only [];rw [iF (by simp),iF heq,q]<;>rfl
    exact kM X sA nA aA bA sc nc ac bc vA eA vc ec B s w hK h1 h2 h3 h4 h5 h6 ls ln l1 l2 hl 92 (.inr (.inr (.inr (.inl ⟨q,rfl⟩)))) hst hus v hv (.inr ⟨133,_,(tkW (kf X o).2 o),s,(jB 133 (tkW (kf X o).2 o)),hys,(fun A c W h=>zk 133 ⟨by omega,by omega⟩ A c _ W h (by rw [tkl _ _ hk];omega)),(fun P sA nA aA bA sc nc ac bc vA eA vc ec w k r h1 h2 h3 h4 h5 h6 h7=>QX P X sA nA aA bA sc nc ac bc vA eA vc ec v s w k r h1 h2 h3 h4 h5 h6 h7 o hx hde heq),(.inl ⟨by omega,hr⟩)⟩)
  ·have hr:jl X B s=jA er:=by
    unfold jl;rw [iF (by omega),iF (by rw [hus];simp),iF (by omega),hv2];simp only [];rw [iF (by omega),iF (by omega),iT q,hde];simp only [];rw [iT he]
   exact kM X sA nA aA bA sc nc ac bc vA eA vc ec B s w hK h1 h2 h3 h4 h5 h6 ls ln l1 l2 hl 92 (.inr (.inr (.inr (.inl ⟨q,rfl⟩)))) hst hus v hv (.inl ⟨er,(qi he),(fun P sA nA aA bA sc nc ac bc vA eA vc ec w k r h1 h2 h3 h4 h5 h6 h7=>QY P X sA nA aA bA sc nc ac bc vA eA vc ec v s w k r h1 h2 h3 h4 h5 h6 h7 er o hde (qi he) (by simp [he])),hr⟩)
 ·obtain⟨ho,ht,hk2⟩:=hk4 q
  by_cases hvt:v=tkW X X.own
  ·have hr:jl X B s=(0,{X with st:=X.st+1},[],s):=by
    unfold jl;rw [iF (by omega),iF (by rw [hus];simp),iF (by omega),hv2];simp only [];rw [iF (by omega),iF (by omega),iF (by omega),iF (fun x=>x hvt),q]<;>rfl
   exact kM X sA nA aA bA sc nc ac bc vA eA vc ec B s w hK h1 h2 h3 h4 h5 h6 ls ln l1 l2 hl 93 (.inr (.inr (.inr (.inr (⟨q,rfl⟩))))) hst hus v hv (.inr ⟨(-1),X,[],s,(jB 0 []),rfl,(fun A c W _=>Kc _ W),(fun P sA nA aA bA sc nc ac bc vA eA vc ec w k r h1 h2 h3 h4 h5 h6 h7=>QZ P X sA nA aA bA sc nc ac bc vA eA vc ec v s w k r h1 h2 h3 h4 h5 h6 h7 hk2 ho hvt),(.inr ⟨q,hr⟩)⟩)
  ·have hr:jl X B s=jA 21:=by
    unfold jl;rw [iF (by omega),iF (by rw [hus];simp),iF (by omega),hv2];simp only [];rw [iF (by omega),iF (by omega),iF (by omega),iT hvt]
   exact kM X sA nA aA bA sc nc ac bc vA eA vc ec B s w hK h1 h2 h3 h4 h5 h6 ls ln l1 l2 hl 93 (.inr (.inr (.inr (.inr (⟨q,rfl⟩))))) hst hus v hv (.inl ⟨21,(by decide),(fun P sA nA aA bA sc nc ac bc vA eA vc ec w k r h1 h2 h3 h4 h5 h6 h7=>X5 P X sA nA aA bA sc nc ac bc vA eA vc ec v s w k r h1 h2 h3 h4 h5 h6 h7 hk2 ho hvt),hr⟩)
def ShX(X:Exg):Prop:=X.sec.length<=140737488351232/\X.non.length<=140737488351232/\X.k1.length<=140737488351232/\X.k2.length<=140737488351232
theorem kH(er:Int):ShX (jA er).2.1/\(jA er).2.2.2.length<=140737488351232:=⟨⟨by simp [jA,zX],by simp [jA,zX],by simp [jA,zX],by simp [jA,zX]⟩,by simp [jA]⟩
theorem Yo{e:Exg}(h:ShX e)(o:Int):ShX (kf e o).2:=by
 unfold kf
 split
 ·exact h
 ·exact⟨h.1,h.2.1,by show(xG _ _).length<=_;rw [jG];omega,by show(xG _ _).length<=_;rw [jG];omega⟩
theorem j4c(kd:Int)(sec v:List UInt8):(QL kd sec v).2.length<=140737488351232:=by
 unfold QL
 split
 ·simp
 ·split
  ·simp
  ·rename_i h
   show(zp _ Z16 v).length<=_
   rw [j08 _ _ (Classical.byContradiction h)]
   omega
theorem UZ(s:List UInt8):(sdW s).length<=140737488351232:=by unfold sdW;rw [je];omega
theorem j4t(s:List UInt8):(jt s 16).length<=140737488351232:=by rw [j4s];omega
section
variable(X:Exg)(B s:List UInt8)(h:ShX X)(hs:s.length<=140737488351232)
include X B s h hs
theorem j5u:ShX (jl X B s).2.1/\(jl X B s).2.2.2.length<=140737488351232:=by
 obtain⟨a,b,c,d⟩:=h
 unfold jl
 split
 ·exact kH _
 split
 ·exact kH _
 split
 ·split
  ·exact kH _
  ·exact⟨⟨a,b,c,d⟩,hs⟩
 split
 ·exact kH _
 split
 ·split
  all_goals
   exact⟨⟨a,j4c _ _ _,c,d⟩,UZ _⟩
 split
 ·split
  ·exact kH _
  ·split
   ·exact kH _
   ·exact⟨⟨a,b,c,d⟩,UZ _⟩
 split
 ·split
  ·exact kH _
  ·split
   ·exact kH _
   ·exact⟨Yo (e:=X) ⟨a,b,c,d⟩ _,hs⟩
 split
 ·exact kH _
 ·exact⟨⟨a,b,c,d⟩,hs⟩
theorem j4o:ShX (jv X B s).2.1/\(jv X B s).2.2.2.length<=140737488351232:=by
 obtain⟨a,b,c,d⟩:=h
 unfold jv
 split
 ·exact kH _
 split
 ·exact kH _
 split
 ·exact kH _
 split
 ·exact⟨⟨a,j4t _,c,d⟩,UZ _⟩
 split
 ·split
  ·exact⟨⟨a,b,c,d⟩,hs⟩
  ·split
   ·exact kH _
   ·split
    ·exact kH _
    ·exact⟨⟨a,b,c,d⟩,UZ _⟩
 split
 ·split
  ·exact kH _
  ·split
   ·exact kH _
   ·rename_i v _ _ _ _ _ _
    have:=Yo (e:={X with x:=jX s,own:=jM X.g (jX s)}) ⟨a,b,c,d⟩
    exact⟨this _,UZ _⟩
 split
 ·exact kH _
 ·exact⟨⟨a,b,c,d⟩,hs⟩
end
section
variable {kd m:Int} {sec:List UInt8}
end
theorem Un(B p n:Nat)(w:World)(h:Die B w p n):Calls Tryz.prog 37 #[.pointer (some ⟨p,0,none⟩)] w fun e w'=>∃m:Int,e=.returned (.int .i64 m)/\(m=2\/m=3)/\DiePost B w p n w':=by
 have H:=iH h
 clear h
 go_enter Tryz.func37,Tryz.ntmps37
 go_wp2_with(go_at_call 42;refine(kU B p n _ _ H.out (by decide) (by decide)).mono ?_;rintro e w1 ⟨z,rfl,hz,hd⟩;have HD:=iH hd;clear hd)
 go_ret
 exact⟨2+z,rfl,by omega,HD.out⟩
theorem j2w{v:Value}{k:Int}(hv:∀x,v≠U8 x):∀(i:Nat) (x:UInt8),#[v,.int .i64 k][i]? ≠some (U8 x):=by
 intro i x
 rcases i with _|_|i
 ·simpa using hv x
 ·simp [U8]
 ·simp
theorem BsS.offP{B p n:Nat}{w:World}{v:Value}{l:List UInt8}(h:Bs w w.heap.size v l)(hd:Die B w p n):BsS w (fun b=>b<w.heap.size/\b≠p) v l:=by
 obtain⟨u,at_,_,hr,hI,_⟩:=hd
 obtain⟨a,cc,rfl,_⟩:=hI
 exact BsS.keep (BsS.off h hr (j2w (by simp [U8]))) fun b hs hl=>⟨rfl,hl,hs.2⟩
structure VD (w:World) (n:Nat) (wx:World) (Rs:List (Nat×Array Value)) (L:List (Value×List UInt8)):Prop where
 ba:BA w n wx L
 rows:∀r∈Rs,w.heap.size<r.1/\wx.heap[r.1]?=some (.cells r.2 48 (0,0))
section
variable {w wx wy:World} {n:Nat} {Rs:List (Nat×Array Value)} {L:List (Value×List UInt8)} {v:Value} {l:List UInt8}
section
variable(h:VD w n wx Rs L)
include h
theorem VD.bel:Below w.heap.size w wx:=h.ba.bel
theorem VD.die:Die (w.heap.size+1) wx w.heap.size n:=h.ba.die
theorem VD.on(hb:Below wx.heap.size wx wy):VD w n wy Rs L:=
 ⟨h.ba.on hb,fun r hr=>⟨(h.rows r hr).1,(hb.block _ (lt_of_block (h.rows r hr).2)).trans (h.rows r hr).2⟩⟩
theorem VD.dice(hd:DiePost (w.heap.size+1) wx w.heap.size n wy):VD w n wy Rs L:=
 ⟨h.ba.dice hd,fun r hr=>⟨(h.rows r hr).1,(hd.2.block _ (lt_of_block (h.rows r hr).2) (fun e=>by injection e with e;have:=(h.rows r hr).1;omega)).trans (h.rows r hr).2⟩⟩
theorem VD.add(hv:Bs wx wx.heap.size v l):VD w n wx Rs ((v,l) :: L):=
 ⟨⟨h.ba.1,h.ba.2.1,fun x hx=>by
   rcases List.mem_cons.1 hx with rfl|hx
   ·exact BsS.offP hv h.die
   ·exact h.ba.2.2 x hx⟩,h.rows⟩
theorem VD.row(row:Array Value):VD w n (wx.alloc (.cells row 48)) ((wx.heap.size,row) :: Rs) L:=by
 have h':=h.on (jo wx (.cells row 48))
 exact⟨h'.ba,fun r hr=>by
  rcases List.mem_cons.1 hr with rfl|hr
  ·exact⟨h.ba.lt,iN⟩
  ·exact h'.rows r hr⟩
theorem VD.at(i:Nat)(hi:L[i]?=some (v,l)):Bs wx wx.heap.size v l:=(h.ba.at i hi).loB
end
theorem VD.rw{g:Nat}{row:Array Value}(h:VD w n wx Rs L)(i:Nat)(hi:Rs[i]?=some (g,row)):wx.heap[g]?=some (.cells row 48 (0,0)):=(h.rows (g,row) (List.mem_of_getElem? hi)).2
theorem VD.but{Rs':List (Nat×Array Value)}{L':List (Value×List UInt8)}(h:VD w n wx Rs L)(hr:∀r∈Rs',r∈Rs)(hl:∀x∈L',x∈L):VD w n wx Rs' L':=⟨h.ba.but _ hl,fun r hx=>h.rows r (hr r hx)⟩
theorem VD.fill{g:Nat}{a' b' c' d' e' f' g' h' i' j' k' l':Value}(h:VD w n wx ((g,#[a',b',c',d',e',f',g',h',i',j',k',l']) :: Rs) L)(hne:∀r∈Rs,r.1≠g)(hC:∀(i:Nat) (x:UInt8),#[a',b',c',d',e',f',g',h',i',j',k',l'][i]? ≠some (U8 x))(a b c d e f q r i j k o:Value):
 VD w n (set12 wx g a b c d e f q r i j k o) ((g,#[a,b,c,d,e,f,q,r,i,j,k,o]) :: Rs) L:=by
 have hr:=h.rows _ (.head _)
 have hp:=(PtW.start hr.2).set12 a b c d e f q r i j k o
 have hg:=hr.1
 refine⟨⟨h.die.keep hp.2.1.size fun b hb=>hp.2.1.block b (iZ hb h.die.le) (fun e=>by injection e with e;omega),h.bel.trans (hp.2.2.mono (by omega)),fun x hx=> ?_⟩,fun y hy=> ?_⟩
 ·exact BsS.keep (BsS.off (h.ba.2.2 x hx) hr.2 hC) fun b hs hl=>⟨hp.2.1.block b hl (fun e=>by injection e with e;exact hs.2 e),iZ hl hp.2.1.size,hs.1.2⟩
 ·rcases List.mem_cons.1 hy with rfl|hy
  ·exact⟨hg,hp.1⟩
  ·have h0:=h.rows y (.tail _ hy)
   exact⟨h0.1,(hp.2.1.block _ (lt_of_block h0.2) (fun e=>by injection e with e;exact hne y hy e)).trans h0.2⟩
end
theorem PWo{w wx wy:World}{n g:Nat}{o:Obj}(h:wx.heap[g]?=some o)(hd:DiePost (w.heap.size+1) wx w.heap.size n wy)(hg:w.heap.size<g):wy.heap[g]?=some o:=
 (hd.2.block _ (iG h) (fun e=>by injection e with e;omega)).trans h
theorem j6o{v:Value}{k:Int}(hv:∀x,v≠U8 x):∀(i:Nat) (x:UInt8),#[.int .i64 k,v][i]? ≠some (U8 x):=by
 intro i x
 rcases i with _|_|i
 ·simp [U8]
 ·simpa using hv x
 ·simp
theorem BA.set2{w wx:World}{n g:Nat}{L:List (Value×List UInt8)}{a b:Value}{t:TypeId}(h:BA w n wx L)(hr:wx.heap[g]?=some (.cells #[a,b] t (0,0)))(hg:w.heap.size<g)(hC:∀(i:Nat) (x:UInt8),#[a,b][i]? ≠some (U8 x))(x u:Value):
 BA w n ((wx.setCell ⟨g,0,none⟩ x).setCell ⟨g,1,none⟩ u) L:=by
 have hb:∀k,k≠g->((wx.setCell ⟨g,0,none⟩ x).setCell ⟨g,1,none⟩ u).heap[k]?=wx.heap[k]? :=fun k hk=>(setOther hk).trans (setOther hk)
 have hs:((wx.setCell ⟨g,0,none⟩ x).setCell ⟨g,1,none⟩ u).heap.size=wx.heap.size:=by simp [World.setCell]
 refine⟨h.die.keep (by rw [hs];exact Nat.le_refl _) fun k hk=>hb k (by omega),(h.bel.setCell (p:=⟨g,0,none⟩) (Nat.le_of_lt hg) _).setCell (p:=⟨g,1,none⟩) (Nat.le_of_lt hg) _,fun y hy=> ?_⟩
 exact BsS.keep (BsS.off (h.2.2 y hy) hr hC) fun k hk hl=>⟨hb k hk.2,by rw [hs];exact hl,hk.1.2⟩
theorem U3(t:Int)(v:List UInt8):(jB t v).length<=4096:=by
 unfold jB
 cases h:yi (kR t v)with
 |error e=>simp [bytesOf]
 |ok l=>
  unfold yi at h
  split at h
  ·cases h
  ·split at h
   ·cases h
   ·split at h
    ·cases h
    ·injection h with h;subst h;simp only [bytesOf];omega
theorem VG(er:Int):(jA er).2.2.1.length<=4096:=by simp [jA]
theorem j5t(X:Exg)(B s:List UInt8):(jl X B s).2.2.1.length<=4096:=by
 unfold jl
 repeat' split
 all_goals(try dsimp only)
 all_goals first|with_reducible exact U3 _ _|with_reducible exact VG _|simp
theorem j4n(X:Exg)(B s:List UInt8):(jv X B s).2.2.1.length<=4096:=by
 unfold jv
 repeat' split
 all_goals(try dsimp only)
 all_goals first|with_reducible exact U3 _ _|with_reducible exact VG _|simp
end Go.Proofs.YtalmmiojbmpmiaaGreatDoor
