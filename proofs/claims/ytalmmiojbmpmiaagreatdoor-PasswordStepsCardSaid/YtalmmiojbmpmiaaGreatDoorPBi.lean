/- Layer 21: the chip's step, with a value -/
import Derived.Test.YtalmmiojbmpmiaaGreatDoorPBh
set_option linter.all false
set_option maxRecDepth 100000
set_option maxHeartbeats 16000000
namespace Go.Proofs.YtalmmiojbmpmiaaGreatDoor
open Go.RowKit Go.Deep
theorem my{P:Prop}(h:P:=by
 have h4:X.st=0\/X.st=1\/X.st=2\/X.st=3:=by have:=HST.out;omega
 rcases h4 with h4|h4|h4|h4
 all_goals(rw [h4]at g3;have H4':=iH h4;clear h4;go_wp2_with fail;go_meet;exact⟨_,81,rfl,(iN).trans (by have hq:=HP3.out;simp at hq;simp [j4l,zS,j16,Qd,H4'.out,hq]),iA,by simp⟩)):P:=h
theorem m1t{P:Prop}(h:P:=by
 rcases HF.out with ⟨h4,rfl⟩|⟨h4,rfl⟩|⟨h4,rfl⟩|⟨h4,rfl⟩
 all_goals(rw [h4]at f3;clear h4;go_wp2_with fail;go_meet;exact⟨rfl,rfl⟩)):P:=h
theorem QL:∀(i:Nat) (x:UInt8),#[.int .i64 0,.slice none 0 0,.int .i64 0,.int .i64 0,.slice none 0 0,.int .i64 0,.int .i64 0,.int .i64 0,.int .i64 0,.slice none 0 0,.slice none 0 0,.int .i64 0][i]? ≠some (U8 x):=by
 intro i x
 rcases i with _|_|_|_|_|_|_|_|_|_|_|_|i
 all_goals simp
def j66(F:Nat)(X:Exg)(v s:List UInt8)(er:Int):Prop:=∀(P:Nat) (sA nA aA bA:Option Addr) (sc nc ac bc:Nat) (vA eA:Option Addr) (vc ec:Nat) (w:World),(∀W,Below P w W->KD W)->w.heap[P]?=some (.cells #[.int .i64 X.kd,.slice sA X.sec.length sc,.int .i64 X.pr,.int .i64 X.st,.slice nA X.non.length nc,.int .i64 X.x,.int .i64 X.g,.int .i64 X.own,.int .i64 X.oth,.slice aA X.k1.length ac,.slice bA X.k2.length bc,.int .i64 X.ct] 48 (0,0))->BsS w (j7 P w) (.slice sA X.sec.length sc) X.sec->BsS w (j7 P w) (.slice nA X.non.length nc) X.non->BsS w (j7 P w) (.slice aA X.k1.length ac) X.k1->BsS w (j7 P w) (.slice bA X.k2.length bc) X.k2->BsS w (j7 P w) (.slice vA v.length vc) v->BsS w (j7 P w) (.slice eA s.length ec) s->s.length<=140737488351232->Calls Tryz.prog F #[.pointer (some ⟨P,0,none⟩),.slice vA v.length vc,.slice eA s.length ec] w (JG P w er)
def j7a(F:Nat)(X:Exg)(v s:List UInt8)(tag:Int)(Y:Exg)(dt nx:List UInt8):Prop:=∀(P:Nat) (sA nA aA bA:Option Addr) (sc nc ac bc:Nat) (vA eA:Option Addr) (vc ec:Nat) (w:World),(∀W,Below P w W->KD W)->w.heap[P]?=some (.cells #[.int .i64 X.kd,.slice sA X.sec.length sc,.int .i64 X.pr,.int .i64 X.st,.slice nA X.non.length nc,.int .i64 X.x,.int .i64 X.g,.int .i64 X.own,.int .i64 X.oth,.slice aA X.k1.length ac,.slice bA X.k2.length bc,.int .i64 X.ct] 48 (0,0))->BsS w (j7 P w) (.slice sA X.sec.length sc) X.sec->BsS w (j7 P w) (.slice nA X.non.length nc) X.non->BsS w (j7 P w) (.slice aA X.k1.length ac) X.k1->BsS w (j7 P w) (.slice bA X.k2.length bc) X.k2->BsS w (j7 P w) (.slice vA v.length vc) v->BsS w (j7 P w) (.slice eA s.length ec) s->s.length<=140737488351232->Calls Tryz.prog F #[.pointer (some ⟨P,0,none⟩),.slice vA v.length vc,.slice eA s.length ec] w (yI P w tag Y dt nx)
def j16(X:Exg):Nat:=if X.st=0 then 0 else Qd X
theorem Yw(X:Exg)(B:List UInt8):kw B (zS X.st) (j16 X)=kw B (zS X.st) (Qd X):=by
 unfold j16
 split
 ·rename_i h
  rw [show zS X.st=0 by unfold zS;rw [iT h]]
  unfold kw Kq
  rfl
 ·rfl
section
variable(m:Int)(w:World)
include m w
theorem j7d:(Instr.index 82 (.agg #[.int .i64 (-1),.int .i64 0,.int .i64 129,.int .i64 m,.int .i64 131,.int .i64 4,.int .i64 133,.int .i64 8]) (.int .i64 0)).run Tryz.prog w=.ok (.agg #[.int .i64 (-1),.int .i64 0]) w:=by kernel_rfl
theorem j7e:(Instr.index 82 (.agg #[.int .i64 (-1),.int .i64 0,.int .i64 129,.int .i64 m,.int .i64 131,.int .i64 4,.int .i64 133,.int .i64 8]) (.int .i64 1)).run Tryz.prog w=.ok (.agg #[.int .i64 (129),.int .i64 m]) w:=by kernel_rfl
theorem j7f:(Instr.index 82 (.agg #[.int .i64 (-1),.int .i64 0,.int .i64 129,.int .i64 m,.int .i64 131,.int .i64 4,.int .i64 133,.int .i64 8]) (.int .i64 2)).run Tryz.prog w=.ok (.agg #[.int .i64 (131),.int .i64 4]) w:=by kernel_rfl
theorem j7g:(Instr.index 82 (.agg #[.int .i64 (-1),.int .i64 0,.int .i64 129,.int .i64 m,.int .i64 131,.int .i64 4,.int .i64 133,.int .i64 8]) (.int .i64 3)).run Tryz.prog w=.ok (.agg #[.int .i64 (133),.int .i64 8]) w:=by kernel_rfl
end
theorem j82(w:World):(Instr.index 88 (.agg #[.func (.func 71) #[] #[],.func (.func 72) #[] #[],.func (.func 73) #[] #[],.func (.func 74) #[] #[]]) (.int .i64 0)).run Tryz.prog w=.ok (.func (.func 71) #[] #[]) w:=by kernel_rfl
theorem j83(w:World):(Instr.index 88 (.agg #[.func (.func 71) #[] #[],.func (.func 72) #[] #[],.func (.func 73) #[] #[],.func (.func 74) #[] #[]]) (.int .i64 1)).run Tryz.prog w=.ok (.func (.func 72) #[] #[]) w:=by kernel_rfl
theorem j84(w:World):(Instr.index 88 (.agg #[.func (.func 71) #[] #[],.func (.func 72) #[] #[],.func (.func 73) #[] #[],.func (.func 74) #[] #[]]) (.int .i64 2)).run Tryz.prog w=.ok (.func (.func 73) #[] #[]) w:=by kernel_rfl
theorem j85(w:World):(Instr.index 88 (.agg #[.func (.func 71) #[] #[],.func (.func 72) #[] #[],.func (.func 73) #[] #[],.func (.func 74) #[] #[]]) (.int .i64 3)).run Tryz.prog w=.ok (.func (.func 74) #[] #[]) w:=by kernel_rfl
section
variable(X:Exg)(sA nA aA bA:Option Addr)(sc nc ac bc:Nat)(vA eA:Option Addr)(vc ec:Nat)(B s:List UInt8)(w:World)(hK:KD w)(h1:Bs w w.heap.size (.slice sA X.sec.length sc) X.sec)(h2:Bs w w.heap.size (.slice nA X.non.length nc) X.non)(h3:Bs w w.heap.size (.slice aA X.k1.length ac) X.k1)(h4:Bs w w.heap.size (.slice bA X.k2.length bc) X.k2)(h5:Bs w w.heap.size (.slice vA B.length vc) B)(h6:Bs w w.heap.size (.slice eA s.length ec) s)(ls:X.sec.length<=140737488351232)(ln:X.non.length<=140737488351232)(l1:X.k1.length<=140737488351232)(l2:X.k2.length<=140737488351232)(hl:s.length<=140737488351232)
include X sA nA aA bA sc nc ac bc vA eA vc ec B s w hK h1 h2 h3 h4 h5 h6 ls ln l1 l2 hl
theorem VI(hst:0<=X.st/\X.st<=3)(hus:usC X=true)(hv:kw B (zS X.st) (Qd X)=none):Calls Tryz.prog 33 #[.agg #[.int .i64 X.kd,.slice sA X.sec.length sc,.int .i64 X.pr,.int .i64 X.st,.slice nA X.non.length nc,.int .i64 X.x,.int .i64 X.g,.int .i64 X.own,.int .i64 X.oth,.slice aA X.k1.length ac,.slice bA X.k2.length bc,.int .i64 X.ct],.slice vA B.length vc,.slice eA s.length ec] w (ExO (jv X B s) w):=by
 have R:Hid (jv X B s=jI 1):=iH (by unfold jv;rw [iF (by omega),iF (by rw [hus];simp),hv])
 have HUS:=iH hus;have HST:=iH hst;have HV:=iH hv
 obtain⟨w0,HW0,HB0,HSZ,FR,FZ,H1,H2,H3,H4,H5,H6⟩:=Za X sA nA aA bA sc nc ac bc h1 h2 h3 h4 h5 h6
 have HK:=iH hK;have HLN:=iH (And.intro ls (And.intro ln (And.intro l1 l2)));have HL:=iH hl
 obtain⟨f0,f1,f2,f3,f4,f5,f6,f7,f8,f9,f10,f11,ff⟩:=j4 (FR.out w0 iB)
 obtain⟨z0,z1,z2,z3,z4,z5,z6,z7,z8,z9,z10,z11,zf⟩:=j4 (FZ.out w0 iB)
 have zf0:=zf 0;have zf1:=zf 1;have zf2:=zf 2;have zf3:=zf 3;have zf4:=zf 4;have zf5:=zf 5;have zf6:=zf 6;have zf7:=zf 7;have zf8:=zf 8;have zf9:=zf 9;have zf10:=zf 10;have zf11:=zf 11
 clear hK h1 h2 h3 h4 h5 h6 ls ln l1 l2 hl zf ff
 have d0:decide (X.st<0)=false:=decide_eq_false (by omega)
 have d3:decide (3<X.st)=false:=decide_eq_false (by omega)
 clear hus hst hv
 obtain⟨o5,e5⟩:∃o,(X.pr==3)=o:=⟨_,rfl⟩
 cases o5
 all_goals(
  have HP3:=iH e5
  go_enter Tryz.func33,Tryz.ntmps33
  go_upto_region 1 with fail
  rw [<-HW0.out]
  go_upto_region 6 with (go_at_call 68;refine(za X sA nA aA bA sc nc ac bc w0 H3.out H4.out HLN.out.2.2.1 HLN.out.2.2.2).mono ?_;rw [HUS.out];rintro e w1 ⟨rfl,hb⟩;have HB1:=iH hb;clear f0 f1 f2 f3 f4 f5 f6 f7 f8 f9 f10 f11;obtain⟨g0,g1,g2,g3,g4,g5,g6,g7,g8,g9,g10,g11,gf⟩:=j4 (FR.out _ hb);clear z0 zf0 z1 zf1 z2 zf2 z3 zf3 z4 zf4 z5 zf5 z6 zf6 z7 zf7 z8 zf8 z9 zf9 z10 zf10 z11 zf11;obtain⟨z0,z1,z2,z3,z4,z5,z6,z7,z8,z9,z10,z11,zf⟩:=j4 (FZ.out _ hb);have zf0:=zf 0;have zf1:=zf 1;have zf2:=zf 2;have zf3:=zf 3;have zf4:=zf 4;have zf5:=zf 5;have zf6:=zf 6;have zf7:=zf 7;have zf8:=zf 8;have zf9:=zf 9;have zf10:=zf 10;have zf11:=zf 11;clear hb zf gf)
  go_upto_region 8 with fail
  have I0:=j7d;have I1:=j7e;have I2:=j7f;have I3:=j7g
  go_cut [11] from 33 to 41 (fun y wc=>∃q ty,y=.pointer (some ⟨q,0,none⟩)/\wc.heap[q]?=some (.cells #[.int .i64 (j4l X.st),.int .i64 (j16 X)] ty (0,0))/\Below w1.heap.size w1 wc/\q<wc.heap.size)
  case first=>
   exact my
  case rest=>
  obtain⟨q,ty,rfl,hq,hbw,hql⟩:=hcut
  obtain⟨q0,q1,_⟩:=two hq
  have HBC:=iH (HB1.out.trans (hbw.mono HB1.out.size))
  clear hq hbw hql g0 g1 g2 g3 g4 g5 g6 g7 g8 g9 g10 g11 z0 zf0 z1 zf1 z2 zf2 z3 zf3 z4 zf4 z5 zf5 z6 zf6 z7 zf7 z8 zf8 z9 zf9 z10 zf10 z11 zf11 e5
  go_upto_region 11 with (go_at_call 69;refine(Kp X.st HST.out (j16 X) B _ _ (Bs.lift H5.out HBC.out)).mono ?_;rw [Yw,HV.out];rintro e w2 ⟨v2,rfl,hs,hb⟩;obtain⟨A2,c2,hv2⟩:=Bs.formL hs;subst hv2;have GV:=iH hs;have HB2:=iH (HBC.out.trans (hb.mono HBC.out.size));obtain⟨f0,f1,f2,f3,f4,f5,f6,f7,f8,f9,f10,f11,ff⟩:=j4 (FR.out _ HB2.out);obtain⟨z0,z1,z2,z3,z4,z5,z6,z7,z8,z9,z10,z11,zf⟩:=j4 (FZ.out _ HB2.out);have zf0:=zf 0;have zf1:=zf 1;have zf2:=zf 2;have zf3:=zf 3;have zf4:=zf 4;have zf5:=zf 5;have zf6:=zf 6;have zf7:=zf 7;have zf8:=zf 8;have zf9:=zf 9;have zf10:=zf 10;have zf11:=zf 11;clear hs hb ff zf)
  go_wp2_with fail
  obtain⟨y0,y1,y2,y3,y4,y5,y6,y7,y8,y9,y10,y11,yf⟩:=j4 ((PtW.start (FZ.out w2 HB2.out)).set12 (.int .i64 0) (.slice none 0 0) (.int .i64 0) (.int .i64 0) (.slice none 0 0) (.int .i64 0) (.int .i64 0) (.int .i64 0) (.int .i64 0) (.slice none 0 0) (.slice none 0 0) (.int .i64 0)).1
  unfold Go.Proofs.YtalmmiojbmpmiaaGreatDoor.set12 at y0 y1 y2 y3 y4 y5 y6 y7 y8 y9 y10 y11
  refine bodyPost_ret (v:=.tuple #[.agg #[.int .i64 0,.slice none 0 0,.int .i64 0,.int .i64 0,.slice none 0 0,.int .i64 0,.int .i64 0,.int .i64 0,.int .i64 0,.slice none 0 0,.slice none 0 0,.int .i64 0],.slice none 0 0,.slice none 0 0,.int .i64 1]) (by simp [results,Tryz.results33,go_sem,y0,y1,y2,y3,y4,y5,y6,y7,y8,y9,y10,y11]) rfl ?_
  exact ExO.err R.out ((HB0.out.trans (HB2.out.mono HB0.out.size)).trans (Below.mono (((PtW.start (FZ.out _ HB2.out)).set12 (.int .i64 0) (.slice none 0 0) (.int .i64 0) (.int .i64 0) (.slice none 0 0) (.int .i64 0) (.int .i64 0) (.int .i64 0) (.int .i64 0) (.slice none 0 0) (.slice none 0 0) (.int .i64 0)).2.2) (Nat.le_succ _))))
theorem zW(F:Nat)(hF:(X.st=0/\F=71)\/(X.st=1/\F=72)\/(X.st=2/\F=73)\/(X.st=3/\F=74))(hst:0<=X.st/\X.st<=3)(hus:usC X=true)(v:List UInt8)(hv:kw B (zS X.st) (Qd X)=some v)(er:Int)(he:(er != 0)=true)(hdo:j66 F X v s er)(hr:jv X B s=jI er):Calls Tryz.prog 33 #[.agg #[.int .i64 X.kd,.slice sA X.sec.length sc,.int .i64 X.pr,.int .i64 X.st,.slice nA X.non.length nc,.int .i64 X.x,.int .i64 X.g,.int .i64 X.own,.int .i64 X.oth,.slice aA X.k1.length ac,.slice bA X.k2.length bc,.int .i64 X.ct],.slice vA B.length vc,.slice eA s.length ec] w (ExO (jv X B s) w):=by
 have R:=iH hr
 have HF:=iH hF;have HUS:=iH hus;have HST:=iH hst;have HV:=iH hv;have HDO:=iH hdo
 obtain⟨w0,HW0,HB0,HSZ,FR,FZ,H1,H2,H3,H4,H5,H6⟩:=Za X sA nA aA bA sc nc ac bc h1 h2 h3 h4 h5 h6
 have HK:=iH hK;have HLN:=iH (And.intro ls (And.intro ln (And.intro l1 l2)));have HL:=iH hl
 obtain⟨f0,f1,f2,f3,f4,f5,f6,f7,f8,f9,f10,f11,ff⟩:=j4 (FR.out w0 iB)
 obtain⟨z0,z1,z2,z3,z4,z5,z6,z7,z8,z9,z10,z11,zf⟩:=j4 (FZ.out w0 iB)
 have zf0:=zf 0;have zf1:=zf 1;have zf2:=zf 2;have zf3:=zf 3;have zf4:=zf 4;have zf5:=zf 5;have zf6:=zf 6;have zf7:=zf 7;have zf8:=zf 8;have zf9:=zf 9;have zf10:=zf 10;have zf11:=zf 11
 clear hK h1 h2 h3 h4 h5 h6 ls ln l1 l2 hl zf ff
 have d0:decide (X.st<0)=false:=decide_eq_false (by omega)
 have d3:decide (3<X.st)=false:=decide_eq_false (by omega)
 clear hF hus hst hv hdo hr
 obtain⟨o5,e5⟩:∃o,(X.pr==3)=o:=⟨_,rfl⟩
 cases o5
 all_goals(
  have HP3:=iH e5
  go_enter Tryz.func33,Tryz.ntmps33
  go_upto_region 1 with fail
  rw [<-HW0.out]
  go_upto_region 6 with (go_at_call 68;refine(za X sA nA aA bA sc nc ac bc w0 H3.out H4.out HLN.out.2.2.1 HLN.out.2.2.2).mono ?_;rw [HUS.out];rintro e w1 ⟨rfl,hb⟩;have HB1:=iH hb;clear f0 f1 f2 f3 f4 f5 f6 f7 f8 f9 f10 f11;obtain⟨g0,g1,g2,g3,g4,g5,g6,g7,g8,g9,g10,g11,gf⟩:=j4 (FR.out _ hb);clear z0 zf0 z1 zf1 z2 zf2 z3 zf3 z4 zf4 z5 zf5 z6 zf6 z7 zf7 z8 zf8 z9 zf9 z10 zf10 z11 zf11;obtain⟨z0,z1,z2,z3,z4,z5,z6,z7,z8,z9,z10,z11,zf⟩:=j4 (FZ.out _ hb);have zf0:=zf 0;have zf1:=zf 1;have zf2:=zf 2;have zf3:=zf 3;have zf4:=zf 4;have zf5:=zf 5;have zf6:=zf 6;have zf7:=zf 7;have zf8:=zf 8;have zf9:=zf 9;have zf10:=zf 10;have zf11:=zf 11;clear hb zf gf)
  go_upto_region 8 with fail
  have I0:=j7d;have I1:=j7e;have I2:=j7f;have I3:=j7g
  go_cut [11] from 33 to 41 (fun y wc=>∃q ty,y=.pointer (some ⟨q,0,none⟩)/\wc.heap[q]?=some (.cells #[.int .i64 (j4l X.st),.int .i64 (j16 X)] ty (0,0))/\Below w1.heap.size w1 wc/\q<wc.heap.size)
  case first=>
   exact my
  case rest=>
  obtain⟨q,ty,rfl,hq,hbw,hql⟩:=hcut
  obtain⟨q0,q1,_⟩:=two hq
  have HBC:=iH (HB1.out.trans (hbw.mono HB1.out.size))
  clear hq hbw hql g0 g1 g2 g3 g4 g5 g6 g7 g8 g9 g10 g11 z0 zf0 z1 zf1 z2 zf2 z3 zf3 z4 zf4 z5 zf5 z6 zf6 z7 zf7 z8 zf8 z9 zf9 z10 zf10 z11 zf11 e5
  go_upto_region 12 with (go_at_call 69;refine(Kp X.st HST.out (j16 X) B _ _ (Bs.lift H5.out HBC.out)).mono ?_;rw [Yw,HV.out];rintro e w2 ⟨v2,rfl,hs,hb⟩;obtain⟨A2,c2,hv2⟩:=Bs.formL hs;subst hv2;have GV:=iH hs;have HB2:=iH (HBC.out.trans (hb.mono HBC.out.size));obtain⟨f0,f1,f2,f3,f4,f5,f6,f7,f8,f9,f10,f11,ff⟩:=j4 (FR.out _ HB2.out);obtain⟨z0,z1,z2,z3,z4,z5,z6,z7,z8,z9,z10,z11,zf⟩:=j4 (FZ.out _ HB2.out);have zf0:=zf 0;have zf1:=zf 1;have zf2:=zf 2;have zf3:=zf 3;have zf4:=zf 4;have zf5:=zf 5;have zf6:=zf 6;have zf7:=zf 7;have zf8:=zf 8;have zf9:=zf 9;have zf10:=zf 10;have zf11:=zf 11;clear hs hb ff zf)
  go_upto_region 13 with (go_at_call 70;refine(qX X sA nA aA bA sc nc ac bc w2 (H1.out.lift HB2.out) (H2.out.lift HB2.out) (H3.out.lift HB2.out) (H4.out.lift HB2.out) HLN.out.1 HLN.out.2.1 HLN.out.2.2.1 HLN.out.2.2.2).mono ?_;rintro e w3 ⟨sB,nB,aB,bB,sd,nd,ad,bd,rfl,k1,k2,k3,k4,hb⟩;have HB3:=iH (HB2.out.trans (hb.mono HB2.out.size));have hpz:=PtW.start (FZ.out _ HB3.out);clear f0 f1 f2 f3 f4 f5 f6 f7 f8 f9 f10 f11 z0 zf0 z1 zf1 z2 zf2 z3 zf3 z4 zf4 z5 zf5 z6 zf6 z7 zf7 z8 zf8 z9 zf9 z10 zf10 z11 zf11;obtain⟨f0,f1,f2,f3,f4,f5,f6,f7,f8,f9,f10,f11,ff⟩:=j4 (FR.out _ HB3.out);obtain⟨z0,z1,z2,z3,z4,z5,z6,z7,z8,z9,z10,z11,zf⟩:=j4 hpz.1;have zf0:=zf 0;have zf1:=zf 1;have zf2:=zf 2;have zf3:=zf 3;have zf4:=zf 4;have zf5:=zf 5;have zf6:=zf 6;have zf7:=zf 7;have zf8:=zf 8;have zf9:=zf 9;have zf10:=zf 10;have zf11:=zf 11;have G1:=iH (BsS.madeB (p:=w.heap.size+1) k1 (by have:=HSZ.out;have:=HB2.out.size;omega));have G2:=iH (BsS.madeB (p:=w.heap.size+1) k2 (by have:=HSZ.out;have:=HB2.out.size;omega));have G3:=iH (BsS.madeB (p:=w.heap.size+1) k3 (by have:=HSZ.out;have:=HB2.out.size;omega));have G4:=iH (BsS.madeB (p:=w.heap.size+1) k4 (by have:=HSZ.out;have:=HB2.out.size;omega));have G5:=iH (BsS.onB (BsS.madeB (p:=w.heap.size+1) GV.out (by have:=HSZ.out;have:=HBC.out.size;omega)) hb);have HPZ:=iH hpz;clear k1 k2 k3 k4 hb hpz ff zf)
  obtain⟨w4,hw4⟩:∃z,z=set12 w3 (w.heap.size+1) (.int .i64 X.kd) (.slice sB X.sec.length sd) (.int .i64 X.pr) (.int .i64 X.st) (.slice nB X.non.length nd) (.int .i64 X.x) (.int .i64 X.g) (.int .i64 X.own) (.int .i64 X.oth) (.slice aB X.k1.length ad) (.slice bB X.k2.length bd) (.int .i64 X.ct):=⟨_,rfl⟩
  have hp4:PtW (w.heap.size+1) w3 w4 #[.int .i64 X.kd,.slice sB X.sec.length sd,.int .i64 X.pr,.int .i64 X.st,.slice nB X.non.length nd,.int .i64 X.x,.int .i64 X.g,.int .i64 X.own,.int .i64 X.oth,.slice aB X.k1.length ad,.slice bB X.k2.length bd,.int .i64 X.ct]:=by rw [hw4];exact HPZ.out.set12 (.int .i64 X.kd) (.slice sB X.sec.length sd) (.int .i64 X.pr) (.int .i64 X.st) (.slice nB X.non.length nd) (.int .i64 X.x) (.int .i64 X.g) (.int .i64 X.own) (.int .i64 X.oth) (.slice aB X.k1.length ad) (.slice bB X.k2.length bd) (.int .i64 X.ct)
  have g4:=fun {u:Value} {m:List UInt8} (h:BsS w3 (j7 (w.heap.size+1) w3) u m)=>(by rw [hw4];exact BsS.set12 h (.int .i64 X.kd) (.slice sB X.sec.length sd) (.int .i64 X.pr) (.int .i64 X.st) (.slice nB X.non.length nd) (.int .i64 X.x) (.int .i64 X.g) (.int .i64 X.own) (.int .i64 X.oth) (.slice aB X.k1.length ad) (.slice bB X.k2.length bd) (.int .i64 X.ct):BsS w4 (j7 (w.heap.size+1) w4) u m)
  have J1:=iH (g4 G1.out);have J2:=iH (g4 G2.out);have J3:=iH (g4 G3.out);have J4:=iH (g4 G4.out);have J5:=iH (g4 G5.out)
  have H6w:Hid (BsS w3 (j7 (w.heap.size+1) w3) (.slice eA s.length ec) s):=iH (BsS.keep (BsS.off (H6.out.lift HB3.out) (FZ.out _ HB3.out) QL) fun g hs _=>⟨rfl,hs⟩)
  have J6:=iH (g4 H6w.out)
  have HQ4:=iH hp4
  have hfr4:w4.heap[w.heap.size]?=some (.cells #[.int .i64 X.kd,.slice sA X.sec.length sc,.int .i64 X.pr,.int .i64 X.st,.slice nA X.non.length nc,.int .i64 X.x,.int .i64 X.g,.int .i64 X.own,.int .i64 X.oth,.slice aA X.k1.length ac,.slice bA X.k2.length bc,.int .i64 X.ct] 48 (0,0)):=(hp4.2.1.block w.heap.size (by have:=HSZ.out;have:=HB3.out.size;omega) (by intro e;injection e with e;omega)).trans (FR.out _ HB3.out)
  unfold Go.Proofs.YtalmmiojbmpmiaaGreatDoor.set12 at hw4
  rw [<-hw4]
  clear hw4 hp4 g4 f0 f1 f2 f3 f4 f5 f6 f7 f8 f9 f10 f11 z0 zf0 z1 zf1 z2 zf2 z3 zf3 z4 zf4 z5 zf5 z6 zf6 z7 zf7 z8 zf8 z9 zf9 z10 zf10 z11 zf11
  obtain⟨f0,f1,f2,f3,f4,f5,f6,f7,f8,f9,f10,f11,ff⟩:=j4 hfr4
  clear hfr4 ff
  have HK4:Hid (∀W,Below (w.heap.size+1) w4 W->KD W):=iH (fun W h=>HK.out.below (((HB0.out.trans (HB3.out.mono HB0.out.size)).mono iL).trans ((HQ4.out.2.2.mono (Nat.le_succ _)).trans (h.mono (Nat.le_succ _)))) HK.out.lt)
  have I0:=j82;have I1:=j83;have I2:=j84;have I3:=j85
  have HCF:∀(args:Array Value) (W:World),Sem.run Tryz.prog (callFunc F args) W=.ok (.enter F args) W:=by rcases HF.out with ⟨_,rfl⟩|⟨_,rfl⟩|⟨_,rfl⟩|⟨_,rfl⟩<;>(intro args W;kernel_rfl)
  go_cut [14] from 56 to 59 (fun y wc=>y=.func (.func F) #[] #[]/\wc=w4)
  case first=>
   exact m1t
  case rest=>
  obtain⟨rfl,hwc⟩:=hcut
  have hwc:=hwc.symm
  subst hwc
  clear I0 I1 I2 I3
  go_wp2_with(refine(HDO.out (w.heap.size+1) sB nB aB bB sd nd ad bd A2 eA c2 ec _ HK4.out HQ4.out.1 J1.out J2.out J3.out J4.out J5.out J6.out HL.out).mono ?_;rintro e w5 ⟨rfl,e0,e1,e2,e3,e4,e5,e6,e7,e8,e9,e10,e11,hpt⟩;have HPT:=iH hpt;obtain⟨p0,p1,p2,p3,p4,p5,p6,p7,p8,p9,p10,p11,pf⟩:=j4 hpt.1;have pf0:=pf 0;have pf1:=pf 1;have pf2:=pf 2;have pf3:=pf 3;have pf4:=pf 4;have pf5:=pf 5;have pf6:=pf 6;have pf7:=pf 7;have pf8:=pf 8;have pf9:=pf 9;have pf10:=pf 10;have pf11:=pf 11;clear hpt pf)
  obtain⟨y0,y1,y2,y3,y4,y5,y6,y7,y8,y9,y10,y11,yf⟩:=j4 (HPT.out.set12 (.int .i64 0) (.slice none 0 0) (.int .i64 0) (.int .i64 0) (.slice none 0 0) (.int .i64 0) (.int .i64 0) (.int .i64 0) (.int .i64 0) (.slice none 0 0) (.slice none 0 0) (.int .i64 0)).1
  unfold Go.Proofs.YtalmmiojbmpmiaaGreatDoor.set12 at y0 y1 y2 y3 y4 y5 y6 y7 y8 y9 y10 y11
  refine bodyPost_ret (v:=.tuple #[.agg #[.int .i64 0,.slice none 0 0,.int .i64 0,.int .i64 0,.slice none 0 0,.int .i64 0,.int .i64 0,.int .i64 0,.int .i64 0,.slice none 0 0,.slice none 0 0,.int .i64 0],.slice none 0 0,.slice none 0 0,.int .i64 er]) (by simp [results,Tryz.results33,go_sem,y0,y1,y2,y3,y4,y5,y6,y7,y8,y9,y10,y11]) rfl ?_
  exact ExO.err R.out ((HB0.out.trans (HB3.out.mono HB0.out.size)).trans (Below.mono ((HQ4.out.2.2.trans HPT.out.2.2).trans (((PtW.start HPT.out.1).set12 (.int .i64 0) (.slice none 0 0) (.int .i64 0) (.int .i64 0) (.slice none 0 0) (.int .i64 0) (.int .i64 0) (.int .i64 0) (.int .i64 0) (.slice none 0 0) (.slice none 0 0) (.int .i64 0)).2.2)) (Nat.le_succ _))))
end
end Go.Proofs.YtalmmiojbmpmiaaGreatDoor
