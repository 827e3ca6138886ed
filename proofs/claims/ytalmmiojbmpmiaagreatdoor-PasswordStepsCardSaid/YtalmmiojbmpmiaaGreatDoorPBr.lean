/- Layer 21: the chip's step, with a value; Layer 21: public, agree, code; Layer 21: code, chipCheck, terminalCheck; Layer 21: the chip agrees; Layer 21: chipCh... -/
import Derived.Test.YtalmmiojbmpmiaaGreatDoorPBp
import Derived.Test.YtalmmiojbmpmiaaGreatDoorPBq
set_option linter.all false
set_option maxRecDepth 100000
set_option maxHeartbeats 16000000
namespace Go.Proofs.YtalmmiojbmpmiaaGreatDoor
open Go.RowKit Go.Deep
theorem Zo:∀(i:Nat) (x:UInt8),#[.int .i64 0,.slice none 0 0,.int .i64 0,.int .i64 0,.slice none 0 0,.int .i64 0,.int .i64 0,.int .i64 0,.int .i64 0,.slice none 0 0,.slice none 0 0,.int .i64 0][i]? ≠some (U8 x):=by
 intro i x
 rcases i with _|_|_|_|_|_|_|_|_|_|_|_|i
 all_goals simp
def j65(F:Nat)(X:Exg)(v s:List UInt8)(er:Int):Prop:=∀(P:Nat) (sA nA aA bA:Option Addr) (sc nc ac bc:Nat) (vA eA:Option Addr) (vc ec:Nat) (w:World),(∀W,Below P w W->KD W)->w.heap[P]?=some (.cells (exX X sA nA aA bA sc nc ac bc) 48 (0,0))->BsS w (j9 P w) (.slice sA X.sec.length sc) X.sec->BsS w (j9 P w) (.slice nA X.non.length nc) X.non->BsS w (j9 P w) (.slice aA X.k1.length ac) X.k1->BsS w (j9 P w) (.slice bA X.k2.length bc) X.k2->BsS w (j9 P w) (.slice vA v.length vc) v->BsS w (j9 P w) (.slice eA s.length ec) s->s.length<=140737488351232->Calls Tryz.prog F #[.pointer (some ⟨P,0,none⟩),.slice vA v.length vc,.slice eA s.length ec] w (Jp P w er)
def j7r(F:Nat)(X:Exg)(v s:List UInt8)(tag:Int)(Y:Exg)(dt nx:List UInt8):Prop:=∀(P:Nat) (sA nA aA bA:Option Addr) (sc nc ac bc:Nat) (vA eA:Option Addr) (vc ec:Nat) (w:World),(∀W,Below P w W->KD W)->w.heap[P]?=some (.cells (exX X sA nA aA bA sc nc ac bc) 48 (0,0))->BsS w (j9 P w) (.slice sA X.sec.length sc) X.sec->BsS w (j9 P w) (.slice nA X.non.length nc) X.non->BsS w (j9 P w) (.slice aA X.k1.length ac) X.k1->BsS w (j9 P w) (.slice bA X.k2.length bc) X.k2->BsS w (j9 P w) (.slice vA v.length vc) v->BsS w (j9 P w) (.slice eA s.length ec) s->s.length<=140737488351232->Calls Tryz.prog F #[.pointer (some ⟨P,0,none⟩),.slice vA v.length vc,.slice eA s.length ec] w (ym P w tag Y dt nx)
def j4e(X:Exg):Nat:=if X.st=0 then 0 else Xc X
theorem j1i(X:Exg)(B:List UInt8):kB B (yl X.st) (j4e X)=kB B (yl X.st) (Xc X):=by
 unfold j4e
 split
 ·rename_i h
  rw [show yl X.st=0 by unfold yl;rw [iT h]]
  unfold kB K9
  rfl
 ·rfl
section
variable(m:Int)(w:World)
include m w
theorem j7u:(Instr.index 82 (.agg #[.int .i64 (-1),.int .i64 0,.int .i64 129,.int .i64 m,.int .i64 131,.int .i64 4,.int .i64 133,.int .i64 8]) (.int .i64 0)).run Tryz.prog w=.ok (.agg #[.int .i64 (-1),.int .i64 0]) w:=by kernel_rfl
theorem j7v:(Instr.index 82 (.agg #[.int .i64 (-1),.int .i64 0,.int .i64 129,.int .i64 m,.int .i64 131,.int .i64 4,.int .i64 133,.int .i64 8]) (.int .i64 1)).run Tryz.prog w=.ok (.agg #[.int .i64 (129),.int .i64 m]) w:=by kernel_rfl
theorem j7w:(Instr.index 82 (.agg #[.int .i64 (-1),.int .i64 0,.int .i64 129,.int .i64 m,.int .i64 131,.int .i64 4,.int .i64 133,.int .i64 8]) (.int .i64 2)).run Tryz.prog w=.ok (.agg #[.int .i64 (131),.int .i64 4]) w:=by kernel_rfl
theorem j7x:(Instr.index 82 (.agg #[.int .i64 (-1),.int .i64 0,.int .i64 129,.int .i64 m,.int .i64 131,.int .i64 4,.int .i64 133,.int .i64 8]) (.int .i64 3)).run Tryz.prog w=.ok (.agg #[.int .i64 (133),.int .i64 8]) w:=by kernel_rfl
end
theorem j8b(w:World):(Instr.index 88 (.agg #[.func (.func 71) #[] #[],.func (.func 72) #[] #[],.func (.func 73) #[] #[],.func (.func 74) #[] #[]]) (.int .i64 0)).run Tryz.prog w=.ok (.func (.func 71) #[] #[]) w:=by kernel_rfl
theorem j8c(w:World):(Instr.index 88 (.agg #[.func (.func 71) #[] #[],.func (.func 72) #[] #[],.func (.func 73) #[] #[],.func (.func 74) #[] #[]]) (.int .i64 1)).run Tryz.prog w=.ok (.func (.func 72) #[] #[]) w:=by kernel_rfl
theorem j8d(w:World):(Instr.index 88 (.agg #[.func (.func 71) #[] #[],.func (.func 72) #[] #[],.func (.func 73) #[] #[],.func (.func 74) #[] #[]]) (.int .i64 2)).run Tryz.prog w=.ok (.func (.func 73) #[] #[]) w:=by kernel_rfl
theorem j8e(w:World):(Instr.index 88 (.agg #[.func (.func 71) #[] #[],.func (.func 72) #[] #[],.func (.func 73) #[] #[],.func (.func 74) #[] #[]]) (.int .i64 3)).run Tryz.prog w=.ok (.func (.func 74) #[] #[]) w:=by kernel_rfl
theorem Vv(X:Exg)(sA nA aA bA:Option Addr)(sc nc ac bc:Nat)(vA eA:Option Addr)(vc ec:Nat)(B s:List UInt8)(w:World)(hK:KD w)(h1:Bs w w.heap.size (.slice sA X.sec.length sc) X.sec)(h2:Bs w w.heap.size (.slice nA X.non.length nc) X.non)(h3:Bs w w.heap.size (.slice aA X.k1.length ac) X.k1)(h4:Bs w w.heap.size (.slice bA X.k2.length bc) X.k2)(h5:Bs w w.heap.size (.slice vA B.length vc) B)(h6:Bs w w.heap.size (.slice eA s.length ec) s)(ls:X.sec.length<=140737488351232)(ln:X.non.length<=140737488351232)(l1:X.k1.length<=140737488351232)(l2:X.k2.length<=140737488351232)(hl:s.length<=140737488351232)(hst:0<=X.st/\X.st<=3)(hus:usC X=true)(hv:kB B (yl X.st) (Xc X)=none):Calls Tryz.prog 33 #[.agg #[.int .i64 X.kd,.slice sA X.sec.length sc,.int .i64 X.pr,.int .i64 X.st,.slice nA X.non.length nc,.int .i64 X.x,.int .i64 X.g,.int .i64 X.own,.int .i64 X.oth,.slice aA X.k1.length ac,.slice bA X.k2.length bc,.int .i64 X.ct],.slice vA B.length vc,.slice eA s.length ec] w (ExO (jv X B s) w):=by
 have R:Hid (jv X B s=jA 1):=iH (by unfold jv;rw [iF (by omega),iF (by rw [hus];simp),hv])
 have HUS:=iH hus;have HST:=iH hst;have HV:=iH hv
 obtain⟨w0,HW0,HB0,HSZ,FR,FZ,H1,H2,H3,H4,H5,H6⟩:=YN X sA nA aA bA sc nc ac bc h1 h2 h3 h4 h5 h6
 have HK:=iH hK;have HLN:=iH (And.intro ls (And.intro ln (And.intro l1 l2)));have HL:=iH hl
 have f:=j4 (FR.out w0 iB)
 have z:=j4 (FZ.out w0 iB)
 clear hK h1 h2 h3 h4 h5 h6 ls ln l1 l2 hl
 have d0:decide (X.st<0)=false:=decide_eq_false (by omega)
 have d3:decide (3<X.st)=false:=decide_eq_false (by omega)
 clear hus hst hv
 obtain⟨o5,e5⟩:∃o,(X.pr==3)=o:=⟨_,rfl⟩
 cases o5
 all_goals(
  have HP3:=iH e5
  go_enter Tryz.func33,Tryz.ntmps33
  go_upto_region 1 with fail
  rw [<-HW0.out]
  go_upto_region 6 with (go_at_call 68;refine(yn X sA nA aA bA sc nc ac bc w0 H3.out H4.out HLN.out.2.2.1 HLN.out.2.2.2).mono ?_;rw [HUS.out];rintro e w1 ⟨rfl,hb⟩;have HB1:=iH hb;clear f;obtain⟨g0,g1,g2,g3,g4,g5,g6,g7,g8,g9,g10,g11,gf⟩:=j4 (FR.out _ hb);clear z;have z:=j4 (FZ.out _ hb);clear hb gf)
  go_upto_region 8 with fail
  have I0:=j7u;have I1:=j7v;have I2:=j7w;have I3:=j7x
  go_cut [11] from 33 to 41 (fun y wc=>∃q ty,y=.pointer (some ⟨q,0,none⟩)/\wc.heap[q]?=some (.cells #[.int .i64 (j64 X.st),.int .i64 (j4e X)] ty (0,0))/\Below w1.heap.size w1 wc/\q<wc.heap.size)
  case first=>
   have h4:X.st=0\/X.st=1\/X.st=2\/X.st=3:=by have:=HST.out;omega
   rcases h4 with h4|h4|h4|h4
   all_goals(rw [h4]at g3;have H4':=iH h4;clear h4;go_wp2_with fail;go_meet;exact⟨_,81,rfl,(iN).trans (by have hq:=HP3.out;simp at hq;simp [j64,yl,j4e,Xc,H4'.out,hq]),iA,by simp⟩)
  case rest=>
  obtain⟨q,ty,rfl,hq,hbw,hql⟩:=hcut
  obtain⟨q0,q1,_⟩:=two hq
  have HBC:=iH (HB1.out.trans (hbw.mono HB1.out.size))
  clear hq hbw hql g0 g1 g2 g3 g4 g5 g6 g7 g8 g9 g10 g11 z e5
  go_upto_region 11 with (go_at_call 69;refine(Zg X.st HST.out (j4e X) B _ _ (Bs.lift H5.out HBC.out)).mono ?_;rw [j1i,HV.out];rintro e w2 ⟨v2,rfl,hs,hb⟩;obtain⟨A2,c2,hv2⟩:=Bs.formL hs;subst hv2;have GV:=iH hs;have HB2:=iH (HBC.out.trans (hb.mono HBC.out.size));have f:=j4 (FR.out _ HB2.out);have z:=j4 (FZ.out _ HB2.out);clear hs hb)
  go_wp2_with fail
  have y:=j4 ((PtW.start (FZ.out w2 HB2.out)).z12).1
  unfold Go.Proofs.YtalmmiojbmpmiaaGreatDoor.set12 at y
  refine bodyPost_ret (v:=.tuple #[.agg #[.int .i64 0,.slice none 0 0,.int .i64 0,.int .i64 0,.slice none 0 0,.int .i64 0,.int .i64 0,.int .i64 0,.int .i64 0,.slice none 0 0,.slice none 0 0,.int .i64 0],.slice none 0 0,.slice none 0 0,.int .i64 1]) (by simp [results,Tryz.results33,go_sem,y]) rfl ?_
  exact ExO.err R.out ((HB0.out.trans (HB2.out.mono HB0.out.size)).trans (Below.mono (((PtW.start (FZ.out _ HB2.out)).z12).2.2) (Nat.le_succ _))))
theorem j2e(x k:Int)(hx:0<x/\x<2147483579)(hk:0<=k/\k<=1073741789)(w:World):Calls Tryz.prog 57 #[.int .i64 x,.int .i64 k] w fun e w'=>e=.returned (.tuple #[.int .i64 (jM x k),.int .i64 0])/\w'=w:=by
 obtain⟨a,rfl⟩:∃a:Nat,x=a:=⟨x.toNat,by omega⟩
 obtain⟨b,rfl⟩:∃b:Nat,k=b:=⟨k.toNat,by omega⟩
 exact KE a b (by omega) (by omega) (by omega) w
theorem XD(k:Int)(hk:okS k=true)(w:World):Calls Tryz.prog 128 #[.int .i64 k] w fun e w'=>e=.returned (.tuple #[.int .i64 (jM 4 k),.int .i64 0])/\w'=w:=by
 have:=yP hk
 obtain⟨b,rfl⟩:∃b:Nat,k=b:=⟨k.toNat,by omega⟩
 exact XC b (by omega) (by omega) w
theorem j2h(k x:Int)(hk:okS k=true)(hx:jk x=true)(w:World):Calls Tryz.prog 56 #[.int .i64 k,.int .i64 x] w fun e w'=>e=.returned (.tuple #[.int .i64 (jM x k),.int .i64 0])/\w'=w:=by
 have:=yP hk;have:=jF hx
 obtain⟨b,rfl⟩:∃b:Nat,k=b:=⟨k.toNat,by omega⟩
 obtain⟨a,rfl⟩:∃a:Nat,x=a:=⟨x.toNat,by omega⟩
 exact JD b a (by omega) (by omega) hx w
section
variable(P:Nat)(X:Exg)(sA nA aA bA:Option Addr)(sc nc ac bc:Nat)(w:World)(hK:∀W,Below P w W->KD W)(hr:w.heap[P]?=some (.cells (exX X sA nA aA bA sc nc ac bc) 48 (0,0)))
include P X sA nA aA bA sc nc ac bc w hK hr
theorem z9(eA:Option Addr)(ec:Nat)(s:List UInt8)(h6:BsS w (j9 P w) (.slice eA s.length ec) s)(hl:s.length<=140737488351232)(hg:jk X.g=true):
 Calls Tryz.prog 130 #[.pointer (some ⟨P,0,none⟩),.slice eA s.length ec] w fun e w'=>∃B d,e=.returned (.slice B 32 d)/\PtW P w w' #[.int .i64 X.kd,.slice sA X.sec.length sc,.int .i64 X.pr,.int .i64 X.st,.slice nA X.non.length nc,.int .i64 (jX s),.int .i64 X.g,.int .i64 (jM X.g (jX s)),.int .i64 X.oth,.slice aA X.k1.length ac,.slice bA X.k2.length bc,.int .i64 X.ct]/\BsS w' (j9 P w') (.slice B 32 d) (sdW s):=by
 have HS:=iH (xd _ s w (hK w iB) h6.loB (by omega))
 have hsk:=yP (yb s)
 unfold Ko at HS
 obtain⟨ks,hKK⟩:∃ks,jX s=ks:=⟨_,rfl⟩
 rw [hKK]at hsk HS |-
 clear hKK
 have HPW0:=iH (j2e X.g ks (jF hg) ⟨Int.le_of_lt hsk.1,Int.le_of_lt hsk.2⟩)
 obtain⟨G,hG⟩:∃G,jM X.g ks=G:=⟨_,rfl⟩
 rw [hG]at HPW0 |-
 have HPW:=HPW0
 have HP0:Hid (PtW P w w (exX X sA nA aA bA sc nc ac bc)):=iH (PtW.start hr)
 obtain⟨f0,f1,f2,f3,f4,f5,f6,f7,f8,f9,f10,f11,ff⟩:=j4 hr
 clear hr hK h6 hl hg hsk HPW0 hG
 go_enter Tryz.func130,Tryz.ntmps130
 go_upto_region 2 with (go_at_call 127;refine HS.out.mono ?_;rintro e w1 ⟨B1,d1,rfl,hb,hbw⟩;have GX1:=iH (hb.madeB HP0.out.lt);have hp:=HP0.out.call hbw;have HP1:=iH hp;obtain⟨g0,g1,g2,g3,g4,g5,g6,g7,g8,g9,g10,g11,gf⟩:=j4 hp.1;have gx:=gf 5;clear hb hbw hp gf f0 f1 f2 f3 f4 f5 f6 f7 f8 f9 f10 f11 ff)
 obtain⟨w2,hw⟩:∃z,z=w1.setCell ⟨P,5,none⟩ (.int .i64 ks):=⟨_,rfl⟩
 rw [<-hw]
 have hp:PtW P w w2 #[.int .i64 X.kd,.slice sA X.sec.length sc,.int .i64 X.pr,.int .i64 X.st,.slice nA X.non.length nc,.int .i64 ks,.int .i64 X.g,.int .i64 X.own,.int .i64 X.oth,.slice aA X.k1.length ac,.slice bA X.k2.length bc,.int .i64 X.ct]:=by rw [hw];exact HP1.out.set 5 _
 have GX2:Hid (BsS w2 (j9 P w2) _ _):=iH (by rw [hw];exact BsS.setP GX1.out 5 _)
 have HP2:=iH hp
 obtain⟨f0,f1,f2,f3,f4,f5,f6,f7,f8,f9,f10,f11,ff⟩:=j4 hp.1
 clear hw hp g0 g1 g2 g3 g4 g5 g6 g7 g8 g9 g10 g11 gx
 have hjx:∀ {L:Nat->Bool} {i:Nat} {wz:World},i≠15->(∃u,PtW P w2 wz #[.int .i64 X.kd,.slice sA X.sec.length sc,.int .i64 X.pr,.int .i64 X.st,.slice nA X.non.length nc,.int .i64 ks,.int .i64 X.g,u,.int .i64 X.oth,.slice aA X.k1.length ac,.slice bA X.k2.length bc,.int .i64 X.ct]/\(L 15=true->u=.int .i64 G))->∃u,PtW P w2 wz #[.int .i64 X.kd,.slice sA X.sec.length sc,.int .i64 X.pr,.int .i64 X.st,.slice nA X.non.length nc,.int .i64 ks,.int .i64 X.g,u,.int .i64 X.oth,.slice aA X.k1.length ac,.slice bA X.k2.length bc,.int .i64 X.ct]/\(Km L i 15=true->u=.int .i64 G):=fun {L i wz} hi ⟨u,h1,h2⟩=>⟨u,h1,fun h=>h2 (by unfold Km at h;rwa [iF (fun e=>hi e.symm)]at h)⟩
 refine ja 16 [some 14,some 15,some 16,some 17,some 18,some 19,some 20,some 21,some 22,some 23,some 13,some 24,some 25,some 26,some 27,none] [[],[],[1],[1,2],[1,2,3],[],[5],[5,6],[5,6,7],[1,2,3,4,5,6,7,8],[1,2,3,4,5,6,7,8,9],[1,2,3,4,5,6,7,8,9,10],[1,2,3,4,5,6,7,8,9,10],[0,1,2,3,4,5,6,7,8,9,10,11],[0,1,2,3,4,5,6,7,8,9,10,11,13],[0,1,2,3,4,5,6,7,8,9,10,11,13,14]]
  (fun L _ w1=>∃u,PtW P w2 w1 #[.int .i64 X.kd,.slice sA X.sec.length sc,.int .i64 X.pr,.int .i64 X.st,.slice nA X.non.length nc,.int .i64 ks,.int .i64 X.g,u,.int .i64 X.oth,.slice aA X.k1.length ac,.slice bA X.k2.length bc,.int .i64 X.ct]/\(L 15=true->u=.int .i64 G)) (fun w1 w2=>w1.grownBy w2 (some P))
  [.v (.pointer (some ⟨P,0,none⟩)),
   .v (.pointer (some ⟨P,0,none⟩)),
   .v (.pointer (some ⟨P,0,none⟩)),
   .v (.pointer (some ⟨P,6,none⟩)),
   .v (.int .i64 X.g),
   .v (.pointer (some ⟨P,0,none⟩)),
   .v (.pointer (some ⟨P,0,none⟩)),
   .v (.pointer (some ⟨P,5,none⟩)),
   .v (.int .i64 ks),
   .v (.tuple #[.int .i64 G,.int .i64 0]),
   .v (.tuple #[.int .i64 G,.int .i64 0]),
   .v (.int .i64 G),
   .v (.int .i64 0),
   .v (.pointer (some ⟨P,0,none⟩)),
   .v (.pointer (some ⟨P,7,none⟩)),
   .q fun v=>True]
  (by kernel_rfl) (by kernel_rfl) rfl (fun _=>⟨_,(PtW.start HP2.out.1).drew,fun h=>by cases h⟩) ?steps ?tail
 case steps=>
  simp only [List.take_succ_cons,List.take_zero]
  repeat' (with_reducible first|exact StepsRG.nil|refine StepsRG.cons ?_ ?_)
  all_goals(intro L v w1 hJ hL hF hD K hK;simp only [jb,Act.put,Nat.zero_add,Nat.reduceAdd,List.setIfInBounds_toArray,List.set_cons_zero,List.set_cons_succ,↓jZ,List.getD_cons_zero,List.getD_cons_succ,Nat.reduceEqDiff,↓reduceIte]at hD hK |-)
  all_goals(first
   |((try simp only [hD]at hK |-);have hJ2:=iH hJ;go_simp;exact hK _ _ (hjx (by decide) hJ2.out) (World.grownBy.refl _ _) rfl)
   |((try simp only [hD]at hK |-);have hJ2:=iH hJ;obtain⟨u,hp,_⟩:=hJ;obtain⟨q0,q1,q2,q3,q4,q5,q6,q7,q8,q9,q10,q11,qf⟩:=j4 hp.1;go_simp;exact hK _ _ (hjx (by decide) hJ2.out) (World.grownBy.refl _ _) rfl)
   |skip)
  ·simp only [hD]at hK |-
   go_simp
   refine(HPW.out w1).mono ?_
   rintro e wk ⟨rfl,hwk⟩
   subst hwk
   exact hK _ _ (hjx (by decide) hJ) (World.grownBy.refl _ _) rfl
  ·simp only [hD]at hK |-
   obtain⟨u,hp,_⟩:=hJ
   obtain⟨q0,q1,q2,q3,q4,q5,q6,q7,q8,q9,q10,q11,qf⟩:=j4 hp.1
   have qx:=qf 7
   have HPQ:=iH hp
   clear hp qf
   go_simp
   exact hK undef _ ⟨_,HPQ.out.set 7 _,fun _=>rfl⟩ ((PtW.start HPQ.out.1).set 7 _).2.1 trivial
 case tail=>
  intro v w1 hJ hF hD
  simp only [kE]at hD
  obtain⟨e0,e1,e2,e3,e4,e5,e6,e7,e8,e9,e10,e11,e12,e13,e14, -⟩:=hD
  simp only [List.drop_succ_cons,List.drop_zero,jb,Act.put,Nat.zero_add,Nat.reduceAdd,List.setIfInBounds_toArray,List.set_cons_zero,List.set_cons_succ]
  obtain⟨u,hp,hu⟩:=hJ
  obtain rfl:=hu rfl
  have HP3:=iH hp;have GX3:=iH (GX2.out.grownP hp.2.1)
  clear hF hp hu f0 f1 f2 f3 f4 f5 f6 f7 f8 f9 f10 f11 ff
  go_wp2_with fail
  go_ret
  exact⟨_,_,rfl,HP2.out.trans HP3.out,GX3.out⟩
theorem Kp(o:Int)(ho:o=X.own):Calls Tryz.prog 131 #[.pointer (some ⟨P,0,none⟩),.int .i64 o] w fun e w'=>e=.returned (.int .i64 10)/\w'=w:=by
 obtain⟨f0,f1,f2,f3,f4,f5,f6,f7,f8,f9,f10,f11,ff⟩:=j4 hr
 have t1:(o==X.own)=true:=by simp [ho]
 clear hr hK ho ff
 go_enter Tryz.func131,Tryz.ntmps131
 go_wp2_with fail
 go_ret
 exact⟨rfl,rfl⟩
theorem Xe(o:Int)(ho:¬o=X.own)(hx:okS X.x=true)(hoe:jk o=true):
 Calls Tryz.prog 131 #[.pointer (some ⟨P,0,none⟩),.int .i64 o] w fun e w'=>∃aB bB ad bd,e=.returned (.int .i64 0)/\PtW P w w' #[.int .i64 X.kd,.slice sA X.sec.length sc,.int .i64 X.pr,.int .i64 X.st,.slice nA X.non.length nc,.int .i64 X.x,.int .i64 X.g,.int .i64 X.own,.int .i64 o,.slice aB 16 ad,.slice bB 16 bd,.int .i64 0]/\BsS w' (j9 P w') (.slice aB 16 ad) (xG (jd (jM o X.x)) 1)/\BsS w' (j9 P w') (.slice bB 16 bd) (xG (jd (jM o X.x)) 2):=by
 have HSH:=iH (j2h X.x o hx hoe)
 have hel:=kg o X.x hoe hx
 obtain⟨H,hH⟩:∃H,jM o X.x=H:=⟨_,rfl⟩
 rw [hH]at HSH hel |-
 have HEN:=iH (kW H hel)
 have HK:=iH hK
 have HP0:Hid (PtW P w w (exX X sA nA aA bA sc nc ac bc)):=iH (PtW.start hr)
 obtain⟨f0,f1,f2,f3,f4,f5,f6,f7,f8,f9,f10,f11,ff⟩:=j4 hr
 have fx:=ff 8
 have t1:(o==X.own)=false:=by simp [ho]
 clear hr hK ho hx hoe hel hH ff
 go_enter Tryz.func131,Tryz.ntmps131
 go_upto_region 4 with fail
 obtain⟨w1,hw⟩:∃z,z=w.setCell ⟨P,8,none⟩ (.int .i64 o):=⟨_,rfl⟩
 rw [<-hw]
 have hp:PtW P w w1 #[.int .i64 X.kd,.slice sA X.sec.length sc,.int .i64 X.pr,.int .i64 X.st,.slice nA X.non.length nc,.int .i64 X.x,.int .i64 X.g,.int .i64 X.own,.int .i64 o,.slice aA X.k1.length ac,.slice bA X.k2.length bc,.int .i64 X.ct]:=by rw [hw];exact HP0.out.set 8 _
 have HP1:=iH hp
 obtain⟨g0,g1,g2,g3,g4,g5,g6,g7,g8,g9,g10,g11,gf⟩:=j4 hp.1
 clear hw hp f0 f1 f2 f3 f4 f5 f6 f7 f8 f9 f10 f11 fx
 clear gf
 go_upto_region 8 with (first
  |(go_at_call 56;refine iR (HSH.out _) ?_)
  |(go_at_call 129;refine(HEN.out _).mono ?_;rintro e w2 ⟨A2,c2,rfl,hs,hb⟩;have GE2:=iH (hs.madeB HP1.out.lt);have hp:=HP1.out.call hb;have HP2:=iH hp;clear hs hb hp)
  |(go_at_call 47;refine(Ja 2 (by omega) (by omega) _ (jd H) w3 (HK.out w3 HP3.out.2.2) GE3.out.loB (by simp [jd])).mono ?_;rintro e w4 ⟨v4,rfl,hs,hb⟩;obtain⟨A4,c4,hv4⟩:=Bs.formL hs;rw [jG]at hv4;subst hv4;have GB4:=iH (hs.madeB HP3.out.lt);have GA4:=iH (GA3.out.onB hb);have hp:=HP3.out.call hb;have HP4:=iH hp;clear hs hb hp)
  |(go_at_call 47;refine(Ja 1 (by omega) (by omega) _ (jd H) w2 (HK.out w2 HP2.out.2.2) GE2.out.loB (by simp [jd])).mono ?_;rintro e w3 ⟨v3,rfl,hs,hb⟩;obtain⟨A3,c3,hv3⟩:=Bs.formL hs;rw [jG]at hv3;subst hv3;have GA3:=iH (hs.madeB HP2.out.lt);have GE3:=iH (GE2.out.onB hb);have hp:=HP2.out.call hb;have HP3:=iH hp;clear hs hb hp))
 go_upto_region 9 with (go_at_call 163;refine(KW _ _ _ _ 0 w4 GA4.out.loB GB4.out.loB (jG _ _) (jG _ _) (by omega) (by omega)).mono ?_;rintro e w5 ⟨v5,rfl,⟨aB,ad,bB,bd,rfl,k1,k2⟩,hb⟩;have GA5:=iH (k1.madeB HP4.out.lt);have GB5:=iH (k2.madeB HP4.out.lt);have hp:=HP4.out.call hb;have HP5:=iH hp;obtain⟨f0,f1,f2,f3,f4,f5,f6,f7,f8,f9,f10,f11,ff⟩:=j4 hp.1;have x9:=ff 9;have x10:=ff 10;have x11:=ff 11;clear k1 k2 hb hp ff g0 g1 g2 g3 g4 g5 g6 g7 g8 g9 g10 g11)
 obtain⟨w6,hw⟩:∃z,z=((w5.setCell ⟨P,9,none⟩ (.slice aB 16 ad)).setCell ⟨P,10,none⟩ (.slice bB 16 bd)).setCell ⟨P,11,none⟩ (.int .i64 0):=⟨_,rfl⟩
 rw [<-hw]
 have hp:PtW P w w6 #[.int .i64 X.kd,.slice sA X.sec.length sc,.int .i64 X.pr,.int .i64 X.st,.slice nA X.non.length nc,.int .i64 X.x,.int .i64 X.g,.int .i64 X.own,.int .i64 o,.slice aB 16 ad,.slice bB 16 bd,.int .i64 0]:=by rw [hw];exact((HP5.out.set 9 _).set 10 _).set 11 _
 have GA6:BsS w6 (j9 P w6) (.slice aB 16 ad) (xG (jd H) 1):=by rw [hw];exact((BsS.setP GA5.out 9 _).setP 10 _).setP 11 _
 have GB6:BsS w6 (j9 P w6) (.slice bB 16 bd) (xG (jd H) 2):=by rw [hw];exact((BsS.setP GB5.out 9 _).setP 10 _).setP 11 _
 have HQ:=iH (And.intro hp (And.intro GA6 GB6))
 clear hw hp GA6 GB6 f0 f1 f2 f3 f4 f5 f6 f7 f8 f9 f10 f11 x9 x10 x11
 go_wp2_with fail
 go_ret
 exact⟨_,_,_,_,rfl,HQ.out.1,HQ.out.2.1,HQ.out.2.2⟩
end
theorem Yj{a b c d:Value}(h:Value.tuple #[a,b]=.tuple #[c,d]):a=c:=by
 injection h with h
 have:=congrArg (fun x:Array Value=>x[0]?) h
 simpa using this
theorem Kv(X:Exg)(sA nA aA bA:Option Addr)(sc nc ac bc:Nat)(p:Int)(hp:jk p=true)(h2:X.k2.length=16)(w:World)(hv:Bs w w.heap.size (.slice bA X.k2.length bc) X.k2):Calls Tryz.prog 133 #[.agg #[.int .i64 X.kd,.slice sA X.sec.length sc,.int .i64 X.pr,.int .i64 X.st,.slice nA X.non.length nc,.int .i64 X.x,.int .i64 X.g,.int .i64 X.own,.int .i64 X.oth,.slice aA X.k1.length ac,.slice bA X.k2.length bc,.int .i64 X.ct],.int .i64 p] w fun e w'=>∃A c,e=.returned (.slice A 8 c)/\Bs w' w'.heap.size (.slice A 8 c) (tkW X p)/\Below w.heap.size w w':=by
 obtain⟨w0,hw0⟩:∃w0,w0=w.alloc (.cells (exX X sA nA aA bA sc nc ac bc) 48):=⟨_,rfl⟩
 have HB0:Hid (Below w.heap.size w w0):=iH (by rw [hw0];exact jo _ _)
 have FR:Hid (∀W,Below w0.heap.size w0 W->W.heap[w.heap.size]?=some (.cells (exX X sA nA aA bA sc nc ac bc) 48 (0,0))):=iH (fun W h=>(h.block w.heap.size (by rw [hw0];simp)).trans (by rw [hw0];exact iN))
 have HW0:=iH hw0
 have HEN:=iH (kW p hp)
 obtain⟨T,hT⟩:∃T,tkW X p=T:=⟨_,rfl⟩
 rw [hT]
 have HT:Hid ((qS X.k2 (jd p)).take 8=T):=iH hT
 have HT8:Hid (((qS X.k2 (jd p)).take 8).length=8):=iH (by rw [List.length_take,xz h2]<;>rfl)
 have HK2:=iH h2;have HV:=iH (hv.lift HB0.out)
 clear hw0 hT h2 hv hp
 go_enter Tryz.func133,Tryz.ntmps133
 go_upto_region 1 with fail
 rw [<-HW0.out]
 refine ja 10 [some 8,some 9,some 10,some 11,some 12,some 13,some 7,some 14,some 15,some 5] [[],[0],[0,1],[],[3],[0,1,2,3,4],[0,1,2,3,4,5],[0,1,2,3,4,5,6],[0,1,2,3,4,5,6],[0,1,2,3,4,5,6,7]]
  (fun _ _ w1=>Below w0.heap.size w0 w1) (fun w1 w2=>Below w1.heap.size w1 w2)
  [.v (.pointer (some ⟨w.heap.size,9,none⟩)),
   .v (.pointer (some ⟨w.heap.size,10,none⟩)),
   .v (.slice bA X.k2.length bc),
   .v (.int .i64 p),
   .p (fun v w1=>∃A4 c4,v 4=.slice A4 4 c4/\Bs w1 w1.heap.size (.slice A4 4 c4) (jd p)) (fun _ _ _ _ _ hr ⟨A,c,h1,h2⟩=>⟨A,c,h1,h2.lift hr⟩),
   .p (fun v w1=>∃A5 c5,v 5=.tuple #[.slice A5 8 c5,.int .i64 0]/\Bs w1 w1.heap.size (.slice A5 8 c5) T) (fun _ _ _ _ _ hr ⟨A,c,h1,h2⟩=>⟨A,c,h1,Bs.lift h2 hr⟩),
   .q fun v=>∃A5 c5,v 5=.tuple #[.slice A5 8 c5,.int .i64 0]/\v 6=.tuple #[.slice A5 8 c5,.int .i64 0],
   .q fun v=>∃A5 c5,v 5=.tuple #[.slice A5 8 c5,.int .i64 0]/\v 7=.slice A5 8 c5,
   .q fun v=>v 8=.int .i64 0,
   .q fun v=>∃A5 c5,v 5=.tuple #[.slice A5 8 c5,.int .i64 0]/\v 9=.slice A5 8 c5]
  (by kernel_rfl) (by kernel_rfl) rfl (fun _=>iB.drew) ?steps ?tail
 case steps=>
  simp only [List.take_succ_cons,List.take_zero]
  repeat' (with_reducible first|exact StepsRG.nil|refine StepsRG.cons ?_ ?_)
  all_goals(intro L v w1 hJ hL hF hD K hK;simp only [jb,Act.put,Nat.zero_add,Nat.reduceAdd,List.setIfInBounds_toArray,List.set_cons_zero,List.set_cons_succ,↓jZ,List.getD_cons_zero,List.getD_cons_succ,Nat.reduceEqDiff,↓reduceIte]at hD hK |-)
  all_goals try((try simp only [hD]at hK |-);go_simp;refine hK _ _ hJ iB ?_;first|exact rfl|exact jh _)
  ·simp only [hD]at hK |-
   have q:=j4 (FR.out w1 hJ)
   go_simp
   refine hK _ _ hJ iB ?_
   first|exact rfl|exact jh _
  ·simp only [hD]at hK |-
   go_simp
   refine(HEN.out w1).mono ?_
   rintro e wk ⟨A4,c4,rfl,hs,hb⟩
   refine hK _ _ (hJ.trans (hb.mono hJ.size)) hb ⟨_,_,rfl,?_⟩
   exact hs.keep fun g hg _=>⟨rfl,hg.2⟩
  ·simp only [hD]at hK |-
   obtain⟨A4,c4,e4,hz⟩:∃A4 c4,v 4=_/\_:=hF 4 (by simp)
   simp only [e4]at hK |-
   go_simp
   refine(Uk _ _ X.k2 (jd p) HK2.out (by simp [jd]) w1 (Bs.lift HV.out hJ) hz).mono ?_
   rintro e wk ⟨v5,rfl,hs,hb⟩
   obtain⟨A5,c5,hv⟩:=Bs.formL hs
   rw [HT8.out]at hv
   subst hv
   rw [HT.out]at hs
   exact hK _ _ (hJ.trans (hb.mono hJ.size)) hb ⟨_,_,rfl,hs⟩
  ·simp only [hD]at hK |-
   obtain⟨A5,c5,e5,_⟩:∃A5 c5,v 5=_/\_:=hF 5 (by simp)
   simp only [e5]at hK |-
   go_simp
   exact hK _ _ hJ iB ⟨A5,c5,e5,rfl⟩
  ·simp only [hD]at hK |-
   obtain⟨A5,c5,e5,e6⟩:∃A5 c5,v 5=_/\v 6=_:=hF 6 (by simp)
   simp only [e5,e6]at hK |-
   go_simp
   exact hK _ _ hJ iB ⟨A5,c5,e5,rfl⟩
  ·simp only [hD]at hK |-
   obtain⟨A5,c5,e5,e6⟩:∃A5 c5,v 5=_/\v 6=_:=hF 6 (by simp)
   simp only [e5,e6]at hK |-
   go_simp
   exact hK _ _ hJ iB rfl
  ·simp only [hD]at hK |-
   obtain⟨A5,c5,e5,e7⟩:∃A5 c5,v 5=_/\v 7=_:=hF 7 (by simp)
   simp only [e5,e7]at hK |-
   go_simp
   exact hK _ _ hJ iB ⟨A5,c5,e5,rfl⟩
 case tail=>
  intro v w1 hJ hF hD
  simp only [kE]at hD
  obtain⟨e0,e1,e2,e3, -⟩:=hD
  simp only [List.drop_succ_cons,List.drop_zero,jb,Act.put,Nat.zero_add,Nat.reduceAdd,List.setIfInBounds_toArray,List.set_cons_zero,List.set_cons_succ]
  obtain⟨A5,c5,e5,hs⟩:∃A5 c5,v 5=_/\_:=hF 5 (by simp)
  obtain⟨A6,c6,e5b,e9⟩:∃A6 c6,v 5=_/\v 9=_:=hF 9 (by simp)
  have hq:=Yj (e5.symm.trans e5b)
  obtain⟨rfl,_,rfl⟩:=Value.slice.inj hq
  have e8:v 8=_:=hF 8 (by simp)
  simp only [e8,e9]
  have HS:=iH hs;have HJ:=iH hJ
  clear hJ hF hs e0 e1 e2 e3 e5 e5b e8 e9 hq
  go_wp2_with fail
  go_ret
  exact⟨_,_,rfl,HS.out,HB0.out.trans (HJ.out.mono HB0.out.size)⟩
theorem j78(X:Exg)(sA nA aA bA:Option Addr)(sc nc ac bc:Nat):∀(i:Nat) (x:UInt8),#[.int .i64 X.kd,.slice sA X.sec.length sc,.int .i64 X.pr,.int .i64 X.st,.slice nA X.non.length nc,.int .i64 X.x,.int .i64 X.g,.int .i64 X.own,.int .i64 X.oth,.slice aA X.k1.length ac,.slice bA X.k2.length bc,.int .i64 X.ct][i]? ≠some (U8 x):=by
 intro i x
 rcases i with _|_|_|_|_|_|_|_|_|_|_|_|i
 all_goals simp
section
variable(P:Nat)(X:Exg)(sA nA aA bA:Option Addr)(sc nc ac bc:Nat)(vA eA:Option Addr)(vc ec:Nat)(val s:List UInt8)(w:World)(hK:∀W,Below P w W->KD W)(hr:w.heap[P]?=some (.cells (exX X sA nA aA bA sc nc ac bc) 48 (0,0)))(h1:BsS w (j9 P w) (.slice sA X.sec.length sc) X.sec)(h2:BsS w (j9 P w) (.slice nA X.non.length nc) X.non)(h3:BsS w (j9 P w) (.slice aA X.k1.length ac) X.k1)(h4:BsS w (j9 P w) (.slice bA X.k2.length bc) X.k2)(h5:BsS w (j9 P w) (.slice vA val.length vc) val)(h6:BsS w (j9 P w) (.slice eA s.length ec) s)(hl:s.length<=140737488351232)(hk2:X.k2.length=16)(ho:jk X.own=true)
include P X sA nA aA bA sc nc ac bc vA eA vc ec val s w hK hr h1 h2 h3 h4 h5 h6 hl hk2 ho
theorem Qi(hq:¬val=tkW X X.own):Calls Tryz.prog 74 #[.pointer (some ⟨P,0,none⟩),.slice vA val.length vc,.slice eA s.length ec] w (Jp P w 21):=by
 have HCO:=iH (fun W h=>Kv X sA nA aA bA sc nc ac bc X.own ho hk2 W h)
 obtain⟨T,hT⟩:∃T,tkW X X.own=T:=⟨_,rfl⟩
 rw [hT]at HCO hq
 have HBB:Hid (decide (val=T)=false):=iH (decide_eq_false hq)
 clear hk2 ho hq hT
 have HP0:Hid (PtW P w w (exX X sA nA aA bA sc nc ac bc)):=iH (PtW.start hr)
 have HK:=iH hK;have Gs0:=iH h1;have Gn0:=iH h2;have Ga0:=iH h3;have Gb0:=iH h4;have Gv0:=iH h5;have Ge0:=iH h6;have HL:=iH hl
 have f:=j4 hr
 clear hK hr h1 h2 h3 h4 h5 h6 hl
 go_enter Tryz.func74,Tryz.ntmps74
 go_upto_region 1 with fail
 refine ja 11 [some 10,some 11,some 12,some 13,some 14,some 15,some 16,some 17,some 18,some 19,some 20] [[],[],[1],[1,2],[],[4],[4,5],[4,5,6],[1,2,3,4,5,6,7],[0,1,2,3,4,5,6,7,8],[0,1,2,3,4,5,6,7,8,9]]
  (fun _ _ w1=>Below w.heap.size w w1) (fun w1 w2=>Below w1.heap.size w1 w2)
  [.v (.slice vA val.length vc),
   .v (.pointer (some ⟨P,0,none⟩)),
   .v (.pointer (some ⟨P,0,none⟩)),
   .v (.agg #[.int .i64 X.kd,.slice sA X.sec.length sc,.int .i64 X.pr,.int .i64 X.st,.slice nA X.non.length nc,.int .i64 X.x,.int .i64 X.g,.int .i64 X.own,.int .i64 X.oth,.slice aA X.k1.length ac,.slice bA X.k2.length bc,.int .i64 X.ct]),
   .v (.pointer (some ⟨P,0,none⟩)),
   .v (.pointer (some ⟨P,0,none⟩)),
   .v (.pointer (some ⟨P,7,none⟩)),
   .v (.int .i64 X.own),
   .p (fun v w1=>∃A8 c8,v 8=.slice A8 8 c8/\Bs w1 w1.heap.size (.slice A8 8 c8) T) (fun _ _ _ _ _ hr ⟨A,c,h1,h2⟩=>⟨A,c,h1,Bs.lift h2 hr⟩),
   .v (.bool false),
   .v (.bool true)]
  (by kernel_rfl) (by kernel_rfl) rfl (fun _=>iB.drew) ?steps ?tail
 case steps=>
  simp only [List.take_succ_cons,List.take_zero]
  repeat' (with_reducible first|exact StepsRG.nil|refine StepsRG.cons ?_ ?_)
  all_goals(intro L v w1 hJ hL hF hD K hK;simp only [jb,Act.put,Nat.zero_add,Nat.reduceAdd,List.setIfInBounds_toArray,List.set_cons_zero,List.set_cons_succ,↓jZ,List.getD_cons_zero,List.getD_cons_succ,Nat.reduceEqDiff,↓reduceIte]at hD hK |-)
  all_goals(first
   |((try simp only [hD]at hK |-);go_simp;refine hK _ _ hJ iB ?_;first|exact rfl|exact jh _)
   |(have hp:=HP0.out.call hJ;(try simp only [hD]at hK |-);have q:=j4 hp.1;go_simp;refine hK _ _ hJ iB ?_;first|exact rfl|exact jh _)
   |skip)
  ·simp only [hD]at hK |-
   go_simp
   refine(HCO.out w1 (Gb0.out.onB hJ).loB).mono ?_
   rintro e wk ⟨A8,c8,rfl,hs,hb⟩
   exact hK _ _ (hJ.trans (hb.mono hJ.size)) hb ⟨_,_,rfl,hs⟩
  ·simp only [hD]at hK |-
   obtain⟨A8,c8,e8,hz⟩:∃A8 c8,v 8=_/\_:=hF 8 (by simp)
   simp only [e8]at hK |-
   go_simp
   refine(xV _ _ val T _ _ w1 (Gv0.out.onB hJ) hz).mono ?_
   rintro e wk ⟨rfl,hwk⟩
   subst hwk
   rw [HBB.out]
   exact hK _ _ hJ iB rfl
 case tail=>
  intro v w1 hJ hF hD
  simp only [kE]at hD
  obtain⟨e0,e1,e2,e3,e4,e5,e6,e7,e9,e10, -⟩:=hD
  simp only [List.drop_succ_cons,List.drop_zero,jb,Act.put,Nat.zero_add,Nat.reduceAdd,List.setIfInBounds_toArray,List.set_cons_zero,List.set_cons_succ]
  simp only [e0,e1,e2,e3,e4,e5,e6,e7,e9,e10]
  have hp:=HP0.out.call hJ
  have HP1:=iH hp;have HJ:=iH hJ
  have p:=j4 hp.1
  have Gs1:=iH (Gs0.out.onB hJ);have Gn1:=iH (Gn0.out.onB hJ);have Ga1:=iH (Ga0.out.onB hJ);have Gb1:=iH (Gb0.out.onB hJ);have Gv1:=iH (Gv0.out.onB hJ);have Ge1:=iH (Ge0.out.onB hJ)
  clear hJ hF hp e0 e1 e2 e3 e4 e5 e6 e7 e9 e10 f
  go_wp2_with fail
  refine bodyPost_ret (v:=.tuple #[.int .i64 0,.slice none 0 0,.slice none 0 0,.int .i64 21]) (by simp [results,Tryz.results74,go_sem]) rfl ?_
  exact⟨rfl,_,_,_,_,_,_,_,_,_,_,_,_,HP1.out⟩
theorem X5(hq:¬val=tkW X X.own):Calls Tryz.prog 93 #[.pointer (some ⟨P,0,none⟩),.slice vA val.length vc,.slice eA s.length ec] w (Jp P w 21):=by
 have HCO:=iH (fun W h=>Kv X sA nA aA bA sc nc ac bc X.own ho hk2 W h)
 obtain⟨T,hT⟩:∃T,tkW X X.own=T:=⟨_,rfl⟩
 rw [hT]at HCO hq
 have HBB:Hid (decide (val=T)=false):=iH (decide_eq_false hq)
 clear hk2 ho hq hT
 have HP0:Hid (PtW P w w (exX X sA nA aA bA sc nc ac bc)):=iH (PtW.start hr)
 have HK:=iH hK;have Gs0:=iH h1;have Gn0:=iH h2;have Ga0:=iH h3;have Gb0:=iH h4;have Gv0:=iH h5;have Ge0:=iH h6;have HL:=iH hl
 have f:=j4 hr
 clear hK hr h1 h2 h3 h4 h5 h6 hl
 go_enter Tryz.func93,Tryz.ntmps93
 go_upto_region 1 with fail
 refine ja 11 [some 10,some 11,some 12,some 13,some 14,some 15,some 16,some 17,some 18,some 19,some 20] [[],[],[1],[1,2],[],[4],[4,5],[4,5,6],[1,2,3,4,5,6,7],[0,1,2,3,4,5,6,7,8],[0,1,2,3,4,5,6,7,8,9]]
  (fun _ _ w1=>Below w.heap.size w w1) (fun w1 w2=>Below w1.heap.size w1 w2)
  [.v (.slice vA val.length vc),
   .v (.pointer (some ⟨P,0,none⟩)),
   .v (.pointer (some ⟨P,0,none⟩)),
   .v (.agg #[.int .i64 X.kd,.slice sA X.sec.length sc,.int .i64 X.pr,.int .i64 X.st,.slice nA X.non.length nc,.int .i64 X.x,.int .i64 X.g,.int .i64 X.own,.int .i64 X.oth,.slice aA X.k1.length ac,.slice bA X.k2.length bc,.int .i64 X.ct]),
   .v (.pointer (some ⟨P,0,none⟩)),
   .v (.pointer (some ⟨P,0,none⟩)),
   .v (.pointer (some ⟨P,7,none⟩)),
   .v (.int .i64 X.own),
   .p (fun v w1=>∃A8 c8,v 8=.slice A8 8 c8/\Bs w1 w1.heap.size (.slice A8 8 c8) T) (fun _ _ _ _ _ hr ⟨A,c,h1,h2⟩=>⟨A,c,h1,Bs.lift h2 hr⟩),
   .v (.bool false),
   .v (.bool true)]
  (by kernel_rfl) (by kernel_rfl) rfl (fun _=>iB.drew) ?steps ?tail
 case steps=>
  simp only [List.take_succ_cons,List.take_zero]
  repeat' (with_reducible first|exact StepsRG.nil|refine StepsRG.cons ?_ ?_)
  all_goals(intro L v w1 hJ hL hF hD K hK;simp only [jb,Act.put,Nat.zero_add,Nat.reduceAdd,List.setIfInBounds_toArray,List.set_cons_zero,List.set_cons_succ,↓jZ,List.getD_cons_zero,List.getD_cons_succ,Nat.reduceEqDiff,↓reduceIte]at hD hK |-)
  all_goals(first
   |((try simp only [hD]at hK |-);go_simp;refine hK _ _ hJ iB ?_;first|exact rfl|exact jh _)
   |(have hp:=HP0.out.call hJ;(try simp only [hD]at hK |-);have q:=j4 hp.1;go_simp;refine hK _ _ hJ iB ?_;first|exact rfl|exact jh _)
   |skip)
  ·simp only [hD]at hK |-
   go_simp
   refine(HCO.out w1 (Gb0.out.onB hJ).loB).mono ?_
   rintro e wk ⟨A8,c8,rfl,hs,hb⟩
   exact hK _ _ (hJ.trans (hb.mono hJ.size)) hb ⟨_,_,rfl,hs⟩
  ·simp only [hD]at hK |-
   obtain⟨A8,c8,e8,hz⟩:∃A8 c8,v 8=_/\_:=hF 8 (by simp)
   simp only [e8]at hK |-
   go_simp
   refine(xV _ _ val T _ _ w1 (Gv0.out.onB hJ) hz).mono ?_
   rintro e wk ⟨rfl,hwk⟩
   subst hwk
   rw [HBB.out]
   exact hK _ _ hJ iB rfl
 case tail=>
  intro v w1 hJ hF hD
  simp only [kE]at hD
  obtain⟨e0,e1,e2,e3,e4,e5,e6,e7,e9,e10, -⟩:=hD
  simp only [List.drop_succ_cons,List.drop_zero,jb,Act.put,Nat.zero_add,Nat.reduceAdd,List.setIfInBounds_toArray,List.set_cons_zero,List.set_cons_succ]
  simp only [e0,e1,e2,e3,e4,e5,e6,e7,e9,e10]
  have hp:=HP0.out.call hJ
  have HP1:=iH hp;have HJ:=iH hJ
  have p:=j4 hp.1
  have Gs1:=iH (Gs0.out.onB hJ);have Gn1:=iH (Gn0.out.onB hJ);have Ga1:=iH (Ga0.out.onB hJ);have Gb1:=iH (Gb0.out.onB hJ);have Gv1:=iH (Gv0.out.onB hJ);have Ge1:=iH (Ge0.out.onB hJ)
  clear hJ hF hp e0 e1 e2 e3 e4 e5 e6 e7 e9 e10 f
  go_wp2_with fail
  refine bodyPost_ret (v:=.tuple #[.int .i64 0,.slice none 0 0,.slice none 0 0,.int .i64 21]) (by simp [results,Tryz.results93,go_sem]) rfl ?_
  exact⟨rfl,_,_,_,_,_,_,_,_,_,_,_,_,HP1.out⟩
theorem QZ(hq:val=tkW X X.own):Calls Tryz.prog 93 #[.pointer (some ⟨P,0,none⟩),.slice vA val.length vc,.slice eA s.length ec] w (ym P w (-1) X [] s):=by
 have HCO:=iH (fun W h=>Kv X sA nA aA bA sc nc ac bc X.own ho hk2 W h)
 obtain⟨T,hT⟩:∃T,tkW X X.own=T:=⟨_,rfl⟩
 rw [hT]at HCO hq
 have HBB:Hid (decide (val=T)=true):=iH (decide_eq_true hq)
 clear hk2 ho hq hT
 have HP0:Hid (PtW P w w (exX X sA nA aA bA sc nc ac bc)):=iH (PtW.start hr)
 have HK:=iH hK;have Gs0:=iH h1;have Gn0:=iH h2;have Ga0:=iH h3;have Gb0:=iH h4;have Gv0:=iH h5;have Ge0:=iH h6;have HL:=iH hl
 have f:=j4 hr
 clear hK hr h1 h2 h3 h4 h5 h6 hl
 go_enter Tryz.func93,Tryz.ntmps93
 go_upto_region 1 with fail
 refine ja 11 [some 10,some 11,some 12,some 13,some 14,some 15,some 16,some 17,some 18,some 19,some 20] [[],[],[1],[1,2],[],[4],[4,5],[4,5,6],[1,2,3,4,5,6,7],[0,1,2,3,4,5,6,7,8],[0,1,2,3,4,5,6,7,8,9]]
  (fun _ _ w1=>Below w.heap.size w w1) (fun w1 w2=>Below w1.heap.size w1 w2)
  [.v (.slice vA val.length vc),
   .v (.pointer (some ⟨P,0,none⟩)),
   .v (.pointer (some ⟨P,0,none⟩)),
   .v (.agg #[.int .i64 X.kd,.slice sA X.sec.length sc,.int .i64 X.pr,.int .i64 X.st,.slice nA X.non.length nc,.int .i64 X.x,.int .i64 X.g,.int .i64 X.own,.int .i64 X.oth,.slice aA X.k1.length ac,.slice bA X.k2.length bc,.int .i64 X.ct]),
   .v (.pointer (some ⟨P,0,none⟩)),
   .v (.pointer (some ⟨P,0,none⟩)),
   .v (.pointer (some ⟨P,7,none⟩)),
   .v (.int .i64 X.own),
   .p (fun v w1=>∃A8 c8,v 8=.slice A8 8 c8/\Bs w1 w1.heap.size (.slice A8 8 c8) T) (fun _ _ _ _ _ hr ⟨A,c,h1,h2⟩=>⟨A,c,h1,Bs.lift h2 hr⟩),
   .v (.bool true),
   .v (.bool false)]
  (by kernel_rfl) (by kernel_rfl) rfl (fun _=>iB.drew) ?steps ?tail
 case steps=>
  simp only [List.take_succ_cons,List.take_zero]
  repeat' (with_reducible first|exact StepsRG.nil|refine StepsRG.cons ?_ ?_)
  all_goals(intro L v w1 hJ hL hF hD K hK;simp only [jb,Act.put,Nat.zero_add,Nat.reduceAdd,List.setIfInBounds_toArray,List.set_cons_zero,List.set_cons_succ,↓jZ,List.getD_cons_zero,List.getD_cons_succ,Nat.reduceEqDiff,↓reduceIte]at hD hK |-)
  all_goals(first
   |((try simp only [hD]at hK |-);go_simp;refine hK _ _ hJ iB ?_;first|exact rfl|exact jh _)
   |(have hp:=HP0.out.call hJ;(try simp only [hD]at hK |-);have q:=j4 hp.1;go_simp;refine hK _ _ hJ iB ?_;first|exact rfl|exact jh _)
   |skip)
  ·simp only [hD]at hK |-
   go_simp
   refine(HCO.out w1 (Gb0.out.onB hJ).loB).mono ?_
   rintro e wk ⟨A8,c8,rfl,hs,hb⟩
   exact hK _ _ (hJ.trans (hb.mono hJ.size)) hb ⟨_,_,rfl,hs⟩
  ·simp only [hD]at hK |-
   obtain⟨A8,c8,e8,hz⟩:∃A8 c8,v 8=_/\_:=hF 8 (by simp)
   simp only [e8]at hK |-
   go_simp
   refine(xV _ _ val T _ _ w1 (Gv0.out.onB hJ) hz).mono ?_
   rintro e wk ⟨rfl,hwk⟩
   subst hwk
   rw [HBB.out]
   exact hK _ _ hJ iB rfl
 case tail=>
  intro v w1 hJ hF hD
  simp only [kE]at hD
  obtain⟨e0,e1,e2,e3,e4,e5,e6,e7,e9,e10, -⟩:=hD
  simp only [List.drop_succ_cons,List.drop_zero,jb,Act.put,Nat.zero_add,Nat.reduceAdd,List.setIfInBounds_toArray,List.set_cons_zero,List.set_cons_succ]
  simp only [e0,e1,e2,e3,e4,e5,e6,e7,e9,e10]
  have hp:=HP0.out.call hJ
  have HP1:=iH hp;have HJ:=iH hJ
  have p:=j4 hp.1
  have Gs1:=iH (Gs0.out.onB hJ);have Gn1:=iH (Gn0.out.onB hJ);have Ga1:=iH (Ga0.out.onB hJ);have Gb1:=iH (Gb0.out.onB hJ);have Gv1:=iH (Gv0.out.onB hJ);have Ge1:=iH (Ge0.out.onB hJ)
  clear hJ hF hp e0 e1 e2 e3 e4 e5 e6 e7 e9 e10 f
  go_wp2_with(go_at_call 67;refine(js _ s w1 Ge1.out.loB).mono ?_;rintro e w2 ⟨v2,rfl,ho,hb⟩;obtain⟨cA,cc,hv2⟩:=OwnB.form ho;subst hv2;have HC:Hid (BsS w2 (j9 P w2) (.slice cA s.length cc) s):=iH (BsS.madeB (OwnB.out ho (by have:=HL.out;omega) w1 iL) HP1.out.lt);have Gs2:=iH (Gs1.out.onB hb);have Gn2:=iH (Gn1.out.onB hb);have Ga2:=iH (Ga1.out.onB hb);have Gb2:=iH (Gb1.out.onB hb);have Gv2:=iH (Gv1.out.onB hb);have Ge2:=iH (Ge1.out.onB hb);have hp:=HP1.out.call hb;have HP2:=iH hp;have g:=j4 hp.1;clear hp p;clear ho hb)
  refine bodyPost_ret (v:=.tuple #[.int .i64 (-1),.slice none 0 0,.slice cA s.length cc,.int .i64 0]) (by simp [results,Tryz.results93,go_sem]) rfl ?_
  exact⟨_,_,_,_,rfl,⟨_,_,_,_,_,_,_,_,HP2.out,Gs2.out,Gn2.out,Ga2.out,Gb2.out⟩,k8 _ _,HC.out⟩
end
theorem JA{v:List UInt8}{o:Int}(h:jc v=(0,o)):jk o=true:=by
 unfold jc at h
 split at h
 ·cases h
 ·split at h
  ·cases h
  ·rename_i h1
   obtain⟨_,rfl⟩:=Prod.mk.inj h
   simpa using h1
section
variable(P:Nat)(X:Exg)(sA nA aA bA:Option Addr)(sc nc ac bc:Nat)(vA eA:Option Addr)(vc ec:Nat)(v s:List UInt8)(w:World)(hK:∀W,Below P w W->KD W)(hr:w.heap[P]?=some (.cells (exX X sA nA aA bA sc nc ac bc) 48 (0,0)))(h1:BsS w (j9 P w) (.slice sA X.sec.length sc) X.sec)(h2:BsS w (j9 P w) (.slice nA X.non.length nc) X.non)(h3:BsS w (j9 P w) (.slice aA X.k1.length ac) X.k1)(h4:BsS w (j9 P w) (.slice bA X.k2.length bc) X.k2)(h5:BsS w (j9 P w) (.slice vA v.length vc) v)(h6:BsS w (j9 P w) (.slice eA s.length ec) s)(hl:s.length<=140737488351232)
include P X sA nA aA bA sc nc ac bc vA eA vc ec v s w hK hr h1 h2 h3 h4 h5 h6 hl
theorem Qg(er o:Int)(hd:jc v=(er,o))(he:(er != 0)=true):
 Calls Tryz.prog 73 #[.pointer (some ⟨P,0,none⟩),.slice vA v.length vc,.slice eA s.length ec] w (Jp P w er):=by
 have HD:=iH (jW v _ _ w h5)
 rw [hd]at HD
 clear hd
 have HP0:Hid (PtW P w w (exX X sA nA aA bA sc nc ac bc)):=iH (PtW.start hr)
 have HK:=iH hK;have Gs0:=iH h1;have Gn0:=iH h2;have Ga0:=iH h3;have Gb0:=iH h4;have Gv0:=iH h5;have Ge0:=iH h6;have HL:=iH hl
 have f:=j4 hr
 clear hK hr h1 h2 h3 h4 h5 h6 hl
 go_enter Tryz.func73,Tryz.ntmps73
 go_wp2_with(go_at_call 126;refine iR HD.out ?_)
 refine bodyPost_ret (v:=.tuple #[.int .i64 0,.slice none 0 0,.slice none 0 0,.int .i64 er]) (by simp [results,Tryz.results73,go_sem]) rfl ?_
 exact⟨rfl,_,_,_,_,_,_,_,_,_,_,_,_,HP0.out⟩
theorem Kg(o:Int)(hg:jk X.g=true)(hd:jc v=(0,o))(hne:o=jM X.g (jX s)):
 Calls Tryz.prog 73 #[.pointer (some ⟨P,0,none⟩),.slice vA v.length vc,.slice eA s.length ec] w (Jp P w 10):=by
 have HD:=iH (jW v _ _ w h5)
 rw [hd]at HD
 have HPU:=iH (z9 P X sA nA aA bA sc nc ac bc w hK hr eA ec s h6 hl hg)
 have hoe:=JA hd
 have hks:=yb s
 obtain⟨ks,hk⟩:∃ks,jX s=ks:=⟨_,rfl⟩
 rw [hk]at HPU hks hne
 obtain⟨G,hG⟩:∃G,jM X.g ks=G:=⟨_,rfl⟩
 have hge:jk G=true:=by rw [<-hG];exact kg X.g ks hg hks
 rw [hG]at HPU hne
 have HAG:Hid (∀W,W.heap[P]?=some (.cells #[.int .i64 X.kd,.slice sA X.sec.length sc,.int .i64 X.pr,.int .i64 X.st,.slice nA X.non.length nc,.int .i64 ks,.int .i64 X.g,.int .i64 G,.int .i64 X.oth,.slice aA X.k1.length ac,.slice bA X.k2.length bc,.int .i64 X.ct] 48 (0,0))->(∀W',Below P W W'->KD W')->Calls Tryz.prog 131 #[.pointer (some ⟨P,0,none⟩),.int .i64 o] W fun e w'=>e=.returned (.int .i64 10)/\w'=W):=iH (fun W h k=>Kp P {X with x:=ks,own:=G} sA nA aA bA sc nc ac bc W k h o hne)
 clear hk hG hd hne hoe hks hge hg
 have HP0:Hid (PtW P w w (exX X sA nA aA bA sc nc ac bc)):=iH (PtW.start hr)
 have HK:=iH hK;have Gs0:=iH h1;have Gn0:=iH h2;have Ga0:=iH h3;have Gb0:=iH h4;have Gv0:=iH h5;have Ge0:=iH h6;have HL:=iH hl
 have f:=j4 hr
 clear hK hr h1 h2 h3 h4 h5 h6 hl
 go_enter Tryz.func73,Tryz.ntmps73
 go_wp2_with(first
  |(go_at_call 126;refine iR HD.out ?_)
  |(go_at_call 130;refine HPU.out.mono ?_;rintro e w1 ⟨B1,d1,rfl,hq,hx⟩;have HP1:=iH hq;have GX1:=iH hx;have Gs1:=iH (Gs0.out.grownP hq.2.1);have Gn1:=iH (Gn0.out.grownP hq.2.1);have Ga1:=iH (Ga0.out.grownP hq.2.1);have Gb1:=iH (Gb0.out.grownP hq.2.1);have Gv1:=iH (Gv0.out.grownP hq.2.1);have Ge1:=iH (Ge0.out.grownP hq.2.1);have g:=j4 hq.1;clear hq hx f)
  |(go_at_call 131;refine iR (HAG.out w1 HP1.out.1 (fun W' h=>HK.out W' (HP1.out.2.2.trans h))) ?_))
 refine bodyPost_ret (v:=.tuple #[.int .i64 0,.slice none 0 0,.slice none 0 0,.int .i64 10]) (by simp [results,Tryz.results73,go_sem]) rfl ?_
 exact⟨rfl,_,_,_,_,_,_,_,_,_,_,_,_,HP1.out⟩
theorem Qf(o:Int)(hg:jk X.g=true)(hd:jc v=(0,o))(hne:¬o=jM X.g (jX s)):
 Calls Tryz.prog 73 #[.pointer (some ⟨P,0,none⟩),.slice vA v.length vc,.slice eA s.length ec] w (ym P w 132 (kf {X with x:=jX s,own:=jM X.g (jX s)} o).2 (jd (jM X.g (jX s))) (sdW s)):=by
 have HD:=iH (jW v _ _ w h5)
 rw [hd]at HD
 have HPU:=iH (z9 P X sA nA aA bA sc nc ac bc w hK hr eA ec s h6 hl hg)
 have hoe:=JA hd
 have hks:=yb s
 obtain⟨ks,hk⟩:∃ks,jX s=ks:=⟨_,rfl⟩
 rw [hk]at HPU hks hne |-
 obtain⟨G,hG⟩:∃G,jM X.g ks=G:=⟨_,rfl⟩
 have hge:jk G=true:=by rw [<-hG];exact kg X.g ks hg hks
 rw [hG]at HPU hne |-
 have hagw:(kf {X with x:=ks,own:=G} o).2= {X with x:=ks,own:=G,oth:=o,k1:=xG (jd (jM o ks)) 1,k2:=xG (jd (jM o ks)) 2,ct:=0}:=by unfold kf;rw [iF hne]
 rw [hagw]
 have HAG:Hid (∀W,W.heap[P]?=some (.cells #[.int .i64 X.kd,.slice sA X.sec.length sc,.int .i64 X.pr,.int .i64 X.st,.slice nA X.non.length nc,.int .i64 ks,.int .i64 X.g,.int .i64 G,.int .i64 X.oth,.slice aA X.k1.length ac,.slice bA X.k2.length bc,.int .i64 X.ct] 48 (0,0))->(∀W',Below P W W'->KD W')->Calls Tryz.prog 131 #[.pointer (some ⟨P,0,none⟩),.int .i64 o] W fun e w'=>∃aB bB ad bd,e=.returned (.int .i64 0)/\PtW P W w' #[.int .i64 X.kd,.slice sA X.sec.length sc,.int .i64 X.pr,.int .i64 X.st,.slice nA X.non.length nc,.int .i64 ks,.int .i64 X.g,.int .i64 G,.int .i64 o,.slice aB 16 ad,.slice bB 16 bd,.int .i64 0]/\BsS w' (j9 P w') (.slice aB 16 ad) (xG (jd (jM o ks)) 1)/\BsS w' (j9 P w') (.slice bB 16 bd) (xG (jd (jM o ks)) 2)):=iH (fun W h k=>Xe P {X with x:=ks,own:=G} sA nA aA bA sc nc ac bc W k h o hne hks hoe)
 have HEN:=iH (kW G hge)
 have HKL:=iH (And.intro (jG (jd (jM o ks)) 1) (jG (jd (jM o ks)) 2))
 obtain⟨K1,hK1⟩:∃k,xG (jd (jM o ks)) 1=k:=⟨_,rfl⟩
 obtain⟨K2,hK2⟩:∃k,xG (jd (jM o ks)) 2=k:=⟨_,rfl⟩
 rw [hK1,hK2]at HAG HKL |-
 clear hk hG hd hne hoe hks hge hg hagw hK1 hK2
 have HP0:Hid (PtW P w w (exX X sA nA aA bA sc nc ac bc)):=iH (PtW.start hr)
 have HK:=iH hK;have Gs0:=iH h1;have Gn0:=iH h2;have Ga0:=iH h3;have Gb0:=iH h4;have Gv0:=iH h5;have Ge0:=iH h6;have HL:=iH hl
 have f:=j4 hr
 clear hK hr h1 h2 h3 h4 h5 h6 hl
 go_enter Tryz.func73,Tryz.ntmps73
 go_wp2_with(first
  |(go_at_call 126;refine iR HD.out ?_)
  |(go_at_call 130;refine HPU.out.mono ?_;rintro e w1 ⟨B1,d1,rfl,hq,hx⟩;have HP1:=iH hq;have GX1:=iH hx;have Gs1:=iH (Gs0.out.grownP hq.2.1);have Gn1:=iH (Gn0.out.grownP hq.2.1);have Ga1:=iH (Ga0.out.grownP hq.2.1);have Gb1:=iH (Gb0.out.grownP hq.2.1);have Gv1:=iH (Gv0.out.grownP hq.2.1);have Ge1:=iH (Ge0.out.grownP hq.2.1);have g:=j4 hq.1;clear hq hx f)
  |(go_at_call 131;refine(HAG.out w1 HP1.out.1 (fun W' h=>HK.out W' (HP1.out.2.2.trans h))).mono ?_;rintro e w2 ⟨aB,bB,ad,bd,rfl,hq,k1,k2⟩;have HP2:=iH (HP1.out.trans hq);have GA2:=iH k1;have GB2:=iH k2;have Gs2:=iH (Gs1.out.grownP hq.2.1);have Gn2:=iH (Gn1.out.grownP hq.2.1);have Ga2:=iH (Ga1.out.grownP hq.2.1);have Gb2:=iH (Gb1.out.grownP hq.2.1);have Gv2:=iH (Gv1.out.grownP hq.2.1);have Ge2:=iH (Ge1.out.grownP hq.2.1);have GX2:=iH (GX1.out.grownP hq.2.1);have f:=j4 hq.1;clear hq k1 k2 g)
  |(go_at_call 129;refine(HEN.out w2).mono ?_;rintro e w3 ⟨A3,c3,rfl,hs,hb⟩;have GE3:=iH (hs.madeB HP2.out.lt);have HP3:=iH (HP2.out.call hb);have GA3:=iH (GA2.out.onB hb);have GB3:=iH (GB2.out.onB hb);have Gs3:=iH (Gs2.out.onB hb);have Gn3:=iH (Gn2.out.onB hb);have Ga3:=iH (Ga2.out.onB hb);have Gb3:=iH (Gb2.out.onB hb);have Gv3:=iH (Gv2.out.onB hb);have Ge3:=iH (Ge2.out.onB hb);have GX3:=iH (GX2.out.onB hb);clear hs hb))
 refine bodyPost_ret (v:=.tuple #[.int .i64 132,.slice A3 4 c3,.slice B1 32 d1,.int .i64 0]) (by simp [results,Tryz.results73,go_sem]) rfl ?_
 have hx:(sdW s).length=32:=je _
 have x3:BsS w3 (j9 P w3) (.slice B1 (sdW s).length d1) (sdW s):=by rw [hx];exact GX3.out
 have q3:=HP3.out
 have a3:BsS w3 (j9 P w3) (.slice aB K1.length ad) K1:=by rw [HKL.out.1];exact GA3.out
 have b3:BsS w3 (j9 P w3) (.slice bB K2.length bd) K2:=by rw [HKL.out.2];exact GB3.out
 have q4:PtW P w w3 #[.int .i64 X.kd,.slice sA X.sec.length sc,.int .i64 X.pr,.int .i64 X.st,.slice nA X.non.length nc,.int .i64 ks,.int .i64 X.g,.int .i64 G,.int .i64 o,.slice aB K1.length ad,.slice bB K2.length bd,.int .i64 0]:=by rw [HKL.out.1,HKL.out.2];exact q3
 exact⟨A3,c3,B1,d1,by rw [hx]<;>rfl,⟨_,_,_,_,_,_,_,_,q4,Gs3.out,Gn3.out,a3,b3⟩,GE3.out,x3⟩
end
theorem tkl(X:Exg)(p:Int)(h:X.k2.length=16):(tkW X p).length=8:=by unfold tkW;rw [List.length_take,xz h]<;>rfl
theorem Qh(P:Nat)(X:Exg)(sA nA aA bA:Option Addr)(sc nc ac bc:Nat)(vA eA:Option Addr)(vc ec:Nat)(val s:List UInt8)(w:World)(hK:∀W,Below P w W->KD W)(hr:w.heap[P]?=some (.cells (exX X sA nA aA bA sc nc ac bc) 48 (0,0)))(h1:BsS w (j9 P w) (.slice sA X.sec.length sc) X.sec)(h2:BsS w (j9 P w) (.slice nA X.non.length nc) X.non)(h3:BsS w (j9 P w) (.slice aA X.k1.length ac) X.k1)(h4:BsS w (j9 P w) (.slice bA X.k2.length bc) X.k2)(h5:BsS w (j9 P w) (.slice vA val.length vc) val)(h6:BsS w (j9 P w) (.slice eA s.length ec) s)(hl:s.length<=140737488351232)(hk2:X.k2.length=16)(ho:jk X.own=true)(ht:jk X.oth=true)(hq:val=tkW X X.own):Calls Tryz.prog 74 #[.pointer (some ⟨P,0,none⟩),.slice vA val.length vc,.slice eA s.length ec] w (ym P w 134 X (tkW X X.oth) s):=by
 have HCO:=iH (fun W h=>Kv X sA nA aA bA sc nc ac bc X.own ho hk2 W h)
 have HCT:=iH (fun W h=>Kv X sA nA aA bA sc nc ac bc X.oth ht hk2 W h)
 have NOB:=iH (j78 X sA nA aA bA sc nc ac bc)
 have ht8:=tkl X X.oth hk2
 obtain⟨T2,hT2⟩:∃T,tkW X X.oth=T:=⟨_,rfl⟩
 rw [hT2]at HCT ht8 |-
 have HT8:=iH ht8
 clear hT2 ht8 ht
 obtain⟨T,hT⟩:∃T,tkW X X.own=T:=⟨_,rfl⟩
 rw [hT]at HCO hq
 have HBB:Hid (decide (val=T)=true):=iH (decide_eq_true hq)
 clear hk2 ho hq hT
 have HP0:Hid (PtW P w w (exX X sA nA aA bA sc nc ac bc)):=iH (PtW.start hr)
 have HK:=iH hK;have Gs0:=iH h1;have Gn0:=iH h2;have Ga0:=iH h3;have Gb0:=iH h4;have Gv0:=iH h5;have Ge0:=iH h6;have HL:=iH hl
 have f:=j4 hr
 clear hK hr h1 h2 h3 h4 h5 h6 hl
 go_enter Tryz.func74,Tryz.ntmps74
 go_upto_region 1 with fail
 refine ja 11 [some 10,some 11,some 12,some 13,some 14,some 15,some 16,some 17,some 18,some 19,some 20] [[],[],[1],[1,2],[],[4],[4,5],[4,5,6],[1,2,3,4,5,6,7],[0,1,2,3,4,5,6,7,8],[0,1,2,3,4,5,6,7,8,9]]
  (fun _ _ w1=>Below w.heap.size w w1) (fun w1 w2=>Below w1.heap.size w1 w2)
  [.v (.slice vA val.length vc),
   .v (.pointer (some ⟨P,0,none⟩)),
   .v (.pointer (some ⟨P,0,none⟩)),
   .v (.agg #[.int .i64 X.kd,.slice sA X.sec.length sc,.int .i64 X.pr,.int .i64 X.st,.slice nA X.non.length nc,.int .i64 X.x,.int .i64 X.g,.int .i64 X.own,.int .i64 X.oth,.slice aA X.k1.length ac,.slice bA X.k2.length bc,.int .i64 X.ct]),
   .v (.pointer (some ⟨P,0,none⟩)),
   .v (.pointer (some ⟨P,0,none⟩)),
   .v (.pointer (some ⟨P,7,none⟩)),
   .v (.int .i64 X.own),
   .p (fun v w1=>∃A8 c8,v 8=.slice A8 8 c8/\Bs w1 w1.heap.size (.slice A8 8 c8) T) (fun _ _ _ _ _ hr ⟨A,c,h1,h2⟩=>⟨A,c,h1,Bs.lift h2 hr⟩),
   .v (.bool true),
   .v (.bool false)]
  (by kernel_rfl) (by kernel_rfl) rfl (fun _=>iB.drew) ?steps ?tail
 case steps=>
  simp only [List.take_succ_cons,List.take_zero]
  repeat' (with_reducible first|exact StepsRG.nil|refine StepsRG.cons ?_ ?_)
  all_goals(intro L v w1 hJ hL hF hD K hK;simp only [jb,Act.put,Nat.zero_add,Nat.reduceAdd,List.setIfInBounds_toArray,List.set_cons_zero,List.set_cons_succ,↓jZ,List.getD_cons_zero,List.getD_cons_succ,Nat.reduceEqDiff,↓reduceIte]at hD hK |-)
  all_goals(first
   |((try simp only [hD]at hK |-);go_simp;refine hK _ _ hJ iB ?_;first|exact rfl|exact jh _)
   |(have hp:=HP0.out.call hJ;(try simp only [hD]at hK |-);have q:=j4 hp.1;go_simp;refine hK _ _ hJ iB ?_;first|exact rfl|exact jh _)
   |skip)
  ·simp only [hD]at hK |-
   go_simp
   refine(HCO.out w1 (Gb0.out.onB hJ).loB).mono ?_
   rintro e wk ⟨A8,c8,rfl,hs,hb⟩
   exact hK _ _ (hJ.trans (hb.mono hJ.size)) hb ⟨_,_,rfl,hs⟩
  ·simp only [hD]at hK |-
   obtain⟨A8,c8,e8,hz⟩:∃A8 c8,v 8=_/\_:=hF 8 (by simp)
   simp only [e8]at hK |-
   go_simp
   refine(xV _ _ val T _ _ w1 (Gv0.out.onB hJ) hz).mono ?_
   rintro e wk ⟨rfl,hwk⟩
   subst hwk
   rw [HBB.out]
   exact hK _ _ hJ iB rfl
 case tail=>
  intro v w1 hJ hF hD
  simp only [kE]at hD
  obtain⟨e0,e1,e2,e3,e4,e5,e6,e7,e9,e10, -⟩:=hD
  simp only [List.drop_succ_cons,List.drop_zero,jb,Act.put,Nat.zero_add,Nat.reduceAdd,List.setIfInBounds_toArray,List.set_cons_zero,List.set_cons_succ]
  simp only [e0,e1,e2,e3,e4,e5,e6,e7,e9,e10]
  have hp:=HP0.out.call hJ
  have HP1:=iH hp;have HJ:=iH hJ
  have p:=j4 hp.1
  have Gs1:=iH (Gs0.out.onB hJ);have Gn1:=iH (Gn0.out.onB hJ);have Ga1:=iH (Ga0.out.onB hJ);have Gb1:=iH (Gb0.out.onB hJ);have Gv1:=iH (Gv0.out.onB hJ);have Ge1:=iH (Ge0.out.onB hJ)
  clear hJ hF hp e0 e1 e2 e3 e4 e5 e6 e7 e9 e10 f
  obtain⟨wm,rfl⟩:∃z:World,z=w1:=⟨_,rfl⟩
  go_upto_region 3 with fail
  refine ja 10 [some 21,some 22,some 23,some 24,some 25,some 26,some 27,some 28,some 29,some 30] [[],[0],[0,1],[],[3],[3,4],[3,4,5],[0,1,2,3,4,5,6],[],[0,1,2,3,4,5,6,7,8]]
   (fun _ _ w1=>Below wm.heap.size wm w1) (fun w1 w2=>Below w1.heap.size w1 w2)
   [.v (.pointer (some ⟨P,0,none⟩)),
    .v (.pointer (some ⟨P,0,none⟩)),
    .v (.agg #[.int .i64 X.kd,.slice sA X.sec.length sc,.int .i64 X.pr,.int .i64 X.st,.slice nA X.non.length nc,.int .i64 X.x,.int .i64 X.g,.int .i64 X.own,.int .i64 X.oth,.slice aA X.k1.length ac,.slice bA X.k2.length bc,.int .i64 X.ct]),
    .v (.pointer (some ⟨P,0,none⟩)),
    .v (.pointer (some ⟨P,0,none⟩)),
    .v (.pointer (some ⟨P,8,none⟩)),
    .v (.int .i64 X.oth),
    .p (fun v w1=>∃A7 c7,v 7=.slice A7 8 c7/\BsS w1 (j9 P w1) (.slice A7 8 c7) T2) (fun _ _ _ _ _ hr ⟨A,c,h1,h2⟩=>⟨A,c,h1,h2.onB hr⟩),
    .v (.slice eA s.length ec),
    .p (fun v w1=>∃A9 c9,v 9=.slice A9 s.length c9/\BsS w1 (j9 P w1) (.slice A9 s.length c9) s) (fun _ _ _ _ _ hr ⟨A,c,h1,h2⟩=>⟨A,c,h1,h2.onB hr⟩)]
   (by kernel_rfl) (by kernel_rfl) rfl (fun _=>iB.drew) ?steps ?tail
  case steps=>
   simp only [List.take_succ_cons,List.take_zero]
   repeat' (with_reducible first|exact StepsRG.nil|refine StepsRG.cons ?_ ?_)
   all_goals(intro L v w1 hJ hL hF hD K hK;simp only [jb,Act.put,Nat.zero_add,Nat.reduceAdd,List.setIfInBounds_toArray,List.set_cons_zero,List.set_cons_succ,↓jZ,List.getD_cons_zero,List.getD_cons_succ,Nat.reduceEqDiff,↓reduceIte]at hD hK |-)
   all_goals(first
    |((try simp only [hD]at hK |-);go_simp;refine hK _ _ hJ iB ?_;first|exact rfl|exact jh _)
    |(have hp:=HP1.out.call hJ;(try simp only [hD]at hK |-);have q:=j4 hp.1;go_simp;refine hK _ _ hJ iB ?_;first|exact rfl|exact jh _)
    |skip)
   ·simp only [hD]at hK |-
    go_simp
    refine(HCT.out w1 (Gb1.out.onB hJ).loB).mono ?_
    rintro e wk ⟨A8,c8,rfl,hs,hb⟩
    exact hK _ _ (hJ.trans (hb.mono hJ.size)) hb ⟨_,_,rfl,(BsS.off hs ((HP1.out.call hJ).call hb).1 (NOB.out)).keep fun g hg _=>⟨rfl,hg⟩⟩
   ·simp only [hD]at hK |-
    go_simp
    refine(js _ s w1 (Ge1.out.onB hJ).loB).mono ?_
    rintro e wk ⟨v2,rfl,ho,hb⟩
    obtain⟨A2,c2,hv2⟩:=OwnB.form ho
    subst hv2
    refine hK _ _ (hJ.trans (hb.mono hJ.size)) hb ⟨_,_,rfl,?_⟩
    exact BsS.madeB (OwnB.out ho (by have:=HL.out;omega) w1 iL) (HP1.out.call hJ).lt
  case tail=>
   intro v w1 hJ hF hD
   simp only [kE]at hD
   obtain⟨e0,e1,e2,e3,e4,e5,e6,e8, -⟩:=hD
   simp only [List.drop_succ_cons,List.drop_zero,jb,Act.put,Nat.zero_add,Nat.reduceAdd,List.setIfInBounds_toArray,List.set_cons_zero,List.set_cons_succ]
   obtain⟨A7,c7,e7,h7⟩:∃A7 c7,v 7=_/\_:=hF 7 (by simp)
   obtain⟨A9,c9,e9,h9⟩:∃A9 c9,v 9=_/\_:=hF 9 (by simp)
   simp only [e0,e1,e2,e3,e4,e5,e6,e8,e7,e9]
   have HP9:=iH (HP1.out.call hJ);have H7:=iH h7;have H9:=iH h9;have HJ9:=iH hJ
   clear hJ hF h7 h9 e0 e1 e2 e3 e4 e5 e6 e8 e7 e9
   go_wp2_with fail
   refine bodyPost_ret (v:=.tuple #[.int .i64 134,.slice A7 8 c7,.slice A9 s.length c9,.int .i64 0]) (by simp [results,Tryz.results74,go_sem]) rfl ?_
   have x7:=H7.out
   rw [<-HT8.out]at x7
   exact⟨A7,c7,A9,c9,by rw [HT8.out],⟨_,_,_,_,_,_,_,_,HP9.out,Gs1.out.onB HJ9.out,Gn1.out.onB HJ9.out,Ga1.out.onB HJ9.out,Gb1.out.onB HJ9.out⟩,x7,H9.out⟩
section
variable(P:Nat)(X:Exg)(sA nA aA bA:Option Addr)(sc nc ac bc:Nat)(vA eA:Option Addr)(vc ec:Nat)(v s:List UInt8)(w:World)(hK:∀W,Below P w W->KD W)(hr:w.heap[P]?=some (.cells (exX X sA nA aA bA sc nc ac bc) 48 (0,0)))(h1:BsS w (j9 P w) (.slice sA X.sec.length sc) X.sec)(h2:BsS w (j9 P w) (.slice nA X.non.length nc) X.non)(h3:BsS w (j9 P w) (.slice aA X.k1.length ac) X.k1)(h4:BsS w (j9 P w) (.slice bA X.k2.length bc) X.k2)(h5:BsS w (j9 P w) (.slice vA v.length vc) v)(h6:BsS w (j9 P w) (.slice eA s.length ec) s)(hl:s.length<=140737488351232)
include P X sA nA aA bA sc nc ac bc vA eA vc ec v s w hK hr h1 h2 h3 h4 h5 h6 hl
theorem QY(er o:Int)(hd:jc v=(er,o))(he:(er != 0)=true)(he2:(er==0)=false):
 Calls Tryz.prog 92 #[.pointer (some ⟨P,0,none⟩),.slice vA v.length vc,.slice eA s.length ec] w (Jp P w er):=by
 have HD:=iH (jW v _ _ w h5)
 rw [hd]at HD
 clear hd
 have HP0:Hid (PtW P w w (exX X sA nA aA bA sc nc ac bc)):=iH (PtW.start hr)
 have HK:=iH hK;have Gs0:=iH h1;have Gn0:=iH h2;have Ga0:=iH h3;have Gb0:=iH h4;have Gv0:=iH h5;have Ge0:=iH h6;have HL:=iH hl
 have f:=j4 hr
 clear hK hr h1 h2 h3 h4 h5 h6 hl
 go_enter Tryz.func92,Tryz.ntmps92
 go_wp2_with(go_at_call 126;refine iR HD.out ?_)
 refine bodyPost_ret (v:=.tuple #[.int .i64 0,.slice none 0 0,.slice none 0 0,.int .i64 er]) (by simp [results,Tryz.results92,go_sem]) rfl ?_
 exact⟨rfl,_,_,_,_,_,_,_,_,_,_,_,_,HP0.out⟩
theorem Kn(o:Int)(hd:jc v=(0,o))(hne:o=X.own):
 Calls Tryz.prog 92 #[.pointer (some ⟨P,0,none⟩),.slice vA v.length vc,.slice eA s.length ec] w (Jp P w 10):=by
 have HD:=iH (jW v _ _ w h5)
 rw [hd]at HD
 have HAG:=iH (Kp P X sA nA aA bA sc nc ac bc w hK hr o hne)
 clear hd hne
 have HP0:Hid (PtW P w w (exX X sA nA aA bA sc nc ac bc)):=iH (PtW.start hr)
 have HK:=iH hK;have Gs0:=iH h1;have Gn0:=iH h2;have Ga0:=iH h3;have Gb0:=iH h4;have Gv0:=iH h5;have Ge0:=iH h6;have HL:=iH hl
 have f:=j4 hr
 clear hK hr h1 h2 h3 h4 h5 h6 hl
 go_enter Tryz.func92,Tryz.ntmps92
 go_wp2_with(first|(go_at_call 126;refine iR HD.out ?_)|(go_at_call 131;refine iR HAG.out ?_))
 refine bodyPost_ret (v:=.tuple #[.int .i64 0,.slice none 0 0,.slice none 0 0,.int .i64 10]) (by simp [results,Tryz.results92,go_sem]) rfl ?_
 exact⟨rfl,_,_,_,_,_,_,_,_,_,_,_,_,HP0.out⟩
theorem QX(o:Int)(hx:okS X.x=true)(hd:jc v=(0,o))(hne:¬o=X.own):
 Calls Tryz.prog 92 #[.pointer (some ⟨P,0,none⟩),.slice vA v.length vc,.slice eA s.length ec] w (ym P w 133 (kf X o).2 (tkW (kf X o).2 o) s):=by
 have HD:=iH (jW v _ _ w h5)
 rw [hd]at HD
 have hoe:=JA hd
 have HAG:=iH (Xe P X sA nA aA bA sc nc ac bc w hK hr o hne hx hoe)
 have hagw:(kf X o).2= {X with oth:=o,k1:=xG (jd (jM o X.x)) 1,k2:=xG (jd (jM o X.x)) 2,ct:=0}:=by unfold kf;rw [iF hne]
 rw [hagw]
 have l1:=jG (jd (jM o X.x)) 1
 have l2:=jG (jd (jM o X.x)) 2
 obtain⟨K1,hK1⟩:∃k,xG (jd (jM o X.x)) 1=k:=⟨_,rfl⟩
 obtain⟨K2,hK2⟩:∃k,xG (jd (jM o X.x)) 2=k:=⟨_,rfl⟩
 rw [hK1]at HAG l1 |-
 rw [hK2]at HAG l2 |-
 have HCTy:=iH (fun(aB bB:Option Addr) (ad bd:Nat) W h=>Kv {X with oth:=o,k1:=K1,k2:=K2,ct:=0} sA nA aB bB sc nc ad bd o hoe l2 W h)
 have NOBy:=iH (fun(aB bB:Option Addr) (ad bd:Nat)=>j78 {X with oth:=o,k1:=K1,k2:=K2,ct:=0} sA nA aB bB sc nc ad bd)
 have ht8:=tkl {X with oth:=o,k1:=K1,k2:=K2,ct:=0} o l2
 obtain⟨T2,hT2⟩:∃T,tkW {X with oth:=o,k1:=K1,k2:=K2,ct:=0} o=T:=⟨_,rfl⟩
 rw [hT2]at HCTy ht8 |-
 have HT8:=iH ht8;have HL1:=iH l1;have HL2:=iH l2
 obtain⟨val,rfl⟩:∃l,l=v:=⟨_,rfl⟩
 clear hT2 ht8 hd hne hx hoe hagw hK1 hK2 l1 l2
 have HP0:Hid (PtW P w w (exX X sA nA aA bA sc nc ac bc)):=iH (PtW.start hr)
 have HK:=iH hK;have Gs0:=iH h1;have Gn0:=iH h2;have Ga0:=iH h3;have Gb0:=iH h4;have Gv0:=iH h5;have Ge0:=iH h6;have HL:=iH hl
 have f:=j4 hr
 clear hK hr h1 h2 h3 h4 h5 h6 hl
 go_enter Tryz.func92,Tryz.ntmps92
 go_upto_region 6 with (first
  |(go_at_call 126;refine iR HD.out ?_)
  |(go_at_call 131;refine HAG.out.mono ?_;rintro e w2 ⟨aB,bB,ad,bd,rfl,hq,k1,k2⟩;rw [<-HL1.out]at k1;rw [<-HL2.out]at k2;have hq:PtW P w w2 #[.int .i64 X.kd,.slice sA X.sec.length sc,.int .i64 X.pr,.int .i64 X.st,.slice nA X.non.length nc,.int .i64 X.x,.int .i64 X.g,.int .i64 X.own,.int .i64 o,.slice aB 16 ad,.slice bB 16 bd,.int .i64 0]:=hq;have GA1:=iH k1;have GB1:=iH k2;have HP1r:=iH hq;have Gs1:=iH (Gs0.out.grownP hq.2.1);have Gn1:=iH (Gn0.out.grownP hq.2.1);have Ga1:=iH (Ga0.out.grownP hq.2.1);have Gb1:=iH (Gb0.out.grownP hq.2.1);have Gv1:=iH (Gv0.out.grownP hq.2.1);have Ge1:=iH (Ge0.out.grownP hq.2.1);clear hq k1 k2 f))
 have HCT:=iH (HCTy.out aB bB ad bd)
 have NOB:=iH (NOBy.out aB bB ad bd)
 have hp1:PtW P w w2 #[.int .i64 X.kd,.slice sA X.sec.length sc,.int .i64 X.pr,.int .i64 X.st,.slice nA X.non.length nc,.int .i64 X.x,.int .i64 X.g,.int .i64 X.own,.int .i64 o,.slice aB K1.length ad,.slice bB K2.length bd,.int .i64 0]:=by rw [HL1.out,HL2.out];exact HP1r.out
 have HP1:=iH hp1
 have g:=j4 hp1.1
 have HCT:=HCT.out
 have HCT:=iH HCT
 clear hp1 HP1r
 refine ja 10 [some 25,some 26,some 27,some 28,some 29,some 30,some 31,some 32,some 33,some 34] [[],[0],[0,1],[],[3],[3,4],[3,4,5],[0,1,2,3,4,5,6],[],[0,1,2,3,4,5,6,7,8]]
  (fun _ _ w1=>Below w2.heap.size w2 w1) (fun w1 w2=>Below w1.heap.size w1 w2)
  [.v (.pointer (some ⟨P,0,none⟩)),
   .v (.pointer (some ⟨P,0,none⟩)),
   .v (.agg #[.int .i64 X.kd,.slice sA X.sec.length sc,.int .i64 X.pr,.int .i64 X.st,.slice nA X.non.length nc,.int .i64 X.x,.int .i64 X.g,.int .i64 X.own,.int .i64 o,.slice aB K1.length ad,.slice bB K2.length bd,.int .i64 0]),
   .v (.pointer (some ⟨P,0,none⟩)),
   .v (.pointer (some ⟨P,0,none⟩)),
   .v (.pointer (some ⟨P,8,none⟩)),
   .v (.int .i64 o),
   .p (fun v w1=>∃A7 c7,v 7=.slice A7 8 c7/\BsS w1 (j9 P w1) (.slice A7 8 c7) T2) (fun _ _ _ _ _ hr ⟨A,c,h1,h2⟩=>⟨A,c,h1,h2.onB hr⟩),
   .v (.slice eA s.length ec),
   .p (fun v w1=>∃A9 c9,v 9=.slice A9 s.length c9/\BsS w1 (j9 P w1) (.slice A9 s.length c9) s) (fun _ _ _ _ _ hr ⟨A,c,h1,h2⟩=>⟨A,c,h1,h2.onB hr⟩)]
  (by kernel_rfl) (by kernel_rfl) rfl (fun _=>iB.drew) ?steps ?tail
 case steps=>
  simp only [List.take_succ_cons,List.take_zero]
  repeat' (with_reducible first|exact StepsRG.nil|refine StepsRG.cons ?_ ?_)
  all_goals(intro L v w1 hJ hL hF hD K hK;simp only [jb,Act.put,Nat.zero_add,Nat.reduceAdd,List.setIfInBounds_toArray,List.set_cons_zero,List.set_cons_succ,↓jZ,List.getD_cons_zero,List.getD_cons_succ,Nat.reduceEqDiff,↓reduceIte]at hD hK |-)
  all_goals(first
   |((try simp only [hD]at hK |-);go_simp;refine hK _ _ hJ iB ?_;first|exact rfl|exact jh _)
   |(have hp:=HP1.out.call hJ;(try simp only [hD]at hK |-);have q:=j4 hp.1;go_simp;refine hK _ _ hJ iB ?_;first|exact rfl|exact jh _)
   |skip)
  ·simp only [hD]at hK |-
   go_simp
   refine(HCT.out w1 (GB1.out.onB hJ).loB).mono ?_
   rintro e wk ⟨A8,c8,rfl,hs,hb⟩
   exact hK _ _ (hJ.trans (hb.mono hJ.size)) hb ⟨_,_,rfl,(BsS.off hs ((HP1.out.call hJ).call hb).1 (NOB.out)).keep fun g hg _=>⟨rfl,hg⟩⟩
  ·simp only [hD]at hK |-
   go_simp
   refine(js _ s w1 (Ge1.out.onB hJ).loB).mono ?_
   rintro e wk ⟨v2,rfl,ho,hb⟩
   obtain⟨A2,c2,hv2⟩:=OwnB.form ho
   subst hv2
   refine hK _ _ (hJ.trans (hb.mono hJ.size)) hb ⟨_,_,rfl,?_⟩
   exact BsS.madeB (OwnB.out ho (by have:=HL.out;omega) w1 iL) (HP1.out.call hJ).lt
 case tail=>
  intro v w1 hJ hF hD
  simp only [kE]at hD
  obtain⟨e0,e1,e2,e3,e4,e5,e6,e8, -⟩:=hD
  simp only [List.drop_succ_cons,List.drop_zero,jb,Act.put,Nat.zero_add,Nat.reduceAdd,List.setIfInBounds_toArray,List.set_cons_zero,List.set_cons_succ]
  obtain⟨A7,c7,e7,h7⟩:∃A7 c7,v 7=_/\_:=hF 7 (by simp)
  obtain⟨A9,c9,e9,h9⟩:∃A9 c9,v 9=_/\_:=hF 9 (by simp)
  simp only [e0,e1,e2,e3,e4,e5,e6,e8,e7,e9]
  have HP9:=iH (HP1.out.call hJ);have H7:=iH h7;have H9:=iH h9;have HJ9:=iH hJ
  clear hJ hF h7 h9 e0 e1 e2 e3 e4 e5 e6 e8 e7 e9
  go_wp2_with fail
  refine bodyPost_ret (v:=.tuple #[.int .i64 133,.slice A7 8 c7,.slice A9 s.length c9,.int .i64 0]) (by simp [results,Tryz.results92,go_sem]) rfl ?_
  have x7:=H7.out
  rw [<-HT8.out]at x7
  exact⟨A7,c7,A9,c9,by rw [HT8.out],⟨_,_,_,_,_,_,_,_,HP9.out,Gs1.out.onB HJ9.out,Gn1.out.onB HJ9.out,GA1.out.onB HJ9.out,GB1.out.onB HJ9.out⟩,x7,H9.out⟩
end
theorem qc(X:Exg)(sA nA aA bA:Option Addr)(sc nc ac bc:Nat)(vA eA:Option Addr)(vc ec:Nat)(B s:List UInt8)(w:World)(hK:KD w)(h1:Bs w w.heap.size (.slice sA X.sec.length sc) X.sec)(h2:Bs w w.heap.size (.slice nA X.non.length nc) X.non)(h3:Bs w w.heap.size (.slice aA X.k1.length ac) X.k1)(h4:Bs w w.heap.size (.slice bA X.k2.length bc) X.k2)(h5:Bs w w.heap.size (.slice vA B.length vc) B)(h6:Bs w w.heap.size (.slice eA s.length ec) s)(ls:X.sec.length<=140737488351232)(ln:X.non.length<=140737488351232)(l1:X.k1.length<=140737488351232)(l2:X.k2.length<=140737488351232)(hl:s.length<=140737488351232)(F:Nat)(hF:(X.st=0/\F=71)\/(X.st=1/\F=72)\/(X.st=2/\F=73)\/(X.st=3/\F=74))(hst:0<=X.st/\X.st<=3)(hus:usC X=true)(v:List UInt8)(hv:kB B (yl X.st) (Xc X)=some v)(hdo:(∃er:Int,(er != 0)=true/\j65 F X v s er/\jv X B s=jA er)\/∃(tag:Int) (Y:Exg) (dt nx:List UInt8),(128<=tag/\tag<=134)/\Y.st=X.st/\dt.length<=64/\j7r F X v s tag Y dt nx/\jv X B s=(0,{Y with st:=Y.st+1},jB tag dt,nx)):Calls Tryz.prog 33 #[.agg #[.int .i64 X.kd,.slice sA X.sec.length sc,.int .i64 X.pr,.int .i64 X.st,.slice nA X.non.length nc,.int .i64 X.x,.int .i64 X.g,.int .i64 X.own,.int .i64 X.oth,.slice aA X.k1.length ac,.slice bA X.k2.length bc,.int .i64 X.ct],.slice vA B.length vc,.slice eA s.length ec] w (ExO (jv X B s) w):=by
 have HF:=iH hF;have HUS:=iH hus;have HST:=iH hst;have HV:=iH hv;have HDO:=iH hdo
 obtain⟨w0,HW0,HB0,HSZ,FR,FZ,H1,H2,H3,H4,H5,H6⟩:=YN X sA nA aA bA sc nc ac bc h1 h2 h3 h4 h5 h6
 have HK:=iH hK;have HLN:=iH (And.intro ls (And.intro ln (And.intro l1 l2)));have HL:=iH hl
 have f:=j4 (FR.out w0 iB)
 have z:=j4 (FZ.out w0 iB)
 clear hK h1 h2 h3 h4 h5 h6 ls ln l1 l2 hl
 have d0:decide (X.st<0)=false:=decide_eq_false (by omega)
 have d3:decide (3<X.st)=false:=decide_eq_false (by omega)
 clear hF hus hst hv hdo
 obtain⟨o5,e5⟩:∃o,(X.pr==3)=o:=⟨_,rfl⟩
 cases o5
 all_goals(
  have HP3:=iH e5
  go_enter Tryz.func33,Tryz.ntmps33
  go_upto_region 1 with fail
  rw [<-HW0.out]
  go_upto_region 6 with (go_at_call 68;refine(yn X sA nA aA bA sc nc ac bc w0 H3.out H4.out HLN.out.2.2.1 HLN.out.2.2.2).mono ?_;rw [HUS.out];rintro e w1 ⟨rfl,hb⟩;have HB1:=iH hb;clear f;obtain⟨g0,g1,g2,g3,g4,g5,g6,g7,g8,g9,g10,g11,gf⟩:=j4 (FR.out _ hb);clear z;have z:=j4 (FZ.out _ hb);clear hb gf)
  go_upto_region 8 with fail
  have I0:=j7u;have I1:=j7v;have I2:=j7w;have I3:=j7x
  go_cut [11] from 33 to 41 (fun y wc=>∃q ty,y=.pointer (some ⟨q,0,none⟩)/\wc.heap[q]?=some (.cells #[.int .i64 (j64 X.st),.int .i64 (j4e X)] ty (0,0))/\Below w1.heap.size w1 wc/\q<wc.heap.size)
  case first=>
   have h4:X.st=0\/X.st=1\/X.st=2\/X.st=3:=by have:=HST.out;omega
   rcases h4 with h4|h4|h4|h4
   all_goals(rw [h4]at g3;have H4':=iH h4;clear h4;go_wp2_with fail;go_meet;exact⟨_,81,rfl,(iN).trans (by have hq:=HP3.out;simp at hq;simp [j64,yl,j4e,Xc,H4'.out,hq]),iA,by simp⟩)
  case rest=>
  obtain⟨q,ty,rfl,hq,hbw,hql⟩:=hcut
  obtain⟨q0,q1,_⟩:=two hq
  have HBC:=iH (HB1.out.trans (hbw.mono HB1.out.size))
  clear hq hbw hql g0 g1 g2 g3 g4 g5 g6 g7 g8 g9 g10 g11 z e5
  go_upto_region 12 with (go_at_call 69;refine(Zg X.st HST.out (j4e X) B _ _ (Bs.lift H5.out HBC.out)).mono ?_;rw [j1i,HV.out];rintro e w2 ⟨v2,rfl,hs,hb⟩;obtain⟨A2,c2,hv2⟩:=Bs.formL hs;subst hv2;have GV:=iH hs;have HB2:=iH (HBC.out.trans (hb.mono HBC.out.size));have f:=j4 (FR.out _ HB2.out);have z:=j4 (FZ.out _ HB2.out);clear hs hb)
  go_upto_region 13 with (go_at_call 70;refine(Q4 X sA nA aA bA sc nc ac bc w2 (H1.out.lift HB2.out) (H2.out.lift HB2.out) (H3.out.lift HB2.out) (H4.out.lift HB2.out) HLN.out.1 HLN.out.2.1 HLN.out.2.2.1 HLN.out.2.2.2).mono ?_;rintro e w3 ⟨sB,nB,aB,bB,sd,nd,ad,bd,rfl,k1,k2,k3,k4,hb⟩;have HB3:=iH (HB2.out.trans (hb.mono HB2.out.size));have hpz:=PtW.start (FZ.out _ HB3.out);clear f z;have f:=j4 (FR.out _ HB3.out);have z:=j4 hpz.1;have G1:=iH (BsS.madeB (p:=w.heap.size+1) k1 (by have:=HSZ.out;have:=HB2.out.size;omega));have G2:=iH (BsS.madeB (p:=w.heap.size+1) k2 (by have:=HSZ.out;have:=HB2.out.size;omega));have G3:=iH (BsS.madeB (p:=w.heap.size+1) k3 (by have:=HSZ.out;have:=HB2.out.size;omega));have G4:=iH (BsS.madeB (p:=w.heap.size+1) k4 (by have:=HSZ.out;have:=HB2.out.size;omega));have G5:=iH (BsS.onB (BsS.madeB (p:=w.heap.size+1) GV.out (by have:=HSZ.out;have:=HBC.out.size;omega)) hb);have HPZ:=iH hpz;clear k1 k2 k3 k4 hb hpz)
  obtain⟨w4,hw4⟩:∃z,z=set12 w3 (w.heap.size+1) (.int .i64 X.kd) (.slice sB X.sec.length sd) (.int .i64 X.pr) (.int .i64 X.st) (.slice nB X.non.length nd) (.int .i64 X.x) (.int .i64 X.g) (.int .i64 X.own) (.int .i64 X.oth) (.slice aB X.k1.length ad) (.slice bB X.k2.length bd) (.int .i64 X.ct):=⟨_,rfl⟩
  have hp4:PtW (w.heap.size+1) w3 w4 #[.int .i64 X.kd,.slice sB X.sec.length sd,.int .i64 X.pr,.int .i64 X.st,.slice nB X.non.length nd,.int .i64 X.x,.int .i64 X.g,.int .i64 X.own,.int .i64 X.oth,.slice aB X.k1.length ad,.slice bB X.k2.length bd,.int .i64 X.ct]:=by rw [hw4];exact HPZ.out.set12 (.int .i64 X.kd) (.slice sB X.sec.length sd) (.int .i64 X.pr) (.int .i64 X.st) (.slice nB X.non.length nd) (.int .i64 X.x) (.int .i64 X.g) (.int .i64 X.own) (.int .i64 X.oth) (.slice aB X.k1.length ad) (.slice bB X.k2.length bd) (.int .i64 X.ct)
  have g4:=fun {u:Value} {m:List UInt8} (h:BsS w3 (j9 (w.heap.size+1) w3) u m)=>(by rw [hw4];exact BsS.set12 h (.int .i64 X.kd) (.slice sB X.sec.length sd) (.int .i64 X.pr) (.int .i64 X.st) (.slice nB X.non.length nd) (.int .i64 X.x) (.int .i64 X.g) (.int .i64 X.own) (.int .i64 X.oth) (.slice aB X.k1.length ad) (.slice bB X.k2.length bd) (.int .i64 X.ct):BsS w4 (j9 (w.heap.size+1) w4) u m)
  have J1:=iH (g4 G1.out);have J2:=iH (g4 G2.out);have J3:=iH (g4 G3.out);have J4:=iH (g4 G4.out);have J5:=iH (g4 G5.out)
  have H6w:Hid (BsS w3 (j9 (w.heap.size+1) w3) (.slice eA s.length ec) s):=iH (BsS.keep (BsS.off (H6.out.lift HB3.out) (FZ.out _ HB3.out) Zo) fun g hs _=>⟨rfl,hs⟩)
  have J6:=iH (g4 H6w.out)
  have HQ4:=iH hp4
  have hfr4:w4.heap[w.heap.size]?=some (.cells (exX X sA nA aA bA sc nc ac bc) 48 (0,0)):=(hp4.2.1.block w.heap.size (by have:=HSZ.out;have:=HB3.out.size;omega) (by intro e;injection e with e;omega)).trans (FR.out _ HB3.out)
  unfold Go.Proofs.YtalmmiojbmpmiaaGreatDoor.set12 at hw4
  rw [<-hw4]
  clear hw4 hp4 g4 f z
  have f:=j4 hfr4
  clear hfr4
  have HK4:Hid (∀W,Below (w.heap.size+1) w4 W->KD W):=iH (fun W h=>HK.out.below (((HB0.out.trans (HB3.out.mono HB0.out.size)).mono iL).trans ((HQ4.out.2.2.mono (Nat.le_succ _)).trans (h.mono (Nat.le_succ _)))) HK.out.lt)
  have I0:=j8b;have I1:=j8c;have I2:=j8d;have I3:=j8e
  have HCF:∀(args:Array Value) (W:World),Sem.run Tryz.prog (callFunc F args) W=.ok (.enter F args) W:=by rcases HF.out with ⟨_,rfl⟩|⟨_,rfl⟩|⟨_,rfl⟩|⟨_,rfl⟩<;>(intro args W;kernel_rfl)
  go_cut [14] from 56 to 59 (fun y wc=>y=.func (.func F) #[] #[]/\wc=w4)
  case first=>
   rcases HF.out with ⟨h4,rfl⟩|⟨h4,rfl⟩|⟨h4,rfl⟩|⟨h4,rfl⟩
   all_goals(rw [h4]at f;clear h4;go_wp2_with fail;go_meet;exact⟨rfl,rfl⟩)
  case rest=>
  obtain⟨rfl,hwc⟩:=hcut
  have hwc:=hwc.symm
  subst hwc
  clear I0 I1 I2 I3
  rcases HDO.out with ⟨er,he,hdo,hr⟩|⟨tag,Y,dt,nx,htg,hyst,hdl,hdo,hr⟩
  ·have R:=iH hr;have HDQ:=iH hdo
   clear hdo hr
   go_wp2_with(refine(HDQ.out (w.heap.size+1) sB nB aB bB sd nd ad bd A2 eA c2 ec _ HK4.out HQ4.out.1 J1.out J2.out J3.out J4.out J5.out J6.out HL.out).mono ?_;rintro e w5 ⟨rfl,e0,e1,e2,e3,e4,e5,e6,e7,e8,e9,e10,e11,hpt⟩;have HPT:=iH hpt;have p:=j4 hpt.1;clear hpt)
   have y:=j4 (HPT.out.z12).1
   unfold Go.Proofs.YtalmmiojbmpmiaaGreatDoor.set12 at y
   refine bodyPost_ret (v:=.tuple #[.agg #[.int .i64 0,.slice none 0 0,.int .i64 0,.int .i64 0,.slice none 0 0,.int .i64 0,.int .i64 0,.int .i64 0,.int .i64 0,.slice none 0 0,.slice none 0 0,.int .i64 0],.slice none 0 0,.slice none 0 0,.int .i64 er]) (by simp [results,Tryz.results33,go_sem,y]) rfl ?_
   exact ExO.err R.out ((HB0.out.trans (HB3.out.mono HB0.out.size)).trans (Below.mono ((HQ4.out.2.2.trans HPT.out.2.2).trans (((PtW.start HPT.out.1).z12).2.2)) (Nat.le_succ _)))
  ·obtain⟨U,hU⟩:∃U,jB tag dt=U:=⟨_,rfl⟩
   rw [hU]at hr
   have R:=iH hr;have HDQ:=iH hdo
   have HWR:Hid (∀(A:Option Addr) (c:Nat) (W:World),Bs W W.heap.size (.slice A dt.length c) dt->Calls Tryz.prog 75 #[.int .i64 tag,.slice A dt.length c] W (Q6 U W)):=iH (fun A c W h=>hU▸zk tag htg A c dt W h hdl)
   have hy0:0<=Y.st:=by have:=HST.out;omega
   have hy3:Y.st<=3:=by have:=HST.out;omega
   clear htg hyst hdl hU hdo hr
   go_upto_region 15 with (refine(HDQ.out (w.heap.size+1) sB nB aB bB sd nd ad bd A2 eA c2 ec _ HK4.out HQ4.out.1 J1.out J2.out J3.out J4.out J5.out J6.out HL.out).mono ?_;rintro e w5 ⟨dA,dc,nA1,nc1,rfl,⟨sY,nY,aY,bY,sy,ny,ay,by_,hpt,k1,k2,k3,k4⟩,hd,hn⟩;have HPT:=iH hpt;have p:=j4 hpt.1;have K1:=iH k1;have K2:=iH k2;have K3:=iH k3;have K4:=iH k4;have KD1:=iH hd;have KN:=iH hn;clear hpt k1 k2 k3 k4 hd hn)
   go_upto_region 18 with fail
   obtain⟨w6,hw6⟩:∃z,z=w5.setCell ⟨w.heap.size+1,3,none⟩ (.int .i64 (Y.st+1)):=⟨_,rfl⟩
   rw [<-hw6]
   have hp6:PtW (w.heap.size+1) w4 w6 #[.int .i64 Y.kd,.slice sY Y.sec.length sy,.int .i64 Y.pr,.int .i64 (Y.st+1),.slice nY Y.non.length ny,.int .i64 Y.x,.int .i64 Y.g,.int .i64 Y.own,.int .i64 Y.oth,.slice aY Y.k1.length ay,.slice bY Y.k2.length by_,.int .i64 Y.ct]:=by rw [hw6];exact HPT.out.set 3 _
   have HP6:=iH hp6
   have D6:Hid (BsS w6 (j9 (w.heap.size+1) w6) _ _):=iH (by rw [hw6];exact BsS.setP KD1.out 3 _)
   have N6:Hid (BsS w6 (j9 (w.heap.size+1) w6) _ _):=iH (by rw [hw6];exact BsS.setP KN.out 3 _)
   have L1:Hid (BsS w6 (j9 (w.heap.size+1) w6) _ _):=iH (by rw [hw6];exact BsS.setP K1.out 3 _)
   have L2:Hid (BsS w6 (j9 (w.heap.size+1) w6) _ _):=iH (by rw [hw6];exact BsS.setP K2.out 3 _)
   have L3:Hid (BsS w6 (j9 (w.heap.size+1) w6) _ _):=iH (by rw [hw6];exact BsS.setP K3.out 3 _)
   have L4:Hid (BsS w6 (j9 (w.heap.size+1) w6) _ _):=iH (by rw [hw6];exact BsS.setP K4.out 3 _)
   clear hw6 hp6 p f q0 q1
   refine ja 7 [some 77,some 78,some 79,some 80,some 81,none,some 7] [[],[],[],[1,2],[],[0,1,2,3],[0,1,2,3,5]]
    (fun _ _ w1=>PtW (w.heap.size+1) w6 w1 #[.int .i64 Y.kd,.slice sY Y.sec.length sy,.int .i64 Y.pr,.int .i64 (Y.st+1),.slice nY Y.non.length ny,.int .i64 Y.x,.int .i64 Y.g,.int .i64 Y.own,.int .i64 Y.oth,.slice aY Y.k1.length ay,.slice bY Y.k2.length by_,.int .i64 Y.ct]) (fun w1 w2=>w1.grownBy w2 (some (w.heap.size+1)))
    [.v (.agg #[.int .i64 Y.kd,.slice sY Y.sec.length sy,.int .i64 Y.pr,.int .i64 (Y.st+1),.slice nY Y.non.length ny,.int .i64 Y.x,.int .i64 Y.g,.int .i64 Y.own,.int .i64 Y.oth,.slice aY Y.k1.length ay,.slice bY Y.k2.length by_,.int .i64 Y.ct]),
     .v (.int .i64 tag),
     .v (.slice dA dt.length dc),
     .p (fun v w1=>∃A c,v 3=.slice A U.length c/\BsS w1 (j9 (w.heap.size+1) w1) (.slice A U.length c) U) (fun _ _ _ _ _ hr ⟨A,c,h1,h2⟩=>⟨A,c,h1,h2.grownP hr⟩),
     .v (.slice nA1 nx.length nc1),
     .q fun v=>True,
     .q fun v=>∃A c,v 3=.slice A U.length c/\v 6=.slice A U.length c]
    (by kernel_rfl) (by kernel_rfl) rfl (fun _=>(PtW.start HP6.out.1).drew) ?steps ?tail
   case steps=>
    simp only [List.take_succ_cons,List.take_zero]
    repeat' (with_reducible first|exact StepsRG.nil|refine StepsRG.cons ?_ ?_)
    all_goals(intro L v w1 hJ hL hF hD K hK;simp only [jb,Act.put,Nat.zero_add,Nat.reduceAdd,List.setIfInBounds_toArray,List.set_cons_zero,List.set_cons_succ,↓jZ,List.getD_cons_zero,List.getD_cons_succ,Nat.reduceEqDiff,↓reduceIte]at hD hK |-)
    all_goals try((try simp only [hD]at hK |-);go_simp;refine hK _ _ hJ (World.grownBy.refl _ _) ?_;first|exact rfl|exact jh _)
    ·obtain⟨q0,q1,q2,q3,q4,q5,q6,q7,q8,q9,q10,q11,qf⟩:=j4 hJ.1
     go_simp
     refine hK _ _ hJ (World.grownBy.refl _ _) ?_
     first|exact rfl|exact jh _
    ·simp only [hD]at hK |-
     go_simp
     refine(HWR.out dA dc w1 (D6.out.grownP hJ.2.1).loB).mono ?_
     rintro e wk ⟨A3,c3,rfl,hs,hb⟩
     refine hK _ _ (hJ.call hb) (qH hb) ⟨_,_,rfl,?_⟩
     exact hs.madeB hJ.lt
    ·simp only [hD]at hK |-
     obtain⟨q0,q1,q2,q3,q4,q5,q6,q7,q8,q9,q10,q11,qf⟩:=j4 hJ.1
     have qf0:=qf 0;have qf1:=qf 1;have qf2:=qf 2;have qf3:=qf 3;have qf4:=qf 4;have qf5:=qf 5;have qf6:=qf 6;have qf7:=qf 7;have qf8:=qf 8;have qf9:=qf 9;have qf10:=qf 10;have qf11:=qf 11
     have HJq:=iH hJ
     clear hJ hL hF qf
     go_simp
     exact hK undef _ (HJq.out.s12) ((PtW.start HJq.out.1).s12).2.1 trivial
    ·simp only [hD]at hK |-
     obtain⟨A,c,e3,_⟩:∃A c,v 3=_/\_:=hF 3 (by simp)
     simp only [e3]at hK
     go_simp
     exact hK _ _ hJ (World.grownBy.refl _ _) ⟨A,c,e3,rfl⟩
   case tail=>
    intro v w1 hJ hF hD
    simp only [kE]at hD
    obtain⟨e0,e1,e2,e4, -⟩:=hD
    simp only [List.drop_succ_cons,List.drop_zero,jb,Act.put,Nat.zero_add,Nat.reduceAdd,List.setIfInBounds_toArray,List.set_cons_zero,List.set_cons_succ]
    obtain⟨A7,c7,e3,hu⟩:∃A c,v 3=_/\_:=hF 3 (by simp)
    obtain⟨A8,c8,e3b,e6⟩:∃A c,v 3=_/\v 6=_:=hF 6 (by simp)
    obtain⟨rfl,_,rfl⟩:=Value.slice.inj (e3.symm.trans e3b)
    simp only [e0,e1,e2,e3,e4,e6]
    have HP7:=iH hJ;have HU:=iH hu
    have y:=j4 hJ.1
    clear hJ hF hu e0 e1 e2 e3 e3b e4 e6
    go_wp2_with fail
    refine bodyPost_ret (v:=.tuple #[.agg #[.int .i64 Y.kd,.slice sY Y.sec.length sy,.int .i64 Y.pr,.int .i64 (Y.st+1),.slice nY Y.non.length ny,.int .i64 Y.x,.int .i64 Y.g,.int .i64 Y.own,.int .i64 Y.oth,.slice aY Y.k1.length ay,.slice bY Y.k2.length by_,.int .i64 Y.ct],.slice A7 U.length c7,.slice nA1 nx.length nc1,.int .i64 0]) (by simp [results,Tryz.results33,go_sem,y]) rfl ?_
    have hfin:∀ {u:Value} {m:List UInt8},BsS w6 (j9 (w.heap.size+1) w6) u m->Bs w1 w1.heap.size u m:=fun {u m} h=>(h.grownP HP7.out.2.1).loB
    have hbel:Below w.heap.size w w1:=(HB0.out.trans (HB3.out.mono HB0.out.size)).trans (Below.mono ((HQ4.out.2.2.trans HP6.out.2.2).trans HP7.out.2.2) (Nat.le_succ _))
    rw [R.out]
    exact⟨_,_,_,_,_,rfl,⟨_,_,_,_,rfl,hfin L1.out,hfin L2.out,hfin L3.out,hfin L4.out⟩,HU.out.loB,hfin N6.out,hbel⟩)
section
variable(P:Nat)(X:Exg)(sA nA aA bA:Option Addr)(sc nc ac bc:Nat)(vA eA:Option Addr)(vc ec:Nat)(v s:List UInt8)(w:World)(hK:∀W,Below P w W->KD W)(hr:w.heap[P]?=some (.cells (exX X sA nA aA bA sc nc ac bc) 48 (0,0)))(h1:BsS w (j9 P w) (.slice sA X.sec.length sc) X.sec)(h2:BsS w (j9 P w) (.slice nA X.non.length nc) X.non)(h3:BsS w (j9 P w) (.slice aA X.k1.length ac) X.k1)(h4:BsS w (j9 P w) (.slice bA X.k2.length bc) X.k2)(h5:BsS w (j9 P w) (.slice vA v.length vc) v)(h6:BsS w (j9 P w) (.slice eA s.length ec) s)(hl:s.length<=140737488351232)
include P X sA nA aA bA sc nc ac bc vA eA vc ec v s w hK hr h1 h2 h3 h4 h5 h6 hl
theorem Zy(hp:X.pr=3)(gi:Int)(hi:yj X.non v=(0,gi)):
 Calls Tryz.prog 72 #[.pointer (some ⟨P,0,none⟩),.slice vA v.length vc,.slice eA s.length ec] w (ym P w 130 {X with g:=gi} [] s):=by
 have HI:=iH (XG X.non v _ _ w (hK w iB) h2.loB h5.loB)
 rw [hi]at HI
 have t1:(X.pr==3)=true:=by simp [hp]
 clear hi hp
 have HP0:Hid (PtW P w w (exX X sA nA aA bA sc nc ac bc)):=iH (PtW.start hr)
 have HK:=iH hK;have Gs0:=iH h1;have Gn0:=iH h2;have Ga0:=iH h3;have Gb0:=iH h4;have Gv0:=iH h5;have Ge0:=iH h6;have HL:=iH hl
 have f:=j4 hr
 clear hK hr h1 h2 h3 h4 h5 h6 hl
 go_enter Tryz.func72,Tryz.ntmps72
 go_upto_region 3 with (go_at_call 27;refine HI.out.mono ?_;rintro e w1 ⟨rfl,hb⟩;have Gs1:=iH (Gs0.out.onB hb);have Gn1:=iH (Gn0.out.onB hb);have Ga1:=iH (Ga0.out.onB hb);have Gb1:=iH (Gb0.out.onB hb);have Gv1:=iH (Gv0.out.onB hb);have Ge1:=iH (Ge0.out.onB hb);have hp:=HP0.out.call hb;have HP1:=iH hp;obtain⟨g0,g1,g2,g3,g4,g5,g6,g7,g8,g9,g10,g11,gf⟩:=j4 hp.1;clear hp f;have gx:=gf 6;clear hb gf)
 go_upto_region 4 with fail
 obtain⟨w2,hw⟩:∃z,z=w1.setCell ⟨P,6,none⟩ (.int .i64 gi):=⟨_,rfl⟩
 rw [<-hw]
 have hp:PtW P w w2 #[.int .i64 X.kd,.slice sA X.sec.length sc,.int .i64 X.pr,.int .i64 X.st,.slice nA X.non.length nc,.int .i64 X.x,.int .i64 gi,.int .i64 X.own,.int .i64 X.oth,.slice aA X.k1.length ac,.slice bA X.k2.length bc,.int .i64 X.ct]:=by rw [hw];exact HP1.out.set 6 _
 have Gs2:Hid (BsS w2 (j9 P w2) _ _):=iH (by rw [hw];exact BsS.setP Gs1.out 6 _)
 have Gn2:Hid (BsS w2 (j9 P w2) _ _):=iH (by rw [hw];exact BsS.setP Gn1.out 6 _)
 have Ga2:Hid (BsS w2 (j9 P w2) _ _):=iH (by rw [hw];exact BsS.setP Ga1.out 6 _)
 have Gb2:Hid (BsS w2 (j9 P w2) _ _):=iH (by rw [hw];exact BsS.setP Gb1.out 6 _)
 have Gv2:Hid (BsS w2 (j9 P w2) _ _):=iH (by rw [hw];exact BsS.setP Gv1.out 6 _)
 have Ge2:Hid (BsS w2 (j9 P w2) _ _):=iH (by rw [hw];exact BsS.setP Ge1.out 6 _)
 have HP2:=iH hp
 have f:=j4 hp.1
 clear hw hp g0 g1 g2 g3 g4 g5 g6 g7 g8 g9 g10 g11 gx
 go_wp2_with(go_at_call 67;refine(js _ s w2 Ge2.out.loB).mono ?_;rintro e w3 ⟨v2,rfl,ho,hb⟩;obtain⟨cA,cc,hv2⟩:=OwnB.form ho;subst hv2;have HC:Hid (BsS w3 (j9 P w3) (.slice cA s.length cc) s):=iH (BsS.madeB (OwnB.out ho (by have:=HL.out;omega) w2 iL) HP2.out.lt);have Gs3:=iH (Gs2.out.onB hb);have Gn3:=iH (Gn2.out.onB hb);have Ga3:=iH (Ga2.out.onB hb);have Gb3:=iH (Gb2.out.onB hb);have Gv3:=iH (Gv2.out.onB hb);have Ge3:=iH (Ge2.out.onB hb);have hp:=HP2.out.call hb;have HP3:=iH hp;obtain⟨g0,g1,g2,g3,g4,g5,g6,g7,g8,g9,g10,g11,gf⟩:=j4 hp.1;clear hp f;clear ho hb)
 refine bodyPost_ret (v:=.tuple #[.int .i64 130,.slice none 0 0,.slice cA s.length cc,.int .i64 0]) (by simp [results,Tryz.results72,go_sem]) rfl ?_
 exact⟨_,_,_,_,rfl,⟨_,_,_,_,_,_,_,_,HP3.out,Gs3.out,Gn3.out,Ga3.out,Gb3.out⟩,k8 _ _,HC.out⟩
theorem Zw(hp:X.pr=2)(er o:Int)(hd:jc v=(er,o))(he:(er != 0)=true):
 Calls Tryz.prog 72 #[.pointer (some ⟨P,0,none⟩),.slice vA v.length vc,.slice eA s.length ec] w (Jp P w er):=by
 have HD:=iH (jW v _ _ w h5)
 rw [hd]at HD
 have t1:(X.pr==3)=false:=by simp [hp]
 clear hd hp
 have HP0:Hid (PtW P w w (exX X sA nA aA bA sc nc ac bc)):=iH (PtW.start hr)
 have HK:=iH hK;have Gs0:=iH h1;have Gn0:=iH h2;have Ga0:=iH h3;have Gb0:=iH h4;have Gv0:=iH h5;have Ge0:=iH h6;have HL:=iH hl
 have f:=j4 hr
 clear hK hr h1 h2 h3 h4 h5 h6 hl
 go_enter Tryz.func72,Tryz.ntmps72
 go_wp2_with(go_at_call 126;refine iR HD.out ?_)
 refine bodyPost_ret (v:=.tuple #[.int .i64 0,.slice none 0 0,.slice none 0 0,.int .i64 er]) (by simp [results,Tryz.results72,go_sem]) rfl ?_
 exact⟨rfl,_,_,_,_,_,_,_,_,_,_,_,_,HP0.out⟩
theorem Zx(hp:X.pr=2)(o:Int)(hd:jc v=(0,o))(er zg:Int)(hg:qT X.non (jX s) o=(er,zg))(he:(er != 0)=true):
 Calls Tryz.prog 72 #[.pointer (some ⟨P,0,none⟩),.slice vA v.length vc,.slice eA s.length ec] w (Jp P w er):=by
 have HD:=iH (jW v _ _ w h5)
 rw [hd]at HD
 have t1:(X.pr==3)=false:=by simp [hp]
 have HS:=iH (xd _ s w (hK w iB) h6.loB (by omega))
 unfold Ko at HS
 have hks:=yb s
 obtain⟨ks,hk⟩:∃ks,jX s=ks:=⟨_,rfl⟩
 rw [hk]at HS hks hg
 have HGE:=iH (fun(u:Value) (W:World) h=>xe X.non u ks o W h)
 rw [hg]at HGE
 clear hd hp hk hks hg
 have HP0:Hid (PtW P w w (exX X sA nA aA bA sc nc ac bc)):=iH (PtW.start hr)
 have HK:=iH hK;have Gs0:=iH h1;have Gn0:=iH h2;have Ga0:=iH h3;have Gb0:=iH h4;have Gv0:=iH h5;have Ge0:=iH h6;have HL:=iH hl
 have f:=j4 hr
 clear hK hr h1 h2 h3 h4 h5 h6 hl
 go_enter Tryz.func72,Tryz.ntmps72
 go_upto_region 10 with (first|(go_at_call 126;refine iR HD.out ?_)|(go_at_call 127;refine HS.out.mono ?_;rintro e w1 ⟨B1,d1,rfl,hbx,hb⟩;have GX1:=iH (hbx.madeB HP0.out.lt);have Gs1:=iH (Gs0.out.onB hb);have Gn1:=iH (Gn0.out.onB hb);have Ga1:=iH (Ga0.out.onB hb);have Gb1:=iH (Gb0.out.onB hb);have Gv1:=iH (Gv0.out.onB hb);have Ge1:=iH (Ge0.out.onB hb);have hp:=HP0.out.call hb;have HP1:=iH hp;obtain⟨g0,g1,g2,g3,g4,g5,g6,g7,g8,g9,g10,g11,gf⟩:=j4 hp.1;clear hp f;have gx:=gf 6;clear hb hbx gf)|(go_at_call 23;refine iR (HGE.out _ w1 Gn1.out.loB) ?_))
 obtain⟨w2,hw⟩:∃z,z=w1.setCell ⟨P,6,none⟩ (.int .i64 zg):=⟨_,rfl⟩
 rw [<-hw]
 have hp:PtW P w w2 #[.int .i64 X.kd,.slice sA X.sec.length sc,.int .i64 X.pr,.int .i64 X.st,.slice nA X.non.length nc,.int .i64 X.x,.int .i64 zg,.int .i64 X.own,.int .i64 X.oth,.slice aA X.k1.length ac,.slice bA X.k2.length bc,.int .i64 X.ct]:=by rw [hw];exact HP1.out.set 6 _
 have HP2:=iH hp
 have f:=j4 hp.1
 clear hw hp g0 g1 g2 g3 g4 g5 g6 g7 g8 g9 g10 g11 gx
 go_wp2_with fail
 refine bodyPost_ret (v:=.tuple #[.int .i64 0,.slice none 0 0,.slice none 0 0,.int .i64 er]) (by simp [results,Tryz.results72,go_sem]) rfl ?_
 exact⟨rfl,_,_,_,_,_,_,_,_,_,_,_,_,HP2.out⟩
theorem Zv(hp:X.pr=2)(o:Int)(hd:jc v=(0,o))(gi:Int)(hg:qT X.non (jX s) o=(0,gi)):
 Calls Tryz.prog 72 #[.pointer (some ⟨P,0,none⟩),.slice vA v.length vc,.slice eA s.length ec] w (ym P w 130 {X with g:=gi} (jd (jM 4 (jX s))) (sdW s)):=by
 have HD:=iH (jW v _ _ w h5)
 rw [hd]at HD
 have t1:(X.pr==3)=false:=by simp [hp]
 have HS:=iH (xd _ s w (hK w iB) h6.loB (by omega))
 unfold Ko at HS
 have hks:=yb s
 obtain⟨ks,hk⟩:∃ks,jX s=ks:=⟨_,rfl⟩
 rw [hk]at HS hks hg |-
 have HGE:=iH (fun(u:Value) (W:World) h=>xe X.non u ks o W h)
 rw [hg]at HGE
 have HPB:=iH (XD ks hks)
 obtain⟨G,hG⟩:∃G,jM 4 ks=G:=⟨_,rfl⟩
 have hge:jk G=true:=by rw [<-hG];exact kg 4 ks xE hks
 rw [hG]at HPB |-
 have HEN:=iH (kW G hge)
 clear hG hge
 clear hd hp hk hks hg
 have HP0:Hid (PtW P w w (exX X sA nA aA bA sc nc ac bc)):=iH (PtW.start hr)
 have HK:=iH hK;have Gs0:=iH h1;have Gn0:=iH h2;have Ga0:=iH h3;have Gb0:=iH h4;have Gv0:=iH h5;have Ge0:=iH h6;have HL:=iH hl
 have f:=j4 hr
 clear hK hr h1 h2 h3 h4 h5 h6 hl
 go_enter Tryz.func72,Tryz.ntmps72
 go_upto_region 10 with (first|(go_at_call 126;refine iR HD.out ?_)|(go_at_call 127;refine HS.out.mono ?_;rintro e w1 ⟨B1,d1,rfl,hbx,hb⟩;have GX1:=iH (hbx.madeB HP0.out.lt);have Gs1:=iH (Gs0.out.onB hb);have Gn1:=iH (Gn0.out.onB hb);have Ga1:=iH (Ga0.out.onB hb);have Gb1:=iH (Gb0.out.onB hb);have Gv1:=iH (Gv0.out.onB hb);have Ge1:=iH (Ge0.out.onB hb);have hp:=HP0.out.call hb;have HP1:=iH hp;obtain⟨g0,g1,g2,g3,g4,g5,g6,g7,g8,g9,g10,g11,gf⟩:=j4 hp.1;clear hp f;have gx:=gf 6;clear hb hbx gf)|(go_at_call 23;refine iR (HGE.out _ w1 Gn1.out.loB) ?_))
 obtain⟨w2,hw⟩:∃z,z=w1.setCell ⟨P,6,none⟩ (.int .i64 gi):=⟨_,rfl⟩
 rw [<-hw]
 have hp:PtW P w w2 #[.int .i64 X.kd,.slice sA X.sec.length sc,.int .i64 X.pr,.int .i64 X.st,.slice nA X.non.length nc,.int .i64 X.x,.int .i64 gi,.int .i64 X.own,.int .i64 X.oth,.slice aA X.k1.length ac,.slice bA X.k2.length bc,.int .i64 X.ct]:=by rw [hw];exact HP1.out.set 6 _
 have Gs2:Hid (BsS w2 (j9 P w2) _ _):=iH (by rw [hw];exact BsS.setP Gs1.out 6 _)
 have Gn2:Hid (BsS w2 (j9 P w2) _ _):=iH (by rw [hw];exact BsS.setP Gn1.out 6 _)
 have Ga2:Hid (BsS w2 (j9 P w2) _ _):=iH (by rw [hw];exact BsS.setP Ga1.out 6 _)
 have Gb2:Hid (BsS w2 (j9 P w2) _ _):=iH (by rw [hw];exact BsS.setP Gb1.out 6 _)
 have Gv2:Hid (BsS w2 (j9 P w2) _ _):=iH (by rw [hw];exact BsS.setP Gv1.out 6 _)
 have Ge2:Hid (BsS w2 (j9 P w2) _ _):=iH (by rw [hw];exact BsS.setP Ge1.out 6 _)
 have GX2:Hid (BsS w2 (j9 P w2) _ _):=iH (by rw [hw];exact BsS.setP GX1.out 6 _)
 have HP2:=iH hp
 have f:=j4 hp.1
 clear hw hp g0 g1 g2 g3 g4 g5 g6 g7 g8 g9 g10 g11 gx
 go_wp2_with(first
  |(go_at_call 128;refine iR (HPB.out _) ?_)
  |(go_at_call 129;refine(HEN.out w2).mono ?_;rintro e w3 ⟨A3,c3,rfl,hs,hb⟩;have GE3:=iH (hs.madeB HP2.out.lt);have Gs3:=iH (Gs2.out.onB hb);have Gn3:=iH (Gn2.out.onB hb);have Ga3:=iH (Ga2.out.onB hb);have Gb3:=iH (Gb2.out.onB hb);have Gv3:=iH (Gv2.out.onB hb);have Ge3:=iH (Ge2.out.onB hb);have GX3:=iH (GX2.out.onB hb);have hp:=HP2.out.call hb;have HP3:=iH hp;obtain⟨g0,g1,g2,g3,g4,g5,g6,g7,g8,g9,g10,g11,gf⟩:=j4 hp.1;clear hp f;clear hs hb))
 refine bodyPost_ret (v:=.tuple #[.int .i64 130,.slice A3 4 c3,.slice B1 32 d1,.int .i64 0]) (by simp [results,Tryz.results72,go_sem]) rfl ?_
 have hx:(sdW s).length=32:=je _
 have x3:BsS w3 (j9 P w3) (.slice B1 (sdW s).length d1) (sdW s):=by rw [hx];exact GX3.out
 exact⟨A3,c3,B1,d1,by rw [hx]<;>rfl,⟨_,_,_,_,_,_,_,_,HP3.out,Gs3.out,Gn3.out,Ga3.out,Gb3.out⟩,GE3.out,x3⟩
end
theorem qt{X:Exg}(h:usC X=true):vPw X.kd X.sec=true/\(X.pr=2\/X.pr=3)/\(1<=X.st->X.non.length=16)/\(2<=X.st->jk X.g=true)/\(3<=X.st->jk X.own=true/\jk X.oth=true/\X.k2.length=16):=by
 unfold usC kj qe vS at h
 simp only [Bool.and_eq_true,Bool.or_eq_true,decide_eq_true_eq]at h
 obtain⟨⟨⟨⟨hp,hpr⟩,h1⟩,h2⟩,h3⟩:=h
 exact⟨hp,hpr,fun q=>h1.resolve_left (by omega),fun q=>h2.resolve_left (by omega),fun q=>by
  obtain⟨⟨a,b⟩,c⟩:=h3.resolve_left (by omega)
  exact⟨a,b,c.2.1⟩⟩
theorem j6z(k n:List UInt8)(h:n.length=16):(qg k Z16 n).length=16:=by rw [ze _ _ _ (m:=1) (by omega),KU]
theorem U7{tag:Int}{z:Nat}{l:Ns}{v:List UInt8}(h0:¬tag=0)(h:K9 tag z l=some v):v.length=z:=by
 unfold K9 at h
 split at h
 ·split at h
  ·cases h
  ·try rw [iF h0]at h
   split at h
   ·split at h
    ·rename_i hh
     cases h
     exact hh.2
    ·cases h
   ·cases h
 ·cases h
theorem Zi{X:Exg}{B v:List UInt8}(q:X.st=1)(hp:X.pr=3)(h:kB B (yl X.st) (Xc X)=some v):v.length=16:=by
 have hs:Xc X=16:=by unfold Xc;rw [iT q,iT hp]
 rw [hs]at h
 unfold kB at h
 split at h
 ·cases h
 ·exact U7 (by rw [q];decide) h
theorem qi{er:Int}(h:¬er=0):(er != 0)=true:=by simp [h]
theorem j20(X:Exg)(sA nA aA bA:Option Addr)(sc nc ac bc:Nat)(vA eA:Option Addr)(vc ec:Nat)(B s:List UInt8)(w:World)(hK:KD w)(h1:Bs w w.heap.size (.slice sA X.sec.length sc) X.sec)(h2:Bs w w.heap.size (.slice nA X.non.length nc) X.non)(h3:Bs w w.heap.size (.slice aA X.k1.length ac) X.k1)(h4:Bs w w.heap.size (.slice bA X.k2.length bc) X.k2)(h5:Bs w w.heap.size (.slice vA B.length vc) B)(h6:Bs w w.heap.size (.slice eA s.length ec) s)(ls:X.sec.length<=140737488351232)(ln:X.non.length<=140737488351232)(l1:X.k1.length<=140737488351232)(l2:X.k2.length<=140737488351232)(hl:s.length<=140737488351232):Calls Tryz.prog 33 #[.agg #[.int .i64 X.kd,.slice sA X.sec.length sc,.int .i64 X.pr,.int .i64 X.st,.slice nA X.non.length nc,.int .i64 X.x,.int .i64 X.g,.int .i64 X.own,.int .i64 X.oth,.slice aA X.k1.length ac,.slice bA X.k2.length bc,.int .i64 X.ct],.slice vA B.length vc,.slice eA s.length ec] w (ExO (jv X B s) w):=by
 by_cases hst:X.st<0\/3<X.st
 ·exact Ul X sA nA aA bA sc nc ac bc vA eA vc ec B s w hK h1 h2 h3 h4 h5 h6 ls ln l1 l2 hl hst
 have hst:0<=X.st/\X.st<=3:=by omega
 rcases hus:usC X with _|_
 ·exact Xm X sA nA aA bA sc nc ac bc vA eA vc ec B s w hK h1 h2 h3 h4 h5 h6 ls ln l1 l2 hl hst hus
 rcases hv:kB B (yl X.st) (Xc X)with _|v
 ·exact Vv X sA nA aA bA sc nc ac bc vA eA vc ec B s w hK h1 h2 h3 h4 h5 h6 ls ln l1 l2 hl hst hus hv
 obtain⟨hp,hpr,hn,hg,hpa⟩:=qt hus
 have hq:X.st=0\/X.st=1\/X.st=2\/X.st=3:=by omega
 rcases hq with q|q|q|q
 ·have hd:(jt s 16).length=16:=by unfold jt;rw [List.length_take,je];omega
  have hh:qr X.kd X.sec (jt s 16)=(0,qg (kX X.kd X.sec) Z16 (jt s 16)):=by
   unfold qr
   rw [iF (by rw [hp];simp),iF (by omega)]
  have hr:jv X B s=(0,{({X with non:=jt s 16}:Exg)with st:=X.st+1},jB 128 (qr X.kd X.sec (jt s 16)).2,sdW s):=by
   unfold jv;rw [iF (by omega),iF (by rw [hus];simp),hv];simp only [];rw [iT q,q]<;>rfl
  exact qc X sA nA aA bA sc nc ac bc vA eA vc ec B s w hK h1 h2 h3 h4 h5 h6 ls ln l1 l2 hl 71 (.inl ⟨q,rfl⟩) hst hus v hv (.inr ⟨128,{X with non:=jt s 16},(qr X.kd X.sec (jt s 16)).2,(sdW s),⟨by omega,by omega⟩,rfl,(by rw [hh];show(qg (kX X.kd X.sec) Z16 (jt s 16)).length<=64;rw [j6z _ _ hd];omega),(fun P sA nA aA bA sc nc ac bc vA eA vc ec w k r h1 h2 h3 h4 h5 h6 h7=>zR P X sA nA aA bA sc nc ac bc vA eA vc ec v s w k r h1 h2 h3 h4 h5 h6 h7 hp),hr⟩)
 ·have hn:=hn (by omega)
  by_cases hp3:X.pr=3
  ·obtain⟨gi,hi⟩:∃g,yj X.non v=(0,g):=⟨_,by unfold yj;rw [iF (fun x=>x ⟨hn,Zi q hp3 hv⟩)]⟩
   have hr:jv X B s=(0,{({X with g:=gi}:Exg)with st:=X.st+1},jB 130 [],s):=by
    unfold jv;rw [iF (by omega),iF (by rw [hus];simp),hv];simp only [];rw [iF (by omega),iT q,iT hp3,hi,q]<;>rfl
   exact qc X sA nA aA bA sc nc ac bc vA eA vc ec B s w hK h1 h2 h3 h4 h5 h6 ls ln l1 l2 hl 72 (.inr (.inl ⟨q,rfl⟩)) hst hus v hv (.inr ⟨130,{X with g:=gi},[],s,⟨by omega,by omega⟩,rfl,(by simp),(fun P sA nA aA bA sc nc ac bc vA eA vc ec w k r h1 h2 h3 h4 h5 h6 h7=>Zy P X sA nA aA bA sc nc ac bc vA eA vc ec v s w k r h1 h2 h3 h4 h5 h6 h7 hp3 gi hi),hr⟩)
  have hp2:X.pr=2:=by omega
  obtain⟨⟨er,o⟩,hde⟩:∃r,jc v=r:=⟨_,rfl⟩
  by_cases he:er=0
  ·subst he
   obtain⟨⟨er,gi⟩,hge⟩:∃r,qT X.non (jX s) o=r:=⟨_,rfl⟩
   by_cases he:er=0
   ·subst he
    have hr:jv X B s=(0,{({X with g:=gi}:Exg)with st:=X.st+1},jB 130 (jd (jM 4 (jX s))),sdW s):=by
     unfold jv;rw [iF (by omega),iF (by rw [hus];simp),hv];simp only [];rw [iF (by omega),iT q,iF hp3,hde];simp only [];rw [hge,iF (by simp),iF (by simp),q]<;>rfl
    exact qc X sA nA aA bA sc nc ac bc vA eA vc ec B s w hK h1 h2 h3 h4 h5 h6 ls ln l1 l2 hl 72 (.inr (.inl ⟨q,rfl⟩)) hst hus v hv (.inr ⟨130,{X with g:=gi},(jd (jM 4 (jX s))),(sdW s),⟨by omega,by omega⟩,rfl,(by simp [jd]),(fun P sA nA aA bA sc nc ac bc vA eA vc ec w k r h1 h2 h3 h4 h5 h6 h7=>Zv P X sA nA aA bA sc nc ac bc vA eA vc ec v s w k r h1 h2 h3 h4 h5 h6 h7 hp2 o hde gi hge),hr⟩)
   ·have hr:jv X B s=jA er:=by
     unfold jv;rw [iF (by omega),iF (by rw [hus];simp),hv];simp only [];rw [iF (by omega),iT q,iF hp3,hde];simp only [];rw [hge,iF (by simp),iT he]
    exact qc X sA nA aA bA sc nc ac bc vA eA vc ec B s w hK h1 h2 h3 h4 h5 h6 ls ln l1 l2 hl 72 (.inr (.inl ⟨q,rfl⟩)) hst hus v hv (.inl ⟨er,(qi he),(fun P sA nA aA bA sc nc ac bc vA eA vc ec w k r h1 h2 h3 h4 h5 h6 h7=>Zx P X sA nA aA bA sc nc ac bc vA eA vc ec v s w k r h1 h2 h3 h4 h5 h6 h7 hp2 o hde er gi hge (qi he)),hr⟩)
  ·have hr:jv X B s=jA er:=by
    unfold jv;rw [iF (by omega),iF (by rw [hus];simp),hv];simp only [];rw [iF (by omega),iT q,iF hp3,hde];simp only [];rw [iT he]
   exact qc X sA nA aA bA sc nc ac bc vA eA vc ec B s w hK h1 h2 h3 h4 h5 h6 ls ln l1 l2 hl 72 (.inr (.inl ⟨q,rfl⟩)) hst hus v hv (.inl ⟨er,(qi he),(fun P sA nA aA bA sc nc ac bc vA eA vc ec w k r h1 h2 h3 h4 h5 h6 h7=>Zw P X sA nA aA bA sc nc ac bc vA eA vc ec v s w k r h1 h2 h3 h4 h5 h6 h7 hp2 er o hde (qi he)),hr⟩)
 ·have hg:=hg (by omega)
  obtain⟨⟨er,o⟩,hde⟩:∃r,jc v=r:=⟨_,rfl⟩
  by_cases he:er=0
  ·subst he
   by_cases heq:o=jM X.g (jX s)
   ·have hr:jv X B s=jA 10:=by
     unfold jv;rw [iF (by omega),iF (by rw [hus];simp),hv];simp only [];rw [iF (by omega),iF (by omega),iT q,hde];simp only [];rw [iF (by simp),iT heq]
    exact qc X sA nA aA bA sc nc ac bc vA eA vc ec B s w hK h1 h2 h3 h4 h5 h6 ls ln l1 l2 hl 73 (.inr (.inr (.inl ⟨q,rfl⟩))) hst hus v hv (.inl ⟨10,(by decide),(fun P sA nA aA bA sc nc ac bc vA eA vc ec w k r h1 h2 h3 h4 h5 h6 h7=>Kg P X sA nA aA bA sc nc ac bc vA eA vc ec v s w k r h1 h2 h3 h4 h5 h6 h7 o hg hde heq),hr⟩)
   ·have hys:(kf {X with x:=jX s,own:=jM X.g (jX s)} o).2.st=X.st:=by unfold kf;rw [iF heq]
    have hr:jv X B s=(0,{(kf {X with x:=jX s,own:=jM X.g (jX s)} o).2 with st:=(kf {X with x:=jX s,own:=jM X.g (jX s)} o).2.st+1},jB 132 (jd (jM X.g (jX s))),sdW s):=by
     rw [hys];unfold jv;rw [iF (by omega),iF (by rw [hus];simp),hv];simp only [];rw [iF (by omega),iF (by omega),iT q,hde];simp only [];rw [iF (by simp),iF heq,q]<;>rfl
    exact qc X sA nA aA bA sc nc ac bc vA eA vc ec B s w hK h1 h2 h3 h4 h5 h6 ls ln l1 l2 hl 73 (.inr (.inr (.inl ⟨q,rfl⟩))) hst hus v hv (.inr ⟨132,_,(jd (jM X.g (jX s))),(sdW s),⟨by omega,by omega⟩,hys,(by simp [jd]),(fun P sA nA aA bA sc nc ac bc vA eA vc ec w k r h1 h2 h3 h4 h5 h6 h7=>Qf P X sA nA aA bA sc nc ac bc vA eA vc ec v s w k r h1 h2 h3 h4 h5 h6 h7 o hg hde heq),hr⟩)
  ·have hr:jv X B s=jA er:=by
    unfold jv;rw [iF (by omega),iF (by rw [hus];simp),hv];simp only [];rw [iF (by omega),iF (by omega),iT q,hde];simp only [];rw [iT he]
   exact qc X sA nA aA bA sc nc ac bc vA eA vc ec B s w hK h1 h2 h3 h4 h5 h6 ls ln l1 l2 hl 73 (.inr (.inr (.inl ⟨q,rfl⟩))) hst hus v hv (.inl ⟨er,(qi he),(fun P sA nA aA bA sc nc ac bc vA eA vc ec w k r h1 h2 h3 h4 h5 h6 h7=>Qg P X sA nA aA bA sc nc ac bc vA eA vc ec v s w k r h1 h2 h3 h4 h5 h6 h7 er o hde (qi he)),hr⟩)
 ·obtain⟨ho,ht,hk2⟩:=hpa (by omega)
  by_cases hvt:v=tkW X X.own
  ·have hr:jv X B s=(0,{X with st:=X.st+1},jB 134 (tkW X X.oth),s):=by
    unfold jv;rw [iF (by omega),iF (by rw [hus];simp),hv];simp only [];rw [iF (by omega),iF (by omega),iF (by omega),iF (fun x=>x hvt),q]<;>rfl
   exact qc X sA nA aA bA sc nc ac bc vA eA vc ec B s w hK h1 h2 h3 h4 h5 h6 ls ln l1 l2 hl 74 (.inr (.inr (.inr (⟨q,rfl⟩)))) hst hus v hv (.inr ⟨134,X,(tkW X X.oth),s,⟨by omega,by omega⟩,rfl,(by rw [tkl X _ hk2];omega),(fun P sA nA aA bA sc nc ac bc vA eA vc ec w k r h1 h2 h3 h4 h5 h6 h7=>Qh P X sA nA aA bA sc nc ac bc vA eA vc ec v s w k r h1 h2 h3 h4 h5 h6 h7 hk2 ho ht hvt),hr⟩)
  ·have hr:jv X B s=jA 21:=by
    unfold jv;rw [iF (by omega),iF (by rw [hus];simp),hv];simp only [];rw [iF (by omega),iF (by omega),iF (by omega),iT hvt]
   exact qc X sA nA aA bA sc nc ac bc vA eA vc ec B s w hK h1 h2 h3 h4 h5 h6 ls ln l1 l2 hl 74 (.inr (.inr (.inr (⟨q,rfl⟩)))) hst hus v hv (.inl ⟨21,(by decide),(fun P sA nA aA bA sc nc ac bc vA eA vc ec w k r h1 h2 h3 h4 h5 h6 h7=>Qi P X sA nA aA bA sc nc ac bc vA eA vc ec v s w k r h1 h2 h3 h4 h5 h6 h7 hk2 ho hvt),hr⟩)
end Go.Proofs.YtalmmiojbmpmiaaGreatDoor
