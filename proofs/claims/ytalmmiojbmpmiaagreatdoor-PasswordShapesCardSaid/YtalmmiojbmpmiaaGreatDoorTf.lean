/- Layer 21: the terminal's step; Layer 21: the terminal's step, done; Layer 21: the chip's step in all cases; Layer 21: the terminal's step in all cases; Layer... -/
import Derived.Test.YtalmmiojbmpmiaaGreatDoorPBt
import Derived.Test.YtalmmiojbmpmiaaGreatDoorPBx
import Derived.Test.YtalmmiojbmpmiaaGreatDoorTb
import Derived.Test.YtalmmiojbmpmiaaGreatDoorTc
set_option linter.all false
set_option maxRecDepth 100000
set_option maxHeartbeats 32000000
namespace Go.Proofs.YtalmmiojbmpmiaaGreatDoor
open Go.RowKit Go.Deep
theorem ExO.err{w w':World}{er:Int}{r:Int×Exg×List UInt8×List UInt8}(hr:r=qk er)(hb:Below w.heap.size w w'):ExO r w (.returned (.tuple #[.agg #[.int .i64 0,.slice none 0 0,.int .i64 0,.int .i64 0,.slice none 0 0,.int .i64 0,.int .i64 0,.int .i64 0,.int .i64 0,.slice none 0 0,.slice none 0 0,.int .i64 0],.slice none 0 0,.slice none 0 0,.int .i64 er])) w':=by
 subst hr
 exact⟨_,_,_,_,_,rfl,⟨_,_,_,_,rfl,kh _ _,kh _ _,kh _ _,kh _ _⟩,kh _ _,kh _ _,hb⟩
theorem chip_state(X:Exg)(sA nA aA bA:Option Addr)(sc nc ac bc:Nat)(vA eA:Option Addr)(vc ec:Nat)(B s:List UInt8)(w:World)(hK:KD w)(h1:Bs w w.heap.size (.slice sA X.sec.length sc) X.sec)(h2:Bs w w.heap.size (.slice nA X.non.length nc) X.non)(h3:Bs w w.heap.size (.slice aA X.k1.length ac) X.k1)(h4:Bs w w.heap.size (.slice bA X.k2.length bc) X.k2)(h5:Bs w w.heap.size (.slice vA B.length vc) B)(h6:Bs w w.heap.size (.slice eA s.length ec) s)(ls:X.sec.length<=140737488351232)(ln:X.non.length<=140737488351232)(l1:X.k1.length<=140737488351232)(l2:X.k2.length<=140737488351232)(hl:s.length<=140737488351232)(hst:X.st<0\/3<X.st):Calls Tryz.prog 33 #[.agg #[.int .i64 X.kd,.slice sA X.sec.length sc,.int .i64 X.pr,.int .i64 X.st,.slice nA X.non.length nc,.int .i64 X.x,.int .i64 X.g,.int .i64 X.own,.int .i64 X.oth,.slice aA X.k1.length ac,.slice bA X.k2.length bc,.int .i64 X.ct],.slice vA B.length vc,.slice eA s.length ec] w (ExO (U2 X B s) w):=by
 have R:Hid (U2 X B s=qk 23):=iH (by unfold U2;rw [iT hst])
 obtain⟨w0,hw0⟩:∃w0,w0=(w.alloc (.cells #[.int .i64 X.kd,.slice sA X.sec.length sc,.int .i64 X.pr,.int .i64 X.st,.slice nA X.non.length nc,.int .i64 X.x,.int .i64 X.g,.int .i64 X.own,.int .i64 X.oth,.slice aA X.k1.length ac,.slice bA X.k2.length bc,.int .i64 X.ct] 48)).alloc (.cells #[.int .i64 0,.slice none 0 0,.int .i64 0,.int .i64 0,.slice none 0 0,.int .i64 0,.int .i64 0,.int .i64 0,.int .i64 0,.slice none 0 0,.slice none 0 0,.int .i64 0] 48):=⟨_,rfl⟩
 have hb0:Below w.heap.size w w0:=by rw [hw0];exact(iA).alloc (by simp) _
 have hz0:w0.heap.size=w.heap.size+2:=by rw [hw0];simp
 have FR:Hid (∀W,Below w0.heap.size w0 W->W.heap[w.heap.size]?=some (.cells #[.int .i64 X.kd,.slice sA X.sec.length sc,.int .i64 X.pr,.int .i64 X.st,.slice nA X.non.length nc,.int .i64 X.x,.int .i64 X.g,.int .i64 X.own,.int .i64 X.oth,.slice aA X.k1.length ac,.slice bA X.k2.length bc,.int .i64 X.ct] 48 (0,0))):=iH (fun W h=>(h.block w.heap.size (by omega)).trans (by rw [hw0];exact(Below.heap_alloc _ _ _ (by simp)).trans (iN)))
 have FZ:Hid (∀W,Below w0.heap.size w0 W->W.heap[w.heap.size+1]?=some (.cells #[.int .i64 0,.slice none 0 0,.int .i64 0,.int .i64 0,.slice none 0 0,.int .i64 0,.int .i64 0,.int .i64 0,.int .i64 0,.slice none 0 0,.slice none 0 0,.int .i64 0] 48 (0,0))):=iH (fun W h=>(h.block (w.heap.size+1) (by omega)).trans (by rw [hw0];exact(show((w.alloc (.cells #[.int .i64 X.kd,.slice sA X.sec.length sc,.int .i64 X.pr,.int .i64 X.st,.slice nA X.non.length nc,.int .i64 X.x,.int .i64 X.g,.int .i64 X.own,.int .i64 X.oth,.slice aA X.k1.length ac,.slice bA X.k2.length bc,.int .i64 X.ct] 48)).alloc (.cells #[.int .i64 0,.slice none 0 0,.int .i64 0,.int .i64 0,.slice none 0 0,.int .i64 0,.int .i64 0,.int .i64 0,.int .i64 0,.slice none 0 0,.slice none 0 0,.int .i64 0] 48)).heap[w.heap.size+1]?=_ from by have:=heap_alloc_new (w.alloc (.cells #[.int .i64 X.kd,.slice sA X.sec.length sc,.int .i64 X.pr,.int .i64 X.st,.slice nA X.non.length nc,.int .i64 X.x,.int .i64 X.g,.int .i64 X.own,.int .i64 X.oth,.slice aA X.k1.length ac,.slice bA X.k2.length bc,.int .i64 X.ct] 48)) (.cells #[.int .i64 0,.slice none 0 0,.int .i64 0,.int .i64 0,.slice none 0 0,.int .i64 0,.int .i64 0,.int .i64 0,.int .i64 0,.slice none 0 0,.slice none 0 0,.int .i64 0] 48);simpa using this)))
 have HK:=iH hK
 have H1:=iH (h1.lift hb0);have H2:=iH (h2.lift hb0);have H3:=iH (h3.lift hb0);have H4:=iH (h4.lift hb0);have H5:=iH (h5.lift hb0);have H6:=iH (h6.lift hb0)
 have HLN:=iH (And.intro ls (And.intro ln (And.intro l1 l2)))
 have HW0:=iH hw0;have HB0:=iH hb0;have HSZ:=iH hz0;have HL:=iH hl
 obtain⟨f0,f1,f2,f3,f4,f5,f6,f7,f8,f9,f10,f11,ff⟩:=jy (FR.out w0 iB)
 obtain⟨z0,z1,z2,z3,z4,z5,z6,z7,z8,z9,z10,z11,zf⟩:=jy (FZ.out w0 iB)
 have zf0:=zf 0;have zf1:=zf 1;have zf2:=zf 2;have zf3:=zf 3;have zf4:=zf 4;have zf5:=zf 5;have zf6:=zf 6;have zf7:=zf 7;have zf8:=zf 8;have zf9:=zf 9;have zf10:=zf 10;have zf11:=zf 11
 clear hw0 hb0 hz0 hK h1 h2 h3 h4 h5 h6 ls ln l1 l2 hl zf ff
 rcases hst with hst|hst
 ·go_enter Tryz.func33,Tryz.ntmps33
  go_upto_region 1 with fail
  rw [<-HW0.out]
  go_wp2_with fail
  obtain⟨y0,y1,y2,y3,y4,y5,y6,y7,y8,y9,y10,y11,yf⟩:=jy ((PtW.start (FZ.out w0 iB)).set12 (.int .i64 0) (.slice none 0 0) (.int .i64 0) (.int .i64 0) (.slice none 0 0) (.int .i64 0) (.int .i64 0) (.int .i64 0) (.int .i64 0) (.slice none 0 0) (.slice none 0 0) (.int .i64 0)).1
  unfold Go.Proofs.YtalmmiojbmpmiaaGreatDoor.set12 at y0 y1 y2 y3 y4 y5 y6 y7 y8 y9 y10 y11
  refine bodyPost_ret (v:=.tuple #[.agg #[.int .i64 0,.slice none 0 0,.int .i64 0,.int .i64 0,.slice none 0 0,.int .i64 0,.int .i64 0,.int .i64 0,.int .i64 0,.slice none 0 0,.slice none 0 0,.int .i64 0],.slice none 0 0,.slice none 0 0,.int .i64 23]) (by simp [results,Tryz.results33,go_sem,y0,y1,y2,y3,y4,y5,y6,y7,y8,y9,y10,y11]) rfl ?_
  exact ExO.err R.out ((HB0.out.trans (iB.mono HB0.out.size)).trans (Below.mono (((PtW.start (FZ.out _ iB)).set12 (.int .i64 0) (.slice none 0 0) (.int .i64 0) (.int .i64 0) (.slice none 0 0) (.int .i64 0) (.int .i64 0) (.int .i64 0) (.int .i64 0) (.slice none 0 0) (.slice none 0 0) (.int .i64 0)).2.2) (Nat.le_succ _)))
 ·go_enter Tryz.func33,Tryz.ntmps33
  go_upto_region 1 with fail
  rw [<-HW0.out]
  go_wp2_with fail
  obtain⟨y0,y1,y2,y3,y4,y5,y6,y7,y8,y9,y10,y11,yf⟩:=jy ((PtW.start (FZ.out w0 iB)).set12 (.int .i64 0) (.slice none 0 0) (.int .i64 0) (.int .i64 0) (.slice none 0 0) (.int .i64 0) (.int .i64 0) (.int .i64 0) (.int .i64 0) (.slice none 0 0) (.slice none 0 0) (.int .i64 0)).1
  unfold Go.Proofs.YtalmmiojbmpmiaaGreatDoor.set12 at y0 y1 y2 y3 y4 y5 y6 y7 y8 y9 y10 y11
  refine bodyPost_ret (v:=.tuple #[.agg #[.int .i64 0,.slice none 0 0,.int .i64 0,.int .i64 0,.slice none 0 0,.int .i64 0,.int .i64 0,.int .i64 0,.int .i64 0,.slice none 0 0,.slice none 0 0,.int .i64 0],.slice none 0 0,.slice none 0 0,.int .i64 23]) (by simp [results,Tryz.results33,go_sem,y0,y1,y2,y3,y4,y5,y6,y7,y8,y9,y10,y11]) rfl ?_
  exact ExO.err R.out ((HB0.out.trans (iB.mono HB0.out.size)).trans (Below.mono (((PtW.start (FZ.out _ iB)).set12 (.int .i64 0) (.slice none 0 0) (.int .i64 0) (.int .i64 0) (.slice none 0 0) (.int .i64 0) (.int .i64 0) (.int .i64 0) (.int .i64 0) (.slice none 0 0) (.slice none 0 0) (.int .i64 0)).2.2) (Nat.le_succ _)))
theorem chip_invalid(X:Exg)(sA nA aA bA:Option Addr)(sc nc ac bc:Nat)(vA eA:Option Addr)(vc ec:Nat)(B s:List UInt8)(w:World)(hK:KD w)(h1:Bs w w.heap.size (.slice sA X.sec.length sc) X.sec)(h2:Bs w w.heap.size (.slice nA X.non.length nc) X.non)(h3:Bs w w.heap.size (.slice aA X.k1.length ac) X.k1)(h4:Bs w w.heap.size (.slice bA X.k2.length bc) X.k2)(h5:Bs w w.heap.size (.slice vA B.length vc) B)(h6:Bs w w.heap.size (.slice eA s.length ec) s)(ls:X.sec.length<=140737488351232)(ln:X.non.length<=140737488351232)(l1:X.k1.length<=140737488351232)(l2:X.k2.length<=140737488351232)(hl:s.length<=140737488351232)(hst:0<=X.st/\X.st<=3)(hus:usC X=false):Calls Tryz.prog 33 #[.agg #[.int .i64 X.kd,.slice sA X.sec.length sc,.int .i64 X.pr,.int .i64 X.st,.slice nA X.non.length nc,.int .i64 X.x,.int .i64 X.g,.int .i64 X.own,.int .i64 X.oth,.slice aA X.k1.length ac,.slice bA X.k2.length bc,.int .i64 X.ct],.slice vA B.length vc,.slice eA s.length ec] w (ExO (U2 X B s) w):=by
 have R:Hid (U2 X B s=qk 14):=iH (by unfold U2;rw [iF (by omega),iT hus])
 have HUS:=iH hus
 obtain⟨w0,hw0⟩:∃w0,w0=(w.alloc (.cells #[.int .i64 X.kd,.slice sA X.sec.length sc,.int .i64 X.pr,.int .i64 X.st,.slice nA X.non.length nc,.int .i64 X.x,.int .i64 X.g,.int .i64 X.own,.int .i64 X.oth,.slice aA X.k1.length ac,.slice bA X.k2.length bc,.int .i64 X.ct] 48)).alloc (.cells #[.int .i64 0,.slice none 0 0,.int .i64 0,.int .i64 0,.slice none 0 0,.int .i64 0,.int .i64 0,.int .i64 0,.int .i64 0,.slice none 0 0,.slice none 0 0,.int .i64 0] 48):=⟨_,rfl⟩
 have hb0:Below w.heap.size w w0:=by rw [hw0];exact(iA).alloc (by simp) _
 have hz0:w0.heap.size=w.heap.size+2:=by rw [hw0];simp
 have FR:Hid (∀W,Below w0.heap.size w0 W->W.heap[w.heap.size]?=some (.cells #[.int .i64 X.kd,.slice sA X.sec.length sc,.int .i64 X.pr,.int .i64 X.st,.slice nA X.non.length nc,.int .i64 X.x,.int .i64 X.g,.int .i64 X.own,.int .i64 X.oth,.slice aA X.k1.length ac,.slice bA X.k2.length bc,.int .i64 X.ct] 48 (0,0))):=iH (fun W h=>(h.block w.heap.size (by omega)).trans (by rw [hw0];exact(Below.heap_alloc _ _ _ (by simp)).trans (iN)))
 have FZ:Hid (∀W,Below w0.heap.size w0 W->W.heap[w.heap.size+1]?=some (.cells #[.int .i64 0,.slice none 0 0,.int .i64 0,.int .i64 0,.slice none 0 0,.int .i64 0,.int .i64 0,.int .i64 0,.int .i64 0,.slice none 0 0,.slice none 0 0,.int .i64 0] 48 (0,0))):=iH (fun W h=>(h.block (w.heap.size+1) (by omega)).trans (by rw [hw0];exact(show((w.alloc (.cells #[.int .i64 X.kd,.slice sA X.sec.length sc,.int .i64 X.pr,.int .i64 X.st,.slice nA X.non.length nc,.int .i64 X.x,.int .i64 X.g,.int .i64 X.own,.int .i64 X.oth,.slice aA X.k1.length ac,.slice bA X.k2.length bc,.int .i64 X.ct] 48)).alloc (.cells #[.int .i64 0,.slice none 0 0,.int .i64 0,.int .i64 0,.slice none 0 0,.int .i64 0,.int .i64 0,.int .i64 0,.int .i64 0,.slice none 0 0,.slice none 0 0,.int .i64 0] 48)).heap[w.heap.size+1]?=_ from by have:=heap_alloc_new (w.alloc (.cells #[.int .i64 X.kd,.slice sA X.sec.length sc,.int .i64 X.pr,.int .i64 X.st,.slice nA X.non.length nc,.int .i64 X.x,.int .i64 X.g,.int .i64 X.own,.int .i64 X.oth,.slice aA X.k1.length ac,.slice bA X.k2.length bc,.int .i64 X.ct] 48)) (.cells #[.int .i64 0,.slice none 0 0,.int .i64 0,.int .i64 0,.slice none 0 0,.int .i64 0,.int .i64 0,.int .i64 0,.int .i64 0,.slice none 0 0,.slice none 0 0,.int .i64 0] 48);simpa using this)))
 have HK:=iH hK
 have H1:=iH (h1.lift hb0);have H2:=iH (h2.lift hb0);have H3:=iH (h3.lift hb0);have H4:=iH (h4.lift hb0);have H5:=iH (h5.lift hb0);have H6:=iH (h6.lift hb0)
 have HLN:=iH (And.intro ls (And.intro ln (And.intro l1 l2)))
 have HW0:=iH hw0;have HB0:=iH hb0;have HSZ:=iH hz0;have HL:=iH hl
 obtain⟨f0,f1,f2,f3,f4,f5,f6,f7,f8,f9,f10,f11,ff⟩:=jy (FR.out w0 iB)
 obtain⟨z0,z1,z2,z3,z4,z5,z6,z7,z8,z9,z10,z11,zf⟩:=jy (FZ.out w0 iB)
 have zf0:=zf 0;have zf1:=zf 1;have zf2:=zf 2;have zf3:=zf 3;have zf4:=zf 4;have zf5:=zf 5;have zf6:=zf 6;have zf7:=zf 7;have zf8:=zf 8;have zf9:=zf 9;have zf10:=zf 10;have zf11:=zf 11
 clear hw0 hb0 hz0 hK h1 h2 h3 h4 h5 h6 ls ln l1 l2 hl zf ff
 clear hus
 go_enter Tryz.func33,Tryz.ntmps33
 go_upto_region 1 with fail
 rw [<-HW0.out]
 go_upto_region 4 with (go_at_call 68;refine(Xi X sA nA aA bA sc nc ac bc w0 H3.out H4.out HLN.out.2.2.1 HLN.out.2.2.2).mono ?_;rw [HUS.out];rintro e w1 ⟨rfl,hb⟩;have HB1:=iH hb;clear f0 f1 f2 f3 f4 f5 f6 f7 f8 f9 f10 f11;obtain⟨g0,g1,g2,g3,g4,g5,g6,g7,g8,g9,g10,g11,gf⟩:=jy (FR.out _ hb);clear z0 zf0 z1 zf1 z2 zf2 z3 zf3 z4 zf4 z5 zf5 z6 zf6 z7 zf7 z8 zf8 z9 zf9 z10 zf10 z11 zf11;obtain⟨z0,z1,z2,z3,z4,z5,z6,z7,z8,z9,z10,z11,zf⟩:=jy (FZ.out _ hb);have zf0:=zf 0;have zf1:=zf 1;have zf2:=zf 2;have zf3:=zf 3;have zf4:=zf 4;have zf5:=zf 5;have zf6:=zf 6;have zf7:=zf 7;have zf8:=zf 8;have zf9:=zf 9;have zf10:=zf 10;have zf11:=zf 11;clear hb zf gf)
 go_wp2_with fail
 obtain⟨y0,y1,y2,y3,y4,y5,y6,y7,y8,y9,y10,y11,yf⟩:=jy ((PtW.start (FZ.out w1 HB1.out)).set12 (.int .i64 0) (.slice none 0 0) (.int .i64 0) (.int .i64 0) (.slice none 0 0) (.int .i64 0) (.int .i64 0) (.int .i64 0) (.int .i64 0) (.slice none 0 0) (.slice none 0 0) (.int .i64 0)).1
 unfold Go.Proofs.YtalmmiojbmpmiaaGreatDoor.set12 at y0 y1 y2 y3 y4 y5 y6 y7 y8 y9 y10 y11
 refine bodyPost_ret (v:=.tuple #[.agg #[.int .i64 0,.slice none 0 0,.int .i64 0,.int .i64 0,.slice none 0 0,.int .i64 0,.int .i64 0,.int .i64 0,.int .i64 0,.slice none 0 0,.slice none 0 0,.int .i64 0],.slice none 0 0,.slice none 0 0,.int .i64 14]) (by simp [results,Tryz.results33,go_sem,y0,y1,y2,y3,y4,y5,y6,y7,y8,y9,y10,y11]) rfl ?_
 exact ExO.err R.out ((HB0.out.trans (HB1.out.mono HB0.out.size)).trans (Below.mono (((PtW.start (FZ.out _ HB1.out)).set12 (.int .i64 0) (.slice none 0 0) (.int .i64 0) (.int .i64 0) (.slice none 0 0) (.int .i64 0) (.int .i64 0) (.int .i64 0) (.int .i64 0) (.slice none 0 0) (.slice none 0 0) (.int .i64 0)).2.2) (Nat.le_succ _)))
def DoErr(F:Nat)(X:Exg)(v s:List UInt8)(er:Int):Prop:=∀(P:Nat) (sA nA aA bA:Option Addr) (sc nc ac bc:Nat) (vA eA:Option Addr) (vc ec:Nat) (w:World),(∀W,Below P w W->KD W)->w.heap[P]?=some (.cells #[.int .i64 X.kd,.slice sA X.sec.length sc,.int .i64 X.pr,.int .i64 X.st,.slice nA X.non.length nc,.int .i64 X.x,.int .i64 X.g,.int .i64 X.own,.int .i64 X.oth,.slice aA X.k1.length ac,.slice bA X.k2.length bc,.int .i64 X.ct] 48 (0,0))->BsS w (jL P w) (.slice sA X.sec.length sc) X.sec->BsS w (jL P w) (.slice nA X.non.length nc) X.non->BsS w (jL P w) (.slice aA X.k1.length ac) X.k1->BsS w (jL P w) (.slice bA X.k2.length bc) X.k2->BsS w (jL P w) (.slice vA v.length vc) v->BsS w (jL P w) (.slice eA s.length ec) s->s.length<=140737488351232->Calls Tryz.prog F #[.pointer (some ⟨P,0,none⟩),.slice vA v.length vc,.slice eA s.length ec] w (StepE P w er)
theorem chip_form(X:Exg)(sA nA aA bA:Option Addr)(sc nc ac bc:Nat)(vA eA:Option Addr)(vc ec:Nat)(B s:List UInt8)(w:World)(hK:KD w)(h1:Bs w w.heap.size (.slice sA X.sec.length sc) X.sec)(h2:Bs w w.heap.size (.slice nA X.non.length nc) X.non)(h3:Bs w w.heap.size (.slice aA X.k1.length ac) X.k1)(h4:Bs w w.heap.size (.slice bA X.k2.length bc) X.k2)(h5:Bs w w.heap.size (.slice vA B.length vc) B)(h6:Bs w w.heap.size (.slice eA s.length ec) s)(ls:X.sec.length<=140737488351232)(ln:X.non.length<=140737488351232)(l1:X.k1.length<=140737488351232)(l2:X.k2.length<=140737488351232)(hl:s.length<=140737488351232)(hst:0<=X.st/\X.st<=3)(hus:usC X=true)(hv:qa B (Qo X.st) (VR X)=none):Calls Tryz.prog 33 #[.agg #[.int .i64 X.kd,.slice sA X.sec.length sc,.int .i64 X.pr,.int .i64 X.st,.slice nA X.non.length nc,.int .i64 X.x,.int .i64 X.g,.int .i64 X.own,.int .i64 X.oth,.slice aA X.k1.length ac,.slice bA X.k2.length bc,.int .i64 X.ct],.slice vA B.length vc,.slice eA s.length ec] w (ExO (U2 X B s) w):=by
 have R:Hid (U2 X B s=qk 1):=iH (by unfold U2;rw [iF (by omega),iF (by rw [hus];simp),hv])
 have HUS:=iH hus;have HST:=iH hst;have HV:=iH hv
 obtain⟨w0,hw0⟩:∃w0,w0=(w.alloc (.cells #[.int .i64 X.kd,.slice sA X.sec.length sc,.int .i64 X.pr,.int .i64 X.st,.slice nA X.non.length nc,.int .i64 X.x,.int .i64 X.g,.int .i64 X.own,.int .i64 X.oth,.slice aA X.k1.length ac,.slice bA X.k2.length bc,.int .i64 X.ct] 48)).alloc (.cells #[.int .i64 0,.slice none 0 0,.int .i64 0,.int .i64 0,.slice none 0 0,.int .i64 0,.int .i64 0,.int .i64 0,.int .i64 0,.slice none 0 0,.slice none 0 0,.int .i64 0] 48):=⟨_,rfl⟩
 have hb0:Below w.heap.size w w0:=by rw [hw0];exact(iA).alloc (by simp) _
 have hz0:w0.heap.size=w.heap.size+2:=by rw [hw0];simp
 have FR:Hid (∀W,Below w0.heap.size w0 W->W.heap[w.heap.size]?=some (.cells #[.int .i64 X.kd,.slice sA X.sec.length sc,.int .i64 X.pr,.int .i64 X.st,.slice nA X.non.length nc,.int .i64 X.x,.int .i64 X.g,.int .i64 X.own,.int .i64 X.oth,.slice aA X.k1.length ac,.slice bA X.k2.length bc,.int .i64 X.ct] 48 (0,0))):=iH (fun W h=>(h.block w.heap.size (by omega)).trans (by rw [hw0];exact(Below.heap_alloc _ _ _ (by simp)).trans (iN)))
 have FZ:Hid (∀W,Below w0.heap.size w0 W->W.heap[w.heap.size+1]?=some (.cells #[.int .i64 0,.slice none 0 0,.int .i64 0,.int .i64 0,.slice none 0 0,.int .i64 0,.int .i64 0,.int .i64 0,.int .i64 0,.slice none 0 0,.slice none 0 0,.int .i64 0] 48 (0,0))):=iH (fun W h=>(h.block (w.heap.size+1) (by omega)).trans (by rw [hw0];exact(show((w.alloc (.cells #[.int .i64 X.kd,.slice sA X.sec.length sc,.int .i64 X.pr,.int .i64 X.st,.slice nA X.non.length nc,.int .i64 X.x,.int .i64 X.g,.int .i64 X.own,.int .i64 X.oth,.slice aA X.k1.length ac,.slice bA X.k2.length bc,.int .i64 X.ct] 48)).alloc (.cells #[.int .i64 0,.slice none 0 0,.int .i64 0,.int .i64 0,.slice none 0 0,.int .i64 0,.int .i64 0,.int .i64 0,.int .i64 0,.slice none 0 0,.slice none 0 0,.int .i64 0] 48)).heap[w.heap.size+1]?=_ from by have:=heap_alloc_new (w.alloc (.cells #[.int .i64 X.kd,.slice sA X.sec.length sc,.int .i64 X.pr,.int .i64 X.st,.slice nA X.non.length nc,.int .i64 X.x,.int .i64 X.g,.int .i64 X.own,.int .i64 X.oth,.slice aA X.k1.length ac,.slice bA X.k2.length bc,.int .i64 X.ct] 48)) (.cells #[.int .i64 0,.slice none 0 0,.int .i64 0,.int .i64 0,.slice none 0 0,.int .i64 0,.int .i64 0,.int .i64 0,.int .i64 0,.slice none 0 0,.slice none 0 0,.int .i64 0] 48);simpa using this)))
 have HK:=iH hK
 have H1:=iH (h1.lift hb0);have H2:=iH (h2.lift hb0);have H3:=iH (h3.lift hb0);have H4:=iH (h4.lift hb0);have H5:=iH (h5.lift hb0);have H6:=iH (h6.lift hb0)
 have HLN:=iH (And.intro ls (And.intro ln (And.intro l1 l2)))
 have HW0:=iH hw0;have HB0:=iH hb0;have HSZ:=iH hz0;have HL:=iH hl
 obtain⟨f0,f1,f2,f3,f4,f5,f6,f7,f8,f9,f10,f11,ff⟩:=jy (FR.out w0 iB)
 obtain⟨z0,z1,z2,z3,z4,z5,z6,z7,z8,z9,z10,z11,zf⟩:=jy (FZ.out w0 iB)
 have zf0:=zf 0;have zf1:=zf 1;have zf2:=zf 2;have zf3:=zf 3;have zf4:=zf 4;have zf5:=zf 5;have zf6:=zf 6;have zf7:=zf 7;have zf8:=zf 8;have zf9:=zf 9;have zf10:=zf 10;have zf11:=zf 11
 clear hw0 hb0 hz0 hK h1 h2 h3 h4 h5 h6 ls ln l1 l2 hl zf ff
 have d0:decide (X.st<0)=false:=decide_eq_false (by omega)
 have d3:decide (3<X.st)=false:=decide_eq_false (by omega)
 clear hus hst hv
 obtain⟨o5,e5⟩:∃o,(X.pr==3)=o:=⟨_,rfl⟩
 cases o5
 all_goals(
  have HP3:=iH e5
  go_enter Tryz.func33,Tryz.ntmps33
  go_upto_region 1 with fail
  rw [<-HW0.out]
  go_upto_region 6 with (go_at_call 68;refine(Xi X sA nA aA bA sc nc ac bc w0 H3.out H4.out HLN.out.2.2.1 HLN.out.2.2.2).mono ?_;rw [HUS.out];rintro e w1 ⟨rfl,hb⟩;have HB1:=iH hb;clear f0 f1 f2 f3 f4 f5 f6 f7 f8 f9 f10 f11;obtain⟨g0,g1,g2,g3,g4,g5,g6,g7,g8,g9,g10,g11,gf⟩:=jy (FR.out _ hb);clear z0 zf0 z1 zf1 z2 zf2 z3 zf3 z4 zf4 z5 zf5 z6 zf6 z7 zf7 z8 zf8 z9 zf9 z10 zf10 z11 zf11;obtain⟨z0,z1,z2,z3,z4,z5,z6,z7,z8,z9,z10,z11,zf⟩:=jy (FZ.out _ hb);have zf0:=zf 0;have zf1:=zf 1;have zf2:=zf 2;have zf3:=zf 3;have zf4:=zf 4;have zf5:=zf 5;have zf6:=zf 6;have zf7:=zf 7;have zf8:=zf 8;have zf9:=zf 9;have zf10:=zf 10;have zf11:=zf 11;clear hb zf gf)
  go_upto_region 8 with fail
  have I0:=j2m;have I1:=j2n;have I2:=j2o;have I3:=j2p
  go_cut [11] from 33 to 41 (fun y wc=>∃q ty,y=.pointer (some ⟨q,0,none⟩)/\wc.heap[q]?=some (.cells #[.int .i64 (j1d X.st),.int .i64 (j15 X)] ty (0,0))/\Below w1.heap.size w1 wc/\q<wc.heap.size)
  case first=>
   have h4:X.st=0\/X.st=1\/X.st=2\/X.st=3:=by have:=HST.out;omega
   rcases h4 with h4|h4|h4|h4
   all_goals(rw [h4]at g3;have H4':=iH h4;clear h4;go_wp2_with fail;go_meet;exact⟨_,81,rfl,(iN).trans (by have hq:=HP3.out;simp at hq;simp [j1d,Qo,j15,VR,H4'.out,hq]),iA,by simp⟩)
  case rest=>
  obtain⟨q,ty,rfl,hq,hbw,hql⟩:=hcut
  obtain⟨q0,q1,_⟩:=two hq
  have HBC:=iH (HB1.out.trans (hbw.mono HB1.out.size))
  clear hq hbw hql g0 g1 g2 g3 g4 g5 g6 g7 g8 g9 g10 g11 z0 zf0 z1 zf1 z2 zf2 z3 zf3 z4 zf4 z5 zf5 z6 zf6 z7 zf7 z8 zf8 z9 zf9 z10 zf10 z11 zf11 e5
  go_upto_region 11 with (go_at_call 69;refine(YD X.st HST.out (j15 X) B _ _ (Bs.lift H5.out HBC.out)).mono ?_;rw [VY,HV.out];rintro e w2 ⟨v2,rfl,hs,hb⟩;obtain⟨A2,c2,hv2⟩:=Bs.formL hs;subst hv2;have GV:=iH hs;have HB2:=iH (HBC.out.trans (hb.mono HBC.out.size));obtain⟨f0,f1,f2,f3,f4,f5,f6,f7,f8,f9,f10,f11,ff⟩:=jy (FR.out _ HB2.out);obtain⟨z0,z1,z2,z3,z4,z5,z6,z7,z8,z9,z10,z11,zf⟩:=jy (FZ.out _ HB2.out);have zf0:=zf 0;have zf1:=zf 1;have zf2:=zf 2;have zf3:=zf 3;have zf4:=zf 4;have zf5:=zf 5;have zf6:=zf 6;have zf7:=zf 7;have zf8:=zf 8;have zf9:=zf 9;have zf10:=zf 10;have zf11:=zf 11;clear hs hb ff zf)
  go_wp2_with fail
  obtain⟨y0,y1,y2,y3,y4,y5,y6,y7,y8,y9,y10,y11,yf⟩:=jy ((PtW.start (FZ.out w2 HB2.out)).set12 (.int .i64 0) (.slice none 0 0) (.int .i64 0) (.int .i64 0) (.slice none 0 0) (.int .i64 0) (.int .i64 0) (.int .i64 0) (.int .i64 0) (.slice none 0 0) (.slice none 0 0) (.int .i64 0)).1
  unfold Go.Proofs.YtalmmiojbmpmiaaGreatDoor.set12 at y0 y1 y2 y3 y4 y5 y6 y7 y8 y9 y10 y11
  refine bodyPost_ret (v:=.tuple #[.agg #[.int .i64 0,.slice none 0 0,.int .i64 0,.int .i64 0,.slice none 0 0,.int .i64 0,.int .i64 0,.int .i64 0,.int .i64 0,.slice none 0 0,.slice none 0 0,.int .i64 0],.slice none 0 0,.slice none 0 0,.int .i64 1]) (by simp [results,Tryz.results33,go_sem,y0,y1,y2,y3,y4,y5,y6,y7,y8,y9,y10,y11]) rfl ?_
  exact ExO.err R.out ((HB0.out.trans (HB2.out.mono HB0.out.size)).trans (Below.mono (((PtW.start (FZ.out _ HB2.out)).set12 (.int .i64 0) (.slice none 0 0) (.int .i64 0) (.int .i64 0) (.slice none 0 0) (.int .i64 0) (.int .i64 0) (.int .i64 0) (.int .i64 0) (.slice none 0 0) (.slice none 0 0) (.int .i64 0)).2.2) (Nat.le_succ _))))
theorem chip_err(X:Exg)(sA nA aA bA:Option Addr)(sc nc ac bc:Nat)(vA eA:Option Addr)(vc ec:Nat)(B s:List UInt8)(w:World)(hK:KD w)(h1:Bs w w.heap.size (.slice sA X.sec.length sc) X.sec)(h2:Bs w w.heap.size (.slice nA X.non.length nc) X.non)(h3:Bs w w.heap.size (.slice aA X.k1.length ac) X.k1)(h4:Bs w w.heap.size (.slice bA X.k2.length bc) X.k2)(h5:Bs w w.heap.size (.slice vA B.length vc) B)(h6:Bs w w.heap.size (.slice eA s.length ec) s)(ls:X.sec.length<=140737488351232)(ln:X.non.length<=140737488351232)(l1:X.k1.length<=140737488351232)(l2:X.k2.length<=140737488351232)(hl:s.length<=140737488351232)(F:Nat)(hF:(X.st=0/\F=71)\/(X.st=1/\F=72)\/(X.st=2/\F=73)\/(X.st=3/\F=74))(hst:0<=X.st/\X.st<=3)(hus:usC X=true)(v:List UInt8)(hv:qa B (Qo X.st) (VR X)=some v)(er:Int)(he:(er != 0)=true)(hdo:DoErr F X v s er)(hr:U2 X B s=qk er):Calls Tryz.prog 33 #[.agg #[.int .i64 X.kd,.slice sA X.sec.length sc,.int .i64 X.pr,.int .i64 X.st,.slice nA X.non.length nc,.int .i64 X.x,.int .i64 X.g,.int .i64 X.own,.int .i64 X.oth,.slice aA X.k1.length ac,.slice bA X.k2.length bc,.int .i64 X.ct],.slice vA B.length vc,.slice eA s.length ec] w (ExO (U2 X B s) w):=by
 have R:=iH hr
 have HF:=iH hF;have HUS:=iH hus;have HST:=iH hst;have HV:=iH hv;have HDO:=iH hdo
 obtain⟨w0,hw0⟩:∃w0,w0=(w.alloc (.cells #[.int .i64 X.kd,.slice sA X.sec.length sc,.int .i64 X.pr,.int .i64 X.st,.slice nA X.non.length nc,.int .i64 X.x,.int .i64 X.g,.int .i64 X.own,.int .i64 X.oth,.slice aA X.k1.length ac,.slice bA X.k2.length bc,.int .i64 X.ct] 48)).alloc (.cells #[.int .i64 0,.slice none 0 0,.int .i64 0,.int .i64 0,.slice none 0 0,.int .i64 0,.int .i64 0,.int .i64 0,.int .i64 0,.slice none 0 0,.slice none 0 0,.int .i64 0] 48):=⟨_,rfl⟩
 have hb0:Below w.heap.size w w0:=by rw [hw0];exact(iA).alloc (by simp) _
 have hz0:w0.heap.size=w.heap.size+2:=by rw [hw0];simp
 have FR:Hid (∀W,Below w0.heap.size w0 W->W.heap[w.heap.size]?=some (.cells #[.int .i64 X.kd,.slice sA X.sec.length sc,.int .i64 X.pr,.int .i64 X.st,.slice nA X.non.length nc,.int .i64 X.x,.int .i64 X.g,.int .i64 X.own,.int .i64 X.oth,.slice aA X.k1.length ac,.slice bA X.k2.length bc,.int .i64 X.ct] 48 (0,0))):=iH (fun W h=>(h.block w.heap.size (by omega)).trans (by rw [hw0];exact(Below.heap_alloc _ _ _ (by simp)).trans (iN)))
 have FZ:Hid (∀W,Below w0.heap.size w0 W->W.heap[w.heap.size+1]?=some (.cells #[.int .i64 0,.slice none 0 0,.int .i64 0,.int .i64 0,.slice none 0 0,.int .i64 0,.int .i64 0,.int .i64 0,.int .i64 0,.slice none 0 0,.slice none 0 0,.int .i64 0] 48 (0,0))):=iH (fun W h=>(h.block (w.heap.size+1) (by omega)).trans (by rw [hw0];exact(show((w.alloc (.cells #[.int .i64 X.kd,.slice sA X.sec.length sc,.int .i64 X.pr,.int .i64 X.st,.slice nA X.non.length nc,.int .i64 X.x,.int .i64 X.g,.int .i64 X.own,.int .i64 X.oth,.slice aA X.k1.length ac,.slice bA X.k2.length bc,.int .i64 X.ct] 48)).alloc (.cells #[.int .i64 0,.slice none 0 0,.int .i64 0,.int .i64 0,.slice none 0 0,.int .i64 0,.int .i64 0,.int .i64 0,.int .i64 0,.slice none 0 0,.slice none 0 0,.int .i64 0] 48)).heap[w.heap.size+1]?=_ from by have:=heap_alloc_new (w.alloc (.cells #[.int .i64 X.kd,.slice sA X.sec.length sc,.int .i64 X.pr,.int .i64 X.st,.slice nA X.non.length nc,.int .i64 X.x,.int .i64 X.g,.int .i64 X.own,.int .i64 X.oth,.slice aA X.k1.length ac,.slice bA X.k2.length bc,.int .i64 X.ct] 48)) (.cells #[.int .i64 0,.slice none 0 0,.int .i64 0,.int .i64 0,.slice none 0 0,.int .i64 0,.int .i64 0,.int .i64 0,.int .i64 0,.slice none 0 0,.slice none 0 0,.int .i64 0] 48);simpa using this)))
 have HK:=iH hK
 have H1:=iH (h1.lift hb0);have H2:=iH (h2.lift hb0);have H3:=iH (h3.lift hb0);have H4:=iH (h4.lift hb0);have H5:=iH (h5.lift hb0);have H6:=iH (h6.lift hb0)
 have HLN:=iH (And.intro ls (And.intro ln (And.intro l1 l2)))
 have HW0:=iH hw0;have HB0:=iH hb0;have HSZ:=iH hz0;have HL:=iH hl
 obtain⟨f0,f1,f2,f3,f4,f5,f6,f7,f8,f9,f10,f11,ff⟩:=jy (FR.out w0 iB)
 obtain⟨z0,z1,z2,z3,z4,z5,z6,z7,z8,z9,z10,z11,zf⟩:=jy (FZ.out w0 iB)
 have zf0:=zf 0;have zf1:=zf 1;have zf2:=zf 2;have zf3:=zf 3;have zf4:=zf 4;have zf5:=zf 5;have zf6:=zf 6;have zf7:=zf 7;have zf8:=zf 8;have zf9:=zf 9;have zf10:=zf 10;have zf11:=zf 11
 clear hw0 hb0 hz0 hK h1 h2 h3 h4 h5 h6 ls ln l1 l2 hl zf ff
 have d0:decide (X.st<0)=false:=decide_eq_false (by omega)
 have d3:decide (3<X.st)=false:=decide_eq_false (by omega)
 clear hF hus hst hv hdo hr
 obtain⟨o5,e5⟩:∃o,(X.pr==3)=o:=⟨_,rfl⟩
 cases o5
 all_goals(
  have HP3:=iH e5
  go_enter Tryz.func33,Tryz.ntmps33
  go_upto_region 1 with fail
  rw [<-HW0.out]
  go_upto_region 6 with (go_at_call 68;refine(Xi X sA nA aA bA sc nc ac bc w0 H3.out H4.out HLN.out.2.2.1 HLN.out.2.2.2).mono ?_;rw [HUS.out];rintro e w1 ⟨rfl,hb⟩;have HB1:=iH hb;clear f0 f1 f2 f3 f4 f5 f6 f7 f8 f9 f10 f11;obtain⟨g0,g1,g2,g3,g4,g5,g6,g7,g8,g9,g10,g11,gf⟩:=jy (FR.out _ hb);clear z0 zf0 z1 zf1 z2 zf2 z3 zf3 z4 zf4 z5 zf5 z6 zf6 z7 zf7 z8 zf8 z9 zf9 z10 zf10 z11 zf11;obtain⟨z0,z1,z2,z3,z4,z5,z6,z7,z8,z9,z10,z11,zf⟩:=jy (FZ.out _ hb);have zf0:=zf 0;have zf1:=zf 1;have zf2:=zf 2;have zf3:=zf 3;have zf4:=zf 4;have zf5:=zf 5;have zf6:=zf 6;have zf7:=zf 7;have zf8:=zf 8;have zf9:=zf 9;have zf10:=zf 10;have zf11:=zf 11;clear hb zf gf)
  go_upto_region 8 with fail
  have I0:=j2m;have I1:=j2n;have I2:=j2o;have I3:=j2p
  go_cut [11] from 33 to 41 (fun y wc=>∃q ty,y=.pointer (some ⟨q,0,none⟩)/\wc.heap[q]?=some (.cells #[.int .i64 (j1d X.st),.int .i64 (j15 X)] ty (0,0))/\Below w1.heap.size w1 wc/\q<wc.heap.size)
  case first=>
   have h4:X.st=0\/X.st=1\/X.st=2\/X.st=3:=by have:=HST.out;omega
   rcases h4 with h4|h4|h4|h4
   all_goals(rw [h4]at g3;have H4':=iH h4;clear h4;go_wp2_with fail;go_meet;exact⟨_,81,rfl,(iN).trans (by have hq:=HP3.out;simp at hq;simp [j1d,Qo,j15,VR,H4'.out,hq]),iA,by simp⟩)
  case rest=>
  obtain⟨q,ty,rfl,hq,hbw,hql⟩:=hcut
  obtain⟨q0,q1,_⟩:=two hq
  have HBC:=iH (HB1.out.trans (hbw.mono HB1.out.size))
  clear hq hbw hql g0 g1 g2 g3 g4 g5 g6 g7 g8 g9 g10 g11 z0 zf0 z1 zf1 z2 zf2 z3 zf3 z4 zf4 z5 zf5 z6 zf6 z7 zf7 z8 zf8 z9 zf9 z10 zf10 z11 zf11 e5
  go_upto_region 12 with (go_at_call 69;refine(YD X.st HST.out (j15 X) B _ _ (Bs.lift H5.out HBC.out)).mono ?_;rw [VY,HV.out];rintro e w2 ⟨v2,rfl,hs,hb⟩;obtain⟨A2,c2,hv2⟩:=Bs.formL hs;subst hv2;have GV:=iH hs;have HB2:=iH (HBC.out.trans (hb.mono HBC.out.size));obtain⟨f0,f1,f2,f3,f4,f5,f6,f7,f8,f9,f10,f11,ff⟩:=jy (FR.out _ HB2.out);obtain⟨z0,z1,z2,z3,z4,z5,z6,z7,z8,z9,z10,z11,zf⟩:=jy (FZ.out _ HB2.out);have zf0:=zf 0;have zf1:=zf 1;have zf2:=zf 2;have zf3:=zf 3;have zf4:=zf 4;have zf5:=zf 5;have zf6:=zf 6;have zf7:=zf 7;have zf8:=zf 8;have zf9:=zf 9;have zf10:=zf 10;have zf11:=zf 11;clear hs hb ff zf)
  go_upto_region 13 with (go_at_call 70;refine(yL X sA nA aA bA sc nc ac bc w2 (H1.out.lift HB2.out) (H2.out.lift HB2.out) (H3.out.lift HB2.out) (H4.out.lift HB2.out) HLN.out.1 HLN.out.2.1 HLN.out.2.2.1 HLN.out.2.2.2).mono ?_;rintro e w3 ⟨sB,nB,aB,bB,sd,nd,ad,bd,rfl,k1,k2,k3,k4,hb⟩;have HB3:=iH (HB2.out.trans (hb.mono HB2.out.size));have hpz:=PtW.start (FZ.out _ HB3.out);clear f0 f1 f2 f3 f4 f5 f6 f7 f8 f9 f10 f11 z0 zf0 z1 zf1 z2 zf2 z3 zf3 z4 zf4 z5 zf5 z6 zf6 z7 zf7 z8 zf8 z9 zf9 z10 zf10 z11 zf11;obtain⟨f0,f1,f2,f3,f4,f5,f6,f7,f8,f9,f10,f11,ff⟩:=jy (FR.out _ HB3.out);obtain⟨z0,z1,z2,z3,z4,z5,z6,z7,z8,z9,z10,z11,zf⟩:=jy hpz.1;have zf0:=zf 0;have zf1:=zf 1;have zf2:=zf 2;have zf3:=zf 3;have zf4:=zf 4;have zf5:=zf 5;have zf6:=zf 6;have zf7:=zf 7;have zf8:=zf 8;have zf9:=zf 9;have zf10:=zf 10;have zf11:=zf 11;have G1:=iH (BsS.madeB (p:=w.heap.size+1) k1 (by have:=HSZ.out;have:=HB2.out.size;omega));have G2:=iH (BsS.madeB (p:=w.heap.size+1) k2 (by have:=HSZ.out;have:=HB2.out.size;omega));have G3:=iH (BsS.madeB (p:=w.heap.size+1) k3 (by have:=HSZ.out;have:=HB2.out.size;omega));have G4:=iH (BsS.madeB (p:=w.heap.size+1) k4 (by have:=HSZ.out;have:=HB2.out.size;omega));have G5:=iH (BsS.onB (BsS.madeB (p:=w.heap.size+1) GV.out (by have:=HSZ.out;have:=HBC.out.size;omega)) hb);have HPZ:=iH hpz;clear k1 k2 k3 k4 hb hpz ff zf)
  obtain⟨w4,hw4⟩:∃z,z=set12 w3 (w.heap.size+1) (.int .i64 X.kd) (.slice sB X.sec.length sd) (.int .i64 X.pr) (.int .i64 X.st) (.slice nB X.non.length nd) (.int .i64 X.x) (.int .i64 X.g) (.int .i64 X.own) (.int .i64 X.oth) (.slice aB X.k1.length ad) (.slice bB X.k2.length bd) (.int .i64 X.ct):=⟨_,rfl⟩
  have hp4:PtW (w.heap.size+1) w3 w4 #[.int .i64 X.kd,.slice sB X.sec.length sd,.int .i64 X.pr,.int .i64 X.st,.slice nB X.non.length nd,.int .i64 X.x,.int .i64 X.g,.int .i64 X.own,.int .i64 X.oth,.slice aB X.k1.length ad,.slice bB X.k2.length bd,.int .i64 X.ct]:=by rw [hw4];exact HPZ.out.set12 (.int .i64 X.kd) (.slice sB X.sec.length sd) (.int .i64 X.pr) (.int .i64 X.st) (.slice nB X.non.length nd) (.int .i64 X.x) (.int .i64 X.g) (.int .i64 X.own) (.int .i64 X.oth) (.slice aB X.k1.length ad) (.slice bB X.k2.length bd) (.int .i64 X.ct)
  have g4:=fun {u:Value} {m:List UInt8} (h:BsS w3 (jL (w.heap.size+1) w3) u m)=>(by rw [hw4];exact BsS.set12 h (.int .i64 X.kd) (.slice sB X.sec.length sd) (.int .i64 X.pr) (.int .i64 X.st) (.slice nB X.non.length nd) (.int .i64 X.x) (.int .i64 X.g) (.int .i64 X.own) (.int .i64 X.oth) (.slice aB X.k1.length ad) (.slice bB X.k2.length bd) (.int .i64 X.ct):BsS w4 (jL (w.heap.size+1) w4) u m)
  have J1:=iH (g4 G1.out);have J2:=iH (g4 G2.out);have J3:=iH (g4 G3.out);have J4:=iH (g4 G4.out);have J5:=iH (g4 G5.out)
  have H6w:Hid (BsS w3 (jL (w.heap.size+1) w3) (.slice eA s.length ec) s):=iH (BsS.keep (BsS.off (H6.out.lift HB3.out) (FZ.out _ HB3.out) j27) fun g hs _=>⟨rfl,hs⟩)
  have J6:=iH (g4 H6w.out)
  have HQ4:=iH hp4
  have hfr4:w4.heap[w.heap.size]?=some (.cells #[.int .i64 X.kd,.slice sA X.sec.length sc,.int .i64 X.pr,.int .i64 X.st,.slice nA X.non.length nc,.int .i64 X.x,.int .i64 X.g,.int .i64 X.own,.int .i64 X.oth,.slice aA X.k1.length ac,.slice bA X.k2.length bc,.int .i64 X.ct] 48 (0,0)):=(hp4.2.1.block w.heap.size (by have:=HSZ.out;have:=HB3.out.size;omega) (by intro e;injection e with e;omega)).trans (FR.out _ HB3.out)
  unfold Go.Proofs.YtalmmiojbmpmiaaGreatDoor.set12 at hw4
  rw [<-hw4]
  clear hw4 hp4 g4 f0 f1 f2 f3 f4 f5 f6 f7 f8 f9 f10 f11 z0 zf0 z1 zf1 z2 zf2 z3 zf3 z4 zf4 z5 zf5 z6 zf6 z7 zf7 z8 zf8 z9 zf9 z10 zf10 z11 zf11
  obtain⟨f0,f1,f2,f3,f4,f5,f6,f7,f8,f9,f10,f11,ff⟩:=jy hfr4
  clear hfr4 ff
  have HK4:Hid (∀W,Below (w.heap.size+1) w4 W->KD W):=iH (fun W h=>HK.out.below (((HB0.out.trans (HB3.out.mono HB0.out.size)).mono iL).trans ((HQ4.out.2.2.mono (Nat.le_succ _)).trans (h.mono (Nat.le_succ _)))) HK.out.lt)
  have I0:=j2i;have I1:=j2j;have I2:=j2k;have I3:=j2l
  have HCF:∀(args:Array Value) (W:World),Sem.run Tryz.prog (callFunc F args) W=.ok (.enter F args) W:=by rcases HF.out with ⟨_,rfl⟩|⟨_,rfl⟩|⟨_,rfl⟩|⟨_,rfl⟩<;>(intro args W;kernel_rfl)
  go_cut [14] from 56 to 59 (fun y wc=>y=.func (.func F) #[] #[]/\wc=w4)
  case first=>
   rcases HF.out with ⟨h4,rfl⟩|⟨h4,rfl⟩|⟨h4,rfl⟩|⟨h4,rfl⟩
   all_goals(rw [h4]at f3;clear h4;go_wp2_with fail;go_meet;exact⟨rfl,rfl⟩)
  case rest=>
  obtain⟨rfl,hwc⟩:=hcut
  have hwc:=hwc.symm
  subst hwc
  clear I0 I1 I2 I3
  go_wp2_with(refine(HDO.out (w.heap.size+1) sB nB aB bB sd nd ad bd A2 eA c2 ec _ HK4.out HQ4.out.1 J1.out J2.out J3.out J4.out J5.out J6.out HL.out).mono ?_;rintro e w5 ⟨rfl,e0,e1,e2,e3,e4,e5,e6,e7,e8,e9,e10,e11,hpt⟩;have HPT:=iH hpt;obtain⟨p0,p1,p2,p3,p4,p5,p6,p7,p8,p9,p10,p11,pf⟩:=jy hpt.1;have pf0:=pf 0;have pf1:=pf 1;have pf2:=pf 2;have pf3:=pf 3;have pf4:=pf 4;have pf5:=pf 5;have pf6:=pf 6;have pf7:=pf 7;have pf8:=pf 8;have pf9:=pf 9;have pf10:=pf 10;have pf11:=pf 11;clear hpt pf)
  obtain⟨y0,y1,y2,y3,y4,y5,y6,y7,y8,y9,y10,y11,yf⟩:=jy (HPT.out.set12 (.int .i64 0) (.slice none 0 0) (.int .i64 0) (.int .i64 0) (.slice none 0 0) (.int .i64 0) (.int .i64 0) (.int .i64 0) (.int .i64 0) (.slice none 0 0) (.slice none 0 0) (.int .i64 0)).1
  unfold Go.Proofs.YtalmmiojbmpmiaaGreatDoor.set12 at y0 y1 y2 y3 y4 y5 y6 y7 y8 y9 y10 y11
  refine bodyPost_ret (v:=.tuple #[.agg #[.int .i64 0,.slice none 0 0,.int .i64 0,.int .i64 0,.slice none 0 0,.int .i64 0,.int .i64 0,.int .i64 0,.int .i64 0,.slice none 0 0,.slice none 0 0,.int .i64 0],.slice none 0 0,.slice none 0 0,.int .i64 er]) (by simp [results,Tryz.results33,go_sem,y0,y1,y2,y3,y4,y5,y6,y7,y8,y9,y10,y11]) rfl ?_
  exact ExO.err R.out ((HB0.out.trans (HB3.out.mono HB0.out.size)).trans (Below.mono ((HQ4.out.2.2.trans HPT.out.2.2).trans (((PtW.start HPT.out.1).set12 (.int .i64 0) (.slice none 0 0) (.int .i64 0) (.int .i64 0) (.slice none 0 0) (.int .i64 0) (.int .i64 0) (.int .i64 0) (.int .i64 0) (.slice none 0 0) (.slice none 0 0) (.int .i64 0)).2.2)) (Nat.le_succ _))))
structure VRQ9 (w wx:World) (Rs:List (Nat×Array Value)) (L:List (Value×List UInt8)):Prop where
 bel:Below w.heap.size w wx
 rows:∀r∈Rs,wx.heap[r.1]?=some (.cells r.2 48 (0,0))
 all:∀x∈L,Bs wx wx.heap.size x.1 x.2
section
variable {w wx wy:World} {Rs:List (Nat×Array Value)} {L:List (Value×List UInt8)} {v:Value} {l:List UInt8}
theorem VRQ9.on(h:VRQ9 w wx Rs L)(hb:Below wx.heap.size wx wy):VRQ9 w wy Rs L:=
 ⟨h.bel.trans (hb.mono h.bel.size),fun r hr=>(hb.block _ (lt_of_block (h.rows r hr))).trans (h.rows r hr),fun x hx=>Bs.lift (h.all x hx) hb⟩
theorem VRQ9.add(h:VRQ9 w wx Rs L)(hv:Bs wx wx.heap.size v l):VRQ9 w wx Rs ((v,l) :: L):=
 ⟨h.bel,h.rows,fun x hx=>by
  rcases List.mem_cons.1 hx with rfl|hx
  ·exact hv
  ·exact h.all x hx⟩
theorem VRQ9.row(h:VRQ9 w wx Rs L)(row:Array Value):VRQ9 w (wx.alloc (.cells row 48)) ((wx.heap.size,row) :: Rs) L:=by
 have h':=h.on (jq wx (.cells row 48))
 exact⟨h'.bel,fun r hr=>by
  rcases List.mem_cons.1 hr with rfl|hr
  ·exact iN
  ·exact h'.rows r hr,h'.all⟩
theorem VRQ9.at(h:VRQ9 w wx Rs L)(i:Nat)(hi:L[i]?=some (v,l)):Bs wx wx.heap.size v l:=h.all (v,l) (List.mem_of_getElem? hi)
theorem VRQ9.rw{g:Nat}{row:Array Value}(h:VRQ9 w wx Rs L)(i:Nat)(hi:Rs[i]?=some (g,row)):wx.heap[g]?=some (.cells row 48 (0,0)):=h.rows (g,row) (List.mem_of_getElem? hi)
theorem VRQ9.but{Rs':List (Nat×Array Value)}{L':List (Value×List UInt8)}(h:VRQ9 w wx Rs L)(hr:∀r∈Rs',r∈Rs)(hl:∀x∈L',x∈L):VRQ9 w wx Rs' L':=⟨h.bel,fun r hx=>h.rows r (hr r hx),fun x hx=>h.all x (hl x hx)⟩
theorem VRQ9.fill{g:Nat}{a' b' c' d' e' f' g' h' i' j' k' l':Value}(h:VRQ9 w wx ((g,#[a',b',c',d',e',f',g',h',i',j',k',l']) :: Rs) L)(hg:w.heap.size<=g)(hne:∀r∈Rs,r.1≠g)(hC:∀(i:Nat) (x:UInt8),#[a',b',c',d',e',f',g',h',i',j',k',l'][i]? ≠some (U8 x)) (a b c d e f q r i j k o:Value):
 VRQ9 w (set12 wx g a b c d e f q r i j k o) ((g,#[a,b,c,d,e,f,q,r,i,j,k,o]) :: Rs) L:=by
 have hr:=h.rows _ (.head _)
 have hp:=(PtW.start hr).set12 a b c d e f q r i j k o
 refine⟨h.bel.trans (hp.2.2.mono hg),fun y hy=> ?_,fun x hx=> ?_⟩
 ·rcases List.mem_cons.1 hy with rfl|hy
  ·exact hp.1
  ·have h0:=h.rows y (.tail _ hy)
   exact(hp.2.1.block _ (lt_of_block h0) (fun e=>by injection e with e;exact hne y hy e)).trans h0
 ·exact BsS.keep (BsS.off (h.all x hx) hr hC) fun b hs hl=>⟨hp.2.1.block b hl (fun e=>by injection e with e;exact hs.2 e),iZ hl hp.2.1.size⟩
end
theorem gpower_i(x k:Int)(hx:0<x/\x<2147483579)(hk:0<=k/\k<=1073741789)(w:World):Calls Tryz.prog 57 #[.int .i64 x,.int .i64 k] w fun e w'=>e=.returned (.tuple #[.int .i64 (zZ x k),.int .i64 0])/\w'=w:=by
 obtain⟨a,rfl⟩:∃a:Nat,x=a:=⟨x.toNat,by omega⟩
 obtain⟨b,rfl⟩:∃b:Nat,k=b:=⟨k.toNat,by omega⟩
 exact Xs a b (by omega) (by omega) (by omega) w
theorem gpublic_i(k:Int)(hk:okS k=true)(w:World):Calls Tryz.prog 128 #[.int .i64 k] w fun e w'=>e=.returned (.tuple #[.int .i64 (zZ 4 k),.int .i64 0])/\w'=w:=by
 have:=ZV hk
 obtain⟨b,rfl⟩:∃b:Nat,k=b:=⟨k.toNat,by omega⟩
 exact gpublic_good b (by omega) (by omega) w
theorem gshare_i(k x:Int)(hk:okS k=true)(hx:jx x=true)(w:World):Calls Tryz.prog 56 #[.int .i64 k,.int .i64 x] w fun e w'=>e=.returned (.tuple #[.int .i64 (zZ x k),.int .i64 0])/\w'=w:=by
 have:=ZV hk;have:=kO hx
 obtain⟨b,rfl⟩:∃b:Nat,k=b:=⟨k.toNat,by omega⟩
 obtain⟨a,rfl⟩:∃a:Nat,x=a:=⟨x.toNat,by omega⟩
 exact KQ b a (by omega) (by omega) hx w
theorem public_any(P:Nat)(X:Exg)(sA nA aA bA:Option Addr)(sc nc ac bc:Nat)(w:World)(hK:∀W,Below P w W->KD W)(hr:w.heap[P]?=some (.cells #[.int .i64 X.kd,.slice sA X.sec.length sc,.int .i64 X.pr,.int .i64 X.st,.slice nA X.non.length nc,.int .i64 X.x,.int .i64 X.g,.int .i64 X.own,.int .i64 X.oth,.slice aA X.k1.length ac,.slice bA X.k2.length bc,.int .i64 X.ct] 48 (0,0))) (eA:Option Addr) (ec:Nat) (s:List UInt8) (h6:BsS w (jL P w) (.slice eA s.length ec) s) (hl:s.length<=140737488351232) (hg:jx X.g=true):
 Calls Tryz.prog 130 #[.pointer (some ⟨P,0,none⟩),.slice eA s.length ec] w fun e w'=>∃B d,e=.returned (.slice B 32 d)/\PtW P w w' #[.int .i64 X.kd,.slice sA X.sec.length sc,.int .i64 X.pr,.int .i64 X.st,.slice nA X.non.length nc,.int .i64 (XS s),.int .i64 X.g,.int .i64 (zZ X.g (XS s)),.int .i64 X.oth,.slice aA X.k1.length ac,.slice bA X.k2.length bc,.int .i64 X.ct]/\BsS w' (jL P w') (.slice B 32 d) (sdW s):=by
 have HS:=iH (dsecret_any _ s w (hK w iB) h6.loB (by omega))
 have hsk:=ZV (scr_ok s)
 unfold SecOut at HS
 obtain⟨ks,hKK⟩:∃ks,XS s=ks:=⟨_,rfl⟩
 rw [hKK]at hsk HS |-
 clear hKK
 have HPW0:=iH (gpower_i X.g ks (kO hg) ⟨Int.le_of_lt hsk.1,Int.le_of_lt hsk.2⟩)
 obtain⟨G,hG⟩:∃G,zZ X.g ks=G:=⟨_,rfl⟩
 rw [hG]at HPW0 |-
 have HPW:=HPW0
 have HP0:Hid (PtW P w w #[.int .i64 X.kd,.slice sA X.sec.length sc,.int .i64 X.pr,.int .i64 X.st,.slice nA X.non.length nc,.int .i64 X.x,.int .i64 X.g,.int .i64 X.own,.int .i64 X.oth,.slice aA X.k1.length ac,.slice bA X.k2.length bc,.int .i64 X.ct]):=iH (PtW.start hr)
 obtain⟨f0,f1,f2,f3,f4,f5,f6,f7,f8,f9,f10,f11,ff⟩:=jy hr
 clear hr hK h6 hl hg hsk HPW0 hG
 go_enter Tryz.func130,Tryz.ntmps130
 go_upto_region 2 with (go_at_call 127;refine HS.out.mono ?_;rintro e w1 ⟨B1,d1,rfl,hb,hbw⟩;have GX1:=iH (hb.madeB HP0.out.lt);have hp:=HP0.out.call hbw;have HP1:=iH hp;obtain⟨g0,g1,g2,g3,g4,g5,g6,g7,g8,g9,g10,g11,gf⟩:=jy hp.1;have gx:=gf 5;clear hb hbw hp gf f0 f1 f2 f3 f4 f5 f6 f7 f8 f9 f10 f11 ff)
 obtain⟨w2,hw⟩:∃z,z=w1.setCell ⟨P,5,none⟩ (.int .i64 ks):=⟨_,rfl⟩
 rw [<-hw]
 have hp:PtW P w w2 #[.int .i64 X.kd,.slice sA X.sec.length sc,.int .i64 X.pr,.int .i64 X.st,.slice nA X.non.length nc,.int .i64 ks,.int .i64 X.g,.int .i64 X.own,.int .i64 X.oth,.slice aA X.k1.length ac,.slice bA X.k2.length bc,.int .i64 X.ct]:=by rw [hw];exact HP1.out.set 5 _
 have GX2:Hid (BsS w2 (jL P w2) _ _):=iH (by rw [hw];exact BsS.setP GX1.out 5 _)
 have HP2:=iH hp
 obtain⟨f0,f1,f2,f3,f4,f5,f6,f7,f8,f9,f10,f11,ff⟩:=jy hp.1
 clear hw hp g0 g1 g2 g3 g4 g5 g6 g7 g8 g9 g10 g11 gx
 have hjx:∀ {L:Nat->Bool} {i:Nat} {wz:World},i≠15->(∃u,PtW P w2 wz #[.int .i64 X.kd,.slice sA X.sec.length sc,.int .i64 X.pr,.int .i64 X.st,.slice nA X.non.length nc,.int .i64 ks,.int .i64 X.g,u,.int .i64 X.oth,.slice aA X.k1.length ac,.slice bA X.k2.length bc,.int .i64 X.ct]/\(L 15=true->u=.int .i64 G))->∃u,PtW P w2 wz #[.int .i64 X.kd,.slice sA X.sec.length sc,.int .i64 X.pr,.int .i64 X.st,.slice nA X.non.length nc,.int .i64 ks,.int .i64 X.g,u,.int .i64 X.oth,.slice aA X.k1.length ac,.slice bA X.k2.length bc,.int .i64 X.ct]/\(VP L i 15=true->u=.int .i64 G):=fun {L i wz} hi ⟨u,h1,h2⟩=>⟨u,h1,fun h=>h2 (by unfold VP at h;rwa [iF (fun e=>hi e.symm)]at h)⟩
 refine jg 16 [some 14,some 15,some 16,some 17,some 18,some 19,some 20,some 21,some 22,some 23,some 13,some 24,some 25,some 26,some 27,none] [[],[],[1],[1,2],[1,2,3],[],[5],[5,6],[5,6,7],[1,2,3,4,5,6,7,8],[1,2,3,4,5,6,7,8,9],[1,2,3,4,5,6,7,8,9,10],[1,2,3,4,5,6,7,8,9,10],[0,1,2,3,4,5,6,7,8,9,10,11],[0,1,2,3,4,5,6,7,8,9,10,11,13],[0,1,2,3,4,5,6,7,8,9,10,11,13,14]]
  (fun L _ w1=>∃u,PtW P w2 w1 #[.int .i64 X.kd,.slice sA X.sec.length sc,.int .i64 X.pr,.int .i64 X.st,.slice nA X.non.length nc,.int .i64 ks,.int .i64 X.g,u,.int .i64 X.oth,.slice aA X.k1.length ac,.slice bA X.k2.length bc,.int .i64 X.ct]/\(L 15=true->u=.int .i64 G)) (fun w1 w2=>w1.grownBy w2 (some P))
  [fun v _=>v 0=.pointer (some ⟨P,0,none⟩),
   fun v _=>v 1=.pointer (some ⟨P,0,none⟩),
   fun v _=>v 2=.pointer (some ⟨P,0,none⟩),
   fun v _=>v 3=.pointer (some ⟨P,6,none⟩),
   fun v _=>v 4=.int .i64 X.g,
   fun v _=>v 5=.pointer (some ⟨P,0,none⟩),
   fun v _=>v 6=.pointer (some ⟨P,0,none⟩),
   fun v _=>v 7=.pointer (some ⟨P,5,none⟩),
   fun v _=>v 8=.int .i64 ks,
   fun v _=>v 9=.tuple #[.int .i64 G,.int .i64 0],
   fun v _=>v 10=.tuple #[.int .i64 G,.int .i64 0],
   fun v _=>v 11=.int .i64 G,
   fun v _=>v 12=.int .i64 0,
   fun v _=>v 13=.pointer (some ⟨P,0,none⟩),
   fun v _=>v 14=.pointer (some ⟨P,7,none⟩),
   fun v w1=>True]
  (by kernel_rfl) (by kernel_rfl) (fun _=>⟨_,(PtW.start HP2.out.1).drew,fun h=>by cases h⟩) ?st ?steps ?tail
 case st=>
  exact(.cons (fun _ _ _ _ _ _ h=>h) (.cons (fun _ _ _ _ _ _ h=>h) (.cons (fun _ _ _ _ _ _ h=>h) (.cons (fun _ _ _ _ _ _ h=>h) (.cons (fun _ _ _ _ _ _ h=>h) (.cons (fun _ _ _ _ _ _ h=>h) (.cons (fun _ _ _ _ _ _ h=>h) (.cons (fun _ _ _ _ _ _ h=>h) (.cons (fun _ _ _ _ _ _ h=>h) (.cons (fun _ _ _ _ _ _ h=>h) (.cons (fun _ _ _ _ _ _ h=>h) (.cons (fun _ _ _ _ _ _ h=>h) (.cons (fun _ _ _ _ _ _ h=>h) (.cons (fun _ _ _ _ _ _ h=>h) (.cons (fun _ _ _ _ _ _ h=>h) (.cons (fun _ _ _ _ _ _ h=>h) .nil))))))))))))))))
 case steps=>
  simp only [List.take_succ_cons,List.take_zero]
  refine(.cons ?_ (.cons ?_ (.cons ?_ (.cons ?_ (.cons ?_ (.cons ?_ (.cons ?_ (.cons ?_ (.cons ?_ (.cons ?_ (.cons ?_ (.cons ?_ (.cons ?_ (.cons ?_ (.cons ?_ (.cons ?_ .nil))))))))))))))))
  all_goals(intro L v w1 hJ hL hA hF K hK;simp only [ja,Act.put,Nat.zero_add,Nat.reduceAdd,List.setIfInBounds_toArray,List.set_cons_zero,List.set_cons_succ]at hK |-)
  ·have hJ2:=iH hJ
   go_simp
   exact hK _ _ (hjx (by decide) hJ2.out) (World.grownBy.refl _ _) rfl
  ·have hJ2:=iH hJ
   go_simp
   exact hK _ _ (hjx (by decide) hJ2.out) (World.grownBy.refl _ _) rfl
  ·have e1:v 1=.pointer (some ⟨P,0,none⟩):=hF 1 (hA 1 (by simp))
   simp only [e1]at hK
   have hJ2:=iH hJ
   go_simp
   exact hK _ _ (hjx (by decide) hJ2.out) (World.grownBy.refl _ _) rfl
  ·have e2:v 2=.pointer (some ⟨P,0,none⟩):=hF 2 (hA 2 (by simp))
   simp only [e2]at hK
   have hJ2:=iH hJ
   go_simp
   exact hK _ _ (hjx (by decide) hJ2.out) (World.grownBy.refl _ _) rfl
  ·have e3:v 3=.pointer (some ⟨P,6,none⟩):=hF 3 (hA 3 (by simp))
   simp only [e3]at hK
   have hJ2:=iH hJ
   obtain⟨u,hp,_⟩:=hJ
   obtain⟨q0,q1,q2,q3,q4,q5,q6,q7,q8,q9,q10,q11,qf⟩:=jy hp.1
   go_simp
   exact hK _ _ (hjx (by decide) hJ2.out) (World.grownBy.refl _ _) rfl
  ·have hJ2:=iH hJ
   go_simp
   exact hK _ _ (hjx (by decide) hJ2.out) (World.grownBy.refl _ _) rfl
  ·have e5:v 5=.pointer (some ⟨P,0,none⟩):=hF 5 (hA 5 (by simp))
   simp only [e5]at hK
   have hJ2:=iH hJ
   go_simp
   exact hK _ _ (hjx (by decide) hJ2.out) (World.grownBy.refl _ _) rfl
  ·have e6:v 6=.pointer (some ⟨P,0,none⟩):=hF 6 (hA 6 (by simp))
   simp only [e6]at hK
   have hJ2:=iH hJ
   go_simp
   exact hK _ _ (hjx (by decide) hJ2.out) (World.grownBy.refl _ _) rfl
  ·have e7:v 7=.pointer (some ⟨P,5,none⟩):=hF 7 (hA 7 (by simp))
   simp only [e7]at hK
   have hJ2:=iH hJ
   obtain⟨u,hp,_⟩:=hJ
   obtain⟨q0,q1,q2,q3,q4,q5,q6,q7,q8,q9,q10,q11,qf⟩:=jy hp.1
   go_simp
   exact hK _ _ (hjx (by decide) hJ2.out) (World.grownBy.refl _ _) rfl
  ·have e4:v 4=.int .i64 X.g:=hF 4 (hA 4 (by simp))
   have e8:v 8=.int .i64 ks:=hF 8 (hA 8 (by simp))
   simp only [e4,e8]at hK
   simp only [e4,e8]
   go_simp
   refine(HPW.out w1).mono ?_
   rintro e wk ⟨rfl,hwk⟩
   subst hwk
   exact hK _ _ (hjx (by decide) hJ) (World.grownBy.refl _ _) rfl
  ·have e9:v 9=.tuple #[.int .i64 G,.int .i64 0]:=hF 9 (hA 9 (by simp))
   simp only [e9]at hK
   have hJ2:=iH hJ
   go_simp
   exact hK _ _ (hjx (by decide) hJ2.out) (World.grownBy.refl _ _) rfl
  ·have e10:v 10=.tuple #[.int .i64 G,.int .i64 0]:=hF 10 (hA 10 (by simp))
   simp only [e10]at hK
   have hJ2:=iH hJ
   go_simp
   exact hK _ _ (hjx (by decide) hJ2.out) (World.grownBy.refl _ _) rfl
  ·have e10:v 10=.tuple #[.int .i64 G,.int .i64 0]:=hF 10 (hA 10 (by simp))
   simp only [e10]at hK
   have hJ2:=iH hJ
   go_simp
   exact hK _ _ (hjx (by decide) hJ2.out) (World.grownBy.refl _ _) rfl
  ·have e0:v 0=.pointer (some ⟨P,0,none⟩):=hF 0 (hA 0 (by simp))
   simp only [e0]at hK
   have hJ2:=iH hJ
   go_simp
   exact hK _ _ (hjx (by decide) hJ2.out) (World.grownBy.refl _ _) rfl
  ·have e13:v 13=.pointer (some ⟨P,0,none⟩):=hF 13 (hA 13 (by simp))
   simp only [e13]at hK
   have hJ2:=iH hJ
   go_simp
   exact hK _ _ (hjx (by decide) hJ2.out) (World.grownBy.refl _ _) rfl
  ·have e14:v 14=.pointer (some ⟨P,7,none⟩):=hF 14 (hA 14 (by simp))
   have e11:v 11=.int .i64 G:=hF 11 (hA 11 (by simp))
   simp only [e14,e11]at hK
   have e11:v 11=.int .i64 G:=hF 11 (hA 11 (by simp))
   have e14:v 14=.pointer (some ⟨P,7,none⟩):=hF 14 (hA 14 (by simp))
   simp only [e11,e14]
   obtain⟨u,hp,_⟩:=hJ
   obtain⟨q0,q1,q2,q3,q4,q5,q6,q7,q8,q9,q10,q11,qf⟩:=jy hp.1
   have qxQ9:=qf 7
   have HPQ:=iH hp
   clear hp qf
   go_simp
   exact hK undef _ ⟨_,HPQ.out.set 7 _,fun _=>rfl⟩ ((PtW.start HPQ.out.1).set 7 _).2.1 trivial
 case tail=>
  intro v w1 hJ hF
  have e0:v 0=.pointer (some ⟨P,0,none⟩):=hF 0 (by simp)
  have e1:v 1=.pointer (some ⟨P,0,none⟩):=hF 1 (by simp)
  have e2:v 2=.pointer (some ⟨P,0,none⟩):=hF 2 (by simp)
  have e3:v 3=.pointer (some ⟨P,6,none⟩):=hF 3 (by simp)
  have e4:v 4=.int .i64 X.g:=hF 4 (by simp)
  have e5:v 5=.pointer (some ⟨P,0,none⟩):=hF 5 (by simp)
  have e6:v 6=.pointer (some ⟨P,0,none⟩):=hF 6 (by simp)
  have e7:v 7=.pointer (some ⟨P,5,none⟩):=hF 7 (by simp)
  have e8:v 8=.int .i64 ks:=hF 8 (by simp)
  have e9:v 9=.tuple #[.int .i64 G,.int .i64 0]:=hF 9 (by simp)
  have e10:v 10=.tuple #[.int .i64 G,.int .i64 0]:=hF 10 (by simp)
  have e11:v 11=.int .i64 G:=hF 11 (by simp)
  have e12:v 12=.int .i64 0:=hF 12 (by simp)
  have e13:v 13=.pointer (some ⟨P,0,none⟩):=hF 13 (by simp)
  have e14:v 14=.pointer (some ⟨P,7,none⟩):=hF 14 (by simp)
  simp only [List.drop_succ_cons,List.drop_zero,ja,Act.put,Nat.zero_add,Nat.reduceAdd,List.setIfInBounds_toArray,List.set_cons_zero,List.set_cons_succ]
  obtain⟨u,hp,hu⟩:=hJ
  obtain rfl:=hu rfl
  have HP3:=iH hp;have GX3:=iH (GX2.out.grownP hp.2.1)
  clear hF hp hu f0 f1 f2 f3 f4 f5 f6 f7 f8 f9 f10 f11 ff
  go_wp2_with fail
  go_ret
  exact⟨_,_,rfl,HP2.out.trans HP3.out,GX3.out⟩
theorem agree_same(P:Nat)(X:Exg)(sA nA aA bA:Option Addr)(sc nc ac bc:Nat)(w:World)(hK:∀W,Below P w W->KD W)(hr:w.heap[P]?=some (.cells #[.int .i64 X.kd,.slice sA X.sec.length sc,.int .i64 X.pr,.int .i64 X.st,.slice nA X.non.length nc,.int .i64 X.x,.int .i64 X.g,.int .i64 X.own,.int .i64 X.oth,.slice aA X.k1.length ac,.slice bA X.k2.length bc,.int .i64 X.ct] 48 (0,0))) (o:Int) (ho:o=X.own):Calls Tryz.prog 131 #[.pointer (some ⟨P,0,none⟩),.int .i64 o] w fun e w'=>e=.returned (.int .i64 10)/\w'=w:=by
 obtain⟨f0,f1,f2,f3,f4,f5,f6,f7,f8,f9,f10,f11,ff⟩:=jy hr
 have t1:(o==X.own)=true:=by simp [ho]
 clear hr hK ho ff
 go_enter Tryz.func131,Tryz.ntmps131
 go_wp2_with fail
 go_ret
 exact⟨rfl,rfl⟩
theorem agree_any(P:Nat)(X:Exg)(sA nA aA bA:Option Addr)(sc nc ac bc:Nat)(w:World)(hK:∀W,Below P w W->KD W)(hr:w.heap[P]?=some (.cells #[.int .i64 X.kd,.slice sA X.sec.length sc,.int .i64 X.pr,.int .i64 X.st,.slice nA X.non.length nc,.int .i64 X.x,.int .i64 X.g,.int .i64 X.own,.int .i64 X.oth,.slice aA X.k1.length ac,.slice bA X.k2.length bc,.int .i64 X.ct] 48 (0,0))) (o:Int) (ho:¬o=X.own) (hx:okS X.x=true) (hoe:jx o=true):
 Calls Tryz.prog 131 #[.pointer (some ⟨P,0,none⟩),.int .i64 o] w fun e w'=>∃aB bB ad bd,e=.returned (.int .i64 0)/\PtW P w w' #[.int .i64 X.kd,.slice sA X.sec.length sc,.int .i64 X.pr,.int .i64 X.st,.slice nA X.non.length nc,.int .i64 X.x,.int .i64 X.g,.int .i64 X.own,.int .i64 o,.slice aB 16 ad,.slice bB 16 bd,.int .i64 0]/\BsS w' (jL P w') (.slice aB 16 ad) (ZB (kg (zZ o X.x)) 1)/\BsS w' (jL P w') (.slice bB 16 bd) (ZB (kg (zZ o X.x)) 2):=by
 have HSH:=iH (gshare_i X.x o hx hoe)
 have hel:=xe o X.x hoe hx
 obtain⟨H,hH⟩:∃H,zZ o X.x=H:=⟨_,rfl⟩
 rw [hH]at HSH hel |-
 have HEN:=iH (encoded_any H hel)
 have HK:=iH hK
 have HP0:Hid (PtW P w w #[.int .i64 X.kd,.slice sA X.sec.length sc,.int .i64 X.pr,.int .i64 X.st,.slice nA X.non.length nc,.int .i64 X.x,.int .i64 X.g,.int .i64 X.own,.int .i64 X.oth,.slice aA X.k1.length ac,.slice bA X.k2.length bc,.int .i64 X.ct]):=iH (PtW.start hr)
 obtain⟨f0,f1,f2,f3,f4,f5,f6,f7,f8,f9,f10,f11,ff⟩:=jy hr
 have fx:=ff 8
 have t1:(o==X.own)=false:=by simp [ho]
 clear hr hK ho hx hoe hel hH ff
 go_enter Tryz.func131,Tryz.ntmps131
 go_upto_region 4 with fail
 obtain⟨w1,hw⟩:∃z,z=w.setCell ⟨P,8,none⟩ (.int .i64 o):=⟨_,rfl⟩
 rw [<-hw]
 have hp:PtW P w w1 #[.int .i64 X.kd,.slice sA X.sec.length sc,.int .i64 X.pr,.int .i64 X.st,.slice nA X.non.length nc,.int .i64 X.x,.int .i64 X.g,.int .i64 X.own,.int .i64 o,.slice aA X.k1.length ac,.slice bA X.k2.length bc,.int .i64 X.ct]:=by rw [hw];exact HP0.out.set 8 _
 have HP1:=iH hp
 obtain⟨g0,g1,g2,g3,g4,g5,g6,g7,g8,g9,g10,g11,gf⟩:=jy hp.1
 clear hw hp f0 f1 f2 f3 f4 f5 f6 f7 f8 f9 f10 f11 fx
 clear gf
 go_upto_region 8 with (first
  |(go_at_call 56;refine(HSH.out _).mono ?_;rintro e w' ⟨rfl,hw'⟩;rw [hw'];clear hw' w')
  |(go_at_call 129;refine(HEN.out _).mono ?_;rintro e w2 ⟨A2,c2,rfl,hs,hb⟩;have GE2:=iH (hs.madeB HP1.out.lt);have hp:=HP1.out.call hb;have HP2:=iH hp;clear hs hb hp)
  |(go_at_call 47;refine(QB 2 (by omega) (by omega) _ (kg H) w3 (HK.out w3 HP3.out.2.2) GE3.out.loB (by simp [kg])).mono ?_;rintro e w4 ⟨v4,rfl,hs,hb⟩;obtain⟨A4,c4,hv4⟩:=Bs.formL hs;rw [zh]at hv4;subst hv4;have GB4:=iH (hs.madeB HP3.out.lt);have GA4:=iH (GA3.out.onB hb);have hp:=HP3.out.call hb;have HP4:=iH hp;clear hs hb hp)
  |(go_at_call 47;refine(QB 1 (by omega) (by omega) _ (kg H) w2 (HK.out w2 HP2.out.2.2) GE2.out.loB (by simp [kg])).mono ?_;rintro e w3 ⟨v3,rfl,hs,hb⟩;obtain⟨A3,c3,hv3⟩:=Bs.formL hs;rw [zh]at hv3;subst hv3;have GA3:=iH (hs.madeB HP2.out.lt);have GE3:=iH (GE2.out.onB hb);have hp:=HP2.out.call hb;have HP3:=iH hp;clear hs hb hp))
 go_upto_region 9 with (go_at_call 163;refine(XW _ _ _ _ 0 w4 GA4.out.loB GB4.out.loB (zh _ _) (zh _ _) (by omega) (by omega)).mono ?_;rintro e w5 ⟨v5,rfl,⟨aB,ad,bB,bd,rfl,k1,k2⟩,hb⟩;have GA5:=iH (k1.madeB HP4.out.lt);have GB5:=iH (k2.madeB HP4.out.lt);have hp:=HP4.out.call hb;have HP5:=iH hp;obtain⟨f0,f1,f2,f3,f4,f5,f6,f7,f8,f9,f10,f11,ff⟩:=jy hp.1;have x9Q9:=ff 9;have x10:=ff 10;have x11:=ff 11;clear k1 k2 hb hp ff g0 g1 g2 g3 g4 g5 g6 g7 g8 g9 g10 g11)
 obtain⟨w6,hw⟩:∃z,z=((w5.setCell ⟨P,9,none⟩ (.slice aB 16 ad)).setCell ⟨P,10,none⟩ (.slice bB 16 bd)).setCell ⟨P,11,none⟩ (.int .i64 0):=⟨_,rfl⟩
 rw [<-hw]
 have hp:PtW P w w6 #[.int .i64 X.kd,.slice sA X.sec.length sc,.int .i64 X.pr,.int .i64 X.st,.slice nA X.non.length nc,.int .i64 X.x,.int .i64 X.g,.int .i64 X.own,.int .i64 o,.slice aB 16 ad,.slice bB 16 bd,.int .i64 0]:=by rw [hw];exact((HP5.out.set 9 _).set 10 _).set 11 _
 have GA6:BsS w6 (jL P w6) (.slice aB 16 ad) (ZB (kg H) 1):=by rw [hw];exact((BsS.setP GA5.out 9 _).setP 10 _).setP 11 _
 have GB6:BsS w6 (jL P w6) (.slice bB 16 bd) (ZB (kg H) 2):=by rw [hw];exact((BsS.setP GB5.out 9 _).setP 10 _).setP 11 _
 have HQ:=iH (And.intro hp (And.intro GA6 GB6))
 clear hw hp GA6 GB6 f0 f1 f2 f3 f4 f5 f6 f7 f8 f9 f10 f11 x9Q9 x10 x11
 go_wp2_with fail
 go_ret
 exact⟨_,_,_,_,rfl,HQ.out.1,HQ.out.2.1,HQ.out.2.2⟩
theorem decode_ok{v:List UInt8}{o:Int}(h:jF v=(0,o)):jx o=true:=by
 unfold jF at h
 split at h
 ·cases h
 ·split at h
  ·cases h
  ·rename_i h1
   obtain⟨_,rfl⟩:=Prod.mk.inj h
   simpa using h1
theorem chipAgree_err(P:Nat)(X:Exg)(sA nA aA bA:Option Addr)(sc nc ac bc:Nat)(vA eA:Option Addr)(vc ec:Nat)(v s:List UInt8)(w:World)(hK:∀W,Below P w W->KD W)(hr:w.heap[P]?=some (.cells #[.int .i64 X.kd,.slice sA X.sec.length sc,.int .i64 X.pr,.int .i64 X.st,.slice nA X.non.length nc,.int .i64 X.x,.int .i64 X.g,.int .i64 X.own,.int .i64 X.oth,.slice aA X.k1.length ac,.slice bA X.k2.length bc,.int .i64 X.ct] 48 (0,0))) (h1:BsS w (jL P w) (.slice sA X.sec.length sc) X.sec) (h2:BsS w (jL P w) (.slice nA X.non.length nc) X.non) (h3:BsS w (jL P w) (.slice aA X.k1.length ac) X.k1) (h4:BsS w (jL P w) (.slice bA X.k2.length bc) X.k2) (h5:BsS w (jL P w) (.slice vA v.length vc) v) (h6:BsS w (jL P w) (.slice eA s.length ec) s) (hl:s.length<=140737488351232) (er o:Int) (hd:jF v=(er,o)) (he:(er != 0)=true):
 Calls Tryz.prog 73 #[.pointer (some ⟨P,0,none⟩),.slice vA v.length vc,.slice eA s.length ec] w (StepE P w er):=by
 have HD:=iH (decode_any v _ _ w h5)
 rw [hd]at HD
 clear hd
 have HP0:Hid (PtW P w w #[.int .i64 X.kd,.slice sA X.sec.length sc,.int .i64 X.pr,.int .i64 X.st,.slice nA X.non.length nc,.int .i64 X.x,.int .i64 X.g,.int .i64 X.own,.int .i64 X.oth,.slice aA X.k1.length ac,.slice bA X.k2.length bc,.int .i64 X.ct]):=iH (PtW.start hr)
 have HK:=iH hK;have Gs0:=iH h1;have Gn0:=iH h2;have Ga0:=iH h3;have Gb0:=iH h4;have Gv0:=iH h5;have Ge0:=iH h6;have HL:=iH hl
 obtain⟨f0,f1,f2,f3,f4,f5,f6,f7,f8,f9,f10,f11,ff⟩:=jy hr
 clear hK hr h1 h2 h3 h4 h5 h6 hl
 go_enter Tryz.func73,Tryz.ntmps73
 go_wp2_with(go_at_call 126;refine HD.out.mono ?_;rintro e w' ⟨rfl,hw'⟩;rw [hw'];clear hw' w')
 refine bodyPost_ret (v:=.tuple #[.int .i64 0,.slice none 0 0,.slice none 0 0,.int .i64 er]) (by simp [results,Tryz.results73,go_sem]) rfl ?_
 exact⟨rfl,_,_,_,_,_,_,_,_,_,_,_,_,HP0.out⟩
theorem chipAgree_same(P:Nat)(X:Exg)(sA nA aA bA:Option Addr)(sc nc ac bc:Nat)(vA eA:Option Addr)(vc ec:Nat)(v s:List UInt8)(w:World)(hK:∀W,Below P w W->KD W)(hr:w.heap[P]?=some (.cells #[.int .i64 X.kd,.slice sA X.sec.length sc,.int .i64 X.pr,.int .i64 X.st,.slice nA X.non.length nc,.int .i64 X.x,.int .i64 X.g,.int .i64 X.own,.int .i64 X.oth,.slice aA X.k1.length ac,.slice bA X.k2.length bc,.int .i64 X.ct] 48 (0,0))) (h1:BsS w (jL P w) (.slice sA X.sec.length sc) X.sec) (h2:BsS w (jL P w) (.slice nA X.non.length nc) X.non) (h3:BsS w (jL P w) (.slice aA X.k1.length ac) X.k1) (h4:BsS w (jL P w) (.slice bA X.k2.length bc) X.k2) (h5:BsS w (jL P w) (.slice vA v.length vc) v) (h6:BsS w (jL P w) (.slice eA s.length ec) s) (hl:s.length<=140737488351232) (o:Int) (hg:jx X.g=true) (hd:jF v=(0,o)) (hne:o=zZ X.g (XS s)):
 Calls Tryz.prog 73 #[.pointer (some ⟨P,0,none⟩),.slice vA v.length vc,.slice eA s.length ec] w (StepE P w 10):=by
 have HD:=iH (decode_any v _ _ w h5)
 rw [hd]at HD
 have HPU:=iH (public_any P X sA nA aA bA sc nc ac bc w hK hr eA ec s h6 hl hg)
 have hoe:=decode_ok hd
 have hks:=scr_ok s
 obtain⟨ks,hk⟩:∃ks,XS s=ks:=⟨_,rfl⟩
 rw [hk]at HPU hks hne
 obtain⟨G,hG⟩:∃G,zZ X.g ks=G:=⟨_,rfl⟩
 have hge:jx G=true:=by rw [<-hG];exact xe X.g ks hg hks
 rw [hG]at HPU hne
 have HAG:Hid (∀W,W.heap[P]?=some (.cells #[.int .i64 X.kd,.slice sA X.sec.length sc,.int .i64 X.pr,.int .i64 X.st,.slice nA X.non.length nc,.int .i64 ks,.int .i64 X.g,.int .i64 G,.int .i64 X.oth,.slice aA X.k1.length ac,.slice bA X.k2.length bc,.int .i64 X.ct] 48 (0,0))->(∀W',Below P W W'->KD W')->Calls Tryz.prog 131 #[.pointer (some ⟨P,0,none⟩),.int .i64 o] W fun e w'=>e=.returned (.int .i64 10)/\w'=W):=iH (fun W h k=>agree_same P {X with x:=ks,own:=G} sA nA aA bA sc nc ac bc W k h o hne)
 clear hk hG hd hne hoe hks hge hg
 have HP0:Hid (PtW P w w #[.int .i64 X.kd,.slice sA X.sec.length sc,.int .i64 X.pr,.int .i64 X.st,.slice nA X.non.length nc,.int .i64 X.x,.int .i64 X.g,.int .i64 X.own,.int .i64 X.oth,.slice aA X.k1.length ac,.slice bA X.k2.length bc,.int .i64 X.ct]):=iH (PtW.start hr)
 have HK:=iH hK;have Gs0:=iH h1;have Gn0:=iH h2;have Ga0:=iH h3;have Gb0:=iH h4;have Gv0:=iH h5;have Ge0:=iH h6;have HL:=iH hl
 obtain⟨f0,f1,f2,f3,f4,f5,f6,f7,f8,f9,f10,f11,ff⟩:=jy hr
 clear hK hr h1 h2 h3 h4 h5 h6 hl
 go_enter Tryz.func73,Tryz.ntmps73
 go_wp2_with(first
  |(go_at_call 126;refine HD.out.mono ?_;rintro e w' ⟨rfl,hw'⟩;rw [hw'];clear hw' w')
  |(go_at_call 130;refine HPU.out.mono ?_;rintro e w1 ⟨B1,d1,rfl,hq,hx⟩;have HP1:=iH hq;have GX1:=iH hx;have Gs1:=iH (Gs0.out.grownP hq.2.1);have Gn1:=iH (Gn0.out.grownP hq.2.1);have Ga1:=iH (Ga0.out.grownP hq.2.1);have Gb1:=iH (Gb0.out.grownP hq.2.1);have Gv1:=iH (Gv0.out.grownP hq.2.1);have Ge1:=iH (Ge0.out.grownP hq.2.1);obtain⟨g0,g1,g2,g3,g4,g5,g6,g7,g8,g9,g10,g11,gf⟩:=jy hq.1;clear hq hx f0 f1 f2 f3 f4 f5 f6 f7 f8 f9 f10 f11 ff)
  |(go_at_call 131;refine(HAG.out w1 HP1.out.1 (fun W' h=>HK.out W' (HP1.out.2.2.trans h))).mono ?_;rintro e w' ⟨rfl,hw'⟩;rw [hw'];clear hw' w'))
 refine bodyPost_ret (v:=.tuple #[.int .i64 0,.slice none 0 0,.slice none 0 0,.int .i64 10]) (by simp [results,Tryz.results73,go_sem]) rfl ?_
 exact⟨rfl,_,_,_,_,_,_,_,_,_,_,_,_,HP1.out⟩
theorem chipAgree_any(P:Nat)(X:Exg)(sA nA aA bA:Option Addr)(sc nc ac bc:Nat)(vA eA:Option Addr)(vc ec:Nat)(v s:List UInt8)(w:World)(hK:∀W,Below P w W->KD W)(hr:w.heap[P]?=some (.cells #[.int .i64 X.kd,.slice sA X.sec.length sc,.int .i64 X.pr,.int .i64 X.st,.slice nA X.non.length nc,.int .i64 X.x,.int .i64 X.g,.int .i64 X.own,.int .i64 X.oth,.slice aA X.k1.length ac,.slice bA X.k2.length bc,.int .i64 X.ct] 48 (0,0))) (h1:BsS w (jL P w) (.slice sA X.sec.length sc) X.sec) (h2:BsS w (jL P w) (.slice nA X.non.length nc) X.non) (h3:BsS w (jL P w) (.slice aA X.k1.length ac) X.k1) (h4:BsS w (jL P w) (.slice bA X.k2.length bc) X.k2) (h5:BsS w (jL P w) (.slice vA v.length vc) v) (h6:BsS w (jL P w) (.slice eA s.length ec) s) (hl:s.length<=140737488351232) (o:Int) (hg:jx X.g=true) (hd:jF v=(0,o)) (hne:¬o=zZ X.g (XS s)):
 Calls Tryz.prog 73 #[.pointer (some ⟨P,0,none⟩),.slice vA v.length vc,.slice eA s.length ec] w (Vg P w 132 (Zb {X with x:=XS s,own:=zZ X.g (XS s)} o).2 (kg (zZ X.g (XS s))) (sdW s)):=by
 have HD:=iH (decode_any v _ _ w h5)
 rw [hd]at HD
 have HPU:=iH (public_any P X sA nA aA bA sc nc ac bc w hK hr eA ec s h6 hl hg)
 have hoe:=decode_ok hd
 have hks:=scr_ok s
 obtain⟨ks,hk⟩:∃ks,XS s=ks:=⟨_,rfl⟩
 rw [hk]at HPU hks hne |-
 obtain⟨G,hG⟩:∃G,zZ X.g ks=G:=⟨_,rfl⟩
 have hge:jx G=true:=by rw [<-hG];exact xe X.g ks hg hks
 rw [hG]at HPU hne |-
 have hagw:(Zb {X with x:=ks,own:=G} o).2= {X with x:=ks,own:=G,oth:=o,k1:=ZB (kg (zZ o ks)) 1,k2:=ZB (kg (zZ o ks)) 2,ct:=0}:=by unfold Zb;rw [iF hne]
 rw [hagw]
 have HAG:Hid (∀W,W.heap[P]?=some (.cells #[.int .i64 X.kd,.slice sA X.sec.length sc,.int .i64 X.pr,.int .i64 X.st,.slice nA X.non.length nc,.int .i64 ks,.int .i64 X.g,.int .i64 G,.int .i64 X.oth,.slice aA X.k1.length ac,.slice bA X.k2.length bc,.int .i64 X.ct] 48 (0,0))->(∀W',Below P W W'->KD W')->Calls Tryz.prog 131 #[.pointer (some ⟨P,0,none⟩),.int .i64 o] W fun e w'=>∃aB bB ad bd,e=.returned (.int .i64 0)/\PtW P W w' #[.int .i64 X.kd,.slice sA X.sec.length sc,.int .i64 X.pr,.int .i64 X.st,.slice nA X.non.length nc,.int .i64 ks,.int .i64 X.g,.int .i64 G,.int .i64 o,.slice aB 16 ad,.slice bB 16 bd,.int .i64 0]/\BsS w' (jL P w') (.slice aB 16 ad) (ZB (kg (zZ o ks)) 1)/\BsS w' (jL P w') (.slice bB 16 bd) (ZB (kg (zZ o ks)) 2)):=iH (fun W h k=>agree_any P {X with x:=ks,own:=G} sA nA aA bA sc nc ac bc W k h o hne hks hoe)
 have HEN:=iH (encoded_any G hge)
 have HKL:=iH (And.intro (zh (kg (zZ o ks)) 1) (zh (kg (zZ o ks)) 2))
 obtain⟨K1,hK1⟩:∃k,ZB (kg (zZ o ks)) 1=k:=⟨_,rfl⟩
 obtain⟨K2,hK2⟩:∃k,ZB (kg (zZ o ks)) 2=k:=⟨_,rfl⟩
 rw [hK1,hK2]at HAG HKL |-
 clear hk hG hd hne hoe hks hge hg hagw hK1 hK2
 have HP0:Hid (PtW P w w #[.int .i64 X.kd,.slice sA X.sec.length sc,.int .i64 X.pr,.int .i64 X.st,.slice nA X.non.length nc,.int .i64 X.x,.int .i64 X.g,.int .i64 X.own,.int .i64 X.oth,.slice aA X.k1.length ac,.slice bA X.k2.length bc,.int .i64 X.ct]):=iH (PtW.start hr)
 have HK:=iH hK;have Gs0:=iH h1;have Gn0:=iH h2;have Ga0:=iH h3;have Gb0:=iH h4;have Gv0:=iH h5;have Ge0:=iH h6;have HL:=iH hl
 obtain⟨f0,f1,f2,f3,f4,f5,f6,f7,f8,f9,f10,f11,ff⟩:=jy hr
 clear hK hr h1 h2 h3 h4 h5 h6 hl
 go_enter Tryz.func73,Tryz.ntmps73
 go_wp2_with(first
  |(go_at_call 126;refine HD.out.mono ?_;rintro e w' ⟨rfl,hw'⟩;rw [hw'];clear hw' w')
  |(go_at_call 130;refine HPU.out.mono ?_;rintro e w1 ⟨B1,d1,rfl,hq,hx⟩;have HP1:=iH hq;have GX1:=iH hx;have Gs1:=iH (Gs0.out.grownP hq.2.1);have Gn1:=iH (Gn0.out.grownP hq.2.1);have Ga1:=iH (Ga0.out.grownP hq.2.1);have Gb1:=iH (Gb0.out.grownP hq.2.1);have Gv1:=iH (Gv0.out.grownP hq.2.1);have Ge1:=iH (Ge0.out.grownP hq.2.1);obtain⟨g0,g1,g2,g3,g4,g5,g6,g7,g8,g9,g10,g11,gf⟩:=jy hq.1;clear hq hx f0 f1 f2 f3 f4 f5 f6 f7 f8 f9 f10 f11 ff)
  |(go_at_call 131;refine(HAG.out w1 HP1.out.1 (fun W' h=>HK.out W' (HP1.out.2.2.trans h))).mono ?_;rintro e w2 ⟨aB,bB,ad,bd,rfl,hq,k1,k2⟩;have HP2:=iH (HP1.out.trans hq);have GA2:=iH k1;have GB2:=iH k2;have Gs2:=iH (Gs1.out.grownP hq.2.1);have Gn2:=iH (Gn1.out.grownP hq.2.1);have Ga2:=iH (Ga1.out.grownP hq.2.1);have Gb2:=iH (Gb1.out.grownP hq.2.1);have Gv2:=iH (Gv1.out.grownP hq.2.1);have Ge2:=iH (Ge1.out.grownP hq.2.1);have GX2:=iH (GX1.out.grownP hq.2.1);obtain⟨f0,f1,f2,f3,f4,f5,f6,f7,f8,f9,f10,f11,ff⟩:=jy hq.1;clear hq k1 k2 g0 g1 g2 g3 g4 g5 g6 g7 g8 g9 g10 g11 gf)
  |(go_at_call 129;refine(HEN.out w2).mono ?_;rintro e w3 ⟨A3,c3,rfl,hs,hb⟩;have GE3:=iH (hs.madeB HP2.out.lt);have HP3:=iH (HP2.out.call hb);have GA3:=iH (GA2.out.onB hb);have GB3:=iH (GB2.out.onB hb);have Gs3:=iH (Gs2.out.onB hb);have Gn3:=iH (Gn2.out.onB hb);have Ga3:=iH (Ga2.out.onB hb);have Gb3:=iH (Gb2.out.onB hb);have Gv3:=iH (Gv2.out.onB hb);have Ge3:=iH (Ge2.out.onB hb);have GX3:=iH (GX2.out.onB hb);clear hs hb))
 refine bodyPost_ret (v:=.tuple #[.int .i64 132,.slice A3 4 c3,.slice B1 32 d1,.int .i64 0]) (by simp [results,Tryz.results73,go_sem]) rfl ?_
 have hx:(sdW s).length=32:=ji _
 have x3:BsS w3 (jL P w3) (.slice B1 (sdW s).length d1) (sdW s):=by rw [hx];exact GX3.out
 have q3:=HP3.out
 have a3:BsS w3 (jL P w3) (.slice aB K1.length ad) K1:=by rw [HKL.out.1];exact GA3.out
 have b3:BsS w3 (jL P w3) (.slice bB K2.length bd) K2:=by rw [HKL.out.2];exact GB3.out
 have q4:PtW P w w3 #[.int .i64 X.kd,.slice sA X.sec.length sc,.int .i64 X.pr,.int .i64 X.st,.slice nA X.non.length nc,.int .i64 ks,.int .i64 X.g,.int .i64 G,.int .i64 o,.slice aB K1.length ad,.slice bB K2.length bd,.int .i64 0]:=by rw [HKL.out.1,HKL.out.2];exact q3
 exact⟨A3,c3,B1,d1,by rw [hx]<;>rfl,⟨_,_,_,_,_,_,_,_,q4,Gs3.out,Gn3.out,a3,b3⟩,GE3.out,x3⟩
theorem str_run{w:World}{S:Nat->Prop}{A:Option Addr}{n c:Nat}{l:List UInt8}(h:BsS w S (.slice A n c) l):(convert 22 9 (.slice A n c)).run Tryz.prog w=.ok (.string ⟨l.toArray⟩) w:=by
 obtain⟨a,c',hv,h1,h2,h3,h4⟩:=h
 injection hv with e1 e2 e3
 subst e1 e2 e3
 rcases A with _|ad
 ·have hl:l= []:=by
   rcases Nat.eq_zero_or_pos l.length with h0|h0
   ·exact List.eq_nil_of_length_eq_zero h0
   ·obtain⟨_,_,e,_⟩:=h4 h0;cases e
  subst hl
  rw [run_convert_bytes_string w 22 9 5 none _ c Tryz.underlying22 Tryz.underlying5 Tryz.underlying9]
  rfl
 ·refine run_convert_bytes_back w 22 9 5 ad c l Tryz.underlying22 Tryz.underlying5 Tryz.underlying9 fun j hj=> ?_
  obtain⟨b,off,e,_,hc⟩:=h4 (by omega)
  injection e with e
  subst e
  rw [kJ,hc j hj]
  simp [gb,bv,hj]
theorem bequal_any(va vb:Value)(a b:List UInt8)(S S':Nat->Prop)(w:World)(ha:BsS w S va a)(hb:BsS w S' vb b):
 Calls Tryz.prog 132 #[va,vb] w fun e w'=>e=.returned (.bool (decide (a=b)))/\w'=w:=by
 obtain⟨A,n,c,rfl⟩:=ha.form
 obtain⟨A',n',c',rfl⟩:=hb.form
 have h1:=str_run ha
 have h2:=str_run hb
 go_enter Tryz.func132,Tryz.ntmps132
 go_wp2_with fail
 go_ret
 rw [show(a==b)=decide (a=b)by rw [Bool.eq_iff_iff];simp]
 exact⟨rfl,rfl⟩
theorem tup_fst{a b c d:Value}(h:Value.tuple #[a,b]=.tuple #[c,d]):a=c:=by
 injection h with h
 have:=congrArg (fun x:Array Value=>x[0]?) h
 simpa using this
theorem code_t(X:Exg)(sA nA aA bA:Option Addr)(sc nc ac bc:Nat)(p:Int)(hp:jx p=true)(h2:X.k2.length=16)(w:World)(hv:Bs w w.heap.size (.slice bA X.k2.length bc) X.k2):Calls Tryz.prog 133 #[.agg #[.int .i64 X.kd,.slice sA X.sec.length sc,.int .i64 X.pr,.int .i64 X.st,.slice nA X.non.length nc,.int .i64 X.x,.int .i64 X.g,.int .i64 X.own,.int .i64 X.oth,.slice aA X.k1.length ac,.slice bA X.k2.length bc,.int .i64 X.ct],.int .i64 p] w fun e w'=>∃A c,e=.returned (.slice A 8 c)/\Bs w' w'.heap.size (.slice A 8 c) (tkW X p)/\Below w.heap.size w w':=by
 obtain⟨w0,hw0⟩:∃w0,w0=w.alloc (.cells #[.int .i64 X.kd,.slice sA X.sec.length sc,.int .i64 X.pr,.int .i64 X.st,.slice nA X.non.length nc,.int .i64 X.x,.int .i64 X.g,.int .i64 X.own,.int .i64 X.oth,.slice aA X.k1.length ac,.slice bA X.k2.length bc,.int .i64 X.ct] 48):=⟨_,rfl⟩
 have HB0:Hid (Below w.heap.size w w0):=iH (by rw [hw0];exact jq _ _)
 have FR:Hid (∀W,Below w0.heap.size w0 W->W.heap[w.heap.size]?=some (.cells #[.int .i64 X.kd,.slice sA X.sec.length sc,.int .i64 X.pr,.int .i64 X.st,.slice nA X.non.length nc,.int .i64 X.x,.int .i64 X.g,.int .i64 X.own,.int .i64 X.oth,.slice aA X.k1.length ac,.slice bA X.k2.length bc,.int .i64 X.ct] 48 (0,0))):=iH (fun W h=>(h.block w.heap.size (by rw [hw0];simp)).trans (by rw [hw0];exact iN))
 have HW0:=iH hw0
 have HEN:=iH (encoded_any p hp)
 obtain⟨T,hT⟩:∃T,tkW X p=T:=⟨_,rfl⟩
 rw [hT]
 have HT:Hid ((j1j X.k2 (kg p)).take 8=T):=iH hT
 have HT8:Hid (((j1j X.k2 (kg p)).take 8).length=8):=iH (by rw [List.length_take,codeO_len h2]<;>rfl)
 have HK2:=iH h2;have HV:=iH (hv.lift HB0.out)
 clear hw0 hT h2 hv hp
 go_enter Tryz.func133,Tryz.ntmps133
 go_upto_region 1 with fail
 rw [<-HW0.out]
 refine jg 10 [some 8,some 9,some 10,some 11,some 12,some 13,some 7,some 14,some 15,some 5] [[],[0],[0,1],[],[3],[0,1,2,3,4],[0,1,2,3,4,5],[0,1,2,3,4,5,6],[0,1,2,3,4,5,6],[0,1,2,3,4,5,6,7]]
  (fun _ _ w1=>Below w0.heap.size w0 w1) (fun w1 w2=>Below w1.heap.size w1 w2)
  [fun v _=>v 0=.pointer (some ⟨w.heap.size,9,none⟩),
   fun v _=>v 1=.pointer (some ⟨w.heap.size,10,none⟩),
   fun v _=>v 2=.slice bA X.k2.length bc,
   fun v _=>v 3=.int .i64 p,
   fun v w1=>∃A4 c4,v 4=.slice A4 4 c4/\Bs w1 w1.heap.size (.slice A4 4 c4) (kg p),
   fun v w1=>∃A5 c5,v 5=.tuple #[.slice A5 8 c5,.int .i64 0]/\Bs w1 w1.heap.size (.slice A5 8 c5) T,
   fun v w1=>∃A5 c5,v 5=.tuple #[.slice A5 8 c5,.int .i64 0]/\v 6=.tuple #[.slice A5 8 c5,.int .i64 0],
   fun v w1=>∃A5 c5,v 5=.tuple #[.slice A5 8 c5,.int .i64 0]/\v 7=.slice A5 8 c5,
   fun v w1=>v 8=.int .i64 0,
   fun v w1=>∃A5 c5,v 5=.tuple #[.slice A5 8 c5,.int .i64 0]/\v 9=.slice A5 8 c5]
  (by kernel_rfl) (by kernel_rfl) (fun _=>iB.drew) ?st ?steps ?tail
 case st=>
  exact(.cons (fun _ _ _ _ _ _ h=>h) (.cons (fun _ _ _ _ _ _ h=>h) (.cons (fun _ _ _ _ _ _ h=>h) (.cons (fun _ _ _ _ _ _ h=>h) (.cons (fun _ _ _ _ _ hr ⟨A,c,h1,h2⟩=>⟨A,c,h1,h2.lift hr⟩) (.cons (fun _ _ _ _ _ hr ⟨A,c,h1,h2⟩=>⟨A,c,h1,Bs.lift h2 hr⟩) (.cons (fun _ _ _ _ _ _ h=>h) (.cons (fun _ _ _ _ _ _ h=>h) (.cons (fun _ _ _ _ _ _ h=>h) (.cons (fun _ _ _ _ _ _ h=>h) .nil))))))))))
 case steps=>
  simp only [List.take_succ_cons,List.take_zero]
  refine(.cons ?_ (.cons ?_ (.cons ?_ (.cons ?_ (.cons ?_ (.cons ?_ (.cons ?_ (.cons ?_ (.cons ?_ (.cons ?_ .nil))))))))))
  all_goals(intro L v w1 hJ hL hA hF K hK;simp only [ja,Act.put,Nat.zero_add,Nat.reduceAdd,List.setIfInBounds_toArray,List.set_cons_zero,List.set_cons_succ]at hK |-)
  ·go_simp
   refine hK _ _ hJ iB ?_
   first|exact rfl|exact j3 _
  ·have e0:v 0=.pointer (some ⟨w.heap.size,9,none⟩):=hF 0 (hA 0 (by simp))
   simp only [e0]at hK
   go_simp
   refine hK _ _ hJ iB ?_
   first|exact rfl|exact j3 _
  ·have e1:v 1=.pointer (some ⟨w.heap.size,10,none⟩):=hF 1 (hA 1 (by simp))
   obtain⟨q0,q1,q2,q3,q4,q5,q6,q7,q8,q9,q10,q11,qf⟩:=jy (FR.out w1 hJ)
   simp only [e1]at hK
   go_simp
   refine hK _ _ hJ iB ?_
   first|exact rfl|exact j3 _
  ·go_simp
   refine hK _ _ hJ iB ?_
   first|exact rfl|exact j3 _
  ·have e3:v 3=.int .i64 p:=hF 3 (hA 3 (by simp))
   simp only [e3]at hK
   go_simp
   refine(HEN.out w1).mono ?_
   rintro e wk ⟨A4,c4,rfl,hs,hb⟩
   refine hK _ _ (hJ.trans (hb.mono hJ.size)) hb ⟨_,_,rfl,?_⟩
   exact hs.keep fun g hg _=>⟨rfl,hg.2⟩
  ·have e2:v 2=.slice bA X.k2.length bc:=hF 2 (hA 2 (by simp))
   simp only [e2]at hK
   obtain⟨A4,c4,e4,hz⟩:∃A4 c4,v 4=.slice A4 4 c4/\Bs w1 w1.heap.size (.slice A4 4 c4) (kg p):=hF 4 (hA 4 (by simp))
   simp only [e4]at hK |-
   go_simp
   refine(check_good _ _ X.k2 (kg p) HK2.out (by simp [kg]) w1 (Bs.lift HV.out hJ) hz).mono ?_
   rintro e wk ⟨v5,rfl,hs,hb⟩
   obtain⟨A5,c5,hv⟩:=Bs.formL hs
   rw [HT8.out]at hv
   subst hv
   rw [HT.out]at hs
   exact hK _ _ (hJ.trans (hb.mono hJ.size)) hb ⟨_,_,rfl,hs⟩
  ·obtain⟨A5,c5,e5,_⟩:∃A5 c5,v 5=.tuple #[.slice A5 8 c5,.int .i64 0]/\Bs w1 w1.heap.size (.slice A5 8 c5) T:=hF 5 (hA 5 (by simp))
   simp only [e5]at hK
   simp only [e5]
   go_simp
   exact hK _ _ hJ iB ⟨A5,c5,e5,rfl⟩
  ·obtain⟨A5,c5,e5,e6⟩:∃A5 c5,v 5=.tuple #[.slice A5 8 c5,.int .i64 0]/\v 6=.tuple #[.slice A5 8 c5,.int .i64 0]:=hF 6 (hA 6 (by simp))
   simp only [e5,e6]at hK
   try simp only [e5,e6]
   go_simp
   exact hK _ _ hJ iB ⟨A5,c5,e5,rfl⟩
  ·obtain⟨A5,c5,e5,e6⟩:∃A5 c5,v 5=.tuple #[.slice A5 8 c5,.int .i64 0]/\v 6=.tuple #[.slice A5 8 c5,.int .i64 0]:=hF 6 (hA 6 (by simp))
   simp only [e5,e6]at hK
   try simp only [e5,e6]
   go_simp
   exact hK _ _ hJ iB rfl
  ·obtain⟨A5,c5,e5,e7⟩:∃A5 c5,v 5=.tuple #[.slice A5 8 c5,.int .i64 0]/\v 7=.slice A5 8 c5:=hF 7 (hA 7 (by simp))
   simp only [e5,e7]at hK
   try simp only [e5,e7]
   go_simp
   exact hK _ _ hJ iB ⟨A5,c5,e5,rfl⟩
 case tail=>
  intro v w1 hJ hF
  have e0:v 0=.pointer (some ⟨w.heap.size,9,none⟩):=hF 0 (by simp)
  have e1:v 1=.pointer (some ⟨w.heap.size,10,none⟩):=hF 1 (by simp)
  have e2:v 2=.slice bA X.k2.length bc:=hF 2 (by simp)
  have e3:v 3=.int .i64 p:=hF 3 (by simp)
  simp only [List.drop_succ_cons,List.drop_zero,ja,Act.put,Nat.zero_add,Nat.reduceAdd,List.setIfInBounds_toArray,List.set_cons_zero,List.set_cons_succ]
  obtain⟨A5,c5,e5,hs⟩:∃A5 c5,v 5=.tuple #[.slice A5 8 c5,.int .i64 0]/\Bs w1 w1.heap.size (.slice A5 8 c5) T:=hF 5 (by simp)
  obtain⟨A6,c6,e5b,e9⟩:∃A6 c6,v 5=.tuple #[.slice A6 8 c6,.int .i64 0]/\v 9=.slice A6 8 c6:=hF 9 (by simp)
  have hq:=tup_fst (e5.symm.trans e5b)
  obtain⟨rfl,_,rfl⟩:=Value.slice.inj hq
  have e8:v 8=.int .i64 0:=hF 8 (by simp)
  simp only [e8,e9]
  have HS:=iH hs;have HJ:=iH hJ
  clear hJ hF hs e0 e1 e2 e3 e5 e5b e8 e9 hq
  go_wp2_with fail
  go_ret
  exact⟨_,_,rfl,HS.out,HB0.out.trans (HJ.out.mono HB0.out.size)⟩
theorem noBE(X:Exg)(sA nA aA bA:Option Addr)(sc nc ac bc:Nat):∀(i:Nat) (x:UInt8),#[.int .i64 X.kd,.slice sA X.sec.length sc,.int .i64 X.pr,.int .i64 X.st,.slice nA X.non.length nc,.int .i64 X.x,.int .i64 X.g,.int .i64 X.own,.int .i64 X.oth,.slice aA X.k1.length ac,.slice bA X.k2.length bc,.int .i64 X.ct][i]? ≠some (U8 x):=by
 intro i x
 rcases i with _|_|_|_|_|_|_|_|_|_|_|_|i
 all_goals simp
theorem chipCheck_err(P:Nat)(X:Exg)(sA nA aA bA:Option Addr)(sc nc ac bc:Nat)(vA eA:Option Addr)(vc ec:Nat)(val s:List UInt8)(w:World)(hK:∀W,Below P w W->KD W)(hr:w.heap[P]?=some (.cells #[.int .i64 X.kd,.slice sA X.sec.length sc,.int .i64 X.pr,.int .i64 X.st,.slice nA X.non.length nc,.int .i64 X.x,.int .i64 X.g,.int .i64 X.own,.int .i64 X.oth,.slice aA X.k1.length ac,.slice bA X.k2.length bc,.int .i64 X.ct] 48 (0,0))) (h1:BsS w (jL P w) (.slice sA X.sec.length sc) X.sec) (h2:BsS w (jL P w) (.slice nA X.non.length nc) X.non) (h3:BsS w (jL P w) (.slice aA X.k1.length ac) X.k1) (h4:BsS w (jL P w) (.slice bA X.k2.length bc) X.k2) (h5:BsS w (jL P w) (.slice vA val.length vc) val) (h6:BsS w (jL P w) (.slice eA s.length ec) s) (hl:s.length<=140737488351232) (hk2:X.k2.length=16) (ho:jx X.own=true) (hq:¬val=tkW X X.own):Calls Tryz.prog 74 #[.pointer (some ⟨P,0,none⟩),.slice vA val.length vc,.slice eA s.length ec] w (StepE P w 21):=by
 have HCO:=iH (fun W h=>code_t X sA nA aA bA sc nc ac bc X.own ho hk2 W h)
 obtain⟨T,hT⟩:∃T,tkW X X.own=T:=⟨_,rfl⟩
 rw [hT]at HCO hq
 have HBB:Hid (decide (val=T)=false):=iH (decide_eq_false hq)
 clear hk2 ho hq hT
 have HP0:Hid (PtW P w w #[.int .i64 X.kd,.slice sA X.sec.length sc,.int .i64 X.pr,.int .i64 X.st,.slice nA X.non.length nc,.int .i64 X.x,.int .i64 X.g,.int .i64 X.own,.int .i64 X.oth,.slice aA X.k1.length ac,.slice bA X.k2.length bc,.int .i64 X.ct]):=iH (PtW.start hr)
 have HK:=iH hK;have Gs0:=iH h1;have Gn0:=iH h2;have Ga0:=iH h3;have Gb0:=iH h4;have Gv0:=iH h5;have Ge0:=iH h6;have HL:=iH hl
 obtain⟨f0,f1,f2,f3,f4,f5,f6,f7,f8,f9,f10,f11,ff⟩:=jy hr
 clear hK hr h1 h2 h3 h4 h5 h6 hl
 go_enter Tryz.func74,Tryz.ntmps74
 go_upto_region 1 with fail
 refine jg 11 [some 10,some 11,some 12,some 13,some 14,some 15,some 16,some 17,some 18,some 19,some 20] [[],[],[1],[1,2],[],[4],[4,5],[4,5,6],[1,2,3,4,5,6,7],[0,1,2,3,4,5,6,7,8],[0,1,2,3,4,5,6,7,8,9]]
  (fun _ _ w1=>Below w.heap.size w w1) (fun w1 w2=>Below w1.heap.size w1 w2)
  [fun v _=>v 0=.slice vA val.length vc,
   fun v _=>v 1=.pointer (some ⟨P,0,none⟩),
   fun v _=>v 2=.pointer (some ⟨P,0,none⟩),
   fun v _=>v 3=.agg #[.int .i64 X.kd,.slice sA X.sec.length sc,.int .i64 X.pr,.int .i64 X.st,.slice nA X.non.length nc,.int .i64 X.x,.int .i64 X.g,.int .i64 X.own,.int .i64 X.oth,.slice aA X.k1.length ac,.slice bA X.k2.length bc,.int .i64 X.ct],
   fun v _=>v 4=.pointer (some ⟨P,0,none⟩),
   fun v _=>v 5=.pointer (some ⟨P,0,none⟩),
   fun v _=>v 6=.pointer (some ⟨P,7,none⟩),
   fun v _=>v 7=.int .i64 X.own,
   fun v w1=>∃A8 c8,v 8=.slice A8 8 c8/\Bs w1 w1.heap.size (.slice A8 8 c8) T,
   fun v _=>v 9=.bool false,
   fun v _=>v 10=.bool true]
  (by kernel_rfl) (by kernel_rfl) (fun _=>iB.drew) ?st ?steps ?tail
 case st=>
  exact(.cons (fun _ _ _ _ _ _ h=>h) (.cons (fun _ _ _ _ _ _ h=>h) (.cons (fun _ _ _ _ _ _ h=>h) (.cons (fun _ _ _ _ _ _ h=>h) (.cons (fun _ _ _ _ _ _ h=>h) (.cons (fun _ _ _ _ _ _ h=>h) (.cons (fun _ _ _ _ _ _ h=>h) (.cons (fun _ _ _ _ _ _ h=>h) (.cons (fun _ _ _ _ _ hr ⟨A,c,h1,h2⟩=>⟨A,c,h1,Bs.lift h2 hr⟩) (.cons (fun _ _ _ _ _ _ h=>h) (.cons (fun _ _ _ _ _ _ h=>h) .nil)))))))))))
 case steps=>
  simp only [List.take_succ_cons,List.take_zero]
  refine(.cons ?_ (.cons ?_ (.cons ?_ (.cons ?_ (.cons ?_ (.cons ?_ (.cons ?_ (.cons ?_ (.cons ?_ (.cons ?_ (.cons ?_ .nil)))))))))))
  all_goals(intro L v w1 hJ hL hA hF K hK;simp only [ja,Act.put,Nat.zero_add,Nat.reduceAdd,List.setIfInBounds_toArray,List.set_cons_zero,List.set_cons_succ]at hK |-)
  ·go_simp
   refine hK _ _ hJ iB ?_
   first|exact rfl|exact j3 _
  ·go_simp
   refine hK _ _ hJ iB ?_
   first|exact rfl|exact j3 _
  ·have e1:v 1=.pointer (some ⟨P,0,none⟩):=hF 1 (hA 1 (by simp))
   simp only [e1]at hK
   go_simp
   refine hK _ _ hJ iB ?_
   first|exact rfl|exact j3 _
  ·have e2:v 2=.pointer (some ⟨P,0,none⟩):=hF 2 (hA 2 (by simp))
   have hp:=HP0.out.call hJ
   obtain⟨q0,q1,q2,q3,q4,q5,q6,q7,q8,q9,q10,q11,qf⟩:=jy hp.1
   simp only [e2]at hK
   go_simp
   refine hK _ _ hJ iB ?_
   first|exact rfl|exact j3 _
  ·go_simp
   refine hK _ _ hJ iB ?_
   first|exact rfl|exact j3 _
  ·have e4:v 4=.pointer (some ⟨P,0,none⟩):=hF 4 (hA 4 (by simp))
   simp only [e4]at hK
   go_simp
   refine hK _ _ hJ iB ?_
   first|exact rfl|exact j3 _
  ·have e5:v 5=.pointer (some ⟨P,0,none⟩):=hF 5 (hA 5 (by simp))
   simp only [e5]at hK
   go_simp
   refine hK _ _ hJ iB ?_
   first|exact rfl|exact j3 _
  ·have e6:v 6=.pointer (some ⟨P,7,none⟩):=hF 6 (hA 6 (by simp))
   have hp:=HP0.out.call hJ
   obtain⟨q0,q1,q2,q3,q4,q5,q6,q7,q8,q9,q10,q11,qf⟩:=jy hp.1
   simp only [e6]at hK
   go_simp
   refine hK _ _ hJ iB ?_
   first|exact rfl|exact j3 _
  ·have e3:v 3=.agg #[.int .i64 X.kd,.slice sA X.sec.length sc,.int .i64 X.pr,.int .i64 X.st,.slice nA X.non.length nc,.int .i64 X.x,.int .i64 X.g,.int .i64 X.own,.int .i64 X.oth,.slice aA X.k1.length ac,.slice bA X.k2.length bc,.int .i64 X.ct]:=hF 3 (hA 3 (by simp))
   have e7:v 7=.int .i64 X.own:=hF 7 (hA 7 (by simp))
   simp only [e3,e7]at hK
   simp only [e3,e7]
   go_simp
   refine(HCO.out w1 (Gb0.out.onB hJ).loB).mono ?_
   rintro e wk ⟨A8,c8,rfl,hs,hb⟩
   exact hK _ _ (hJ.trans (hb.mono hJ.size)) hb ⟨_,_,rfl,hs⟩
  ·have e0:v 0=.slice vA val.length vc:=hF 0 (hA 0 (by simp))
   simp only [e0]at hK
   obtain⟨A8,c8,e8,hz⟩:∃A8 c8,v 8=.slice A8 8 c8/\Bs w1 w1.heap.size (.slice A8 8 c8) T:=hF 8 (hA 8 (by simp))
   simp only [e8]at hK
   simp only [e0,e8]
   go_simp
   refine(bequal_any _ _ val T _ _ w1 (Gv0.out.onB hJ) hz).mono ?_
   rintro e wk ⟨rfl,hwk⟩
   subst hwk
   rw [HBB.out]
   exact hK _ _ hJ iB rfl
  ·have e9:v 9=.bool false:=hF 9 (hA 9 (by simp))
   simp only [e9]at hK
   go_simp
   refine hK _ _ hJ iB ?_
   first|exact rfl|exact j3 _
 case tail=>
  intro v w1 hJ hF
  have e0:v 0=.slice vA val.length vc:=hF 0 (by simp)
  have e1:v 1=.pointer (some ⟨P,0,none⟩):=hF 1 (by simp)
  have e2:v 2=.pointer (some ⟨P,0,none⟩):=hF 2 (by simp)
  have e3:v 3=.agg #[.int .i64 X.kd,.slice sA X.sec.length sc,.int .i64 X.pr,.int .i64 X.st,.slice nA X.non.length nc,.int .i64 X.x,.int .i64 X.g,.int .i64 X.own,.int .i64 X.oth,.slice aA X.k1.length ac,.slice bA X.k2.length bc,.int .i64 X.ct]:=hF 3 (by simp)
  have e4:v 4=.pointer (some ⟨P,0,none⟩):=hF 4 (by simp)
  have e5:v 5=.pointer (some ⟨P,0,none⟩):=hF 5 (by simp)
  have e6:v 6=.pointer (some ⟨P,7,none⟩):=hF 6 (by simp)
  have e7:v 7=.int .i64 X.own:=hF 7 (by simp)
  have e9:v 9=.bool false:=hF 9 (by simp)
  have e10:v 10=.bool true:=hF 10 (by simp)
  simp only [List.drop_succ_cons,List.drop_zero,ja,Act.put,Nat.zero_add,Nat.reduceAdd,List.setIfInBounds_toArray,List.set_cons_zero,List.set_cons_succ]
  simp only [e0,e1,e2,e3,e4,e5,e6,e7,e9,e10]
  have hp:=HP0.out.call hJ
  have HP1:=iH hp;have HJ:=iH hJ
  obtain⟨p0,p1,p2,p3,p4,p5,p6,p7,p8,p9,p10,p11,pf⟩:=jy hp.1
  have Gs1:=iH (Gs0.out.onB hJ);have Gn1:=iH (Gn0.out.onB hJ);have Ga1:=iH (Ga0.out.onB hJ);have Gb1:=iH (Gb0.out.onB hJ);have Gv1:=iH (Gv0.out.onB hJ);have Ge1:=iH (Ge0.out.onB hJ)
  clear hJ hF hp e0 e1 e2 e3 e4 e5 e6 e7 e9 e10 f0 f1 f2 f3 f4 f5 f6 f7 f8 f9 f10 f11 ff
  go_wp2_with fail
  refine bodyPost_ret (v:=.tuple #[.int .i64 0,.slice none 0 0,.slice none 0 0,.int .i64 21]) (by simp [results,Tryz.results74,go_sem]) rfl ?_
  exact⟨rfl,_,_,_,_,_,_,_,_,_,_,_,_,HP1.out⟩
theorem termCheck_err(P:Nat)(X:Exg)(sA nA aA bA:Option Addr)(sc nc ac bc:Nat)(vA eA:Option Addr)(vc ec:Nat)(val s:List UInt8)(w:World)(hK:∀W,Below P w W->KD W)(hr:w.heap[P]?=some (.cells #[.int .i64 X.kd,.slice sA X.sec.length sc,.int .i64 X.pr,.int .i64 X.st,.slice nA X.non.length nc,.int .i64 X.x,.int .i64 X.g,.int .i64 X.own,.int .i64 X.oth,.slice aA X.k1.length ac,.slice bA X.k2.length bc,.int .i64 X.ct] 48 (0,0))) (h1:BsS w (jL P w) (.slice sA X.sec.length sc) X.sec) (h2:BsS w (jL P w) (.slice nA X.non.length nc) X.non) (h3:BsS w (jL P w) (.slice aA X.k1.length ac) X.k1) (h4:BsS w (jL P w) (.slice bA X.k2.length bc) X.k2) (h5:BsS w (jL P w) (.slice vA val.length vc) val) (h6:BsS w (jL P w) (.slice eA s.length ec) s) (hl:s.length<=140737488351232) (hk2:X.k2.length=16) (ho:jx X.own=true) (hq:¬val=tkW X X.own):Calls Tryz.prog 93 #[.pointer (some ⟨P,0,none⟩),.slice vA val.length vc,.slice eA s.length ec] w (StepE P w 21):=by
 have HCO:=iH (fun W h=>code_t X sA nA aA bA sc nc ac bc X.own ho hk2 W h)
 obtain⟨T,hT⟩:∃T,tkW X X.own=T:=⟨_,rfl⟩
 rw [hT]at HCO hq
 have HBB:Hid (decide (val=T)=false):=iH (decide_eq_false hq)
 clear hk2 ho hq hT
 have HP0:Hid (PtW P w w #[.int .i64 X.kd,.slice sA X.sec.length sc,.int .i64 X.pr,.int .i64 X.st,.slice nA X.non.length nc,.int .i64 X.x,.int .i64 X.g,.int .i64 X.own,.int .i64 X.oth,.slice aA X.k1.length ac,.slice bA X.k2.length bc,.int .i64 X.ct]):=iH (PtW.start hr)
 have HK:=iH hK;have Gs0:=iH h1;have Gn0:=iH h2;have Ga0:=iH h3;have Gb0:=iH h4;have Gv0:=iH h5;have Ge0:=iH h6;have HL:=iH hl
 obtain⟨f0,f1,f2,f3,f4,f5,f6,f7,f8,f9,f10,f11,ff⟩:=jy hr
 clear hK hr h1 h2 h3 h4 h5 h6 hl
 go_enter Tryz.func93,Tryz.ntmps93
 go_upto_region 1 with fail
 refine jg 11 [some 10,some 11,some 12,some 13,some 14,some 15,some 16,some 17,some 18,some 19,some 20] [[],[],[1],[1,2],[],[4],[4,5],[4,5,6],[1,2,3,4,5,6,7],[0,1,2,3,4,5,6,7,8],[0,1,2,3,4,5,6,7,8,9]]
  (fun _ _ w1=>Below w.heap.size w w1) (fun w1 w2=>Below w1.heap.size w1 w2)
  [fun v _=>v 0=.slice vA val.length vc,
   fun v _=>v 1=.pointer (some ⟨P,0,none⟩),
   fun v _=>v 2=.pointer (some ⟨P,0,none⟩),
   fun v _=>v 3=.agg #[.int .i64 X.kd,.slice sA X.sec.length sc,.int .i64 X.pr,.int .i64 X.st,.slice nA X.non.length nc,.int .i64 X.x,.int .i64 X.g,.int .i64 X.own,.int .i64 X.oth,.slice aA X.k1.length ac,.slice bA X.k2.length bc,.int .i64 X.ct],
   fun v _=>v 4=.pointer (some ⟨P,0,none⟩),
   fun v _=>v 5=.pointer (some ⟨P,0,none⟩),
   fun v _=>v 6=.pointer (some ⟨P,7,none⟩),
   fun v _=>v 7=.int .i64 X.own,
   fun v w1=>∃A8 c8,v 8=.slice A8 8 c8/\Bs w1 w1.heap.size (.slice A8 8 c8) T,
   fun v _=>v 9=.bool false,
   fun v _=>v 10=.bool true]
  (by kernel_rfl) (by kernel_rfl) (fun _=>iB.drew) ?st ?steps ?tail
 case st=>
  exact(.cons (fun _ _ _ _ _ _ h=>h) (.cons (fun _ _ _ _ _ _ h=>h) (.cons (fun _ _ _ _ _ _ h=>h) (.cons (fun _ _ _ _ _ _ h=>h) (.cons (fun _ _ _ _ _ _ h=>h) (.cons (fun _ _ _ _ _ _ h=>h) (.cons (fun _ _ _ _ _ _ h=>h) (.cons (fun _ _ _ _ _ _ h=>h) (.cons (fun _ _ _ _ _ hr ⟨A,c,h1,h2⟩=>⟨A,c,h1,Bs.lift h2 hr⟩) (.cons (fun _ _ _ _ _ _ h=>h) (.cons (fun _ _ _ _ _ _ h=>h) .nil)))))))))))
 case steps=>
  simp only [List.take_succ_cons,List.take_zero]
  refine(.cons ?_ (.cons ?_ (.cons ?_ (.cons ?_ (.cons ?_ (.cons ?_ (.cons ?_ (.cons ?_ (.cons ?_ (.cons ?_ (.cons ?_ .nil)))))))))))
  all_goals(intro L v w1 hJ hL hA hF K hK;simp only [ja,Act.put,Nat.zero_add,Nat.reduceAdd,List.setIfInBounds_toArray,List.set_cons_zero,List.set_cons_succ]at hK |-)
  ·go_simp
   refine hK _ _ hJ iB ?_
   first|exact rfl|exact j3 _
  ·go_simp
   refine hK _ _ hJ iB ?_
   first|exact rfl|exact j3 _
  ·have e1:v 1=.pointer (some ⟨P,0,none⟩):=hF 1 (hA 1 (by simp))
   simp only [e1]at hK
   go_simp
   refine hK _ _ hJ iB ?_
   first|exact rfl|exact j3 _
  ·have e2:v 2=.pointer (some ⟨P,0,none⟩):=hF 2 (hA 2 (by simp))
   have hp:=HP0.out.call hJ
   obtain⟨q0,q1,q2,q3,q4,q5,q6,q7,q8,q9,q10,q11,qf⟩:=jy hp.1
   simp only [e2]at hK
   go_simp
   refine hK _ _ hJ iB ?_
   first|exact rfl|exact j3 _
  ·go_simp
   refine hK _ _ hJ iB ?_
   first|exact rfl|exact j3 _
  ·have e4:v 4=.pointer (some ⟨P,0,none⟩):=hF 4 (hA 4 (by simp))
   simp only [e4]at hK
   go_simp
   refine hK _ _ hJ iB ?_
   first|exact rfl|exact j3 _
  ·have e5:v 5=.pointer (some ⟨P,0,none⟩):=hF 5 (hA 5 (by simp))
   simp only [e5]at hK
   go_simp
   refine hK _ _ hJ iB ?_
   first|exact rfl|exact j3 _
  ·have e6:v 6=.pointer (some ⟨P,7,none⟩):=hF 6 (hA 6 (by simp))
   have hp:=HP0.out.call hJ
   obtain⟨q0,q1,q2,q3,q4,q5,q6,q7,q8,q9,q10,q11,qf⟩:=jy hp.1
   simp only [e6]at hK
   go_simp
   refine hK _ _ hJ iB ?_
   first|exact rfl|exact j3 _
  ·have e3:v 3=.agg #[.int .i64 X.kd,.slice sA X.sec.length sc,.int .i64 X.pr,.int .i64 X.st,.slice nA X.non.length nc,.int .i64 X.x,.int .i64 X.g,.int .i64 X.own,.int .i64 X.oth,.slice aA X.k1.length ac,.slice bA X.k2.length bc,.int .i64 X.ct]:=hF 3 (hA 3 (by simp))
   have e7:v 7=.int .i64 X.own:=hF 7 (hA 7 (by simp))
   simp only [e3,e7]at hK
   simp only [e3,e7]
   go_simp
   refine(HCO.out w1 (Gb0.out.onB hJ).loB).mono ?_
   rintro e wk ⟨A8,c8,rfl,hs,hb⟩
   exact hK _ _ (hJ.trans (hb.mono hJ.size)) hb ⟨_,_,rfl,hs⟩
  ·have e0:v 0=.slice vA val.length vc:=hF 0 (hA 0 (by simp))
   simp only [e0]at hK
   obtain⟨A8,c8,e8,hz⟩:∃A8 c8,v 8=.slice A8 8 c8/\Bs w1 w1.heap.size (.slice A8 8 c8) T:=hF 8 (hA 8 (by simp))
   simp only [e8]at hK
   simp only [e0,e8]
   go_simp
   refine(bequal_any _ _ val T _ _ w1 (Gv0.out.onB hJ) hz).mono ?_
   rintro e wk ⟨rfl,hwk⟩
   subst hwk
   rw [HBB.out]
   exact hK _ _ hJ iB rfl
  ·have e9:v 9=.bool false:=hF 9 (hA 9 (by simp))
   simp only [e9]at hK
   go_simp
   refine hK _ _ hJ iB ?_
   first|exact rfl|exact j3 _
 case tail=>
  intro v w1 hJ hF
  have e0:v 0=.slice vA val.length vc:=hF 0 (by simp)
  have e1:v 1=.pointer (some ⟨P,0,none⟩):=hF 1 (by simp)
  have e2:v 2=.pointer (some ⟨P,0,none⟩):=hF 2 (by simp)
  have e3:v 3=.agg #[.int .i64 X.kd,.slice sA X.sec.length sc,.int .i64 X.pr,.int .i64 X.st,.slice nA X.non.length nc,.int .i64 X.x,.int .i64 X.g,.int .i64 X.own,.int .i64 X.oth,.slice aA X.k1.length ac,.slice bA X.k2.length bc,.int .i64 X.ct]:=hF 3 (by simp)
  have e4:v 4=.pointer (some ⟨P,0,none⟩):=hF 4 (by simp)
  have e5:v 5=.pointer (some ⟨P,0,none⟩):=hF 5 (by simp)
  have e6:v 6=.pointer (some ⟨P,7,none⟩):=hF 6 (by simp)
  have e7:v 7=.int .i64 X.own:=hF 7 (by simp)
  have e9:v 9=.bool false:=hF 9 (by simp)
  have e10:v 10=.bool true:=hF 10 (by simp)
  simp only [List.drop_succ_cons,List.drop_zero,ja,Act.put,Nat.zero_add,Nat.reduceAdd,List.setIfInBounds_toArray,List.set_cons_zero,List.set_cons_succ]
  simp only [e0,e1,e2,e3,e4,e5,e6,e7,e9,e10]
  have hp:=HP0.out.call hJ
  have HP1:=iH hp;have HJ:=iH hJ
  obtain⟨p0,p1,p2,p3,p4,p5,p6,p7,p8,p9,p10,p11,pf⟩:=jy hp.1
  have Gs1:=iH (Gs0.out.onB hJ);have Gn1:=iH (Gn0.out.onB hJ);have Ga1:=iH (Ga0.out.onB hJ);have Gb1:=iH (Gb0.out.onB hJ);have Gv1:=iH (Gv0.out.onB hJ);have Ge1:=iH (Ge0.out.onB hJ)
  clear hJ hF hp e0 e1 e2 e3 e4 e5 e6 e7 e9 e10 f0 f1 f2 f3 f4 f5 f6 f7 f8 f9 f10 f11 ff
  go_wp2_with fail
  refine bodyPost_ret (v:=.tuple #[.int .i64 0,.slice none 0 0,.slice none 0 0,.int .i64 21]) (by simp [results,Tryz.results93,go_sem]) rfl ?_
  exact⟨rfl,_,_,_,_,_,_,_,_,_,_,_,_,HP1.out⟩
theorem termCheck_any(P:Nat)(X:Exg)(sA nA aA bA:Option Addr)(sc nc ac bc:Nat)(vA eA:Option Addr)(vc ec:Nat)(val s:List UInt8)(w:World)(hK:∀W,Below P w W->KD W)(hr:w.heap[P]?=some (.cells #[.int .i64 X.kd,.slice sA X.sec.length sc,.int .i64 X.pr,.int .i64 X.st,.slice nA X.non.length nc,.int .i64 X.x,.int .i64 X.g,.int .i64 X.own,.int .i64 X.oth,.slice aA X.k1.length ac,.slice bA X.k2.length bc,.int .i64 X.ct] 48 (0,0))) (h1:BsS w (jL P w) (.slice sA X.sec.length sc) X.sec) (h2:BsS w (jL P w) (.slice nA X.non.length nc) X.non) (h3:BsS w (jL P w) (.slice aA X.k1.length ac) X.k1) (h4:BsS w (jL P w) (.slice bA X.k2.length bc) X.k2) (h5:BsS w (jL P w) (.slice vA val.length vc) val) (h6:BsS w (jL P w) (.slice eA s.length ec) s) (hl:s.length<=140737488351232) (hk2:X.k2.length=16) (ho:jx X.own=true) (hq:val=tkW X X.own):Calls Tryz.prog 93 #[.pointer (some ⟨P,0,none⟩),.slice vA val.length vc,.slice eA s.length ec] w (Vg P w (-1) X [] s):=by
 have HCO:=iH (fun W h=>code_t X sA nA aA bA sc nc ac bc X.own ho hk2 W h)
 obtain⟨T,hT⟩:∃T,tkW X X.own=T:=⟨_,rfl⟩
 rw [hT]at HCO hq
 have HBB:Hid (decide (val=T)=true):=iH (decide_eq_true hq)
 clear hk2 ho hq hT
 have HP0:Hid (PtW P w w #[.int .i64 X.kd,.slice sA X.sec.length sc,.int .i64 X.pr,.int .i64 X.st,.slice nA X.non.length nc,.int .i64 X.x,.int .i64 X.g,.int .i64 X.own,.int .i64 X.oth,.slice aA X.k1.length ac,.slice bA X.k2.length bc,.int .i64 X.ct]):=iH (PtW.start hr)
 have HK:=iH hK;have Gs0:=iH h1;have Gn0:=iH h2;have Ga0:=iH h3;have Gb0:=iH h4;have Gv0:=iH h5;have Ge0:=iH h6;have HL:=iH hl
 obtain⟨f0,f1,f2,f3,f4,f5,f6,f7,f8,f9,f10,f11,ff⟩:=jy hr
 clear hK hr h1 h2 h3 h4 h5 h6 hl
 go_enter Tryz.func93,Tryz.ntmps93
 go_upto_region 1 with fail
 refine jg 11 [some 10,some 11,some 12,some 13,some 14,some 15,some 16,some 17,some 18,some 19,some 20] [[],[],[1],[1,2],[],[4],[4,5],[4,5,6],[1,2,3,4,5,6,7],[0,1,2,3,4,5,6,7,8],[0,1,2,3,4,5,6,7,8,9]]
  (fun _ _ w1=>Below w.heap.size w w1) (fun w1 w2=>Below w1.heap.size w1 w2)
  [fun v _=>v 0=.slice vA val.length vc,
   fun v _=>v 1=.pointer (some ⟨P,0,none⟩),
   fun v _=>v 2=.pointer (some ⟨P,0,none⟩),
   fun v _=>v 3=.agg #[.int .i64 X.kd,.slice sA X.sec.length sc,.int .i64 X.pr,.int .i64 X.st,.slice nA X.non.length nc,.int .i64 X.x,.int .i64 X.g,.int .i64 X.own,.int .i64 X.oth,.slice aA X.k1.length ac,.slice bA X.k2.length bc,.int .i64 X.ct],
   fun v _=>v 4=.pointer (some ⟨P,0,none⟩),
   fun v _=>v 5=.pointer (some ⟨P,0,none⟩),
   fun v _=>v 6=.pointer (some ⟨P,7,none⟩),
   fun v _=>v 7=.int .i64 X.own,
   fun v w1=>∃A8 c8,v 8=.slice A8 8 c8/\Bs w1 w1.heap.size (.slice A8 8 c8) T,
   fun v _=>v 9=.bool true,
   fun v _=>v 10=.bool false]
  (by kernel_rfl) (by kernel_rfl) (fun _=>iB.drew) ?st ?steps ?tail
 case st=>
  exact(.cons (fun _ _ _ _ _ _ h=>h) (.cons (fun _ _ _ _ _ _ h=>h) (.cons (fun _ _ _ _ _ _ h=>h) (.cons (fun _ _ _ _ _ _ h=>h) (.cons (fun _ _ _ _ _ _ h=>h) (.cons (fun _ _ _ _ _ _ h=>h) (.cons (fun _ _ _ _ _ _ h=>h) (.cons (fun _ _ _ _ _ _ h=>h) (.cons (fun _ _ _ _ _ hr ⟨A,c,h1,h2⟩=>⟨A,c,h1,Bs.lift h2 hr⟩) (.cons (fun _ _ _ _ _ _ h=>h) (.cons (fun _ _ _ _ _ _ h=>h) .nil)))))))))))
 case steps=>
  simp only [List.take_succ_cons,List.take_zero]
  refine(.cons ?_ (.cons ?_ (.cons ?_ (.cons ?_ (.cons ?_ (.cons ?_ (.cons ?_ (.cons ?_ (.cons ?_ (.cons ?_ (.cons ?_ .nil)))))))))))
  all_goals(intro L v w1 hJ hL hA hF K hK;simp only [ja,Act.put,Nat.zero_add,Nat.reduceAdd,List.setIfInBounds_toArray,List.set_cons_zero,List.set_cons_succ]at hK |-)
  ·go_simp
   refine hK _ _ hJ iB ?_
   first|exact rfl|exact j3 _
  ·go_simp
   refine hK _ _ hJ iB ?_
   first|exact rfl|exact j3 _
  ·have e1:v 1=.pointer (some ⟨P,0,none⟩):=hF 1 (hA 1 (by simp))
   simp only [e1]at hK
   go_simp
   refine hK _ _ hJ iB ?_
   first|exact rfl|exact j3 _
  ·have e2:v 2=.pointer (some ⟨P,0,none⟩):=hF 2 (hA 2 (by simp))
   have hp:=HP0.out.call hJ
   obtain⟨q0,q1,q2,q3,q4,q5,q6,q7,q8,q9,q10,q11,qf⟩:=jy hp.1
   simp only [e2]at hK
   go_simp
   refine hK _ _ hJ iB ?_
   first|exact rfl|exact j3 _
  ·go_simp
   refine hK _ _ hJ iB ?_
   first|exact rfl|exact j3 _
  ·have e4:v 4=.pointer (some ⟨P,0,none⟩):=hF 4 (hA 4 (by simp))
   simp only [e4]at hK
   go_simp
   refine hK _ _ hJ iB ?_
   first|exact rfl|exact j3 _
  ·have e5:v 5=.pointer (some ⟨P,0,none⟩):=hF 5 (hA 5 (by simp))
   simp only [e5]at hK
   go_simp
   refine hK _ _ hJ iB ?_
   first|exact rfl|exact j3 _
  ·have e6:v 6=.pointer (some ⟨P,7,none⟩):=hF 6 (hA 6 (by simp))
   have hp:=HP0.out.call hJ
   obtain⟨q0,q1,q2,q3,q4,q5,q6,q7,q8,q9,q10,q11,qf⟩:=jy hp.1
   simp only [e6]at hK
   go_simp
   refine hK _ _ hJ iB ?_
   first|exact rfl|exact j3 _
  ·have e3:v 3=.agg #[.int .i64 X.kd,.slice sA X.sec.length sc,.int .i64 X.pr,.int .i64 X.st,.slice nA X.non.length nc,.int .i64 X.x,.int .i64 X.g,.int .i64 X.own,.int .i64 X.oth,.slice aA X.k1.length ac,.slice bA X.k2.length bc,.int .i64 X.ct]:=hF 3 (hA 3 (by simp))
   have e7:v 7=.int .i64 X.own:=hF 7 (hA 7 (by simp))
   simp only [e3,e7]at hK
   simp only [e3,e7]
   go_simp
   refine(HCO.out w1 (Gb0.out.onB hJ).loB).mono ?_
   rintro e wk ⟨A8,c8,rfl,hs,hb⟩
   exact hK _ _ (hJ.trans (hb.mono hJ.size)) hb ⟨_,_,rfl,hs⟩
  ·have e0:v 0=.slice vA val.length vc:=hF 0 (hA 0 (by simp))
   simp only [e0]at hK
   obtain⟨A8,c8,e8,hz⟩:∃A8 c8,v 8=.slice A8 8 c8/\Bs w1 w1.heap.size (.slice A8 8 c8) T:=hF 8 (hA 8 (by simp))
   simp only [e8]at hK
   simp only [e0,e8]
   go_simp
   refine(bequal_any _ _ val T _ _ w1 (Gv0.out.onB hJ) hz).mono ?_
   rintro e wk ⟨rfl,hwk⟩
   subst hwk
   rw [HBB.out]
   exact hK _ _ hJ iB rfl
  ·have e9:v 9=.bool true:=hF 9 (hA 9 (by simp))
   simp only [e9]at hK
   go_simp
   refine hK _ _ hJ iB ?_
   first|exact rfl|exact j3 _
 case tail=>
  intro v w1 hJ hF
  have e0:v 0=.slice vA val.length vc:=hF 0 (by simp)
  have e1:v 1=.pointer (some ⟨P,0,none⟩):=hF 1 (by simp)
  have e2:v 2=.pointer (some ⟨P,0,none⟩):=hF 2 (by simp)
  have e3:v 3=.agg #[.int .i64 X.kd,.slice sA X.sec.length sc,.int .i64 X.pr,.int .i64 X.st,.slice nA X.non.length nc,.int .i64 X.x,.int .i64 X.g,.int .i64 X.own,.int .i64 X.oth,.slice aA X.k1.length ac,.slice bA X.k2.length bc,.int .i64 X.ct]:=hF 3 (by simp)
  have e4:v 4=.pointer (some ⟨P,0,none⟩):=hF 4 (by simp)
  have e5:v 5=.pointer (some ⟨P,0,none⟩):=hF 5 (by simp)
  have e6:v 6=.pointer (some ⟨P,7,none⟩):=hF 6 (by simp)
  have e7:v 7=.int .i64 X.own:=hF 7 (by simp)
  have e9:v 9=.bool true:=hF 9 (by simp)
  have e10:v 10=.bool false:=hF 10 (by simp)
  simp only [List.drop_succ_cons,List.drop_zero,ja,Act.put,Nat.zero_add,Nat.reduceAdd,List.setIfInBounds_toArray,List.set_cons_zero,List.set_cons_succ]
  simp only [e0,e1,e2,e3,e4,e5,e6,e7,e9,e10]
  have hp:=HP0.out.call hJ
  have HP1:=iH hp;have HJ:=iH hJ
  obtain⟨p0,p1,p2,p3,p4,p5,p6,p7,p8,p9,p10,p11,pf⟩:=jy hp.1
  have Gs1:=iH (Gs0.out.onB hJ);have Gn1:=iH (Gn0.out.onB hJ);have Ga1:=iH (Ga0.out.onB hJ);have Gb1:=iH (Gb0.out.onB hJ);have Gv1:=iH (Gv0.out.onB hJ);have Ge1:=iH (Ge0.out.onB hJ)
  clear hJ hF hp e0 e1 e2 e3 e4 e5 e6 e7 e9 e10 f0 f1 f2 f3 f4 f5 f6 f7 f8 f9 f10 f11 ff
  go_wp2_with(go_at_call 67;refine(jr _ s w1 Ge1.out.loB).mono ?_;rintro e w2 ⟨v2,rfl,ho,hb⟩;obtain⟨cA,cc,hv2⟩:=OwnB.form ho;subst hv2;have HC:Hid (BsS w2 (jL P w2) (.slice cA s.length cc) s):=iH (BsS.madeB (OwnB.out ho (by have:=HL.out;omega) w1 iL) HP1.out.lt);have Gs2:=iH (Gs1.out.onB hb);have Gn2:=iH (Gn1.out.onB hb);have Ga2:=iH (Ga1.out.onB hb);have Gb2:=iH (Gb1.out.onB hb);have Gv2:=iH (Gv1.out.onB hb);have Ge2:=iH (Ge1.out.onB hb);have hp:=HP1.out.call hb;have HP2:=iH hp;obtain⟨g0,g1,g2,g3,g4,g5,g6,g7,g8,g9,g10,g11,gf⟩:=jy hp.1;clear hp p0 p1 p2 p3 p4 p5 p6 p7 p8 p9 p10 p11 pf;clear ho hb)
  refine bodyPost_ret (v:=.tuple #[.int .i64 (-1),.slice none 0 0,.slice cA s.length cc,.int .i64 0]) (by simp [results,Tryz.results93,go_sem]) rfl ?_
  exact⟨_,_,_,_,rfl,⟨_,_,_,_,_,_,_,_,HP2.out,Gs2.out,Gn2.out,Ga2.out,Gb2.out⟩,kh _ _,HC.out⟩
theorem tkl(X:Exg)(p:Int)(h:X.k2.length=16):(tkW X p).length=8:=by unfold tkW;rw [List.length_take,codeO_len h]<;>rfl
theorem chipCheck_any(P:Nat)(X:Exg)(sA nA aA bA:Option Addr)(sc nc ac bc:Nat)(vA eA:Option Addr)(vc ec:Nat)(val s:List UInt8)(w:World)(hK:∀W,Below P w W->KD W)(hr:w.heap[P]?=some (.cells #[.int .i64 X.kd,.slice sA X.sec.length sc,.int .i64 X.pr,.int .i64 X.st,.slice nA X.non.length nc,.int .i64 X.x,.int .i64 X.g,.int .i64 X.own,.int .i64 X.oth,.slice aA X.k1.length ac,.slice bA X.k2.length bc,.int .i64 X.ct] 48 (0,0))) (h1:BsS w (jL P w) (.slice sA X.sec.length sc) X.sec) (h2:BsS w (jL P w) (.slice nA X.non.length nc) X.non) (h3:BsS w (jL P w) (.slice aA X.k1.length ac) X.k1) (h4:BsS w (jL P w) (.slice bA X.k2.length bc) X.k2) (h5:BsS w (jL P w) (.slice vA val.length vc) val) (h6:BsS w (jL P w) (.slice eA s.length ec) s) (hl:s.length<=140737488351232) (hk2:X.k2.length=16) (ho:jx X.own=true) (ht:jx X.oth=true) (hq:val=tkW X X.own):Calls Tryz.prog 74 #[.pointer (some ⟨P,0,none⟩),.slice vA val.length vc,.slice eA s.length ec] w (Vg P w 134 X (tkW X X.oth) s):=by
 have HCO:=iH (fun W h=>code_t X sA nA aA bA sc nc ac bc X.own ho hk2 W h)
 have HCT:=iH (fun W h=>code_t X sA nA aA bA sc nc ac bc X.oth ht hk2 W h)
 have NOB:=iH (noBE X sA nA aA bA sc nc ac bc)
 have ht8:=tkl X X.oth hk2
 obtain⟨T2,hT2⟩:∃T,tkW X X.oth=T:=⟨_,rfl⟩
 rw [hT2]at HCT ht8 |-
 have HT8:=iH ht8
 clear hT2 ht8 ht
 obtain⟨T,hT⟩:∃T,tkW X X.own=T:=⟨_,rfl⟩
 rw [hT]at HCO hq
 have HBB:Hid (decide (val=T)=true):=iH (decide_eq_true hq)
 clear hk2 ho hq hT
 have HP0:Hid (PtW P w w #[.int .i64 X.kd,.slice sA X.sec.length sc,.int .i64 X.pr,.int .i64 X.st,.slice nA X.non.length nc,.int .i64 X.x,.int .i64 X.g,.int .i64 X.own,.int .i64 X.oth,.slice aA X.k1.length ac,.slice bA X.k2.length bc,.int .i64 X.ct]):=iH (PtW.start hr)
 have HK:=iH hK;have Gs0:=iH h1;have Gn0:=iH h2;have Ga0:=iH h3;have Gb0:=iH h4;have Gv0:=iH h5;have Ge0:=iH h6;have HL:=iH hl
 obtain⟨f0,f1,f2,f3,f4,f5,f6,f7,f8,f9,f10,f11,ff⟩:=jy hr
 clear hK hr h1 h2 h3 h4 h5 h6 hl
 go_enter Tryz.func74,Tryz.ntmps74
 go_upto_region 1 with fail
 refine jg 11 [some 10,some 11,some 12,some 13,some 14,some 15,some 16,some 17,some 18,some 19,some 20] [[],[],[1],[1,2],[],[4],[4,5],[4,5,6],[1,2,3,4,5,6,7],[0,1,2,3,4,5,6,7,8],[0,1,2,3,4,5,6,7,8,9]]
  (fun _ _ w1=>Below w.heap.size w w1) (fun w1 w2=>Below w1.heap.size w1 w2)
  [fun v _=>v 0=.slice vA val.length vc,
   fun v _=>v 1=.pointer (some ⟨P,0,none⟩),
   fun v _=>v 2=.pointer (some ⟨P,0,none⟩),
   fun v _=>v 3=.agg #[.int .i64 X.kd,.slice sA X.sec.length sc,.int .i64 X.pr,.int .i64 X.st,.slice nA X.non.length nc,.int .i64 X.x,.int .i64 X.g,.int .i64 X.own,.int .i64 X.oth,.slice aA X.k1.length ac,.slice bA X.k2.length bc,.int .i64 X.ct],
   fun v _=>v 4=.pointer (some ⟨P,0,none⟩),
   fun v _=>v 5=.pointer (some ⟨P,0,none⟩),
   fun v _=>v 6=.pointer (some ⟨P,7,none⟩),
   fun v _=>v 7=.int .i64 X.own,
   fun v w1=>∃A8 c8,v 8=.slice A8 8 c8/\Bs w1 w1.heap.size (.slice A8 8 c8) T,
   fun v _=>v 9=.bool true,
   fun v _=>v 10=.bool false]
  (by kernel_rfl) (by kernel_rfl) (fun _=>iB.drew) ?st ?steps ?tail
 case st=>
  exact(.cons (fun _ _ _ _ _ _ h=>h) (.cons (fun _ _ _ _ _ _ h=>h) (.cons (fun _ _ _ _ _ _ h=>h) (.cons (fun _ _ _ _ _ _ h=>h) (.cons (fun _ _ _ _ _ _ h=>h) (.cons (fun _ _ _ _ _ _ h=>h) (.cons (fun _ _ _ _ _ _ h=>h) (.cons (fun _ _ _ _ _ _ h=>h) (.cons (fun _ _ _ _ _ hr ⟨A,c,h1,h2⟩=>⟨A,c,h1,Bs.lift h2 hr⟩) (.cons (fun _ _ _ _ _ _ h=>h) (.cons (fun _ _ _ _ _ _ h=>h) .nil)))))))))))
 case steps=>
  simp only [List.take_succ_cons,List.take_zero]
  refine(.cons ?_ (.cons ?_ (.cons ?_ (.cons ?_ (.cons ?_ (.cons ?_ (.cons ?_ (.cons ?_ (.cons ?_ (.cons ?_ (.cons ?_ .nil)))))))))))
  all_goals(intro L v w1 hJ hL hA hF K hK;simp only [ja,Act.put,Nat.zero_add,Nat.reduceAdd,List.setIfInBounds_toArray,List.set_cons_zero,List.set_cons_succ]at hK |-)
  ·go_simp
   refine hK _ _ hJ iB ?_
   first|exact rfl|exact j3 _
  ·go_simp
   refine hK _ _ hJ iB ?_
   first|exact rfl|exact j3 _
  ·have e1:v 1=.pointer (some ⟨P,0,none⟩):=hF 1 (hA 1 (by simp))
   simp only [e1]at hK
   go_simp
   refine hK _ _ hJ iB ?_
   first|exact rfl|exact j3 _
  ·have e2:v 2=.pointer (some ⟨P,0,none⟩):=hF 2 (hA 2 (by simp))
   have hp:=HP0.out.call hJ
   obtain⟨q0,q1,q2,q3,q4,q5,q6,q7,q8,q9,q10,q11,qf⟩:=jy hp.1
   simp only [e2]at hK
   go_simp
   refine hK _ _ hJ iB ?_
   first|exact rfl|exact j3 _
  ·go_simp
   refine hK _ _ hJ iB ?_
   first|exact rfl|exact j3 _
  ·have e4:v 4=.pointer (some ⟨P,0,none⟩):=hF 4 (hA 4 (by simp))
   simp only [e4]at hK
   go_simp
   refine hK _ _ hJ iB ?_
   first|exact rfl|exact j3 _
  ·have e5:v 5=.pointer (some ⟨P,0,none⟩):=hF 5 (hA 5 (by simp))
   simp only [e5]at hK
   go_simp
   refine hK _ _ hJ iB ?_
   first|exact rfl|exact j3 _
  ·have e6:v 6=.pointer (some ⟨P,7,none⟩):=hF 6 (hA 6 (by simp))
   have hp:=HP0.out.call hJ
   obtain⟨q0,q1,q2,q3,q4,q5,q6,q7,q8,q9,q10,q11,qf⟩:=jy hp.1
   simp only [e6]at hK
   go_simp
   refine hK _ _ hJ iB ?_
   first|exact rfl|exact j3 _
  ·have e3:v 3=.agg #[.int .i64 X.kd,.slice sA X.sec.length sc,.int .i64 X.pr,.int .i64 X.st,.slice nA X.non.length nc,.int .i64 X.x,.int .i64 X.g,.int .i64 X.own,.int .i64 X.oth,.slice aA X.k1.length ac,.slice bA X.k2.length bc,.int .i64 X.ct]:=hF 3 (hA 3 (by simp))
   have e7:v 7=.int .i64 X.own:=hF 7 (hA 7 (by simp))
   simp only [e3,e7]at hK
   simp only [e3,e7]
   go_simp
   refine(HCO.out w1 (Gb0.out.onB hJ).loB).mono ?_
   rintro e wk ⟨A8,c8,rfl,hs,hb⟩
   exact hK _ _ (hJ.trans (hb.mono hJ.size)) hb ⟨_,_,rfl,hs⟩
  ·have e0:v 0=.slice vA val.length vc:=hF 0 (hA 0 (by simp))
   simp only [e0]at hK
   obtain⟨A8,c8,e8,hz⟩:∃A8 c8,v 8=.slice A8 8 c8/\Bs w1 w1.heap.size (.slice A8 8 c8) T:=hF 8 (hA 8 (by simp))
   simp only [e8]at hK
   simp only [e0,e8]
   go_simp
   refine(bequal_any _ _ val T _ _ w1 (Gv0.out.onB hJ) hz).mono ?_
   rintro e wk ⟨rfl,hwk⟩
   subst hwk
   rw [HBB.out]
   exact hK _ _ hJ iB rfl
  ·have e9:v 9=.bool true:=hF 9 (hA 9 (by simp))
   simp only [e9]at hK
   go_simp
   refine hK _ _ hJ iB ?_
   first|exact rfl|exact j3 _
 case tail=>
  intro v w1 hJ hF
  have e0:v 0=.slice vA val.length vc:=hF 0 (by simp)
  have e1:v 1=.pointer (some ⟨P,0,none⟩):=hF 1 (by simp)
  have e2:v 2=.pointer (some ⟨P,0,none⟩):=hF 2 (by simp)
  have e3:v 3=.agg #[.int .i64 X.kd,.slice sA X.sec.length sc,.int .i64 X.pr,.int .i64 X.st,.slice nA X.non.length nc,.int .i64 X.x,.int .i64 X.g,.int .i64 X.own,.int .i64 X.oth,.slice aA X.k1.length ac,.slice bA X.k2.length bc,.int .i64 X.ct]:=hF 3 (by simp)
  have e4:v 4=.pointer (some ⟨P,0,none⟩):=hF 4 (by simp)
  have e5:v 5=.pointer (some ⟨P,0,none⟩):=hF 5 (by simp)
  have e6:v 6=.pointer (some ⟨P,7,none⟩):=hF 6 (by simp)
  have e7:v 7=.int .i64 X.own:=hF 7 (by simp)
  have e9:v 9=.bool true:=hF 9 (by simp)
  have e10:v 10=.bool false:=hF 10 (by simp)
  simp only [List.drop_succ_cons,List.drop_zero,ja,Act.put,Nat.zero_add,Nat.reduceAdd,List.setIfInBounds_toArray,List.set_cons_zero,List.set_cons_succ]
  simp only [e0,e1,e2,e3,e4,e5,e6,e7,e9,e10]
  have hp:=HP0.out.call hJ
  have HP1:=iH hp;have HJ:=iH hJ
  obtain⟨p0,p1,p2,p3,p4,p5,p6,p7,p8,p9,p10,p11,pf⟩:=jy hp.1
  have Gs1:=iH (Gs0.out.onB hJ);have Gn1:=iH (Gn0.out.onB hJ);have Ga1:=iH (Ga0.out.onB hJ);have Gb1:=iH (Gb0.out.onB hJ);have Gv1:=iH (Gv0.out.onB hJ);have Ge1:=iH (Ge0.out.onB hJ)
  clear hJ hF hp e0 e1 e2 e3 e4 e5 e6 e7 e9 e10 f0 f1 f2 f3 f4 f5 f6 f7 f8 f9 f10 f11 ff
  obtain⟨wm,rfl⟩:∃z:World,z=w1:=⟨_,rfl⟩
  go_upto_region 3 with fail
  refine jg 10 [some 21,some 22,some 23,some 24,some 25,some 26,some 27,some 28,some 29,some 30] [[],[0],[0,1],[],[3],[3,4],[3,4,5],[0,1,2,3,4,5,6],[],[0,1,2,3,4,5,6,7,8]]
   (fun _ _ w1=>Below wm.heap.size wm w1) (fun w1 w2=>Below w1.heap.size w1 w2)
   [fun v _=>v 0=.pointer (some ⟨P,0,none⟩),
    fun v _=>v 1=.pointer (some ⟨P,0,none⟩),
    fun v _=>v 2=.agg #[.int .i64 X.kd,.slice sA X.sec.length sc,.int .i64 X.pr,.int .i64 X.st,.slice nA X.non.length nc,.int .i64 X.x,.int .i64 X.g,.int .i64 X.own,.int .i64 X.oth,.slice aA X.k1.length ac,.slice bA X.k2.length bc,.int .i64 X.ct],
    fun v _=>v 3=.pointer (some ⟨P,0,none⟩),
    fun v _=>v 4=.pointer (some ⟨P,0,none⟩),
    fun v _=>v 5=.pointer (some ⟨P,8,none⟩),
    fun v _=>v 6=.int .i64 X.oth,
    fun v w1=>∃A7 c7,v 7=.slice A7 8 c7/\BsS w1 (jL P w1) (.slice A7 8 c7) T2,
    fun v _=>v 8=.slice eA s.length ec,
    fun v w1=>∃A9 c9,v 9=.slice A9 s.length c9/\BsS w1 (jL P w1) (.slice A9 s.length c9) s]
   (by kernel_rfl) (by kernel_rfl) (fun _=>iB.drew) ?st ?steps ?tail
  case st=>
   exact(.cons (fun _ _ _ _ _ _ h=>h) (.cons (fun _ _ _ _ _ _ h=>h) (.cons (fun _ _ _ _ _ _ h=>h) (.cons (fun _ _ _ _ _ _ h=>h) (.cons (fun _ _ _ _ _ _ h=>h) (.cons (fun _ _ _ _ _ _ h=>h) (.cons (fun _ _ _ _ _ _ h=>h) (.cons (fun _ _ _ _ _ hr ⟨A,c,h1,h2⟩=>⟨A,c,h1,h2.onB hr⟩) (.cons (fun _ _ _ _ _ _ h=>h) (.cons (fun _ _ _ _ _ hr ⟨A,c,h1,h2⟩=>⟨A,c,h1,h2.onB hr⟩) .nil))))))))))
  case steps=>
   simp only [List.take_succ_cons,List.take_zero]
   refine(.cons ?_ (.cons ?_ (.cons ?_ (.cons ?_ (.cons ?_ (.cons ?_ (.cons ?_ (.cons ?_ (.cons ?_ (.cons ?_ .nil))))))))))
   all_goals(intro L v w1 hJ hL hA hF K hK;simp only [ja,Act.put,Nat.zero_add,Nat.reduceAdd,List.setIfInBounds_toArray,List.set_cons_zero,List.set_cons_succ]at hK |-)
   ·go_simp
    refine hK _ _ hJ iB ?_
    first|exact rfl|exact j3 _
   ·have e0:v 0=.pointer (some ⟨P,0,none⟩):=hF 0 (hA 0 (by simp))
    simp only [e0]at hK
    go_simp
    refine hK _ _ hJ iB ?_
    first|exact rfl|exact j3 _
   ·have e1:v 1=.pointer (some ⟨P,0,none⟩):=hF 1 (hA 1 (by simp))
    have hp:=HP1.out.call hJ
    obtain⟨q0,q1,q2,q3,q4,q5,q6,q7,q8,q9,q10,q11,qf⟩:=jy hp.1
    simp only [e1]at hK
    go_simp
    refine hK _ _ hJ iB ?_
    first|exact rfl|exact j3 _
   ·go_simp
    refine hK _ _ hJ iB ?_
    first|exact rfl|exact j3 _
   ·have e3:v 3=.pointer (some ⟨P,0,none⟩):=hF 3 (hA 3 (by simp))
    simp only [e3]at hK
    go_simp
    refine hK _ _ hJ iB ?_
    first|exact rfl|exact j3 _
   ·have e4:v 4=.pointer (some ⟨P,0,none⟩):=hF 4 (hA 4 (by simp))
    simp only [e4]at hK
    go_simp
    refine hK _ _ hJ iB ?_
    first|exact rfl|exact j3 _
   ·have e5:v 5=.pointer (some ⟨P,8,none⟩):=hF 5 (hA 5 (by simp))
    have hp:=HP1.out.call hJ
    obtain⟨q0,q1,q2,q3,q4,q5,q6,q7,q8,q9,q10,q11,qf⟩:=jy hp.1
    simp only [e5]at hK
    go_simp
    refine hK _ _ hJ iB ?_
    first|exact rfl|exact j3 _
   ·have e2:v 2=.agg #[.int .i64 X.kd,.slice sA X.sec.length sc,.int .i64 X.pr,.int .i64 X.st,.slice nA X.non.length nc,.int .i64 X.x,.int .i64 X.g,.int .i64 X.own,.int .i64 X.oth,.slice aA X.k1.length ac,.slice bA X.k2.length bc,.int .i64 X.ct]:=hF 2 (hA 2 (by simp))
    have e6:v 6=.int .i64 X.oth:=hF 6 (hA 6 (by simp))
    simp only [e2,e6]at hK
    simp only [e2,e6]
    go_simp
    refine(HCT.out w1 (Gb1.out.onB hJ).loB).mono ?_
    rintro e wk ⟨A8,c8,rfl,hs,hb⟩
    exact hK _ _ (hJ.trans (hb.mono hJ.size)) hb ⟨_,_,rfl,(BsS.off hs ((HP1.out.call hJ).call hb).1 (NOB.out)).keep fun g hg _=>⟨rfl,hg⟩⟩
   ·go_simp
    refine hK _ _ hJ iB ?_
    first|exact rfl|exact j3 _
   ·have e8:v 8=.slice eA s.length ec:=hF 8 (hA 8 (by simp))
    simp only [e8]at hK
    simp only [e8]
    go_simp
    refine(jr _ s w1 (Ge1.out.onB hJ).loB).mono ?_
    rintro e wk ⟨v2,rfl,ho,hb⟩
    obtain⟨A2,c2,hv2⟩:=OwnB.form ho
    subst hv2
    refine hK _ _ (hJ.trans (hb.mono hJ.size)) hb ⟨_,_,rfl,?_⟩
    exact BsS.madeB (OwnB.out ho (by have:=HL.out;omega) w1 iL) (HP1.out.call hJ).lt
  case tail=>
   intro v w1 hJ hF
   have e0:v 0=.pointer (some ⟨P,0,none⟩):=hF 0 (by simp)
   have e1:v 1=.pointer (some ⟨P,0,none⟩):=hF 1 (by simp)
   have e2:v 2=.agg #[.int .i64 X.kd,.slice sA X.sec.length sc,.int .i64 X.pr,.int .i64 X.st,.slice nA X.non.length nc,.int .i64 X.x,.int .i64 X.g,.int .i64 X.own,.int .i64 X.oth,.slice aA X.k1.length ac,.slice bA X.k2.length bc,.int .i64 X.ct]:=hF 2 (by simp)
   have e3:v 3=.pointer (some ⟨P,0,none⟩):=hF 3 (by simp)
   have e4:v 4=.pointer (some ⟨P,0,none⟩):=hF 4 (by simp)
   have e5:v 5=.pointer (some ⟨P,8,none⟩):=hF 5 (by simp)
   have e6:v 6=.int .i64 X.oth:=hF 6 (by simp)
   have e8:v 8=.slice eA s.length ec:=hF 8 (by simp)
   simp only [List.drop_succ_cons,List.drop_zero,ja,Act.put,Nat.zero_add,Nat.reduceAdd,List.setIfInBounds_toArray,List.set_cons_zero,List.set_cons_succ]
   obtain⟨A7,c7,e7,h7⟩:∃A7 c7,v 7=.slice A7 8 c7/\BsS w1 (jL P w1) (.slice A7 8 c7) T2:=hF 7 (by simp)
   obtain⟨A9,c9,e9,h9⟩:∃A9 c9,v 9=.slice A9 s.length c9/\BsS w1 (jL P w1) (.slice A9 s.length c9) s:=hF 9 (by simp)
   simp only [e0,e1,e2,e3,e4,e5,e6,e8,e7,e9]
   have HP9:=iH (HP1.out.call hJ);have H7:=iH h7;have H9:=iH h9;have HJ9:=iH hJ
   clear hJ hF h7 h9 e0 e1 e2 e3 e4 e5 e6 e8 e7 e9
   go_wp2_with fail
   refine bodyPost_ret (v:=.tuple #[.int .i64 134,.slice A7 8 c7,.slice A9 s.length c9,.int .i64 0]) (by simp [results,Tryz.results74,go_sem]) rfl ?_
   have x7Q9:=H7.out
   rw [<-HT8.out]at x7Q9
   exact⟨A7,c7,A9,c9,by rw [HT8.out],⟨_,_,_,_,_,_,_,_,HP9.out,Gs1.out.onB HJ9.out,Gn1.out.onB HJ9.out,Ga1.out.onB HJ9.out,Gb1.out.onB HJ9.out⟩,x7Q9,H9.out⟩
theorem termAgree_err(P:Nat)(X:Exg)(sA nA aA bA:Option Addr)(sc nc ac bc:Nat)(vA eA:Option Addr)(vc ec:Nat)(v s:List UInt8)(w:World)(hK:∀W,Below P w W->KD W)(hr:w.heap[P]?=some (.cells #[.int .i64 X.kd,.slice sA X.sec.length sc,.int .i64 X.pr,.int .i64 X.st,.slice nA X.non.length nc,.int .i64 X.x,.int .i64 X.g,.int .i64 X.own,.int .i64 X.oth,.slice aA X.k1.length ac,.slice bA X.k2.length bc,.int .i64 X.ct] 48 (0,0))) (h1:BsS w (jL P w) (.slice sA X.sec.length sc) X.sec) (h2:BsS w (jL P w) (.slice nA X.non.length nc) X.non) (h3:BsS w (jL P w) (.slice aA X.k1.length ac) X.k1) (h4:BsS w (jL P w) (.slice bA X.k2.length bc) X.k2) (h5:BsS w (jL P w) (.slice vA v.length vc) v) (h6:BsS w (jL P w) (.slice eA s.length ec) s) (hl:s.length<=140737488351232) (er o:Int) (hd:jF v=(er,o)) (he:(er != 0)=true) (he2:(er==0)=false):
 Calls Tryz.prog 92 #[.pointer (some ⟨P,0,none⟩),.slice vA v.length vc,.slice eA s.length ec] w (StepE P w er):=by
 have HD:=iH (decode_any v _ _ w h5)
 rw [hd]at HD
 clear hd
 have HP0:Hid (PtW P w w #[.int .i64 X.kd,.slice sA X.sec.length sc,.int .i64 X.pr,.int .i64 X.st,.slice nA X.non.length nc,.int .i64 X.x,.int .i64 X.g,.int .i64 X.own,.int .i64 X.oth,.slice aA X.k1.length ac,.slice bA X.k2.length bc,.int .i64 X.ct]):=iH (PtW.start hr)
 have HK:=iH hK;have Gs0:=iH h1;have Gn0:=iH h2;have Ga0:=iH h3;have Gb0:=iH h4;have Gv0:=iH h5;have Ge0:=iH h6;have HL:=iH hl
 obtain⟨f0,f1,f2,f3,f4,f5,f6,f7,f8,f9,f10,f11,ff⟩:=jy hr
 clear hK hr h1 h2 h3 h4 h5 h6 hl
 go_enter Tryz.func92,Tryz.ntmps92
 go_wp2_with(go_at_call 126;refine HD.out.mono ?_;rintro e w' ⟨rfl,hw'⟩;rw [hw'];clear hw' w')
 refine bodyPost_ret (v:=.tuple #[.int .i64 0,.slice none 0 0,.slice none 0 0,.int .i64 er]) (by simp [results,Tryz.results92,go_sem]) rfl ?_
 exact⟨rfl,_,_,_,_,_,_,_,_,_,_,_,_,HP0.out⟩
theorem termAgree_same(P:Nat)(X:Exg)(sA nA aA bA:Option Addr)(sc nc ac bc:Nat)(vA eA:Option Addr)(vc ec:Nat)(v s:List UInt8)(w:World)(hK:∀W,Below P w W->KD W)(hr:w.heap[P]?=some (.cells #[.int .i64 X.kd,.slice sA X.sec.length sc,.int .i64 X.pr,.int .i64 X.st,.slice nA X.non.length nc,.int .i64 X.x,.int .i64 X.g,.int .i64 X.own,.int .i64 X.oth,.slice aA X.k1.length ac,.slice bA X.k2.length bc,.int .i64 X.ct] 48 (0,0))) (h1:BsS w (jL P w) (.slice sA X.sec.length sc) X.sec) (h2:BsS w (jL P w) (.slice nA X.non.length nc) X.non) (h3:BsS w (jL P w) (.slice aA X.k1.length ac) X.k1) (h4:BsS w (jL P w) (.slice bA X.k2.length bc) X.k2) (h5:BsS w (jL P w) (.slice vA v.length vc) v) (h6:BsS w (jL P w) (.slice eA s.length ec) s) (hl:s.length<=140737488351232) (o:Int) (hd:jF v=(0,o)) (hne:o=X.own):
 Calls Tryz.prog 92 #[.pointer (some ⟨P,0,none⟩),.slice vA v.length vc,.slice eA s.length ec] w (StepE P w 10):=by
 have HD:=iH (decode_any v _ _ w h5)
 rw [hd]at HD
 have HAG:=iH (agree_same P X sA nA aA bA sc nc ac bc w hK hr o hne)
 clear hd hne
 have HP0:Hid (PtW P w w #[.int .i64 X.kd,.slice sA X.sec.length sc,.int .i64 X.pr,.int .i64 X.st,.slice nA X.non.length nc,.int .i64 X.x,.int .i64 X.g,.int .i64 X.own,.int .i64 X.oth,.slice aA X.k1.length ac,.slice bA X.k2.length bc,.int .i64 X.ct]):=iH (PtW.start hr)
 have HK:=iH hK;have Gs0:=iH h1;have Gn0:=iH h2;have Ga0:=iH h3;have Gb0:=iH h4;have Gv0:=iH h5;have Ge0:=iH h6;have HL:=iH hl
 obtain⟨f0,f1,f2,f3,f4,f5,f6,f7,f8,f9,f10,f11,ff⟩:=jy hr
 clear hK hr h1 h2 h3 h4 h5 h6 hl
 go_enter Tryz.func92,Tryz.ntmps92
 go_wp2_with(first|(go_at_call 126;refine HD.out.mono ?_;rintro e w' ⟨rfl,hw'⟩;rw [hw'];clear hw' w')|(go_at_call 131;refine HAG.out.mono ?_;rintro e w' ⟨rfl,hw'⟩;rw [hw'];clear hw' w'))
 refine bodyPost_ret (v:=.tuple #[.int .i64 0,.slice none 0 0,.slice none 0 0,.int .i64 10]) (by simp [results,Tryz.results92,go_sem]) rfl ?_
 exact⟨rfl,_,_,_,_,_,_,_,_,_,_,_,_,HP0.out⟩
theorem termAgree_any(P:Nat)(X:Exg)(sA nA aA bA:Option Addr)(sc nc ac bc:Nat)(vA eA:Option Addr)(vc ec:Nat)(v s:List UInt8)(w:World)(hK:∀W,Below P w W->KD W)(hr:w.heap[P]?=some (.cells #[.int .i64 X.kd,.slice sA X.sec.length sc,.int .i64 X.pr,.int .i64 X.st,.slice nA X.non.length nc,.int .i64 X.x,.int .i64 X.g,.int .i64 X.own,.int .i64 X.oth,.slice aA X.k1.length ac,.slice bA X.k2.length bc,.int .i64 X.ct] 48 (0,0))) (h1:BsS w (jL P w) (.slice sA X.sec.length sc) X.sec) (h2:BsS w (jL P w) (.slice nA X.non.length nc) X.non) (h3:BsS w (jL P w) (.slice aA X.k1.length ac) X.k1) (h4:BsS w (jL P w) (.slice bA X.k2.length bc) X.k2) (h5:BsS w (jL P w) (.slice vA v.length vc) v) (h6:BsS w (jL P w) (.slice eA s.length ec) s) (hl:s.length<=140737488351232) (o:Int) (hx:okS X.x=true) (hd:jF v=(0,o)) (hne:¬o=X.own):
 Calls Tryz.prog 92 #[.pointer (some ⟨P,0,none⟩),.slice vA v.length vc,.slice eA s.length ec] w (Vg P w 133 (Zb X o).2 (tkW (Zb X o).2 o) s):=by
 have HD:=iH (decode_any v _ _ w h5)
 rw [hd]at HD
 have hoe:=decode_ok hd
 have HAG:=iH (agree_any P X sA nA aA bA sc nc ac bc w hK hr o hne hx hoe)
 have hagw:(Zb X o).2= {X with oth:=o,k1:=ZB (kg (zZ o X.x)) 1,k2:=ZB (kg (zZ o X.x)) 2,ct:=0}:=by unfold Zb;rw [iF hne]
 rw [hagw]
 have l1:=zh (kg (zZ o X.x)) 1
 have l2:=zh (kg (zZ o X.x)) 2
 obtain⟨K1,hK1⟩:∃k,ZB (kg (zZ o X.x)) 1=k:=⟨_,rfl⟩
 obtain⟨K2,hK2⟩:∃k,ZB (kg (zZ o X.x)) 2=k:=⟨_,rfl⟩
 rw [hK1]at HAG l1 |-
 rw [hK2]at HAG l2 |-
 have HCTy:=iH (fun(aB bB:Option Addr) (ad bd:Nat) W h=>code_t {X with oth:=o,k1:=K1,k2:=K2,ct:=0} sA nA aB bB sc nc ad bd o hoe l2 W h)
 have NOBy:=iH (fun(aB bB:Option Addr) (ad bd:Nat)=>noBE {X with oth:=o,k1:=K1,k2:=K2,ct:=0} sA nA aB bB sc nc ad bd)
 have ht8:=tkl {X with oth:=o,k1:=K1,k2:=K2,ct:=0} o l2
 obtain⟨T2,hT2⟩:∃T,tkW {X with oth:=o,k1:=K1,k2:=K2,ct:=0} o=T:=⟨_,rfl⟩
 rw [hT2]at HCTy ht8 |-
 have HT8:=iH ht8;have HL1:=iH l1;have HL2:=iH l2
 obtain⟨val,rfl⟩:∃l,l=v:=⟨_,rfl⟩
 clear hT2 ht8 hd hne hx hoe hagw hK1 hK2 l1 l2
 have HP0:Hid (PtW P w w #[.int .i64 X.kd,.slice sA X.sec.length sc,.int .i64 X.pr,.int .i64 X.st,.slice nA X.non.length nc,.int .i64 X.x,.int .i64 X.g,.int .i64 X.own,.int .i64 X.oth,.slice aA X.k1.length ac,.slice bA X.k2.length bc,.int .i64 X.ct]):=iH (PtW.start hr)
 have HK:=iH hK;have Gs0:=iH h1;have Gn0:=iH h2;have Ga0:=iH h3;have Gb0:=iH h4;have Gv0:=iH h5;have Ge0:=iH h6;have HL:=iH hl
 obtain⟨f0,f1,f2,f3,f4,f5,f6,f7,f8,f9,f10,f11,ff⟩:=jy hr
 clear hK hr h1 h2 h3 h4 h5 h6 hl
 go_enter Tryz.func92,Tryz.ntmps92
 go_upto_region 6 with (first
  |(go_at_call 126;refine HD.out.mono ?_;rintro e w' ⟨rfl,hw'⟩;rw [hw'];clear hw' w')
  |(go_at_call 131;refine HAG.out.mono ?_;rintro e w2 ⟨aB,bB,ad,bd,rfl,hq,k1,k2⟩;rw [<-HL1.out]at k1;rw [<-HL2.out]at k2;have hq:PtW P w w2 #[.int .i64 X.kd,.slice sA X.sec.length sc,.int .i64 X.pr,.int .i64 X.st,.slice nA X.non.length nc,.int .i64 X.x,.int .i64 X.g,.int .i64 X.own,.int .i64 o,.slice aB 16 ad,.slice bB 16 bd,.int .i64 0]:=hq;have GA1:=iH k1;have GB1:=iH k2;have HP1r:=iH hq;have Gs1:=iH (Gs0.out.grownP hq.2.1);have Gn1:=iH (Gn0.out.grownP hq.2.1);have Ga1:=iH (Ga0.out.grownP hq.2.1);have Gb1:=iH (Gb0.out.grownP hq.2.1);have Gv1:=iH (Gv0.out.grownP hq.2.1);have Ge1:=iH (Ge0.out.grownP hq.2.1);clear hq k1 k2 f0 f1 f2 f3 f4 f5 f6 f7 f8 f9 f10 f11 ff))
 have HCT:=iH (HCTy.out aB bB ad bd)
 have NOB:=iH (NOBy.out aB bB ad bd)
 have hp1:PtW P w w2 #[.int .i64 X.kd,.slice sA X.sec.length sc,.int .i64 X.pr,.int .i64 X.st,.slice nA X.non.length nc,.int .i64 X.x,.int .i64 X.g,.int .i64 X.own,.int .i64 o,.slice aB K1.length ad,.slice bB K2.length bd,.int .i64 0]:=by rw [HL1.out,HL2.out];exact HP1r.out
 have HP1:=iH hp1
 obtain⟨g0,g1,g2,g3,g4,g5,g6,g7,g8,g9,g10,g11,gf⟩:=jy hp1.1
 have HCT:=HCT.out
 have HCT:=iH HCT
 clear hp1 HP1r gf
 refine jg 10 [some 25,some 26,some 27,some 28,some 29,some 30,some 31,some 32,some 33,some 34] [[],[0],[0,1],[],[3],[3,4],[3,4,5],[0,1,2,3,4,5,6],[],[0,1,2,3,4,5,6,7,8]]
  (fun _ _ w1=>Below w2.heap.size w2 w1) (fun w1 w2=>Below w1.heap.size w1 w2)
  [fun v _=>v 0=.pointer (some ⟨P,0,none⟩),
   fun v _=>v 1=.pointer (some ⟨P,0,none⟩),
   fun v _=>v 2=.agg #[.int .i64 X.kd,.slice sA X.sec.length sc,.int .i64 X.pr,.int .i64 X.st,.slice nA X.non.length nc,.int .i64 X.x,.int .i64 X.g,.int .i64 X.own,.int .i64 o,.slice aB K1.length ad,.slice bB K2.length bd,.int .i64 0],
   fun v _=>v 3=.pointer (some ⟨P,0,none⟩),
   fun v _=>v 4=.pointer (some ⟨P,0,none⟩),
   fun v _=>v 5=.pointer (some ⟨P,8,none⟩),
   fun v _=>v 6=.int .i64 o,
   fun v w1=>∃A7 c7,v 7=.slice A7 8 c7/\BsS w1 (jL P w1) (.slice A7 8 c7) T2,
   fun v _=>v 8=.slice eA s.length ec,
   fun v w1=>∃A9 c9,v 9=.slice A9 s.length c9/\BsS w1 (jL P w1) (.slice A9 s.length c9) s]
  (by kernel_rfl) (by kernel_rfl) (fun _=>iB.drew) ?st ?steps ?tail
 case st=>
  exact(.cons (fun _ _ _ _ _ _ h=>h) (.cons (fun _ _ _ _ _ _ h=>h) (.cons (fun _ _ _ _ _ _ h=>h) (.cons (fun _ _ _ _ _ _ h=>h) (.cons (fun _ _ _ _ _ _ h=>h) (.cons (fun _ _ _ _ _ _ h=>h) (.cons (fun _ _ _ _ _ _ h=>h) (.cons (fun _ _ _ _ _ hr ⟨A,c,h1,h2⟩=>⟨A,c,h1,h2.onB hr⟩) (.cons (fun _ _ _ _ _ _ h=>h) (.cons (fun _ _ _ _ _ hr ⟨A,c,h1,h2⟩=>⟨A,c,h1,h2.onB hr⟩) .nil))))))))))
 case steps=>
  simp only [List.take_succ_cons,List.take_zero]
  refine(.cons ?_ (.cons ?_ (.cons ?_ (.cons ?_ (.cons ?_ (.cons ?_ (.cons ?_ (.cons ?_ (.cons ?_ (.cons ?_ .nil))))))))))
  all_goals(intro L v w1 hJ hL hA hF K hK;simp only [ja,Act.put,Nat.zero_add,Nat.reduceAdd,List.setIfInBounds_toArray,List.set_cons_zero,List.set_cons_succ]at hK |-)
  ·go_simp
   refine hK _ _ hJ iB ?_
   first|exact rfl|exact j3 _
  ·have e0:v 0=.pointer (some ⟨P,0,none⟩):=hF 0 (hA 0 (by simp))
   simp only [e0]at hK
   go_simp
   refine hK _ _ hJ iB ?_
   first|exact rfl|exact j3 _
  ·have e1:v 1=.pointer (some ⟨P,0,none⟩):=hF 1 (hA 1 (by simp))
   have hp:=HP1.out.call hJ
   obtain⟨q0,q1,q2,q3,q4,q5,q6,q7,q8,q9,q10,q11,qf⟩:=jy hp.1
   simp only [e1]at hK
   go_simp
   refine hK _ _ hJ iB ?_
   first|exact rfl|exact j3 _
  ·go_simp
   refine hK _ _ hJ iB ?_
   first|exact rfl|exact j3 _
  ·have e3:v 3=.pointer (some ⟨P,0,none⟩):=hF 3 (hA 3 (by simp))
   simp only [e3]at hK
   go_simp
   refine hK _ _ hJ iB ?_
   first|exact rfl|exact j3 _
  ·have e4:v 4=.pointer (some ⟨P,0,none⟩):=hF 4 (hA 4 (by simp))
   simp only [e4]at hK
   go_simp
   refine hK _ _ hJ iB ?_
   first|exact rfl|exact j3 _
  ·have e5:v 5=.pointer (some ⟨P,8,none⟩):=hF 5 (hA 5 (by simp))
   have hp:=HP1.out.call hJ
   obtain⟨q0,q1,q2,q3,q4,q5,q6,q7,q8,q9,q10,q11,qf⟩:=jy hp.1
   simp only [e5]at hK
   go_simp
   refine hK _ _ hJ iB ?_
   first|exact rfl|exact j3 _
  ·have e2:v 2=.agg #[.int .i64 X.kd,.slice sA X.sec.length sc,.int .i64 X.pr,.int .i64 X.st,.slice nA X.non.length nc,.int .i64 X.x,.int .i64 X.g,.int .i64 X.own,.int .i64 o,.slice aB K1.length ad,.slice bB K2.length bd,.int .i64 0]:=hF 2 (hA 2 (by simp))
   have e6:v 6=.int .i64 o:=hF 6 (hA 6 (by simp))
   simp only [e2,e6]at hK
   simp only [e2,e6]
   go_simp
   refine(HCT.out w1 (GB1.out.onB hJ).loB).mono ?_
   rintro e wk ⟨A8,c8,rfl,hs,hb⟩
   exact hK _ _ (hJ.trans (hb.mono hJ.size)) hb ⟨_,_,rfl,(BsS.off hs ((HP1.out.call hJ).call hb).1 (NOB.out)).keep fun g hg _=>⟨rfl,hg⟩⟩
  ·go_simp
   refine hK _ _ hJ iB ?_
   first|exact rfl|exact j3 _
  ·have e8:v 8=.slice eA s.length ec:=hF 8 (hA 8 (by simp))
   simp only [e8]at hK
   simp only [e8]
   go_simp
   refine(jr _ s w1 (Ge1.out.onB hJ).loB).mono ?_
   rintro e wk ⟨v2,rfl,ho,hb⟩
   obtain⟨A2,c2,hv2⟩:=OwnB.form ho
   subst hv2
   refine hK _ _ (hJ.trans (hb.mono hJ.size)) hb ⟨_,_,rfl,?_⟩
   exact BsS.madeB (OwnB.out ho (by have:=HL.out;omega) w1 iL) (HP1.out.call hJ).lt
 case tail=>
  intro v w1 hJ hF
  have e0:v 0=.pointer (some ⟨P,0,none⟩):=hF 0 (by simp)
  have e1:v 1=.pointer (some ⟨P,0,none⟩):=hF 1 (by simp)
  have e2:v 2=.agg #[.int .i64 X.kd,.slice sA X.sec.length sc,.int .i64 X.pr,.int .i64 X.st,.slice nA X.non.length nc,.int .i64 X.x,.int .i64 X.g,.int .i64 X.own,.int .i64 o,.slice aB K1.length ad,.slice bB K2.length bd,.int .i64 0]:=hF 2 (by simp)
  have e3:v 3=.pointer (some ⟨P,0,none⟩):=hF 3 (by simp)
  have e4:v 4=.pointer (some ⟨P,0,none⟩):=hF 4 (by simp)
  have e5:v 5=.pointer (some ⟨P,8,none⟩):=hF 5 (by simp)
  have e6:v 6=.int .i64 o:=hF 6 (by simp)
  have e8:v 8=.slice eA s.length ec:=hF 8 (by simp)
  simp only [List.drop_succ_cons,List.drop_zero,ja,Act.put,Nat.zero_add,Nat.reduceAdd,List.setIfInBounds_toArray,List.set_cons_zero,List.set_cons_succ]
  obtain⟨A7,c7,e7,h7⟩:∃A7 c7,v 7=.slice A7 8 c7/\BsS w1 (jL P w1) (.slice A7 8 c7) T2:=hF 7 (by simp)
  obtain⟨A9,c9,e9,h9⟩:∃A9 c9,v 9=.slice A9 s.length c9/\BsS w1 (jL P w1) (.slice A9 s.length c9) s:=hF 9 (by simp)
  simp only [e0,e1,e2,e3,e4,e5,e6,e8,e7,e9]
  have HP9:=iH (HP1.out.call hJ);have H7:=iH h7;have H9:=iH h9;have HJ9:=iH hJ
  clear hJ hF h7 h9 e0 e1 e2 e3 e4 e5 e6 e8 e7 e9
  go_wp2_with fail
  refine bodyPost_ret (v:=.tuple #[.int .i64 133,.slice A7 8 c7,.slice A9 s.length c9,.int .i64 0]) (by simp [results,Tryz.results92,go_sem]) rfl ?_
  have x7Q9:=H7.out
  rw [<-HT8.out]at x7Q9
  exact⟨A7,c7,A9,c9,by rw [HT8.out],⟨_,_,_,_,_,_,_,_,HP9.out,Gs1.out.onB HJ9.out,Gn1.out.onB HJ9.out,GA1.out.onB HJ9.out,GB1.out.onB HJ9.out⟩,x7Q9,H9.out⟩
theorem termMap_int(P:Nat)(X:Exg)(sA nA aA bA:Option Addr)(sc nc ac bc:Nat)(vA eA:Option Addr)(vc ec:Nat)(v s:List UInt8)(w:World)(hK:∀W,Below P w W->KD W)(hr:w.heap[P]?=some (.cells #[.int .i64 X.kd,.slice sA X.sec.length sc,.int .i64 X.pr,.int .i64 X.st,.slice nA X.non.length nc,.int .i64 X.x,.int .i64 X.g,.int .i64 X.own,.int .i64 X.oth,.slice aA X.k1.length ac,.slice bA X.k2.length bc,.int .i64 X.ct] 48 (0,0))) (h1:BsS w (jL P w) (.slice sA X.sec.length sc) X.sec) (h2:BsS w (jL P w) (.slice nA X.non.length nc) X.non) (h3:BsS w (jL P w) (.slice aA X.k1.length ac) X.k1) (h4:BsS w (jL P w) (.slice bA X.k2.length bc) X.k2) (h5:BsS w (jL P w) (.slice vA v.length vc) v) (h6:BsS w (jL P w) (.slice eA s.length ec) s) (hl:s.length<=140737488351232) (hp:X.pr=3) (N:List UInt8) (hrv:Z5 X.kd X.sec v=(0,N)) (gi:Int) (hi:yb N (k7 s 16)=(0,gi)):
 Calls Tryz.prog 90 #[.pointer (some ⟨P,0,none⟩),.slice vA v.length vc,.slice eA s.length ec] w (Vg P w 129 {X with non:=N,g:=gi} (k7 s 16) (sdW s)):=by
 have HRV:=iH (XM X.kd X.sec sA sc v vA vc w (hK w iB) h1.loB h5.loB)
 rw [hrv]at HRV
 have t1:(X.pr==3)=true:=by simp [hp]
 have hr16:(k7 s 16).length=16:=by unfold k7;rw [List.length_take,ji];omega
 have HDR:=iH (fun W k (h:Bs W W.heap.size (.slice eA s.length ec) s)=>U5 16 (by omega) (by omega) _ s W k h (by omega))
 obtain⟨rr,hrr⟩:∃r,k7 s 16=r:=⟨_,rfl⟩
 rw [hrr]at HDR hi hr16 |-
 have HIN:=iH (fun(a b:Value) W k h1 h2=>K0 N rr a b W k h1 h2)
 rw [hi]at HIN
 have HR16:=iH hr16
 clear hi hp hrv hrr hr16
 have HP0:Hid (PtW P w w #[.int .i64 X.kd,.slice sA X.sec.length sc,.int .i64 X.pr,.int .i64 X.st,.slice nA X.non.length nc,.int .i64 X.x,.int .i64 X.g,.int .i64 X.own,.int .i64 X.oth,.slice aA X.k1.length ac,.slice bA X.k2.length bc,.int .i64 X.ct]):=iH (PtW.start hr)
 have HK:=iH hK;have Gs0:=iH h1;have Gn0:=iH h2;have Ga0:=iH h3;have Gb0:=iH h4;have Gv0:=iH h5;have Ge0:=iH h6;have HL:=iH hl
 obtain⟨f0,f1,f2,f3,f4,f5,f6,f7,f8,f9,f10,f11,ff⟩:=jy hr
 clear hK hr h1 h2 h3 h4 h5 h6 hl
 go_enter Tryz.func90,Tryz.ntmps90
 go_upto_region 2 with (go_at_call 20;refine HRV.out.mono ?_;rintro e w1 ⟨v1,rfl,hs,hb⟩;obtain⟨A1,c1,hv1⟩:=Bs.formL hs;subst hv1;have GN1:=iH (hs.madeB HP0.out.lt);have Gs1:=iH (Gs0.out.onB hb);have Gn1:=iH (Gn0.out.onB hb);have Ga1:=iH (Ga0.out.onB hb);have Gb1:=iH (Gb0.out.onB hb);have Gv1:=iH (Gv0.out.onB hb);have Ge1:=iH (Ge0.out.onB hb);have hp:=HP0.out.call hb;have HP1:=iH hp;obtain⟨g0,g1,g2,g3,g4,g5,g6,g7,g8,g9,g10,g11,gf⟩:=jy hp.1;clear hp f0 f1 f2 f3 f4 f5 f6 f7 f8 f9 f10 f11 ff;have gx:=gf 4;clear hb hs gf)
 obtain⟨w2,hw⟩:∃z,z=w1.setCell ⟨P,4,none⟩ (.slice A1 N.length c1):=⟨_,rfl⟩
 rw [<-hw]
 have hp:PtW P w w2 #[.int .i64 X.kd,.slice sA X.sec.length sc,.int .i64 X.pr,.int .i64 X.st,.slice A1 N.length c1,.int .i64 X.x,.int .i64 X.g,.int .i64 X.own,.int .i64 X.oth,.slice aA X.k1.length ac,.slice bA X.k2.length bc,.int .i64 X.ct]:=by rw [hw];exact HP1.out.set 4 _
 have Gs2:Hid (BsS w2 (jL P w2) _ _):=iH (by rw [hw];exact BsS.setP Gs1.out 4 _)
 have Gn2:Hid (BsS w2 (jL P w2) _ _):=iH (by rw [hw];exact BsS.setP Gn1.out 4 _)
 have Ga2:Hid (BsS w2 (jL P w2) _ _):=iH (by rw [hw];exact BsS.setP Ga1.out 4 _)
 have Gb2:Hid (BsS w2 (jL P w2) _ _):=iH (by rw [hw];exact BsS.setP Gb1.out 4 _)
 have Gv2:Hid (BsS w2 (jL P w2) _ _):=iH (by rw [hw];exact BsS.setP Gv1.out 4 _)
 have Ge2:Hid (BsS w2 (jL P w2) _ _):=iH (by rw [hw];exact BsS.setP Ge1.out 4 _)
 have GN2:Hid (BsS w2 (jL P w2) _ _):=iH (by rw [hw];exact BsS.setP GN1.out 4 _)
 have HP2:=iH hp
 obtain⟨f0,f1,f2,f3,f4,f5,f6,f7,f8,f9,f10,f11,ff⟩:=jy hp.1
 clear hw hp g0 g1 g2 g3 g4 g5 g6 g7 g8 g9 g10 g11 gx
 clear ff
 go_upto_region 5 with (first
  |(go_at_call 27;refine(HIN.out _ _ w3 (HK.out w3 HP3.out.2.2) GN3.out.loB GR3.out.loB).mono ?_;rintro e w4 ⟨rfl,hb⟩;have GR4:=iH (GR3.out.onB hb);have GX4:=iH (GX3.out.onB hb);have Gs4:=iH (Gs3.out.onB hb);have Gn4:=iH (Gn3.out.onB hb);have Ga4:=iH (Ga3.out.onB hb);have Gb4:=iH (Gb3.out.onB hb);have Gv4:=iH (Gv3.out.onB hb);have Ge4:=iH (Ge3.out.onB hb);have GN4:=iH (GN3.out.onB hb);have hp:=HP3.out.call hb;have HP4:=iH hp;obtain⟨f0,f1,f2,f3,f4,f5,f6,f7,f8,f9,f10,f11,ff⟩:=jy hp.1;have fx:=ff 6;clear hp hb ff g0 g1 g2 g3 g4 g5 g6 g7 g8 g9 g10 g11)
  |(go_at_call 125;refine(HDR.out w2 (HK.out w2 HP2.out.2.2) Ge2.out.loB).mono ?_;rintro e w3 ⟨A3,c3,B3,d3,rfl,ha,hbx,hb⟩;have GR3:=iH (ha.madeB HP2.out.lt);have GX3:=iH (hbx.madeB HP2.out.lt);have Gs3:=iH (Gs2.out.onB hb);have Gn3:=iH (Gn2.out.onB hb);have Ga3:=iH (Ga2.out.onB hb);have Gb3:=iH (Gb2.out.onB hb);have Gv3:=iH (Gv2.out.onB hb);have Ge3:=iH (Ge2.out.onB hb);have GN3:=iH (GN2.out.onB hb);have hp:=HP2.out.call hb;have HP3:=iH hp;obtain⟨g0,g1,g2,g3,g4,g5,g6,g7,g8,g9,g10,g11,gf⟩:=jy hp.1;clear hp hb ha hbx gf f0 f1 f2 f3 f4 f5 f6 f7 f8 f9 f10 f11))
 go_upto_region 6 with fail
 obtain⟨w5,hw⟩:∃z,z=w4.setCell ⟨P,6,none⟩ (.int .i64 gi):=⟨_,rfl⟩
 rw [<-hw]
 have hp:PtW P w w5 #[.int .i64 X.kd,.slice sA X.sec.length sc,.int .i64 X.pr,.int .i64 X.st,.slice A1 N.length c1,.int .i64 X.x,.int .i64 gi,.int .i64 X.own,.int .i64 X.oth,.slice aA X.k1.length ac,.slice bA X.k2.length bc,.int .i64 X.ct]:=by rw [hw];exact HP4.out.set 6 _
 have Gs5:Hid (BsS w5 (jL P w5) _ _):=iH (by rw [hw];exact BsS.setP Gs4.out 6 _)
 have Gn5:Hid (BsS w5 (jL P w5) _ _):=iH (by rw [hw];exact BsS.setP Gn4.out 6 _)
 have Ga5:Hid (BsS w5 (jL P w5) _ _):=iH (by rw [hw];exact BsS.setP Ga4.out 6 _)
 have Gb5:Hid (BsS w5 (jL P w5) _ _):=iH (by rw [hw];exact BsS.setP Gb4.out 6 _)
 have Gv5:Hid (BsS w5 (jL P w5) _ _):=iH (by rw [hw];exact BsS.setP Gv4.out 6 _)
 have Ge5:Hid (BsS w5 (jL P w5) _ _):=iH (by rw [hw];exact BsS.setP Ge4.out 6 _)
 have GN5:Hid (BsS w5 (jL P w5) _ _):=iH (by rw [hw];exact BsS.setP GN4.out 6 _)
 have GR5:Hid (BsS w5 (jL P w5) _ _):=iH (by rw [hw];exact BsS.setP GR4.out 6 _)
 have GX5:Hid (BsS w5 (jL P w5) _ _):=iH (by rw [hw];exact BsS.setP GX4.out 6 _)
 have HP5:=iH hp
 obtain⟨g0,g1,g2,g3,g4,g5,g6,g7,g8,g9,g10,g11,gf⟩:=jy hp.1
 clear hw hp f0 f1 f2 f3 f4 f5 f6 f7 f8 f9 f10 f11 fx
 go_wp2_with fail
 refine bodyPost_ret (v:=.tuple #[.int .i64 129,.slice A3 16 c3,.slice B3 32 d3,.int .i64 0]) (by simp [results,Tryz.results90,go_sem]) rfl ?_
 have hx:(sdW s).length=32:=ji _
 have x5Q9:BsS w5 (jL P w5) (.slice B3 (sdW s).length d3) (sdW s):=by rw [hx];exact GX5.out
 have r5:BsS w5 (jL P w5) (.slice A3 rr.length c3) rr:=by rw [HR16.out];exact GR5.out
 exact⟨A3,c3,B3,d3,by rw [hx,HR16.out],⟨_,_,_,_,_,_,_,_,HP5.out,Gs5.out,GN5.out,Ga5.out,Gb5.out⟩,r5,x5Q9⟩
theorem termMap_gen(P:Nat)(X:Exg)(sA nA aA bA:Option Addr)(sc nc ac bc:Nat)(vA eA:Option Addr)(vc ec:Nat)(v s:List UInt8)(w:World)(hK:∀W,Below P w W->KD W)(hr:w.heap[P]?=some (.cells #[.int .i64 X.kd,.slice sA X.sec.length sc,.int .i64 X.pr,.int .i64 X.st,.slice nA X.non.length nc,.int .i64 X.x,.int .i64 X.g,.int .i64 X.own,.int .i64 X.oth,.slice aA X.k1.length ac,.slice bA X.k2.length bc,.int .i64 X.ct] 48 (0,0))) (h1:BsS w (jL P w) (.slice sA X.sec.length sc) X.sec) (h2:BsS w (jL P w) (.slice nA X.non.length nc) X.non) (h3:BsS w (jL P w) (.slice aA X.k1.length ac) X.k1) (h4:BsS w (jL P w) (.slice bA X.k2.length bc) X.k2) (h5:BsS w (jL P w) (.slice vA v.length vc) v) (h6:BsS w (jL P w) (.slice eA s.length ec) s) (hl:s.length<=140737488351232) (hp:X.pr=2) (N:List UInt8) (hrv:Z5 X.kd X.sec v=(0,N)):
 Calls Tryz.prog 90 #[.pointer (some ⟨P,0,none⟩),.slice vA v.length vc,.slice eA s.length ec] w (Vg P w 129 {X with non:=N,x:=XS s} (kg (zZ 4 (XS s))) (sdW s)):=by
 have HRV:=iH (XM X.kd X.sec sA sc v vA vc w (hK w iB) h1.loB h5.loB)
 rw [hrv]at HRV
 have t1:(X.pr==3)=false:=by simp [hp]
 have HSE:=iH (fun W k (h:Bs W W.heap.size (.slice eA s.length ec) s)=>dsecret_any _ s W k h (by omega))
 unfold SecOut at HSE
 have hks:=scr_ok s
 obtain⟨ks,hk⟩:∃ks,XS s=ks:=⟨_,rfl⟩
 rw [hk]at HSE hks |-
 have HPB:=iH (gpublic_i ks hks)
 obtain⟨G,hG⟩:∃G,zZ 4 ks=G:=⟨_,rfl⟩
 have hge:jx G=true:=by rw [<-hG];exact xe 4 ks JV hks
 rw [hG]at HPB |-
 have HEN:=iH (encoded_any G hge)
 clear hG hge
 clear hp hrv hk hks
 have HP0:Hid (PtW P w w #[.int .i64 X.kd,.slice sA X.sec.length sc,.int .i64 X.pr,.int .i64 X.st,.slice nA X.non.length nc,.int .i64 X.x,.int .i64 X.g,.int .i64 X.own,.int .i64 X.oth,.slice aA X.k1.length ac,.slice bA X.k2.length bc,.int .i64 X.ct]):=iH (PtW.start hr)
 have HK:=iH hK;have Gs0:=iH h1;have Gn0:=iH h2;have Ga0:=iH h3;have Gb0:=iH h4;have Gv0:=iH h5;have Ge0:=iH h6;have HL:=iH hl
 obtain⟨f0,f1,f2,f3,f4,f5,f6,f7,f8,f9,f10,f11,ff⟩:=jy hr
 clear hK hr h1 h2 h3 h4 h5 h6 hl
 go_enter Tryz.func90,Tryz.ntmps90
 go_upto_region 2 with (go_at_call 20;refine HRV.out.mono ?_;rintro e w1 ⟨v1,rfl,hs,hb⟩;obtain⟨A1,c1,hv1⟩:=Bs.formL hs;subst hv1;have GN1:=iH (hs.madeB HP0.out.lt);have Gs1:=iH (Gs0.out.onB hb);have Gn1:=iH (Gn0.out.onB hb);have Ga1:=iH (Ga0.out.onB hb);have Gb1:=iH (Gb0.out.onB hb);have Gv1:=iH (Gv0.out.onB hb);have Ge1:=iH (Ge0.out.onB hb);have hp:=HP0.out.call hb;have HP1:=iH hp;obtain⟨g0,g1,g2,g3,g4,g5,g6,g7,g8,g9,g10,g11,gf⟩:=jy hp.1;clear hp f0 f1 f2 f3 f4 f5 f6 f7 f8 f9 f10 f11 ff;have gx:=gf 4;clear hb hs gf)
 obtain⟨w2,hw⟩:∃z,z=w1.setCell ⟨P,4,none⟩ (.slice A1 N.length c1):=⟨_,rfl⟩
 rw [<-hw]
 have hp:PtW P w w2 #[.int .i64 X.kd,.slice sA X.sec.length sc,.int .i64 X.pr,.int .i64 X.st,.slice A1 N.length c1,.int .i64 X.x,.int .i64 X.g,.int .i64 X.own,.int .i64 X.oth,.slice aA X.k1.length ac,.slice bA X.k2.length bc,.int .i64 X.ct]:=by rw [hw];exact HP1.out.set 4 _
 have Gs2:Hid (BsS w2 (jL P w2) _ _):=iH (by rw [hw];exact BsS.setP Gs1.out 4 _)
 have Gn2:Hid (BsS w2 (jL P w2) _ _):=iH (by rw [hw];exact BsS.setP Gn1.out 4 _)
 have Ga2:Hid (BsS w2 (jL P w2) _ _):=iH (by rw [hw];exact BsS.setP Ga1.out 4 _)
 have Gb2:Hid (BsS w2 (jL P w2) _ _):=iH (by rw [hw];exact BsS.setP Gb1.out 4 _)
 have Gv2:Hid (BsS w2 (jL P w2) _ _):=iH (by rw [hw];exact BsS.setP Gv1.out 4 _)
 have Ge2:Hid (BsS w2 (jL P w2) _ _):=iH (by rw [hw];exact BsS.setP Ge1.out 4 _)
 have GN2:Hid (BsS w2 (jL P w2) _ _):=iH (by rw [hw];exact BsS.setP GN1.out 4 _)
 have HP2:=iH hp
 obtain⟨f0,f1,f2,f3,f4,f5,f6,f7,f8,f9,f10,f11,ff⟩:=jy hp.1
 clear hw hp g0 g1 g2 g3 g4 g5 g6 g7 g8 g9 g10 g11 gx
 clear ff
 go_upto_region 8 with (go_at_call 127;refine(HSE.out w2 (HK.out w2 HP2.out.2.2) Ge2.out.loB).mono ?_;rintro e w3 ⟨B1,d1,rfl,hbx,hb⟩;have GX3:=iH (hbx.madeB HP2.out.lt);have Gs3:=iH (Gs2.out.onB hb);have Gn3:=iH (Gn2.out.onB hb);have Ga3:=iH (Ga2.out.onB hb);have Gb3:=iH (Gb2.out.onB hb);have Gv3:=iH (Gv2.out.onB hb);have Ge3:=iH (Ge2.out.onB hb);have GN3:=iH (GN2.out.onB hb);have hp:=HP2.out.call hb;have HP3:=iH hp;obtain⟨g0,g1,g2,g3,g4,g5,g6,g7,g8,g9,g10,g11,gf⟩:=jy hp.1;have gx:=gf 5;clear hp hb hbx gf f0 f1 f2 f3 f4 f5 f6 f7 f8 f9 f10 f11)
 go_upto_region 9 with fail
 obtain⟨w4,hw⟩:∃z,z=w3.setCell ⟨P,5,none⟩ (.int .i64 ks):=⟨_,rfl⟩
 rw [<-hw]
 have hp:PtW P w w4 #[.int .i64 X.kd,.slice sA X.sec.length sc,.int .i64 X.pr,.int .i64 X.st,.slice A1 N.length c1,.int .i64 ks,.int .i64 X.g,.int .i64 X.own,.int .i64 X.oth,.slice aA X.k1.length ac,.slice bA X.k2.length bc,.int .i64 X.ct]:=by rw [hw];exact HP3.out.set 5 _
 have Gs4:Hid (BsS w4 (jL P w4) _ _):=iH (by rw [hw];exact BsS.setP Gs3.out 5 _)
 have Gn4:Hid (BsS w4 (jL P w4) _ _):=iH (by rw [hw];exact BsS.setP Gn3.out 5 _)
 have Ga4:Hid (BsS w4 (jL P w4) _ _):=iH (by rw [hw];exact BsS.setP Ga3.out 5 _)
 have Gb4:Hid (BsS w4 (jL P w4) _ _):=iH (by rw [hw];exact BsS.setP Gb3.out 5 _)
 have Gv4:Hid (BsS w4 (jL P w4) _ _):=iH (by rw [hw];exact BsS.setP Gv3.out 5 _)
 have Ge4:Hid (BsS w4 (jL P w4) _ _):=iH (by rw [hw];exact BsS.setP Ge3.out 5 _)
 have GN4:Hid (BsS w4 (jL P w4) _ _):=iH (by rw [hw];exact BsS.setP GN3.out 5 _)
 have GX4:Hid (BsS w4 (jL P w4) _ _):=iH (by rw [hw];exact BsS.setP GX3.out 5 _)
 have HP4:=iH hp
 obtain⟨f0,f1,f2,f3,f4,f5,f6,f7,f8,f9,f10,f11,ff⟩:=jy hp.1
 clear hw hp g0 g1 g2 g3 g4 g5 g6 g7 g8 g9 g10 g11 gx
 go_wp2_with(first
  |(go_at_call 128;refine(HPB.out _).mono ?_;rintro e w' ⟨rfl,hw'⟩;rw [hw'];clear hw' w')
  |(go_at_call 129;refine(HEN.out w4).mono ?_;rintro e w5 ⟨A3,c3,rfl,hs,hb⟩;have GE3:=iH (hs.madeB HP4.out.lt);have Gs5:=iH (Gs4.out.onB hb);have Gn5:=iH (Gn4.out.onB hb);have Ga5:=iH (Ga4.out.onB hb);have Gb5:=iH (Gb4.out.onB hb);have Gv5:=iH (Gv4.out.onB hb);have Ge5:=iH (Ge4.out.onB hb);have GN5:=iH (GN4.out.onB hb);have GX5:=iH (GX4.out.onB hb);have hp:=HP4.out.call hb;have HP5:=iH hp;obtain⟨g0,g1,g2,g3,g4,g5,g6,g7,g8,g9,g10,g11,gf⟩:=jy hp.1;clear hp f0 f1 f2 f3 f4 f5 f6 f7 f8 f9 f10 f11 ff;clear hs hb))
 refine bodyPost_ret (v:=.tuple #[.int .i64 129,.slice A3 4 c3,.slice B1 32 d1,.int .i64 0]) (by simp [results,Tryz.results90,go_sem]) rfl ?_
 have hx:(sdW s).length=32:=ji _
 have x3:BsS w5 (jL P w5) (.slice B1 (sdW s).length d1) (sdW s):=by rw [hx];exact GX5.out
 exact⟨A3,c3,B1,d1,by rw [hx]<;>rfl,⟨_,_,_,_,_,_,_,_,HP5.out,Gs5.out,GN5.out,Ga5.out,Gb5.out⟩,GE3.out,x3⟩
theorem termKey_int(P:Nat)(X:Exg)(sA nA aA bA:Option Addr)(sc nc ac bc:Nat)(vA eA:Option Addr)(vc ec:Nat)(v s:List UInt8)(w:World)(hK:∀W,Below P w W->KD W)(hr:w.heap[P]?=some (.cells #[.int .i64 X.kd,.slice sA X.sec.length sc,.int .i64 X.pr,.int .i64 X.st,.slice nA X.non.length nc,.int .i64 X.x,.int .i64 X.g,.int .i64 X.own,.int .i64 X.oth,.slice aA X.k1.length ac,.slice bA X.k2.length bc,.int .i64 X.ct] 48 (0,0))) (h1:BsS w (jL P w) (.slice sA X.sec.length sc) X.sec) (h2:BsS w (jL P w) (.slice nA X.non.length nc) X.non) (h3:BsS w (jL P w) (.slice aA X.k1.length ac) X.k1) (h4:BsS w (jL P w) (.slice bA X.k2.length bc) X.k2) (h5:BsS w (jL P w) (.slice vA v.length vc) v) (h6:BsS w (jL P w) (.slice eA s.length ec) s) (hl:s.length<=140737488351232) (hp:X.pr=3) (hg:jx X.g=true):
 Calls Tryz.prog 91 #[.pointer (some ⟨P,0,none⟩),.slice vA v.length vc,.slice eA s.length ec] w (Vg P w 131 {X with x:=XS s,own:=zZ X.g (XS s)} (kg (zZ X.g (XS s))) (sdW s)):=by
 have t1:(X.pr==2)=false:=by simp [hp]
 have HPU:=iH (public_any P X sA nA aA bA sc nc ac bc w hK hr eA ec s h6 hl hg)
 have hks:=scr_ok s
 obtain⟨ks,hk⟩:∃ks,XS s=ks:=⟨_,rfl⟩
 rw [hk]at HPU hks |-
 obtain⟨G,hG⟩:∃G,zZ X.g ks=G:=⟨_,rfl⟩
 have hge:jx G=true:=by rw [<-hG];exact xe X.g ks hg hks
 rw [hG]at HPU |-
 have HEN:=iH (encoded_any G hge)
 clear hk hks hG hge hg hp
 have HP0:Hid (PtW P w w #[.int .i64 X.kd,.slice sA X.sec.length sc,.int .i64 X.pr,.int .i64 X.st,.slice nA X.non.length nc,.int .i64 X.x,.int .i64 X.g,.int .i64 X.own,.int .i64 X.oth,.slice aA X.k1.length ac,.slice bA X.k2.length bc,.int .i64 X.ct]):=iH (PtW.start hr)
 have HK:=iH hK;have Gs0:=iH h1;have Gn0:=iH h2;have Ga0:=iH h3;have Gb0:=iH h4;have Gv0:=iH h5;have Ge0:=iH h6;have HL:=iH hl
 obtain⟨f0,f1,f2,f3,f4,f5,f6,f7,f8,f9,f10,f11,ff⟩:=jy hr
 clear hK hr h1 h2 h3 h4 h5 h6 hl
 go_enter Tryz.func91,Tryz.ntmps91
 go_wp2_with(first
  |(go_at_call 130;refine HPU.out.mono ?_;rintro e w1 ⟨B1,d1,rfl,hq,hx⟩;have HP1:=iH hq;have GX1:=iH hx;have Gs1:=iH (Gs0.out.grownP hq.2.1);have Gn1:=iH (Gn0.out.grownP hq.2.1);have Ga1:=iH (Ga0.out.grownP hq.2.1);have Gb1:=iH (Gb0.out.grownP hq.2.1);have Gv1:=iH (Gv0.out.grownP hq.2.1);have Ge1:=iH (Ge0.out.grownP hq.2.1);obtain⟨g0,g1,g2,g3,g4,g5,g6,g7,g8,g9,g10,g11,gf⟩:=jy hq.1;clear hq hx f0 f1 f2 f3 f4 f5 f6 f7 f8 f9 f10 f11 ff)
  |(go_at_call 129;refine(HEN.out w1).mono ?_;rintro e w3 ⟨A3,c3,rfl,hs,hb⟩;have GE3:=iH (hs.madeB HP1.out.lt);have HP3:=iH (HP1.out.call hb);have Gs3:=iH (Gs1.out.onB hb);have Gn3:=iH (Gn1.out.onB hb);have Ga3:=iH (Ga1.out.onB hb);have Gb3:=iH (Gb1.out.onB hb);have Gv3:=iH (Gv1.out.onB hb);have Ge3:=iH (Ge1.out.onB hb);have GX3:=iH (GX1.out.onB hb);clear hs hb))
 refine bodyPost_ret (v:=.tuple #[.int .i64 131,.slice A3 4 c3,.slice B1 32 d1,.int .i64 0]) (by simp [results,Tryz.results91,go_sem]) rfl ?_
 have hx:(sdW s).length=32:=ji _
 have x3:BsS w3 (jL P w3) (.slice B1 (sdW s).length d1) (sdW s):=by rw [hx];exact GX3.out
 exact⟨A3,c3,B1,d1,by rw [hx]<;>rfl,⟨_,_,_,_,_,_,_,_,HP3.out,Gs3.out,Gn3.out,Ga3.out,Gb3.out⟩,GE3.out,x3⟩
theorem termKey_dec(P:Nat)(X:Exg)(sA nA aA bA:Option Addr)(sc nc ac bc:Nat)(vA eA:Option Addr)(vc ec:Nat)(v s:List UInt8)(w:World)(hK:∀W,Below P w W->KD W)(hr:w.heap[P]?=some (.cells #[.int .i64 X.kd,.slice sA X.sec.length sc,.int .i64 X.pr,.int .i64 X.st,.slice nA X.non.length nc,.int .i64 X.x,.int .i64 X.g,.int .i64 X.own,.int .i64 X.oth,.slice aA X.k1.length ac,.slice bA X.k2.length bc,.int .i64 X.ct] 48 (0,0))) (h1:BsS w (jL P w) (.slice sA X.sec.length sc) X.sec) (h2:BsS w (jL P w) (.slice nA X.non.length nc) X.non) (h3:BsS w (jL P w) (.slice aA X.k1.length ac) X.k1) (h4:BsS w (jL P w) (.slice bA X.k2.length bc) X.k2) (h5:BsS w (jL P w) (.slice vA v.length vc) v) (h6:BsS w (jL P w) (.slice eA s.length ec) s) (hl:s.length<=140737488351232) (hp:X.pr=2) (er o:Int) (hd:jF v=(er,o)) (he:(er != 0)=true):
 Calls Tryz.prog 91 #[.pointer (some ⟨P,0,none⟩),.slice vA v.length vc,.slice eA s.length ec] w (StepE P w er):=by
 have HD:=iH (decode_any v _ _ w h5)
 rw [hd]at HD
 have t1:(X.pr==2)=true:=by simp [hp]
 clear hd hp
 have HP0:Hid (PtW P w w #[.int .i64 X.kd,.slice sA X.sec.length sc,.int .i64 X.pr,.int .i64 X.st,.slice nA X.non.length nc,.int .i64 X.x,.int .i64 X.g,.int .i64 X.own,.int .i64 X.oth,.slice aA X.k1.length ac,.slice bA X.k2.length bc,.int .i64 X.ct]):=iH (PtW.start hr)
 have HK:=iH hK;have Gs0:=iH h1;have Gn0:=iH h2;have Ga0:=iH h3;have Gb0:=iH h4;have Gv0:=iH h5;have Ge0:=iH h6;have HL:=iH hl
 obtain⟨f0,f1,f2,f3,f4,f5,f6,f7,f8,f9,f10,f11,ff⟩:=jy hr
 clear hK hr h1 h2 h3 h4 h5 h6 hl
 go_enter Tryz.func91,Tryz.ntmps91
 go_wp2_with(go_at_call 126;refine HD.out.mono ?_;rintro e w' ⟨rfl,hw'⟩;rw [hw'];clear hw' w')
 refine bodyPost_ret (v:=.tuple #[.int .i64 0,.slice none 0 0,.slice none 0 0,.int .i64 er]) (by simp [results,Tryz.results91,go_sem]) rfl ?_
 exact⟨rfl,_,_,_,_,_,_,_,_,_,_,_,_,HP0.out⟩
theorem termKey_gen(P:Nat)(X:Exg)(sA nA aA bA:Option Addr)(sc nc ac bc:Nat)(vA eA:Option Addr)(vc ec:Nat)(v s:List UInt8)(w:World)(hK:∀W,Below P w W->KD W)(hr:w.heap[P]?=some (.cells #[.int .i64 X.kd,.slice sA X.sec.length sc,.int .i64 X.pr,.int .i64 X.st,.slice nA X.non.length nc,.int .i64 X.x,.int .i64 X.g,.int .i64 X.own,.int .i64 X.oth,.slice aA X.k1.length ac,.slice bA X.k2.length bc,.int .i64 X.ct] 48 (0,0))) (h1:BsS w (jL P w) (.slice sA X.sec.length sc) X.sec) (h2:BsS w (jL P w) (.slice nA X.non.length nc) X.non) (h3:BsS w (jL P w) (.slice aA X.k1.length ac) X.k1) (h4:BsS w (jL P w) (.slice bA X.k2.length bc) X.k2) (h5:BsS w (jL P w) (.slice vA v.length vc) v) (h6:BsS w (jL P w) (.slice eA s.length ec) s) (hl:s.length<=140737488351232) (hp:X.pr=2) (o:Int) (hd:jF v=(0,o)) (er zgQ9:Int) (hg:qJ X.non X.x o=(er,zgQ9)) (he:(er != 0)=true):
 Calls Tryz.prog 91 #[.pointer (some ⟨P,0,none⟩),.slice vA v.length vc,.slice eA s.length ec] w (StepE P w er):=by
 have HD:=iH (decode_any v _ _ w h5)
 rw [hd]at HD
 have t1:(X.pr==2)=true:=by simp [hp]
 have HGE:=iH (fun(u:Value) (W:World) h=>zw X.non u X.x o W h)
 rw [hg]at HGE
 obtain⟨val,rfl⟩:∃l,l=v:=⟨_,rfl⟩
 clear hd hp hg
 have HP0:Hid (PtW P w w #[.int .i64 X.kd,.slice sA X.sec.length sc,.int .i64 X.pr,.int .i64 X.st,.slice nA X.non.length nc,.int .i64 X.x,.int .i64 X.g,.int .i64 X.own,.int .i64 X.oth,.slice aA X.k1.length ac,.slice bA X.k2.length bc,.int .i64 X.ct]):=iH (PtW.start hr)
 have HK:=iH hK;have Gs0:=iH h1;have Gn0:=iH h2;have Ga0:=iH h3;have Gb0:=iH h4;have Gv0:=iH h5;have Ge0:=iH h6;have HL:=iH hl
 obtain⟨f0,f1,f2,f3,f4,f5,f6,f7,f8,f9,f10,f11,ff⟩:=jy hr
 clear hK hr h1 h2 h3 h4 h5 h6 hl
 go_enter Tryz.func91,Tryz.ntmps91
 go_upto_region 5 with (go_at_call 126;refine HD.out.mono ?_;rintro e w' ⟨rfl,hw'⟩;rw [hw'];clear hw' w')
 have hjx:∀ {L:Nat->Bool} {i:Nat} {wz:World},i≠16->(∃u,PtW P w wz #[.int .i64 X.kd,.slice sA X.sec.length sc,.int .i64 X.pr,.int .i64 X.st,.slice nA X.non.length nc,.int .i64 X.x,u,.int .i64 X.own,.int .i64 X.oth,.slice aA X.k1.length ac,.slice bA X.k2.length bc,.int .i64 X.ct]/\(L 16=true->u=.int .i64 zgQ9))->∃u,PtW P w wz #[.int .i64 X.kd,.slice sA X.sec.length sc,.int .i64 X.pr,.int .i64 X.st,.slice nA X.non.length nc,.int .i64 X.x,u,.int .i64 X.own,.int .i64 X.oth,.slice aA X.k1.length ac,.slice bA X.k2.length bc,.int .i64 X.ct]/\(VP L i 16=true->u=.int .i64 zgQ9):=fun {L i wz} hi ⟨u,h1,h2⟩=>⟨u,h1,fun h=>h2 (by unfold VP at h;rwa [iF (fun e=>hi e.symm)]at h)⟩
 refine jg 17 [some 27,some 28,some 29,some 30,some 31,some 32,some 33,some 34,some 35,some 36,some 37,some 26,some 38,some 39,some 40,some 41,none] [[],[],[1],[1,2],[1,2,3],[],[5],[5,6],[5,6,7],[],[1,2,3,4,5,6,7,8,9],[1,2,3,4,5,6,7,8,9,10],[1,2,3,4,5,6,7,8,9,10,11],[1,2,3,4,5,6,7,8,9,10,11],[0,1,2,3,4,5,6,7,8,9,10,11,12],[0,1,2,3,4,5,6,7,8,9,10,11,12,14],[0,1,2,3,4,5,6,7,8,9,10,11,12,14,15]]
  (fun L _ w1=>∃u,PtW P w w1 #[.int .i64 X.kd,.slice sA X.sec.length sc,.int .i64 X.pr,.int .i64 X.st,.slice nA X.non.length nc,.int .i64 X.x,u,.int .i64 X.own,.int .i64 X.oth,.slice aA X.k1.length ac,.slice bA X.k2.length bc,.int .i64 X.ct]/\(L 16=true->u=.int .i64 zgQ9)) (fun w1 w2=>w1.grownBy w2 (some P))
  [fun v _=>v 0=.pointer (some ⟨P,0,none⟩),
   fun v _=>v 1=.pointer (some ⟨P,0,none⟩),
   fun v _=>v 2=.pointer (some ⟨P,0,none⟩),
   fun v _=>v 3=.pointer (some ⟨P,4,none⟩),
   fun v _=>v 4=.slice nA X.non.length nc,
   fun v _=>v 5=.pointer (some ⟨P,0,none⟩),
   fun v _=>v 6=.pointer (some ⟨P,0,none⟩),
   fun v _=>v 7=.pointer (some ⟨P,5,none⟩),
   fun v _=>v 8=.int .i64 X.x,
   fun v _=>v 9=.int .i64 o,
   fun v _=>v 10=.tuple #[.int .i64 zgQ9,.int .i64 er],
   fun v _=>v 11=.tuple #[.int .i64 zgQ9,.int .i64 er],
   fun v _=>v 12=.int .i64 zgQ9,
   fun v _=>v 13=.int .i64 er,
   fun v _=>v 14=.pointer (some ⟨P,0,none⟩),
   fun v _=>v 15=.pointer (some ⟨P,6,none⟩),
   fun v w1=>True]
  (by kernel_rfl) (by kernel_rfl) (fun _=>⟨_,HP0.out.drew,fun h=>by cases h⟩) ?st ?steps ?tail
 case st=>
  exact(.cons (fun _ _ _ _ _ _ h=>h) (.cons (fun _ _ _ _ _ _ h=>h) (.cons (fun _ _ _ _ _ _ h=>h) (.cons (fun _ _ _ _ _ _ h=>h) (.cons (fun _ _ _ _ _ _ h=>h) (.cons (fun _ _ _ _ _ _ h=>h) (.cons (fun _ _ _ _ _ _ h=>h) (.cons (fun _ _ _ _ _ _ h=>h) (.cons (fun _ _ _ _ _ _ h=>h) (.cons (fun _ _ _ _ _ _ h=>h) (.cons (fun _ _ _ _ _ _ h=>h) (.cons (fun _ _ _ _ _ _ h=>h) (.cons (fun _ _ _ _ _ _ h=>h) (.cons (fun _ _ _ _ _ _ h=>h) (.cons (fun _ _ _ _ _ _ h=>h) (.cons (fun _ _ _ _ _ _ h=>h) (.cons (fun _ _ _ _ _ _ h=>h) .nil)))))))))))))))))
 case steps=>
  simp only [List.take_succ_cons,List.take_zero]
  refine(.cons ?_ (.cons ?_ (.cons ?_ (.cons ?_ (.cons ?_ (.cons ?_ (.cons ?_ (.cons ?_ (.cons ?_ (.cons ?_ (.cons ?_ (.cons ?_ (.cons ?_ (.cons ?_ (.cons ?_ (.cons ?_ (.cons ?_ .nil)))))))))))))))))
  all_goals(intro L v w1 hJ hL hA hF K hK;simp only [ja,Act.put,Nat.zero_add,Nat.reduceAdd,List.setIfInBounds_toArray,List.set_cons_zero,List.set_cons_succ]at hK |-)
  ·have hJ2:=iH hJ
   go_simp
   exact hK _ _ (hjx (by decide) hJ2.out) (World.grownBy.refl _ _) rfl
  ·have hJ2:=iH hJ
   go_simp
   exact hK _ _ (hjx (by decide) hJ2.out) (World.grownBy.refl _ _) rfl
  ·have e1:v 1=.pointer (some ⟨P,0,none⟩):=hF 1 (hA 1 (by simp))
   simp only [e1]at hK
   have hJ2:=iH hJ
   go_simp
   exact hK _ _ (hjx (by decide) hJ2.out) (World.grownBy.refl _ _) rfl
  ·have e2:v 2=.pointer (some ⟨P,0,none⟩):=hF 2 (hA 2 (by simp))
   simp only [e2]at hK
   have hJ2:=iH hJ
   go_simp
   exact hK _ _ (hjx (by decide) hJ2.out) (World.grownBy.refl _ _) rfl
  ·have e3:v 3=.pointer (some ⟨P,4,none⟩):=hF 3 (hA 3 (by simp))
   simp only [e3]at hK
   have hJ2:=iH hJ
   obtain⟨u,hp,_⟩:=hJ
   obtain⟨q0,q1,q2,q3,q4,q5,q6,q7,q8,q9,q10,q11,qf⟩:=jy hp.1
   go_simp
   exact hK _ _ (hjx (by decide) hJ2.out) (World.grownBy.refl _ _) rfl
  ·have hJ2:=iH hJ
   go_simp
   exact hK _ _ (hjx (by decide) hJ2.out) (World.grownBy.refl _ _) rfl
  ·have e5:v 5=.pointer (some ⟨P,0,none⟩):=hF 5 (hA 5 (by simp))
   simp only [e5]at hK
   have hJ2:=iH hJ
   go_simp
   exact hK _ _ (hjx (by decide) hJ2.out) (World.grownBy.refl _ _) rfl
  ·have e6:v 6=.pointer (some ⟨P,0,none⟩):=hF 6 (hA 6 (by simp))
   simp only [e6]at hK
   have hJ2:=iH hJ
   go_simp
   exact hK _ _ (hjx (by decide) hJ2.out) (World.grownBy.refl _ _) rfl
  ·have e7:v 7=.pointer (some ⟨P,5,none⟩):=hF 7 (hA 7 (by simp))
   simp only [e7]at hK
   have hJ2:=iH hJ
   obtain⟨u,hp,_⟩:=hJ
   obtain⟨q0,q1,q2,q3,q4,q5,q6,q7,q8,q9,q10,q11,qf⟩:=jy hp.1
   go_simp
   exact hK _ _ (hjx (by decide) hJ2.out) (World.grownBy.refl _ _) rfl
  ·have hJ2:=iH hJ
   go_simp
   exact hK _ _ (hjx (by decide) hJ2.out) (World.grownBy.refl _ _) rfl
  ·have e4:v 4=.slice nA X.non.length nc:=hF 4 (hA 4 (by simp))
   have e8:v 8=.int .i64 X.x:=hF 8 (hA 8 (by simp))
   have e9:v 9=.int .i64 o:=hF 9 (hA 9 (by simp))
   simp only [e4,e8,e9]at hK
   simp only [e4,e8,e9]
   go_simp
   refine(HGE.out _ w1 (Gn0.out.grownP (by obtain⟨u,hp,_⟩:=hJ;exact hp.2.1)).loB).mono ?_
   rintro e wk ⟨rfl,hwk⟩
   subst hwk
   exact hK _ _ (hjx (by decide) hJ) (World.grownBy.refl _ _) rfl
  ·have e10:v 10=.tuple #[.int .i64 zgQ9,.int .i64 er]:=hF 10 (hA 10 (by simp))
   simp only [e10]at hK
   have hJ2:=iH hJ
   go_simp
   exact hK _ _ (hjx (by decide) hJ2.out) (World.grownBy.refl _ _) rfl
  ·have e11:v 11=.tuple #[.int .i64 zgQ9,.int .i64 er]:=hF 11 (hA 11 (by simp))
   simp only [e11]at hK
   have hJ2:=iH hJ
   go_simp
   exact hK _ _ (hjx (by decide) hJ2.out) (World.grownBy.refl _ _) rfl
  ·have e11:v 11=.tuple #[.int .i64 zgQ9,.int .i64 er]:=hF 11 (hA 11 (by simp))
   simp only [e11]at hK
   have hJ2:=iH hJ
   go_simp
   exact hK _ _ (hjx (by decide) hJ2.out) (World.grownBy.refl _ _) rfl
  ·have e0:v 0=.pointer (some ⟨P,0,none⟩):=hF 0 (hA 0 (by simp))
   simp only [e0]at hK
   have hJ2:=iH hJ
   go_simp
   exact hK _ _ (hjx (by decide) hJ2.out) (World.grownBy.refl _ _) rfl
  ·have e14:v 14=.pointer (some ⟨P,0,none⟩):=hF 14 (hA 14 (by simp))
   simp only [e14]at hK
   have hJ2:=iH hJ
   go_simp
   exact hK _ _ (hjx (by decide) hJ2.out) (World.grownBy.refl _ _) rfl
  ·have e15:v 15=.pointer (some ⟨P,6,none⟩):=hF 15 (hA 15 (by simp))
   have e12:v 12=.int .i64 zgQ9:=hF 12 (hA 12 (by simp))
   simp only [e15,e12]at hK
   have e12:v 12=.int .i64 zgQ9:=hF 12 (hA 12 (by simp))
   have e15:v 15=.pointer (some ⟨P,6,none⟩):=hF 15 (hA 15 (by simp))
   simp only [e12,e15]
   obtain⟨u,hp,_⟩:=hJ
   obtain⟨q0,q1,q2,q3,q4,q5,q6,q7,q8,q9,q10,q11,qf⟩:=jy hp.1
   have qxQ9:=qf 6
   have HPQ:=iH hp
   clear hp qf
   go_simp
   exact hK undef _ ⟨_,HPQ.out.set 6 _,fun _=>rfl⟩ ((PtW.start HPQ.out.1).set 6 _).2.1 trivial
 case tail=>
  intro v w1 hJ hF
  have e0:v 0=.pointer (some ⟨P,0,none⟩):=hF 0 (by simp)
  have e1:v 1=.pointer (some ⟨P,0,none⟩):=hF 1 (by simp)
  have e2:v 2=.pointer (some ⟨P,0,none⟩):=hF 2 (by simp)
  have e3:v 3=.pointer (some ⟨P,4,none⟩):=hF 3 (by simp)
  have e4:v 4=.slice nA X.non.length nc:=hF 4 (by simp)
  have e5:v 5=.pointer (some ⟨P,0,none⟩):=hF 5 (by simp)
  have e6:v 6=.pointer (some ⟨P,0,none⟩):=hF 6 (by simp)
  have e7:v 7=.pointer (some ⟨P,5,none⟩):=hF 7 (by simp)
  have e8:v 8=.int .i64 X.x:=hF 8 (by simp)
  have e9:v 9=.int .i64 o:=hF 9 (by simp)
  have e10:v 10=.tuple #[.int .i64 zgQ9,.int .i64 er]:=hF 10 (by simp)
  have e11:v 11=.tuple #[.int .i64 zgQ9,.int .i64 er]:=hF 11 (by simp)
  have e12:v 12=.int .i64 zgQ9:=hF 12 (by simp)
  have e13:v 13=.int .i64 er:=hF 13 (by simp)
  have e14:v 14=.pointer (some ⟨P,0,none⟩):=hF 14 (by simp)
  have e15:v 15=.pointer (some ⟨P,6,none⟩):=hF 15 (by simp)
  simp only [List.drop_succ_cons,List.drop_zero,ja,Act.put,Nat.zero_add,Nat.reduceAdd,List.setIfInBounds_toArray,List.set_cons_zero,List.set_cons_succ]
  simp only [e13]
  obtain⟨u,hp,hu⟩:=hJ
  obtain rfl:=hu rfl
  have HP3:=iH hp;have Gs3:=iH (Gs0.out.grownP hp.2.1);have Gn3:=iH (Gn0.out.grownP hp.2.1);have Ga3:=iH (Ga0.out.grownP hp.2.1);have Gb3:=iH (Gb0.out.grownP hp.2.1);have Gv3:=iH (Gv0.out.grownP hp.2.1);have Ge3:=iH (Ge0.out.grownP hp.2.1)
  obtain⟨g0,g1,g2,g3,g4,g5,g6,g7,g8,g9,g10,g11,gf⟩:=jy hp.1
  clear hF hp hu e13 f0 f1 f2 f3 f4 f5 f6 f7 f8 f9 f10 f11 ff
  go_wp2_with fail
  refine bodyPost_ret (v:=.tuple #[.int .i64 0,.slice none 0 0,.slice none 0 0,.int .i64 er]) (by simp [results,Tryz.results91,go_sem]) rfl ?_
  exact⟨rfl,_,_,_,_,_,_,_,_,_,_,_,_,HP3.out⟩
theorem termKey_any(P:Nat)(X:Exg)(sA nA aA bA:Option Addr)(sc nc ac bc:Nat)(vA eA:Option Addr)(vc ec:Nat)(v s:List UInt8)(w:World)(hK:∀W,Below P w W->KD W)(hr:w.heap[P]?=some (.cells #[.int .i64 X.kd,.slice sA X.sec.length sc,.int .i64 X.pr,.int .i64 X.st,.slice nA X.non.length nc,.int .i64 X.x,.int .i64 X.g,.int .i64 X.own,.int .i64 X.oth,.slice aA X.k1.length ac,.slice bA X.k2.length bc,.int .i64 X.ct] 48 (0,0))) (h1:BsS w (jL P w) (.slice sA X.sec.length sc) X.sec) (h2:BsS w (jL P w) (.slice nA X.non.length nc) X.non) (h3:BsS w (jL P w) (.slice aA X.k1.length ac) X.k1) (h4:BsS w (jL P w) (.slice bA X.k2.length bc) X.k2) (h5:BsS w (jL P w) (.slice vA v.length vc) v) (h6:BsS w (jL P w) (.slice eA s.length ec) s) (hl:s.length<=140737488351232) (hp:X.pr=2) (o:Int) (hd:jF v=(0,o)) (gi:Int) (hg:qJ X.non X.x o=(0,gi)) (hge:jx gi=true):
 Calls Tryz.prog 91 #[.pointer (some ⟨P,0,none⟩),.slice vA v.length vc,.slice eA s.length ec] w (Vg P w 131 {X with g:=gi,x:=XS s,own:=zZ gi (XS s)} (kg (zZ gi (XS s))) (sdW s)):=by
 have HD:=iH (decode_any v _ _ w h5)
 rw [hd]at HD
 have t1:(X.pr==2)=true:=by simp [hp]
 have HGE:=iH (fun(u:Value) (W:World) h=>zw X.non u X.x o W h)
 rw [hg]at HGE
 obtain⟨Y,hY⟩:∃Y:Exg,Y= {X with g:=gi}:=⟨_,rfl⟩
 have hYg:Y.g=gi:=by rw [hY]
 have hye:jx Y.g=true:=by rw [hYg];exact hge
 have HPU:=iH (fun(W:World) k h hs=>public_any P Y sA nA aA bA sc nc ac bc W k h eA ec s hs hl hye)
 rw [hYg]at HPU
 clear hye hYg
 have hks:=scr_ok s
 obtain⟨ks,hk⟩:∃ks,XS s=ks:=⟨_,rfl⟩
 rw [hk]at HPU hks |-
 obtain⟨G,hG⟩:∃G,zZ gi ks=G:=⟨_,rfl⟩
 have hge2:jx G=true:=by rw [<-hG];exact xe gi ks hge hks
 rw [hG]at HPU |-
 simp only [hY]at HPU
 clear hY
 have HEN:=iH (encoded_any G hge2)
 obtain⟨val,rfl⟩:∃l,l=v:=⟨_,rfl⟩
 clear hd hp hg hk hks hG hge hge2
 have HP0:Hid (PtW P w w #[.int .i64 X.kd,.slice sA X.sec.length sc,.int .i64 X.pr,.int .i64 X.st,.slice nA X.non.length nc,.int .i64 X.x,.int .i64 X.g,.int .i64 X.own,.int .i64 X.oth,.slice aA X.k1.length ac,.slice bA X.k2.length bc,.int .i64 X.ct]):=iH (PtW.start hr)
 have HK:=iH hK;have Gs0:=iH h1;have Gn0:=iH h2;have Ga0:=iH h3;have Gb0:=iH h4;have Gv0:=iH h5;have Ge0:=iH h6;have HL:=iH hl
 obtain⟨f0,f1,f2,f3,f4,f5,f6,f7,f8,f9,f10,f11,ff⟩:=jy hr
 clear hK hr h1 h2 h3 h4 h5 h6 hl
 go_enter Tryz.func91,Tryz.ntmps91
 go_upto_region 5 with (go_at_call 126;refine HD.out.mono ?_;rintro e w' ⟨rfl,hw'⟩;rw [hw'];clear hw' w')
 have hjx:∀ {L:Nat->Bool} {i:Nat} {wz:World},i≠16->(∃u,PtW P w wz #[.int .i64 X.kd,.slice sA X.sec.length sc,.int .i64 X.pr,.int .i64 X.st,.slice nA X.non.length nc,.int .i64 X.x,u,.int .i64 X.own,.int .i64 X.oth,.slice aA X.k1.length ac,.slice bA X.k2.length bc,.int .i64 X.ct]/\(L 16=true->u=.int .i64 gi))->∃u,PtW P w wz #[.int .i64 X.kd,.slice sA X.sec.length sc,.int .i64 X.pr,.int .i64 X.st,.slice nA X.non.length nc,.int .i64 X.x,u,.int .i64 X.own,.int .i64 X.oth,.slice aA X.k1.length ac,.slice bA X.k2.length bc,.int .i64 X.ct]/\(VP L i 16=true->u=.int .i64 gi):=fun {L i wz} hi ⟨u,h1,h2⟩=>⟨u,h1,fun h=>h2 (by unfold VP at h;rwa [iF (fun e=>hi e.symm)]at h)⟩
 refine jg 17 [some 27,some 28,some 29,some 30,some 31,some 32,some 33,some 34,some 35,some 36,some 37,some 26,some 38,some 39,some 40,some 41,none] [[],[],[1],[1,2],[1,2,3],[],[5],[5,6],[5,6,7],[],[1,2,3,4,5,6,7,8,9],[1,2,3,4,5,6,7,8,9,10],[1,2,3,4,5,6,7,8,9,10,11],[1,2,3,4,5,6,7,8,9,10,11],[0,1,2,3,4,5,6,7,8,9,10,11,12],[0,1,2,3,4,5,6,7,8,9,10,11,12,14],[0,1,2,3,4,5,6,7,8,9,10,11,12,14,15]]
  (fun L _ w1=>∃u,PtW P w w1 #[.int .i64 X.kd,.slice sA X.sec.length sc,.int .i64 X.pr,.int .i64 X.st,.slice nA X.non.length nc,.int .i64 X.x,u,.int .i64 X.own,.int .i64 X.oth,.slice aA X.k1.length ac,.slice bA X.k2.length bc,.int .i64 X.ct]/\(L 16=true->u=.int .i64 gi)) (fun w1 w2=>w1.grownBy w2 (some P))
  [fun v _=>v 0=.pointer (some ⟨P,0,none⟩),
   fun v _=>v 1=.pointer (some ⟨P,0,none⟩),
   fun v _=>v 2=.pointer (some ⟨P,0,none⟩),
   fun v _=>v 3=.pointer (some ⟨P,4,none⟩),
   fun v _=>v 4=.slice nA X.non.length nc,
   fun v _=>v 5=.pointer (some ⟨P,0,none⟩),
   fun v _=>v 6=.pointer (some ⟨P,0,none⟩),
   fun v _=>v 7=.pointer (some ⟨P,5,none⟩),
   fun v _=>v 8=.int .i64 X.x,
   fun v _=>v 9=.int .i64 o,
   fun v _=>v 10=.tuple #[.int .i64 gi,.int .i64 0],
   fun v _=>v 11=.tuple #[.int .i64 gi,.int .i64 0],
   fun v _=>v 12=.int .i64 gi,
   fun v _=>v 13=.int .i64 0,
   fun v _=>v 14=.pointer (some ⟨P,0,none⟩),
   fun v _=>v 15=.pointer (some ⟨P,6,none⟩),
   fun v w1=>True]
  (by kernel_rfl) (by kernel_rfl) (fun _=>⟨_,HP0.out.drew,fun h=>by cases h⟩) ?st ?steps ?tail
 case st=>
  exact(.cons (fun _ _ _ _ _ _ h=>h) (.cons (fun _ _ _ _ _ _ h=>h) (.cons (fun _ _ _ _ _ _ h=>h) (.cons (fun _ _ _ _ _ _ h=>h) (.cons (fun _ _ _ _ _ _ h=>h) (.cons (fun _ _ _ _ _ _ h=>h) (.cons (fun _ _ _ _ _ _ h=>h) (.cons (fun _ _ _ _ _ _ h=>h) (.cons (fun _ _ _ _ _ _ h=>h) (.cons (fun _ _ _ _ _ _ h=>h) (.cons (fun _ _ _ _ _ _ h=>h) (.cons (fun _ _ _ _ _ _ h=>h) (.cons (fun _ _ _ _ _ _ h=>h) (.cons (fun _ _ _ _ _ _ h=>h) (.cons (fun _ _ _ _ _ _ h=>h) (.cons (fun _ _ _ _ _ _ h=>h) (.cons (fun _ _ _ _ _ _ h=>h) .nil)))))))))))))))))
 case steps=>
  simp only [List.take_succ_cons,List.take_zero]
  refine(.cons ?_ (.cons ?_ (.cons ?_ (.cons ?_ (.cons ?_ (.cons ?_ (.cons ?_ (.cons ?_ (.cons ?_ (.cons ?_ (.cons ?_ (.cons ?_ (.cons ?_ (.cons ?_ (.cons ?_ (.cons ?_ (.cons ?_ .nil)))))))))))))))))
  all_goals(intro L v w1 hJ hL hA hF K hK;simp only [ja,Act.put,Nat.zero_add,Nat.reduceAdd,List.setIfInBounds_toArray,List.set_cons_zero,List.set_cons_succ]at hK |-)
  ·have hJ2:=iH hJ
   go_simp
   exact hK _ _ (hjx (by decide) hJ2.out) (World.grownBy.refl _ _) rfl
  ·have hJ2:=iH hJ
   go_simp
   exact hK _ _ (hjx (by decide) hJ2.out) (World.grownBy.refl _ _) rfl
  ·have e1:v 1=.pointer (some ⟨P,0,none⟩):=hF 1 (hA 1 (by simp))
   simp only [e1]at hK
   have hJ2:=iH hJ
   go_simp
   exact hK _ _ (hjx (by decide) hJ2.out) (World.grownBy.refl _ _) rfl
  ·have e2:v 2=.pointer (some ⟨P,0,none⟩):=hF 2 (hA 2 (by simp))
   simp only [e2]at hK
   have hJ2:=iH hJ
   go_simp
   exact hK _ _ (hjx (by decide) hJ2.out) (World.grownBy.refl _ _) rfl
  ·have e3:v 3=.pointer (some ⟨P,4,none⟩):=hF 3 (hA 3 (by simp))
   simp only [e3]at hK
   have hJ2:=iH hJ
   obtain⟨u,hp,_⟩:=hJ
   obtain⟨q0,q1,q2,q3,q4,q5,q6,q7,q8,q9,q10,q11,qf⟩:=jy hp.1
   go_simp
   exact hK _ _ (hjx (by decide) hJ2.out) (World.grownBy.refl _ _) rfl
  ·have hJ2:=iH hJ
   go_simp
   exact hK _ _ (hjx (by decide) hJ2.out) (World.grownBy.refl _ _) rfl
  ·have e5:v 5=.pointer (some ⟨P,0,none⟩):=hF 5 (hA 5 (by simp))
   simp only [e5]at hK
   have hJ2:=iH hJ
   go_simp
   exact hK _ _ (hjx (by decide) hJ2.out) (World.grownBy.refl _ _) rfl
  ·have e6:v 6=.pointer (some ⟨P,0,none⟩):=hF 6 (hA 6 (by simp))
   simp only [e6]at hK
   have hJ2:=iH hJ
   go_simp
   exact hK _ _ (hjx (by decide) hJ2.out) (World.grownBy.refl _ _) rfl
  ·have e7:v 7=.pointer (some ⟨P,5,none⟩):=hF 7 (hA 7 (by simp))
   simp only [e7]at hK
   have hJ2:=iH hJ
   obtain⟨u,hp,_⟩:=hJ
   obtain⟨q0,q1,q2,q3,q4,q5,q6,q7,q8,q9,q10,q11,qf⟩:=jy hp.1
   go_simp
   exact hK _ _ (hjx (by decide) hJ2.out) (World.grownBy.refl _ _) rfl
  ·have hJ2:=iH hJ
   go_simp
   exact hK _ _ (hjx (by decide) hJ2.out) (World.grownBy.refl _ _) rfl
  ·have e4:v 4=.slice nA X.non.length nc:=hF 4 (hA 4 (by simp))
   have e8:v 8=.int .i64 X.x:=hF 8 (hA 8 (by simp))
   have e9:v 9=.int .i64 o:=hF 9 (hA 9 (by simp))
   simp only [e4,e8,e9]at hK
   simp only [e4,e8,e9]
   go_simp
   refine(HGE.out _ w1 (Gn0.out.grownP (by obtain⟨u,hp,_⟩:=hJ;exact hp.2.1)).loB).mono ?_
   rintro e wk ⟨rfl,hwk⟩
   subst hwk
   exact hK _ _ (hjx (by decide) hJ) (World.grownBy.refl _ _) rfl
  ·have e10:v 10=.tuple #[.int .i64 gi,.int .i64 0]:=hF 10 (hA 10 (by simp))
   simp only [e10]at hK
   have hJ2:=iH hJ
   go_simp
   exact hK _ _ (hjx (by decide) hJ2.out) (World.grownBy.refl _ _) rfl
  ·have e11:v 11=.tuple #[.int .i64 gi,.int .i64 0]:=hF 11 (hA 11 (by simp))
   simp only [e11]at hK
   have hJ2:=iH hJ
   go_simp
   exact hK _ _ (hjx (by decide) hJ2.out) (World.grownBy.refl _ _) rfl
  ·have e11:v 11=.tuple #[.int .i64 gi,.int .i64 0]:=hF 11 (hA 11 (by simp))
   simp only [e11]at hK
   have hJ2:=iH hJ
   go_simp
   exact hK _ _ (hjx (by decide) hJ2.out) (World.grownBy.refl _ _) rfl
  ·have e0:v 0=.pointer (some ⟨P,0,none⟩):=hF 0 (hA 0 (by simp))
   simp only [e0]at hK
   have hJ2:=iH hJ
   go_simp
   exact hK _ _ (hjx (by decide) hJ2.out) (World.grownBy.refl _ _) rfl
  ·have e14:v 14=.pointer (some ⟨P,0,none⟩):=hF 14 (hA 14 (by simp))
   simp only [e14]at hK
   have hJ2:=iH hJ
   go_simp
   exact hK _ _ (hjx (by decide) hJ2.out) (World.grownBy.refl _ _) rfl
  ·have e15:v 15=.pointer (some ⟨P,6,none⟩):=hF 15 (hA 15 (by simp))
   have e12:v 12=.int .i64 gi:=hF 12 (hA 12 (by simp))
   simp only [e15,e12]at hK
   have e12:v 12=.int .i64 gi:=hF 12 (hA 12 (by simp))
   have e15:v 15=.pointer (some ⟨P,6,none⟩):=hF 15 (hA 15 (by simp))
   simp only [e12,e15]
   obtain⟨u,hp,_⟩:=hJ
   obtain⟨q0,q1,q2,q3,q4,q5,q6,q7,q8,q9,q10,q11,qf⟩:=jy hp.1
   have qxQ9:=qf 6
   have HPQ:=iH hp
   clear hp qf
   go_simp
   exact hK undef _ ⟨_,HPQ.out.set 6 _,fun _=>rfl⟩ ((PtW.start HPQ.out.1).set 6 _).2.1 trivial
 case tail=>
  intro v w1 hJ hF
  have e0:v 0=.pointer (some ⟨P,0,none⟩):=hF 0 (by simp)
  have e1:v 1=.pointer (some ⟨P,0,none⟩):=hF 1 (by simp)
  have e2:v 2=.pointer (some ⟨P,0,none⟩):=hF 2 (by simp)
  have e3:v 3=.pointer (some ⟨P,4,none⟩):=hF 3 (by simp)
  have e4:v 4=.slice nA X.non.length nc:=hF 4 (by simp)
  have e5:v 5=.pointer (some ⟨P,0,none⟩):=hF 5 (by simp)
  have e6:v 6=.pointer (some ⟨P,0,none⟩):=hF 6 (by simp)
  have e7:v 7=.pointer (some ⟨P,5,none⟩):=hF 7 (by simp)
  have e8:v 8=.int .i64 X.x:=hF 8 (by simp)
  have e9:v 9=.int .i64 o:=hF 9 (by simp)
  have e10:v 10=.tuple #[.int .i64 gi,.int .i64 0]:=hF 10 (by simp)
  have e11:v 11=.tuple #[.int .i64 gi,.int .i64 0]:=hF 11 (by simp)
  have e12:v 12=.int .i64 gi:=hF 12 (by simp)
  have e13:v 13=.int .i64 0:=hF 13 (by simp)
  have e14:v 14=.pointer (some ⟨P,0,none⟩):=hF 14 (by simp)
  have e15:v 15=.pointer (some ⟨P,6,none⟩):=hF 15 (by simp)
  simp only [List.drop_succ_cons,List.drop_zero,ja,Act.put,Nat.zero_add,Nat.reduceAdd,List.setIfInBounds_toArray,List.set_cons_zero,List.set_cons_succ]
  simp only [e13]
  obtain⟨u,hp,hu⟩:=hJ
  obtain rfl:=hu rfl
  have HP3:=iH hp;have Gs3:=iH (Gs0.out.grownP hp.2.1);have Gn3:=iH (Gn0.out.grownP hp.2.1);have Ga3:=iH (Ga0.out.grownP hp.2.1);have Gb3:=iH (Gb0.out.grownP hp.2.1);have Gv3:=iH (Gv0.out.grownP hp.2.1);have Ge3:=iH (Ge0.out.grownP hp.2.1)
  obtain⟨g0,g1,g2,g3,g4,g5,g6,g7,g8,g9,g10,g11,gf⟩:=jy hp.1
  clear hF hp hu e13 f0 f1 f2 f3 f4 f5 f6 f7 f8 f9 f10 f11 ff
  obtain⟨wm,rfl⟩:∃z:World,z=w1:=⟨_,rfl⟩
  go_wp2_with(first
   |(go_at_call 130;refine(HPU.out wm (fun W h=>HK.out W (HP3.out.2.2.trans h)) HP3.out.1 Ge3.out).mono ?_;rintro e w5 ⟨B1,d1,rfl,hq,hx⟩;have hq:PtW P wm w5 #[.int .i64 X.kd,.slice sA X.sec.length sc,.int .i64 X.pr,.int .i64 X.st,.slice nA X.non.length nc,.int .i64 ks,.int .i64 gi,.int .i64 G,.int .i64 X.oth,.slice aA X.k1.length ac,.slice bA X.k2.length bc,.int .i64 X.ct]:=hq;have HP5:Hid (PtW P w w5 #[.int .i64 X.kd,.slice sA X.sec.length sc,.int .i64 X.pr,.int .i64 X.st,.slice nA X.non.length nc,.int .i64 ks,.int .i64 gi,.int .i64 G,.int .i64 X.oth,.slice aA X.k1.length ac,.slice bA X.k2.length bc,.int .i64 X.ct]):=iH (HP3.out.trans hq);have GX5:=iH hx;have Gs5:=iH (Gs3.out.grownP hq.2.1);have Gn5:=iH (Gn3.out.grownP hq.2.1);have Ga5:=iH (Ga3.out.grownP hq.2.1);have Gb5:=iH (Gb3.out.grownP hq.2.1);have Gv5:=iH (Gv3.out.grownP hq.2.1);have Ge5:=iH (Ge3.out.grownP hq.2.1);obtain⟨p0,p1,p2,p3,p4,p5,p6,p7,p8,p9,p10,p11,pf⟩:=jy hq.1;clear hq hx g0 g1 g2 g3 g4 g5 g6 g7 g8 g9 g10 g11 gf)
   |(go_at_call 129;refine(HEN.out w5).mono ?_;rintro e w6 ⟨A3,c3,rfl,hs,hb⟩;have GE6:=iH (hs.madeB HP5.out.lt);have HP6:=iH (HP5.out.call hb);have Gs6:=iH (Gs5.out.onB hb);have Gn6:=iH (Gn5.out.onB hb);have Ga6:=iH (Ga5.out.onB hb);have Gb6:=iH (Gb5.out.onB hb);have Gv6:=iH (Gv5.out.onB hb);have Ge6:=iH (Ge5.out.onB hb);have GX6:=iH (GX5.out.onB hb);clear hs hb))
  refine bodyPost_ret (v:=.tuple #[.int .i64 131,.slice A3 4 c3,.slice B1 32 d1,.int .i64 0]) (by simp [results,Tryz.results91,go_sem]) rfl ?_
  have hx:(sdW s).length=32:=ji _
  have x3:BsS w6 (jL P w6) (.slice B1 (sdW s).length d1) (sdW s):=by rw [hx];exact GX6.out
  exact⟨A3,c3,B1,d1,by rw [hx]<;>rfl,⟨_,_,_,_,_,_,_,_,HP6.out,Gs6.out,Gn6.out,Ga6.out,Gb6.out⟩,GE6.out,x3⟩
theorem chipMap_int(P:Nat)(X:Exg)(sA nA aA bA:Option Addr)(sc nc ac bc:Nat)(vA eA:Option Addr)(vc ec:Nat)(v s:List UInt8)(w:World)(hK:∀W,Below P w W->KD W)(hr:w.heap[P]?=some (.cells #[.int .i64 X.kd,.slice sA X.sec.length sc,.int .i64 X.pr,.int .i64 X.st,.slice nA X.non.length nc,.int .i64 X.x,.int .i64 X.g,.int .i64 X.own,.int .i64 X.oth,.slice aA X.k1.length ac,.slice bA X.k2.length bc,.int .i64 X.ct] 48 (0,0))) (h1:BsS w (jL P w) (.slice sA X.sec.length sc) X.sec) (h2:BsS w (jL P w) (.slice nA X.non.length nc) X.non) (h3:BsS w (jL P w) (.slice aA X.k1.length ac) X.k1) (h4:BsS w (jL P w) (.slice bA X.k2.length bc) X.k2) (h5:BsS w (jL P w) (.slice vA v.length vc) v) (h6:BsS w (jL P w) (.slice eA s.length ec) s) (hl:s.length<=140737488351232) (hp:X.pr=3) (gi:Int) (hi:yb X.non v=(0,gi)):
 Calls Tryz.prog 72 #[.pointer (some ⟨P,0,none⟩),.slice vA v.length vc,.slice eA s.length ec] w (Vg P w 130 {X with g:=gi} [] s):=by
 have HI:=iH (K0 X.non v _ _ w (hK w iB) h2.loB h5.loB)
 rw [hi]at HI
 have t1:(X.pr==3)=true:=by simp [hp]
 clear hi hp
 have HP0:Hid (PtW P w w #[.int .i64 X.kd,.slice sA X.sec.length sc,.int .i64 X.pr,.int .i64 X.st,.slice nA X.non.length nc,.int .i64 X.x,.int .i64 X.g,.int .i64 X.own,.int .i64 X.oth,.slice aA X.k1.length ac,.slice bA X.k2.length bc,.int .i64 X.ct]):=iH (PtW.start hr)
 have HK:=iH hK;have Gs0:=iH h1;have Gn0:=iH h2;have Ga0:=iH h3;have Gb0:=iH h4;have Gv0:=iH h5;have Ge0:=iH h6;have HL:=iH hl
 obtain⟨f0,f1,f2,f3,f4,f5,f6,f7,f8,f9,f10,f11,ff⟩:=jy hr
 clear hK hr h1 h2 h3 h4 h5 h6 hl
 go_enter Tryz.func72,Tryz.ntmps72
 go_upto_region 3 with (go_at_call 27;refine HI.out.mono ?_;rintro e w1 ⟨rfl,hb⟩;have Gs1:=iH (Gs0.out.onB hb);have Gn1:=iH (Gn0.out.onB hb);have Ga1:=iH (Ga0.out.onB hb);have Gb1:=iH (Gb0.out.onB hb);have Gv1:=iH (Gv0.out.onB hb);have Ge1:=iH (Ge0.out.onB hb);have hp:=HP0.out.call hb;have HP1:=iH hp;obtain⟨g0,g1,g2,g3,g4,g5,g6,g7,g8,g9,g10,g11,gf⟩:=jy hp.1;clear hp f0 f1 f2 f3 f4 f5 f6 f7 f8 f9 f10 f11 ff;have gx:=gf 6;clear hb gf)
 go_upto_region 4 with fail
 obtain⟨w2,hw⟩:∃z,z=w1.setCell ⟨P,6,none⟩ (.int .i64 gi):=⟨_,rfl⟩
 rw [<-hw]
 have hp:PtW P w w2 #[.int .i64 X.kd,.slice sA X.sec.length sc,.int .i64 X.pr,.int .i64 X.st,.slice nA X.non.length nc,.int .i64 X.x,.int .i64 gi,.int .i64 X.own,.int .i64 X.oth,.slice aA X.k1.length ac,.slice bA X.k2.length bc,.int .i64 X.ct]:=by rw [hw];exact HP1.out.set 6 _
 have Gs2:Hid (BsS w2 (jL P w2) _ _):=iH (by rw [hw];exact BsS.setP Gs1.out 6 _)
 have Gn2:Hid (BsS w2 (jL P w2) _ _):=iH (by rw [hw];exact BsS.setP Gn1.out 6 _)
 have Ga2:Hid (BsS w2 (jL P w2) _ _):=iH (by rw [hw];exact BsS.setP Ga1.out 6 _)
 have Gb2:Hid (BsS w2 (jL P w2) _ _):=iH (by rw [hw];exact BsS.setP Gb1.out 6 _)
 have Gv2:Hid (BsS w2 (jL P w2) _ _):=iH (by rw [hw];exact BsS.setP Gv1.out 6 _)
 have Ge2:Hid (BsS w2 (jL P w2) _ _):=iH (by rw [hw];exact BsS.setP Ge1.out 6 _)
 have HP2:=iH hp
 obtain⟨f0,f1,f2,f3,f4,f5,f6,f7,f8,f9,f10,f11,ff⟩:=jy hp.1
 clear hw hp g0 g1 g2 g3 g4 g5 g6 g7 g8 g9 g10 g11 gx
 go_wp2_with(go_at_call 67;refine(jr _ s w2 Ge2.out.loB).mono ?_;rintro e w3 ⟨v2,rfl,ho,hb⟩;obtain⟨cA,cc,hv2⟩:=OwnB.form ho;subst hv2;have HC:Hid (BsS w3 (jL P w3) (.slice cA s.length cc) s):=iH (BsS.madeB (OwnB.out ho (by have:=HL.out;omega) w2 iL) HP2.out.lt);have Gs3:=iH (Gs2.out.onB hb);have Gn3:=iH (Gn2.out.onB hb);have Ga3:=iH (Ga2.out.onB hb);have Gb3:=iH (Gb2.out.onB hb);have Gv3:=iH (Gv2.out.onB hb);have Ge3:=iH (Ge2.out.onB hb);have hp:=HP2.out.call hb;have HP3:=iH hp;obtain⟨g0,g1,g2,g3,g4,g5,g6,g7,g8,g9,g10,g11,gf⟩:=jy hp.1;clear hp f0 f1 f2 f3 f4 f5 f6 f7 f8 f9 f10 f11 ff;clear ho hb)
 refine bodyPost_ret (v:=.tuple #[.int .i64 130,.slice none 0 0,.slice cA s.length cc,.int .i64 0]) (by simp [results,Tryz.results72,go_sem]) rfl ?_
 exact⟨_,_,_,_,rfl,⟨_,_,_,_,_,_,_,_,HP3.out,Gs3.out,Gn3.out,Ga3.out,Gb3.out⟩,kh _ _,HC.out⟩
theorem chipMap_dec(P:Nat)(X:Exg)(sA nA aA bA:Option Addr)(sc nc ac bc:Nat)(vA eA:Option Addr)(vc ec:Nat)(v s:List UInt8)(w:World)(hK:∀W,Below P w W->KD W)(hr:w.heap[P]?=some (.cells #[.int .i64 X.kd,.slice sA X.sec.length sc,.int .i64 X.pr,.int .i64 X.st,.slice nA X.non.length nc,.int .i64 X.x,.int .i64 X.g,.int .i64 X.own,.int .i64 X.oth,.slice aA X.k1.length ac,.slice bA X.k2.length bc,.int .i64 X.ct] 48 (0,0))) (h1:BsS w (jL P w) (.slice sA X.sec.length sc) X.sec) (h2:BsS w (jL P w) (.slice nA X.non.length nc) X.non) (h3:BsS w (jL P w) (.slice aA X.k1.length ac) X.k1) (h4:BsS w (jL P w) (.slice bA X.k2.length bc) X.k2) (h5:BsS w (jL P w) (.slice vA v.length vc) v) (h6:BsS w (jL P w) (.slice eA s.length ec) s) (hl:s.length<=140737488351232) (hp:X.pr=2) (er o:Int) (hd:jF v=(er,o)) (he:(er != 0)=true):
 Calls Tryz.prog 72 #[.pointer (some ⟨P,0,none⟩),.slice vA v.length vc,.slice eA s.length ec] w (StepE P w er):=by
 have HD:=iH (decode_any v _ _ w h5)
 rw [hd]at HD
 have t1:(X.pr==3)=false:=by simp [hp]
 clear hd hp
 have HP0:Hid (PtW P w w #[.int .i64 X.kd,.slice sA X.sec.length sc,.int .i64 X.pr,.int .i64 X.st,.slice nA X.non.length nc,.int .i64 X.x,.int .i64 X.g,.int .i64 X.own,.int .i64 X.oth,.slice aA X.k1.length ac,.slice bA X.k2.length bc,.int .i64 X.ct]):=iH (PtW.start hr)
 have HK:=iH hK;have Gs0:=iH h1;have Gn0:=iH h2;have Ga0:=iH h3;have Gb0:=iH h4;have Gv0:=iH h5;have Ge0:=iH h6;have HL:=iH hl
 obtain⟨f0,f1,f2,f3,f4,f5,f6,f7,f8,f9,f10,f11,ff⟩:=jy hr
 clear hK hr h1 h2 h3 h4 h5 h6 hl
 go_enter Tryz.func72,Tryz.ntmps72
 go_wp2_with(go_at_call 126;refine HD.out.mono ?_;rintro e w' ⟨rfl,hw'⟩;rw [hw'];clear hw' w')
 refine bodyPost_ret (v:=.tuple #[.int .i64 0,.slice none 0 0,.slice none 0 0,.int .i64 er]) (by simp [results,Tryz.results72,go_sem]) rfl ?_
 exact⟨rfl,_,_,_,_,_,_,_,_,_,_,_,_,HP0.out⟩
theorem chipMap_gen(P:Nat)(X:Exg)(sA nA aA bA:Option Addr)(sc nc ac bc:Nat)(vA eA:Option Addr)(vc ec:Nat)(v s:List UInt8)(w:World)(hK:∀W,Below P w W->KD W)(hr:w.heap[P]?=some (.cells #[.int .i64 X.kd,.slice sA X.sec.length sc,.int .i64 X.pr,.int .i64 X.st,.slice nA X.non.length nc,.int .i64 X.x,.int .i64 X.g,.int .i64 X.own,.int .i64 X.oth,.slice aA X.k1.length ac,.slice bA X.k2.length bc,.int .i64 X.ct] 48 (0,0))) (h1:BsS w (jL P w) (.slice sA X.sec.length sc) X.sec) (h2:BsS w (jL P w) (.slice nA X.non.length nc) X.non) (h3:BsS w (jL P w) (.slice aA X.k1.length ac) X.k1) (h4:BsS w (jL P w) (.slice bA X.k2.length bc) X.k2) (h5:BsS w (jL P w) (.slice vA v.length vc) v) (h6:BsS w (jL P w) (.slice eA s.length ec) s) (hl:s.length<=140737488351232) (hp:X.pr=2) (o:Int) (hd:jF v=(0,o)) (er zgQ9:Int) (hg:qJ X.non (XS s) o=(er,zgQ9)) (he:(er != 0)=true):
 Calls Tryz.prog 72 #[.pointer (some ⟨P,0,none⟩),.slice vA v.length vc,.slice eA s.length ec] w (StepE P w er):=by
 have HD:=iH (decode_any v _ _ w h5)
 rw [hd]at HD
 have t1:(X.pr==3)=false:=by simp [hp]
 have HS:=iH (dsecret_any _ s w (hK w iB) h6.loB (by omega))
 unfold SecOut at HS
 have hks:=scr_ok s
 obtain⟨ks,hk⟩:∃ks,XS s=ks:=⟨_,rfl⟩
 rw [hk]at HS hks hg
 have HGE:=iH (fun(u:Value) (W:World) h=>zw X.non u ks o W h)
 rw [hg]at HGE
 clear hd hp hk hks hg
 have HP0:Hid (PtW P w w #[.int .i64 X.kd,.slice sA X.sec.length sc,.int .i64 X.pr,.int .i64 X.st,.slice nA X.non.length nc,.int .i64 X.x,.int .i64 X.g,.int .i64 X.own,.int .i64 X.oth,.slice aA X.k1.length ac,.slice bA X.k2.length bc,.int .i64 X.ct]):=iH (PtW.start hr)
 have HK:=iH hK;have Gs0:=iH h1;have Gn0:=iH h2;have Ga0:=iH h3;have Gb0:=iH h4;have Gv0:=iH h5;have Ge0:=iH h6;have HL:=iH hl
 obtain⟨f0,f1,f2,f3,f4,f5,f6,f7,f8,f9,f10,f11,ff⟩:=jy hr
 clear hK hr h1 h2 h3 h4 h5 h6 hl
 go_enter Tryz.func72,Tryz.ntmps72
 go_upto_region 10 with (first|(go_at_call 126;refine HD.out.mono ?_;rintro e w' ⟨rfl,hw'⟩;rw [hw'];clear hw' w')|(go_at_call 127;refine HS.out.mono ?_;rintro e w1 ⟨B1,d1,rfl,hbx,hb⟩;have GX1:=iH (hbx.madeB HP0.out.lt);have Gs1:=iH (Gs0.out.onB hb);have Gn1:=iH (Gn0.out.onB hb);have Ga1:=iH (Ga0.out.onB hb);have Gb1:=iH (Gb0.out.onB hb);have Gv1:=iH (Gv0.out.onB hb);have Ge1:=iH (Ge0.out.onB hb);have hp:=HP0.out.call hb;have HP1:=iH hp;obtain⟨g0,g1,g2,g3,g4,g5,g6,g7,g8,g9,g10,g11,gf⟩:=jy hp.1;clear hp f0 f1 f2 f3 f4 f5 f6 f7 f8 f9 f10 f11 ff;have gx:=gf 6;clear hb hbx gf)|(go_at_call 23;refine(HGE.out _ w1 Gn1.out.loB).mono ?_;rintro e w' ⟨rfl,hw'⟩;rw [hw'];clear hw' w'))
 obtain⟨w2,hw⟩:∃z,z=w1.setCell ⟨P,6,none⟩ (.int .i64 zgQ9):=⟨_,rfl⟩
 rw [<-hw]
 have hp:PtW P w w2 #[.int .i64 X.kd,.slice sA X.sec.length sc,.int .i64 X.pr,.int .i64 X.st,.slice nA X.non.length nc,.int .i64 X.x,.int .i64 zgQ9,.int .i64 X.own,.int .i64 X.oth,.slice aA X.k1.length ac,.slice bA X.k2.length bc,.int .i64 X.ct]:=by rw [hw];exact HP1.out.set 6 _
 have HP2:=iH hp
 obtain⟨f0,f1,f2,f3,f4,f5,f6,f7,f8,f9,f10,f11,ff⟩:=jy hp.1
 clear hw hp g0 g1 g2 g3 g4 g5 g6 g7 g8 g9 g10 g11 gx
 go_wp2_with fail
 refine bodyPost_ret (v:=.tuple #[.int .i64 0,.slice none 0 0,.slice none 0 0,.int .i64 er]) (by simp [results,Tryz.results72,go_sem]) rfl ?_
 exact⟨rfl,_,_,_,_,_,_,_,_,_,_,_,_,HP2.out⟩
theorem chipMap_any(P:Nat)(X:Exg)(sA nA aA bA:Option Addr)(sc nc ac bc:Nat)(vA eA:Option Addr)(vc ec:Nat)(v s:List UInt8)(w:World)(hK:∀W,Below P w W->KD W)(hr:w.heap[P]?=some (.cells #[.int .i64 X.kd,.slice sA X.sec.length sc,.int .i64 X.pr,.int .i64 X.st,.slice nA X.non.length nc,.int .i64 X.x,.int .i64 X.g,.int .i64 X.own,.int .i64 X.oth,.slice aA X.k1.length ac,.slice bA X.k2.length bc,.int .i64 X.ct] 48 (0,0))) (h1:BsS w (jL P w) (.slice sA X.sec.length sc) X.sec) (h2:BsS w (jL P w) (.slice nA X.non.length nc) X.non) (h3:BsS w (jL P w) (.slice aA X.k1.length ac) X.k1) (h4:BsS w (jL P w) (.slice bA X.k2.length bc) X.k2) (h5:BsS w (jL P w) (.slice vA v.length vc) v) (h6:BsS w (jL P w) (.slice eA s.length ec) s) (hl:s.length<=140737488351232) (hp:X.pr=2) (o:Int) (hd:jF v=(0,o)) (gi:Int) (hg:qJ X.non (XS s) o=(0,gi)):
 Calls Tryz.prog 72 #[.pointer (some ⟨P,0,none⟩),.slice vA v.length vc,.slice eA s.length ec] w (Vg P w 130 {X with g:=gi} (kg (zZ 4 (XS s))) (sdW s)):=by
 have HD:=iH (decode_any v _ _ w h5)
 rw [hd]at HD
 have t1:(X.pr==3)=false:=by simp [hp]
 have HS:=iH (dsecret_any _ s w (hK w iB) h6.loB (by omega))
 unfold SecOut at HS
 have hks:=scr_ok s
 obtain⟨ks,hk⟩:∃ks,XS s=ks:=⟨_,rfl⟩
 rw [hk]at HS hks hg |-
 have HGE:=iH (fun(u:Value) (W:World) h=>zw X.non u ks o W h)
 rw [hg]at HGE
 have HPB:=iH (gpublic_i ks hks)
 obtain⟨G,hG⟩:∃G,zZ 4 ks=G:=⟨_,rfl⟩
 have hge:jx G=true:=by rw [<-hG];exact xe 4 ks JV hks
 rw [hG]at HPB |-
 have HEN:=iH (encoded_any G hge)
 clear hG hge
 clear hd hp hk hks hg
 have HP0:Hid (PtW P w w #[.int .i64 X.kd,.slice sA X.sec.length sc,.int .i64 X.pr,.int .i64 X.st,.slice nA X.non.length nc,.int .i64 X.x,.int .i64 X.g,.int .i64 X.own,.int .i64 X.oth,.slice aA X.k1.length ac,.slice bA X.k2.length bc,.int .i64 X.ct]):=iH (PtW.start hr)
 have HK:=iH hK;have Gs0:=iH h1;have Gn0:=iH h2;have Ga0:=iH h3;have Gb0:=iH h4;have Gv0:=iH h5;have Ge0:=iH h6;have HL:=iH hl
 obtain⟨f0,f1,f2,f3,f4,f5,f6,f7,f8,f9,f10,f11,ff⟩:=jy hr
 clear hK hr h1 h2 h3 h4 h5 h6 hl
 go_enter Tryz.func72,Tryz.ntmps72
 go_upto_region 10 with (first|(go_at_call 126;refine HD.out.mono ?_;rintro e w' ⟨rfl,hw'⟩;rw [hw'];clear hw' w')|(go_at_call 127;refine HS.out.mono ?_;rintro e w1 ⟨B1,d1,rfl,hbx,hb⟩;have GX1:=iH (hbx.madeB HP0.out.lt);have Gs1:=iH (Gs0.out.onB hb);have Gn1:=iH (Gn0.out.onB hb);have Ga1:=iH (Ga0.out.onB hb);have Gb1:=iH (Gb0.out.onB hb);have Gv1:=iH (Gv0.out.onB hb);have Ge1:=iH (Ge0.out.onB hb);have hp:=HP0.out.call hb;have HP1:=iH hp;obtain⟨g0,g1,g2,g3,g4,g5,g6,g7,g8,g9,g10,g11,gf⟩:=jy hp.1;clear hp f0 f1 f2 f3 f4 f5 f6 f7 f8 f9 f10 f11 ff;have gx:=gf 6;clear hb hbx gf)|(go_at_call 23;refine(HGE.out _ w1 Gn1.out.loB).mono ?_;rintro e w' ⟨rfl,hw'⟩;rw [hw'];clear hw' w'))
 obtain⟨w2,hw⟩:∃z,z=w1.setCell ⟨P,6,none⟩ (.int .i64 gi):=⟨_,rfl⟩
 rw [<-hw]
 have hp:PtW P w w2 #[.int .i64 X.kd,.slice sA X.sec.length sc,.int .i64 X.pr,.int .i64 X.st,.slice nA X.non.length nc,.int .i64 X.x,.int .i64 gi,.int .i64 X.own,.int .i64 X.oth,.slice aA X.k1.length ac,.slice bA X.k2.length bc,.int .i64 X.ct]:=by rw [hw];exact HP1.out.set 6 _
 have Gs2:Hid (BsS w2 (jL P w2) _ _):=iH (by rw [hw];exact BsS.setP Gs1.out 6 _)
 have Gn2:Hid (BsS w2 (jL P w2) _ _):=iH (by rw [hw];exact BsS.setP Gn1.out 6 _)
 have Ga2:Hid (BsS w2 (jL P w2) _ _):=iH (by rw [hw];exact BsS.setP Ga1.out 6 _)
 have Gb2:Hid (BsS w2 (jL P w2) _ _):=iH (by rw [hw];exact BsS.setP Gb1.out 6 _)
 have Gv2:Hid (BsS w2 (jL P w2) _ _):=iH (by rw [hw];exact BsS.setP Gv1.out 6 _)
 have Ge2:Hid (BsS w2 (jL P w2) _ _):=iH (by rw [hw];exact BsS.setP Ge1.out 6 _)
 have GX2:Hid (BsS w2 (jL P w2) _ _):=iH (by rw [hw];exact BsS.setP GX1.out 6 _)
 have HP2:=iH hp
 obtain⟨f0,f1,f2,f3,f4,f5,f6,f7,f8,f9,f10,f11,ff⟩:=jy hp.1
 clear hw hp g0 g1 g2 g3 g4 g5 g6 g7 g8 g9 g10 g11 gx
 go_wp2_with(first
  |(go_at_call 128;refine(HPB.out _).mono ?_;rintro e w' ⟨rfl,hw'⟩;rw [hw'];clear hw' w')
  |(go_at_call 129;refine(HEN.out w2).mono ?_;rintro e w3 ⟨A3,c3,rfl,hs,hb⟩;have GE3:=iH (hs.madeB HP2.out.lt);have Gs3:=iH (Gs2.out.onB hb);have Gn3:=iH (Gn2.out.onB hb);have Ga3:=iH (Ga2.out.onB hb);have Gb3:=iH (Gb2.out.onB hb);have Gv3:=iH (Gv2.out.onB hb);have Ge3:=iH (Ge2.out.onB hb);have GX3:=iH (GX2.out.onB hb);have hp:=HP2.out.call hb;have HP3:=iH hp;obtain⟨g0,g1,g2,g3,g4,g5,g6,g7,g8,g9,g10,g11,gf⟩:=jy hp.1;clear hp f0 f1 f2 f3 f4 f5 f6 f7 f8 f9 f10 f11 ff;clear hs hb))
 refine bodyPost_ret (v:=.tuple #[.int .i64 130,.slice A3 4 c3,.slice B1 32 d1,.int .i64 0]) (by simp [results,Tryz.results72,go_sem]) rfl ?_
 have hx:(sdW s).length=32:=ji _
 have x3:BsS w3 (jL P w3) (.slice B1 (sdW s).length d1) (sdW s):=by rw [hx];exact GX3.out
 exact⟨A3,c3,B1,d1,by rw [hx]<;>rfl,⟨_,_,_,_,_,_,_,_,HP3.out,Gs3.out,Gn3.out,Ga3.out,Gb3.out⟩,GE3.out,x3⟩
theorem term_rep(X:Exg)(B s:List UInt8)(hst:0<=X.st/\X.st<=4)(hu:usT X=true)(hr:UI X B=none):US X B s=qk 1:=by
 unfold UI at hr
 unfold US
 rw [iF (by omega),iF (by rw [hu];simp)]
 split
 ·rename_i h0
  rw [iT h0]at hr
  split at hr
  ·cases hr
  ·rename_i hb;rw [iT hb]
 ·rename_i h0
  rw [iF h0]at hr
  rw [hr]
theorem term_state(X:Exg)(sA nA aA bA:Option Addr)(sc nc ac bc:Nat)(vA eA:Option Addr)(vc ec:Nat)(B s:List UInt8)(w:World)(hK:KD w)(h1:Bs w w.heap.size (.slice sA X.sec.length sc) X.sec)(h2:Bs w w.heap.size (.slice nA X.non.length nc) X.non)(h3:Bs w w.heap.size (.slice aA X.k1.length ac) X.k1)(h4:Bs w w.heap.size (.slice bA X.k2.length bc) X.k2)(h5:Bs w w.heap.size (.slice vA B.length vc) B)(h6:Bs w w.heap.size (.slice eA s.length ec) s)(ls:X.sec.length<=140737488351232)(ln:X.non.length<=140737488351232)(l1:X.k1.length<=140737488351232)(l2:X.k2.length<=140737488351232)(hl:s.length<=140737488351232)(hst:X.st<0\/4<X.st):Calls Tryz.prog 35 #[.agg #[.int .i64 X.kd,.slice sA X.sec.length sc,.int .i64 X.pr,.int .i64 X.st,.slice nA X.non.length nc,.int .i64 X.x,.int .i64 X.g,.int .i64 X.own,.int .i64 X.oth,.slice aA X.k1.length ac,.slice bA X.k2.length bc,.int .i64 X.ct],.slice vA B.length vc,.slice eA s.length ec] w (ExO (US X B s) w):=by
 have R:Hid (US X B s=qk 23):=iH (by unfold US;rw [iT hst])
 obtain⟨w0,hw0⟩:∃w0,w0=(w.alloc (.cells #[.int .i64 X.kd,.slice sA X.sec.length sc,.int .i64 X.pr,.int .i64 X.st,.slice nA X.non.length nc,.int .i64 X.x,.int .i64 X.g,.int .i64 X.own,.int .i64 X.oth,.slice aA X.k1.length ac,.slice bA X.k2.length bc,.int .i64 X.ct] 48)).alloc (.cells #[.int .i64 0,.slice none 0 0,.int .i64 0,.int .i64 0,.slice none 0 0,.int .i64 0,.int .i64 0,.int .i64 0,.int .i64 0,.slice none 0 0,.slice none 0 0,.int .i64 0] 48):=⟨_,rfl⟩
 have hb0:Below w.heap.size w w0:=by rw [hw0];exact(iA).alloc (by simp) _
 have hz0:w0.heap.size=w.heap.size+2:=by rw [hw0];simp
 have FR:Hid (∀W,Below w0.heap.size w0 W->W.heap[w.heap.size]?=some (.cells #[.int .i64 X.kd,.slice sA X.sec.length sc,.int .i64 X.pr,.int .i64 X.st,.slice nA X.non.length nc,.int .i64 X.x,.int .i64 X.g,.int .i64 X.own,.int .i64 X.oth,.slice aA X.k1.length ac,.slice bA X.k2.length bc,.int .i64 X.ct] 48 (0,0))):=iH (fun W h=>(h.block w.heap.size (by omega)).trans (by rw [hw0];exact(Below.heap_alloc _ _ _ (by simp)).trans (iN)))
 have FZ:Hid (∀W,Below w0.heap.size w0 W->W.heap[w.heap.size+1]?=some (.cells #[.int .i64 0,.slice none 0 0,.int .i64 0,.int .i64 0,.slice none 0 0,.int .i64 0,.int .i64 0,.int .i64 0,.int .i64 0,.slice none 0 0,.slice none 0 0,.int .i64 0] 48 (0,0))):=iH (fun W h=>(h.block (w.heap.size+1) (by omega)).trans (by rw [hw0];exact(show((w.alloc (.cells #[.int .i64 X.kd,.slice sA X.sec.length sc,.int .i64 X.pr,.int .i64 X.st,.slice nA X.non.length nc,.int .i64 X.x,.int .i64 X.g,.int .i64 X.own,.int .i64 X.oth,.slice aA X.k1.length ac,.slice bA X.k2.length bc,.int .i64 X.ct] 48)).alloc (.cells #[.int .i64 0,.slice none 0 0,.int .i64 0,.int .i64 0,.slice none 0 0,.int .i64 0,.int .i64 0,.int .i64 0,.int .i64 0,.slice none 0 0,.slice none 0 0,.int .i64 0] 48)).heap[w.heap.size+1]?=_ from by have:=heap_alloc_new (w.alloc (.cells #[.int .i64 X.kd,.slice sA X.sec.length sc,.int .i64 X.pr,.int .i64 X.st,.slice nA X.non.length nc,.int .i64 X.x,.int .i64 X.g,.int .i64 X.own,.int .i64 X.oth,.slice aA X.k1.length ac,.slice bA X.k2.length bc,.int .i64 X.ct] 48)) (.cells #[.int .i64 0,.slice none 0 0,.int .i64 0,.int .i64 0,.slice none 0 0,.int .i64 0,.int .i64 0,.int .i64 0,.int .i64 0,.slice none 0 0,.slice none 0 0,.int .i64 0] 48);simpa using this)))
 have HK:=iH hK
 have H1:=iH (h1.lift hb0);have H2:=iH (h2.lift hb0);have H3:=iH (h3.lift hb0);have H4:=iH (h4.lift hb0);have H5:=iH (h5.lift hb0);have H6:=iH (h6.lift hb0)
 have HLN:=iH (And.intro ls (And.intro ln (And.intro l1 l2)))
 have HW0:=iH hw0;have HB0:=iH hb0;have HSZ:=iH hz0;have HL:=iH hl
 obtain⟨f0,f1,f2,f3,f4,f5,f6,f7,f8,f9,f10,f11,ff⟩:=jy (FR.out w0 iB)
 obtain⟨z0,z1,z2,z3,z4,z5,z6,z7,z8,z9,z10,z11,zf⟩:=jy (FZ.out w0 iB)
 have zf0:=zf 0;have zf1:=zf 1;have zf2:=zf 2;have zf3:=zf 3;have zf4:=zf 4;have zf5:=zf 5;have zf6:=zf 6;have zf7:=zf 7;have zf8:=zf 8;have zf9:=zf 9;have zf10:=zf 10;have zf11:=zf 11
 clear hw0 hb0 hz0 hK h1 h2 h3 h4 h5 h6 ls ln l1 l2 hl zf ff
 rcases hst with hst|hst
 ·go_enter Tryz.func35,Tryz.ntmps35
  go_upto_region 1 with fail
  rw [<-HW0.out]
  go_wp2_with fail
  obtain⟨y0,y1,y2,y3,y4,y5,y6,y7,y8,y9,y10,y11,yf⟩:=jy ((PtW.start (FZ.out w0 iB)).set12 (.int .i64 0) (.slice none 0 0) (.int .i64 0) (.int .i64 0) (.slice none 0 0) (.int .i64 0) (.int .i64 0) (.int .i64 0) (.int .i64 0) (.slice none 0 0) (.slice none 0 0) (.int .i64 0)).1
  unfold Go.Proofs.YtalmmiojbmpmiaaGreatDoor.set12 at y0 y1 y2 y3 y4 y5 y6 y7 y8 y9 y10 y11
  refine bodyPost_ret (v:=.tuple #[.agg #[.int .i64 0,.slice none 0 0,.int .i64 0,.int .i64 0,.slice none 0 0,.int .i64 0,.int .i64 0,.int .i64 0,.int .i64 0,.slice none 0 0,.slice none 0 0,.int .i64 0],.slice none 0 0,.slice none 0 0,.int .i64 23]) (by simp [results,Tryz.results35,go_sem,y0,y1,y2,y3,y4,y5,y6,y7,y8,y9,y10,y11]) rfl ?_
  exact ExO.err R.out ((HB0.out.trans (iB.mono HB0.out.size)).trans (Below.mono (((PtW.start (FZ.out _ iB)).set12 (.int .i64 0) (.slice none 0 0) (.int .i64 0) (.int .i64 0) (.slice none 0 0) (.int .i64 0) (.int .i64 0) (.int .i64 0) (.int .i64 0) (.slice none 0 0) (.slice none 0 0) (.int .i64 0)).2.2) (Nat.le_succ _)))
 ·go_enter Tryz.func35,Tryz.ntmps35
  go_upto_region 1 with fail
  rw [<-HW0.out]
  go_wp2_with fail
  obtain⟨y0,y1,y2,y3,y4,y5,y6,y7,y8,y9,y10,y11,yf⟩:=jy ((PtW.start (FZ.out w0 iB)).set12 (.int .i64 0) (.slice none 0 0) (.int .i64 0) (.int .i64 0) (.slice none 0 0) (.int .i64 0) (.int .i64 0) (.int .i64 0) (.int .i64 0) (.slice none 0 0) (.slice none 0 0) (.int .i64 0)).1
  unfold Go.Proofs.YtalmmiojbmpmiaaGreatDoor.set12 at y0 y1 y2 y3 y4 y5 y6 y7 y8 y9 y10 y11
  refine bodyPost_ret (v:=.tuple #[.agg #[.int .i64 0,.slice none 0 0,.int .i64 0,.int .i64 0,.slice none 0 0,.int .i64 0,.int .i64 0,.int .i64 0,.int .i64 0,.slice none 0 0,.slice none 0 0,.int .i64 0],.slice none 0 0,.slice none 0 0,.int .i64 23]) (by simp [results,Tryz.results35,go_sem,y0,y1,y2,y3,y4,y5,y6,y7,y8,y9,y10,y11]) rfl ?_
  exact ExO.err R.out ((HB0.out.trans (iB.mono HB0.out.size)).trans (Below.mono (((PtW.start (FZ.out _ iB)).set12 (.int .i64 0) (.slice none 0 0) (.int .i64 0) (.int .i64 0) (.slice none 0 0) (.int .i64 0) (.int .i64 0) (.int .i64 0) (.int .i64 0) (.slice none 0 0) (.slice none 0 0) (.int .i64 0)).2.2) (Nat.le_succ _)))
theorem term_invalid(X:Exg)(sA nA aA bA:Option Addr)(sc nc ac bc:Nat)(vA eA:Option Addr)(vc ec:Nat)(B s:List UInt8)(w:World)(hK:KD w)(h1:Bs w w.heap.size (.slice sA X.sec.length sc) X.sec)(h2:Bs w w.heap.size (.slice nA X.non.length nc) X.non)(h3:Bs w w.heap.size (.slice aA X.k1.length ac) X.k1)(h4:Bs w w.heap.size (.slice bA X.k2.length bc) X.k2)(h5:Bs w w.heap.size (.slice vA B.length vc) B)(h6:Bs w w.heap.size (.slice eA s.length ec) s)(ls:X.sec.length<=140737488351232)(ln:X.non.length<=140737488351232)(l1:X.k1.length<=140737488351232)(l2:X.k2.length<=140737488351232)(hl:s.length<=140737488351232)(hst:0<=X.st/\X.st<=4)(hus:usT X=false):Calls Tryz.prog 35 #[.agg #[.int .i64 X.kd,.slice sA X.sec.length sc,.int .i64 X.pr,.int .i64 X.st,.slice nA X.non.length nc,.int .i64 X.x,.int .i64 X.g,.int .i64 X.own,.int .i64 X.oth,.slice aA X.k1.length ac,.slice bA X.k2.length bc,.int .i64 X.ct],.slice vA B.length vc,.slice eA s.length ec] w (ExO (US X B s) w):=by
 have R:Hid (US X B s=qk 14):=iH (by unfold US;rw [iF (by omega),iT hus])
 have HUS:=iH hus
 obtain⟨w0,hw0⟩:∃w0,w0=(w.alloc (.cells #[.int .i64 X.kd,.slice sA X.sec.length sc,.int .i64 X.pr,.int .i64 X.st,.slice nA X.non.length nc,.int .i64 X.x,.int .i64 X.g,.int .i64 X.own,.int .i64 X.oth,.slice aA X.k1.length ac,.slice bA X.k2.length bc,.int .i64 X.ct] 48)).alloc (.cells #[.int .i64 0,.slice none 0 0,.int .i64 0,.int .i64 0,.slice none 0 0,.int .i64 0,.int .i64 0,.int .i64 0,.int .i64 0,.slice none 0 0,.slice none 0 0,.int .i64 0] 48):=⟨_,rfl⟩
 have hb0:Below w.heap.size w w0:=by rw [hw0];exact(iA).alloc (by simp) _
 have hz0:w0.heap.size=w.heap.size+2:=by rw [hw0];simp
 have FR:Hid (∀W,Below w0.heap.size w0 W->W.heap[w.heap.size]?=some (.cells #[.int .i64 X.kd,.slice sA X.sec.length sc,.int .i64 X.pr,.int .i64 X.st,.slice nA X.non.length nc,.int .i64 X.x,.int .i64 X.g,.int .i64 X.own,.int .i64 X.oth,.slice aA X.k1.length ac,.slice bA X.k2.length bc,.int .i64 X.ct] 48 (0,0))):=iH (fun W h=>(h.block w.heap.size (by omega)).trans (by rw [hw0];exact(Below.heap_alloc _ _ _ (by simp)).trans (iN)))
 have FZ:Hid (∀W,Below w0.heap.size w0 W->W.heap[w.heap.size+1]?=some (.cells #[.int .i64 0,.slice none 0 0,.int .i64 0,.int .i64 0,.slice none 0 0,.int .i64 0,.int .i64 0,.int .i64 0,.int .i64 0,.slice none 0 0,.slice none 0 0,.int .i64 0] 48 (0,0))):=iH (fun W h=>(h.block (w.heap.size+1) (by omega)).trans (by rw [hw0];exact(show((w.alloc (.cells #[.int .i64 X.kd,.slice sA X.sec.length sc,.int .i64 X.pr,.int .i64 X.st,.slice nA X.non.length nc,.int .i64 X.x,.int .i64 X.g,.int .i64 X.own,.int .i64 X.oth,.slice aA X.k1.length ac,.slice bA X.k2.length bc,.int .i64 X.ct] 48)).alloc (.cells #[.int .i64 0,.slice none 0 0,.int .i64 0,.int .i64 0,.slice none 0 0,.int .i64 0,.int .i64 0,.int .i64 0,.int .i64 0,.slice none 0 0,.slice none 0 0,.int .i64 0] 48)).heap[w.heap.size+1]?=_ from by have:=heap_alloc_new (w.alloc (.cells #[.int .i64 X.kd,.slice sA X.sec.length sc,.int .i64 X.pr,.int .i64 X.st,.slice nA X.non.length nc,.int .i64 X.x,.int .i64 X.g,.int .i64 X.own,.int .i64 X.oth,.slice aA X.k1.length ac,.slice bA X.k2.length bc,.int .i64 X.ct] 48)) (.cells #[.int .i64 0,.slice none 0 0,.int .i64 0,.int .i64 0,.slice none 0 0,.int .i64 0,.int .i64 0,.int .i64 0,.int .i64 0,.slice none 0 0,.slice none 0 0,.int .i64 0] 48);simpa using this)))
 have HK:=iH hK
 have H1:=iH (h1.lift hb0);have H2:=iH (h2.lift hb0);have H3:=iH (h3.lift hb0);have H4:=iH (h4.lift hb0);have H5:=iH (h5.lift hb0);have H6:=iH (h6.lift hb0)
 have HLN:=iH (And.intro ls (And.intro ln (And.intro l1 l2)))
 have HW0:=iH hw0;have HB0:=iH hb0;have HSZ:=iH hz0;have HL:=iH hl
 obtain⟨f0,f1,f2,f3,f4,f5,f6,f7,f8,f9,f10,f11,ff⟩:=jy (FR.out w0 iB)
 obtain⟨z0,z1,z2,z3,z4,z5,z6,z7,z8,z9,z10,z11,zf⟩:=jy (FZ.out w0 iB)
 have zf0:=zf 0;have zf1:=zf 1;have zf2:=zf 2;have zf3:=zf 3;have zf4:=zf 4;have zf5:=zf 5;have zf6:=zf 6;have zf7:=zf 7;have zf8:=zf 8;have zf9:=zf 9;have zf10:=zf 10;have zf11:=zf 11
 clear hw0 hb0 hz0 hK h1 h2 h3 h4 h5 h6 ls ln l1 l2 hl zf ff
 clear hus
 go_enter Tryz.func35,Tryz.ntmps35
 go_upto_region 1 with fail
 rw [<-HW0.out]
 go_upto_region 4 with (go_at_call 87;refine(XZ X sA nA aA bA sc nc ac bc w0 H3.out H4.out HLN.out.2.2.1 HLN.out.2.2.2).mono ?_;rw [HUS.out];rintro e w1 ⟨rfl,hb⟩;have HB1:=iH hb;clear f0 f1 f2 f3 f4 f5 f6 f7 f8 f9 f10 f11;obtain⟨g0,g1,g2,g3,g4,g5,g6,g7,g8,g9,g10,g11,gf⟩:=jy (FR.out _ hb);clear z0 zf0 z1 zf1 z2 zf2 z3 zf3 z4 zf4 z5 zf5 z6 zf6 z7 zf7 z8 zf8 z9 zf9 z10 zf10 z11 zf11;obtain⟨z0,z1,z2,z3,z4,z5,z6,z7,z8,z9,z10,z11,zf⟩:=jy (FZ.out _ hb);have zf0:=zf 0;have zf1:=zf 1;have zf2:=zf 2;have zf3:=zf 3;have zf4:=zf 4;have zf5:=zf 5;have zf6:=zf 6;have zf7:=zf 7;have zf8:=zf 8;have zf9:=zf 9;have zf10:=zf 10;have zf11:=zf 11;clear hb zf gf)
 go_wp2_with fail
 obtain⟨y0,y1,y2,y3,y4,y5,y6,y7,y8,y9,y10,y11,yf⟩:=jy ((PtW.start (FZ.out w1 HB1.out)).set12 (.int .i64 0) (.slice none 0 0) (.int .i64 0) (.int .i64 0) (.slice none 0 0) (.int .i64 0) (.int .i64 0) (.int .i64 0) (.int .i64 0) (.slice none 0 0) (.slice none 0 0) (.int .i64 0)).1
 unfold Go.Proofs.YtalmmiojbmpmiaaGreatDoor.set12 at y0 y1 y2 y3 y4 y5 y6 y7 y8 y9 y10 y11
 refine bodyPost_ret (v:=.tuple #[.agg #[.int .i64 0,.slice none 0 0,.int .i64 0,.int .i64 0,.slice none 0 0,.int .i64 0,.int .i64 0,.int .i64 0,.int .i64 0,.slice none 0 0,.slice none 0 0,.int .i64 0],.slice none 0 0,.slice none 0 0,.int .i64 14]) (by simp [results,Tryz.results35,go_sem,y0,y1,y2,y3,y4,y5,y6,y7,y8,y9,y10,y11]) rfl ?_
 exact ExO.err R.out ((HB0.out.trans (HB1.out.mono HB0.out.size)).trans (Below.mono (((PtW.start (FZ.out _ HB1.out)).set12 (.int .i64 0) (.slice none 0 0) (.int .i64 0) (.int .i64 0) (.slice none 0 0) (.int .i64 0) (.int .i64 0) (.int .i64 0) (.int .i64 0) (.slice none 0 0) (.slice none 0 0) (.int .i64 0)).2.2) (Nat.le_succ _)))
theorem term_form(X:Exg)(sA nA aA bA:Option Addr)(sc nc ac bc:Nat)(vA eA:Option Addr)(vc ec:Nat)(B s:List UInt8)(w:World)(hK:KD w)(h1:Bs w w.heap.size (.slice sA X.sec.length sc) X.sec)(h2:Bs w w.heap.size (.slice nA X.non.length nc) X.non)(h3:Bs w w.heap.size (.slice aA X.k1.length ac) X.k1)(h4:Bs w w.heap.size (.slice bA X.k2.length bc) X.k2)(h5:Bs w w.heap.size (.slice vA B.length vc) B)(h6:Bs w w.heap.size (.slice eA s.length ec) s)(ls:X.sec.length<=140737488351232)(ln:X.non.length<=140737488351232)(l1:X.k1.length<=140737488351232)(l2:X.k2.length<=140737488351232)(hl:s.length<=140737488351232)(hst:0<=X.st/\X.st<=4)(hus:usT X=true)(hv:UI X B=none):Calls Tryz.prog 35 #[.agg #[.int .i64 X.kd,.slice sA X.sec.length sc,.int .i64 X.pr,.int .i64 X.st,.slice nA X.non.length nc,.int .i64 X.x,.int .i64 X.g,.int .i64 X.own,.int .i64 X.oth,.slice aA X.k1.length ac,.slice bA X.k2.length bc,.int .i64 X.ct],.slice vA B.length vc,.slice eA s.length ec] w (ExO (US X B s) w):=by
 have R:Hid (US X B s=qk 1):=iH (term_rep X B s hst hus hv)
 have HUS:=iH hus;have HST:=iH hst;have HV:=iH hv
 obtain⟨w0,hw0⟩:∃w0,w0=(w.alloc (.cells #[.int .i64 X.kd,.slice sA X.sec.length sc,.int .i64 X.pr,.int .i64 X.st,.slice nA X.non.length nc,.int .i64 X.x,.int .i64 X.g,.int .i64 X.own,.int .i64 X.oth,.slice aA X.k1.length ac,.slice bA X.k2.length bc,.int .i64 X.ct] 48)).alloc (.cells #[.int .i64 0,.slice none 0 0,.int .i64 0,.int .i64 0,.slice none 0 0,.int .i64 0,.int .i64 0,.int .i64 0,.int .i64 0,.slice none 0 0,.slice none 0 0,.int .i64 0] 48):=⟨_,rfl⟩
 have hb0:Below w.heap.size w w0:=by rw [hw0];exact(iA).alloc (by simp) _
 have hz0:w0.heap.size=w.heap.size+2:=by rw [hw0];simp
 have FR:Hid (∀W,Below w0.heap.size w0 W->W.heap[w.heap.size]?=some (.cells #[.int .i64 X.kd,.slice sA X.sec.length sc,.int .i64 X.pr,.int .i64 X.st,.slice nA X.non.length nc,.int .i64 X.x,.int .i64 X.g,.int .i64 X.own,.int .i64 X.oth,.slice aA X.k1.length ac,.slice bA X.k2.length bc,.int .i64 X.ct] 48 (0,0))):=iH (fun W h=>(h.block w.heap.size (by omega)).trans (by rw [hw0];exact(Below.heap_alloc _ _ _ (by simp)).trans (iN)))
 have FZ:Hid (∀W,Below w0.heap.size w0 W->W.heap[w.heap.size+1]?=some (.cells #[.int .i64 0,.slice none 0 0,.int .i64 0,.int .i64 0,.slice none 0 0,.int .i64 0,.int .i64 0,.int .i64 0,.int .i64 0,.slice none 0 0,.slice none 0 0,.int .i64 0] 48 (0,0))):=iH (fun W h=>(h.block (w.heap.size+1) (by omega)).trans (by rw [hw0];exact(show((w.alloc (.cells #[.int .i64 X.kd,.slice sA X.sec.length sc,.int .i64 X.pr,.int .i64 X.st,.slice nA X.non.length nc,.int .i64 X.x,.int .i64 X.g,.int .i64 X.own,.int .i64 X.oth,.slice aA X.k1.length ac,.slice bA X.k2.length bc,.int .i64 X.ct] 48)).alloc (.cells #[.int .i64 0,.slice none 0 0,.int .i64 0,.int .i64 0,.slice none 0 0,.int .i64 0,.int .i64 0,.int .i64 0,.int .i64 0,.slice none 0 0,.slice none 0 0,.int .i64 0] 48)).heap[w.heap.size+1]?=_ from by have:=heap_alloc_new (w.alloc (.cells #[.int .i64 X.kd,.slice sA X.sec.length sc,.int .i64 X.pr,.int .i64 X.st,.slice nA X.non.length nc,.int .i64 X.x,.int .i64 X.g,.int .i64 X.own,.int .i64 X.oth,.slice aA X.k1.length ac,.slice bA X.k2.length bc,.int .i64 X.ct] 48)) (.cells #[.int .i64 0,.slice none 0 0,.int .i64 0,.int .i64 0,.slice none 0 0,.int .i64 0,.int .i64 0,.int .i64 0,.int .i64 0,.slice none 0 0,.slice none 0 0,.int .i64 0] 48);simpa using this)))
 have HK:=iH hK
 have H1:=iH (h1.lift hb0);have H2:=iH (h2.lift hb0);have H3:=iH (h3.lift hb0);have H4:=iH (h4.lift hb0);have H5:=iH (h5.lift hb0);have H6:=iH (h6.lift hb0)
 have HLN:=iH (And.intro ls (And.intro ln (And.intro l1 l2)))
 have HW0:=iH hw0;have HB0:=iH hb0;have HSZ:=iH hz0;have HL:=iH hl
 obtain⟨f0,f1,f2,f3,f4,f5,f6,f7,f8,f9,f10,f11,ff⟩:=jy (FR.out w0 iB)
 obtain⟨z0,z1,z2,z3,z4,z5,z6,z7,z8,z9,z10,z11,zf⟩:=jy (FZ.out w0 iB)
 have zf0:=zf 0;have zf1:=zf 1;have zf2:=zf 2;have zf3:=zf 3;have zf4:=zf 4;have zf5:=zf 5;have zf6:=zf 6;have zf7:=zf 7;have zf8:=zf 8;have zf9:=zf 9;have zf10:=zf 10;have zf11:=zf 11
 clear hw0 hb0 hz0 hK h1 h2 h3 h4 h5 h6 ls ln l1 l2 hl zf ff
 have d0:decide (X.st<0)=false:=decide_eq_false (by omega)
 have d3:decide (4<X.st)=false:=decide_eq_false (by omega)
 clear hus hst hv
 go_enter Tryz.func35,Tryz.ntmps35
 go_upto_region 1 with fail
 rw [<-HW0.out]
 go_upto_region 5 with (go_at_call 87;refine(XZ X sA nA aA bA sc nc ac bc w0 H3.out H4.out HLN.out.2.2.1 HLN.out.2.2.2).mono ?_;rw [HUS.out];rintro e w1 ⟨rfl,hb⟩;have HB1:=iH hb;clear f0 f1 f2 f3 f4 f5 f6 f7 f8 f9 f10 f11;obtain⟨g0,g1,g2,g3,g4,g5,g6,g7,g8,g9,g10,g11,gf⟩:=jy (FR.out _ hb);clear z0 zf0 z1 zf1 z2 zf2 z3 zf3 z4 zf4 z5 zf5 z6 zf6 z7 zf7 z8 zf8 z9 zf9 z10 zf10 z11 zf11;obtain⟨z0,z1,z2,z3,z4,z5,z6,z7,z8,z9,z10,z11,zf⟩:=jy (FZ.out _ hb);have zf0:=zf 0;have zf1:=zf 1;have zf2:=zf 2;have zf3:=zf 3;have zf4:=zf 4;have zf5:=zf 5;have zf6:=zf 6;have zf7:=zf 7;have zf8:=zf 8;have zf9:=zf 9;have zf10:=zf 10;have zf11:=zf 11;clear hb zf gf)
 go_upto_region 7 with (go_at_call 88;refine(Q5 X sA nA aA bA sc nc ac bc vA vc B w1 (Bs.lift H5.out HB1.out) HST.out).mono ?_;rw [HV.out];rintro e w2 ⟨v2,rfl,hs,hb⟩;obtain⟨A2,c2,hv2⟩:=Bs.formL hs;subst hv2;have GV:=iH hs;have HB2:=iH (HB1.out.trans (hb.mono HB1.out.size));clear g0 g1 g2 g3 g4 g5 g6 g7 g8 g9 g10 g11;obtain⟨f0,f1,f2,f3,f4,f5,f6,f7,f8,f9,f10,f11,ff⟩:=jy (FR.out _ HB2.out);clear z0 zf0 z1 zf1 z2 zf2 z3 zf3 z4 zf4 z5 zf5 z6 zf6 z7 zf7 z8 zf8 z9 zf9 z10 zf10 z11 zf11;obtain⟨z0,z1,z2,z3,z4,z5,z6,z7,z8,z9,z10,z11,zf⟩:=jy (FZ.out _ HB2.out);have zf0:=zf 0;have zf1:=zf 1;have zf2:=zf 2;have zf3:=zf 3;have zf4:=zf 4;have zf5:=zf 5;have zf6:=zf 6;have zf7:=zf 7;have zf8:=zf 8;have zf9:=zf 9;have zf10:=zf 10;have zf11:=zf 11;clear hs hb ff zf)
 go_wp2_with fail
 obtain⟨y0,y1,y2,y3,y4,y5,y6,y7,y8,y9,y10,y11,yf⟩:=jy ((PtW.start (FZ.out w2 HB2.out)).set12 (.int .i64 0) (.slice none 0 0) (.int .i64 0) (.int .i64 0) (.slice none 0 0) (.int .i64 0) (.int .i64 0) (.int .i64 0) (.int .i64 0) (.slice none 0 0) (.slice none 0 0) (.int .i64 0)).1
 unfold Go.Proofs.YtalmmiojbmpmiaaGreatDoor.set12 at y0 y1 y2 y3 y4 y5 y6 y7 y8 y9 y10 y11
 refine bodyPost_ret (v:=.tuple #[.agg #[.int .i64 0,.slice none 0 0,.int .i64 0,.int .i64 0,.slice none 0 0,.int .i64 0,.int .i64 0,.int .i64 0,.int .i64 0,.slice none 0 0,.slice none 0 0,.int .i64 0],.slice none 0 0,.slice none 0 0,.int .i64 1]) (by simp [results,Tryz.results35,go_sem,y0,y1,y2,y3,y4,y5,y6,y7,y8,y9,y10,y11]) rfl ?_
 exact ExO.err R.out ((HB0.out.trans (HB2.out.mono HB0.out.size)).trans (Below.mono (((PtW.start (FZ.out _ HB2.out)).set12 (.int .i64 0) (.slice none 0 0) (.int .i64 0) (.int .i64 0) (.slice none 0 0) (.int .i64 0) (.int .i64 0) (.int .i64 0) (.int .i64 0) (.slice none 0 0) (.slice none 0 0) (.int .i64 0)).2.2) (Nat.le_succ _)))
theorem term_err(X:Exg)(sA nA aA bA:Option Addr)(sc nc ac bc:Nat)(vA eA:Option Addr)(vc ec:Nat)(B s:List UInt8)(w:World)(hK:KD w)(h1:Bs w w.heap.size (.slice sA X.sec.length sc) X.sec)(h2:Bs w w.heap.size (.slice nA X.non.length nc) X.non)(h3:Bs w w.heap.size (.slice aA X.k1.length ac) X.k1)(h4:Bs w w.heap.size (.slice bA X.k2.length bc) X.k2)(h5:Bs w w.heap.size (.slice vA B.length vc) B)(h6:Bs w w.heap.size (.slice eA s.length ec) s)(ls:X.sec.length<=140737488351232)(ln:X.non.length<=140737488351232)(l1:X.k1.length<=140737488351232)(l2:X.k2.length<=140737488351232)(hl:s.length<=140737488351232)(F:Nat)(hF:(X.st=0/\F=89)\/(X.st=1/\F=90)\/(X.st=2/\F=91)\/(X.st=3/\F=92)\/(X.st=4/\F=93))(hst:0<=X.st/\X.st<=4)(hus:usT X=true)(v:List UInt8)(hv:UI X B=some v)(er:Int)(he:(er != 0)=true)(hdo:DoErr F X v s er)(hr:US X B s=qk er):Calls Tryz.prog 35 #[.agg #[.int .i64 X.kd,.slice sA X.sec.length sc,.int .i64 X.pr,.int .i64 X.st,.slice nA X.non.length nc,.int .i64 X.x,.int .i64 X.g,.int .i64 X.own,.int .i64 X.oth,.slice aA X.k1.length ac,.slice bA X.k2.length bc,.int .i64 X.ct],.slice vA B.length vc,.slice eA s.length ec] w (ExO (US X B s) w):=by
 have R:=iH hr
 have HF:=iH hF;have HUS:=iH hus;have HST:=iH hst;have HV:=iH hv;have HDO:=iH hdo
 obtain⟨w0,hw0⟩:∃w0,w0=(w.alloc (.cells #[.int .i64 X.kd,.slice sA X.sec.length sc,.int .i64 X.pr,.int .i64 X.st,.slice nA X.non.length nc,.int .i64 X.x,.int .i64 X.g,.int .i64 X.own,.int .i64 X.oth,.slice aA X.k1.length ac,.slice bA X.k2.length bc,.int .i64 X.ct] 48)).alloc (.cells #[.int .i64 0,.slice none 0 0,.int .i64 0,.int .i64 0,.slice none 0 0,.int .i64 0,.int .i64 0,.int .i64 0,.int .i64 0,.slice none 0 0,.slice none 0 0,.int .i64 0] 48):=⟨_,rfl⟩
 have hb0:Below w.heap.size w w0:=by rw [hw0];exact(iA).alloc (by simp) _
 have hz0:w0.heap.size=w.heap.size+2:=by rw [hw0];simp
 have FR:Hid (∀W,Below w0.heap.size w0 W->W.heap[w.heap.size]?=some (.cells #[.int .i64 X.kd,.slice sA X.sec.length sc,.int .i64 X.pr,.int .i64 X.st,.slice nA X.non.length nc,.int .i64 X.x,.int .i64 X.g,.int .i64 X.own,.int .i64 X.oth,.slice aA X.k1.length ac,.slice bA X.k2.length bc,.int .i64 X.ct] 48 (0,0))):=iH (fun W h=>(h.block w.heap.size (by omega)).trans (by rw [hw0];exact(Below.heap_alloc _ _ _ (by simp)).trans (iN)))
 have FZ:Hid (∀W,Below w0.heap.size w0 W->W.heap[w.heap.size+1]?=some (.cells #[.int .i64 0,.slice none 0 0,.int .i64 0,.int .i64 0,.slice none 0 0,.int .i64 0,.int .i64 0,.int .i64 0,.int .i64 0,.slice none 0 0,.slice none 0 0,.int .i64 0] 48 (0,0))):=iH (fun W h=>(h.block (w.heap.size+1) (by omega)).trans (by rw [hw0];exact(show((w.alloc (.cells #[.int .i64 X.kd,.slice sA X.sec.length sc,.int .i64 X.pr,.int .i64 X.st,.slice nA X.non.length nc,.int .i64 X.x,.int .i64 X.g,.int .i64 X.own,.int .i64 X.oth,.slice aA X.k1.length ac,.slice bA X.k2.length bc,.int .i64 X.ct] 48)).alloc (.cells #[.int .i64 0,.slice none 0 0,.int .i64 0,.int .i64 0,.slice none 0 0,.int .i64 0,.int .i64 0,.int .i64 0,.int .i64 0,.slice none 0 0,.slice none 0 0,.int .i64 0] 48)).heap[w.heap.size+1]?=_ from by have:=heap_alloc_new (w.alloc (.cells #[.int .i64 X.kd,.slice sA X.sec.length sc,.int .i64 X.pr,.int .i64 X.st,.slice nA X.non.length nc,.int .i64 X.x,.int .i64 X.g,.int .i64 X.own,.int .i64 X.oth,.slice aA X.k1.length ac,.slice bA X.k2.length bc,.int .i64 X.ct] 48)) (.cells #[.int .i64 0,.slice none 0 0,.int .i64 0,.int .i64 0,.slice none 0 0,.int .i64 0,.int .i64 0,.int .i64 0,.int .i64 0,.slice none 0 0,.slice none 0 0,.int .i64 0] 48);simpa using this)))
 have HK:=iH hK
 have H1:=iH (h1.lift hb0);have H2:=iH (h2.lift hb0);have H3:=iH (h3.lift hb0);have H4:=iH (h4.lift hb0);have H5:=iH (h5.lift hb0);have H6:=iH (h6.lift hb0)
 have HLN:=iH (And.intro ls (And.intro ln (And.intro l1 l2)))
 have HW0:=iH hw0;have HB0:=iH hb0;have HSZ:=iH hz0;have HL:=iH hl
 obtain⟨f0,f1,f2,f3,f4,f5,f6,f7,f8,f9,f10,f11,ff⟩:=jy (FR.out w0 iB)
 obtain⟨z0,z1,z2,z3,z4,z5,z6,z7,z8,z9,z10,z11,zf⟩:=jy (FZ.out w0 iB)
 have zf0:=zf 0;have zf1:=zf 1;have zf2:=zf 2;have zf3:=zf 3;have zf4:=zf 4;have zf5:=zf 5;have zf6:=zf 6;have zf7:=zf 7;have zf8:=zf 8;have zf9:=zf 9;have zf10:=zf 10;have zf11:=zf 11
 clear hw0 hb0 hz0 hK h1 h2 h3 h4 h5 h6 ls ln l1 l2 hl zf ff
 have d0:decide (X.st<0)=false:=decide_eq_false (by omega)
 have d3:decide (4<X.st)=false:=decide_eq_false (by omega)
 clear hF hus hst hv hdo hr
 go_enter Tryz.func35,Tryz.ntmps35
 go_upto_region 1 with fail
 rw [<-HW0.out]
 go_upto_region 5 with (go_at_call 87;refine(XZ X sA nA aA bA sc nc ac bc w0 H3.out H4.out HLN.out.2.2.1 HLN.out.2.2.2).mono ?_;rw [HUS.out];rintro e w1 ⟨rfl,hb⟩;have HB1:=iH hb;clear f0 f1 f2 f3 f4 f5 f6 f7 f8 f9 f10 f11;obtain⟨g0,g1,g2,g3,g4,g5,g6,g7,g8,g9,g10,g11,gf⟩:=jy (FR.out _ hb);clear z0 zf0 z1 zf1 z2 zf2 z3 zf3 z4 zf4 z5 zf5 z6 zf6 z7 zf7 z8 zf8 z9 zf9 z10 zf10 z11 zf11;obtain⟨z0,z1,z2,z3,z4,z5,z6,z7,z8,z9,z10,z11,zf⟩:=jy (FZ.out _ hb);have zf0:=zf 0;have zf1:=zf 1;have zf2:=zf 2;have zf3:=zf 3;have zf4:=zf 4;have zf5:=zf 5;have zf6:=zf 6;have zf7:=zf 7;have zf8:=zf 8;have zf9:=zf 9;have zf10:=zf 10;have zf11:=zf 11;clear hb zf gf)
 go_upto_region 8 with (go_at_call 88;refine(Q5 X sA nA aA bA sc nc ac bc vA vc B w1 (Bs.lift H5.out HB1.out) HST.out).mono ?_;rw [HV.out];rintro e w2 ⟨v2,rfl,hs,hb⟩;obtain⟨A2,c2,hv2⟩:=Bs.formL hs;subst hv2;have GV:=iH hs;have HB2:=iH (HB1.out.trans (hb.mono HB1.out.size));clear g0 g1 g2 g3 g4 g5 g6 g7 g8 g9 g10 g11;obtain⟨f0,f1,f2,f3,f4,f5,f6,f7,f8,f9,f10,f11,ff⟩:=jy (FR.out _ HB2.out);clear z0 zf0 z1 zf1 z2 zf2 z3 zf3 z4 zf4 z5 zf5 z6 zf6 z7 zf7 z8 zf8 z9 zf9 z10 zf10 z11 zf11;obtain⟨z0,z1,z2,z3,z4,z5,z6,z7,z8,z9,z10,z11,zf⟩:=jy (FZ.out _ HB2.out);have zf0:=zf 0;have zf1:=zf 1;have zf2:=zf 2;have zf3:=zf 3;have zf4:=zf 4;have zf5:=zf 5;have zf6:=zf 6;have zf7:=zf 7;have zf8:=zf 8;have zf9:=zf 9;have zf10:=zf 10;have zf11:=zf 11;clear hs hb ff zf)
 go_upto_region 9 with (go_at_call 70;refine(yL X sA nA aA bA sc nc ac bc w2 (H1.out.lift HB2.out) (H2.out.lift HB2.out) (H3.out.lift HB2.out) (H4.out.lift HB2.out) HLN.out.1 HLN.out.2.1 HLN.out.2.2.1 HLN.out.2.2.2).mono ?_;rintro e w3 ⟨sB,nB,aB,bB,sd,nd,ad,bd,rfl,k1,k2,k3,k4,hb⟩;have HB3:=iH (HB2.out.trans (hb.mono HB2.out.size));have hpz:=PtW.start (FZ.out _ HB3.out);clear f0 f1 f2 f3 f4 f5 f6 f7 f8 f9 f10 f11 z0 zf0 z1 zf1 z2 zf2 z3 zf3 z4 zf4 z5 zf5 z6 zf6 z7 zf7 z8 zf8 z9 zf9 z10 zf10 z11 zf11;obtain⟨f0,f1,f2,f3,f4,f5,f6,f7,f8,f9,f10,f11,ff⟩:=jy (FR.out _ HB3.out);obtain⟨z0,z1,z2,z3,z4,z5,z6,z7,z8,z9,z10,z11,zf⟩:=jy hpz.1;have zf0:=zf 0;have zf1:=zf 1;have zf2:=zf 2;have zf3:=zf 3;have zf4:=zf 4;have zf5:=zf 5;have zf6:=zf 6;have zf7:=zf 7;have zf8:=zf 8;have zf9:=zf 9;have zf10:=zf 10;have zf11:=zf 11;have G1:=iH (BsS.madeB (p:=w.heap.size+1) k1 (by have:=HSZ.out;have:=HB2.out.size;omega));have G2:=iH (BsS.madeB (p:=w.heap.size+1) k2 (by have:=HSZ.out;have:=HB2.out.size;omega));have G3:=iH (BsS.madeB (p:=w.heap.size+1) k3 (by have:=HSZ.out;have:=HB2.out.size;omega));have G4:=iH (BsS.madeB (p:=w.heap.size+1) k4 (by have:=HSZ.out;have:=HB2.out.size;omega));have G5:=iH (BsS.onB (BsS.madeB (p:=w.heap.size+1) GV.out (by have:=HSZ.out;have:=HB1.out.size;omega)) hb);have HPZ:=iH hpz;clear k1 k2 k3 k4 hb hpz ff zf)
 obtain⟨w4,hw4⟩:∃z,z=set12 w3 (w.heap.size+1) (.int .i64 X.kd) (.slice sB X.sec.length sd) (.int .i64 X.pr) (.int .i64 X.st) (.slice nB X.non.length nd) (.int .i64 X.x) (.int .i64 X.g) (.int .i64 X.own) (.int .i64 X.oth) (.slice aB X.k1.length ad) (.slice bB X.k2.length bd) (.int .i64 X.ct):=⟨_,rfl⟩
 have hp4:PtW (w.heap.size+1) w3 w4 #[.int .i64 X.kd,.slice sB X.sec.length sd,.int .i64 X.pr,.int .i64 X.st,.slice nB X.non.length nd,.int .i64 X.x,.int .i64 X.g,.int .i64 X.own,.int .i64 X.oth,.slice aB X.k1.length ad,.slice bB X.k2.length bd,.int .i64 X.ct]:=by rw [hw4];exact HPZ.out.set12 (.int .i64 X.kd) (.slice sB X.sec.length sd) (.int .i64 X.pr) (.int .i64 X.st) (.slice nB X.non.length nd) (.int .i64 X.x) (.int .i64 X.g) (.int .i64 X.own) (.int .i64 X.oth) (.slice aB X.k1.length ad) (.slice bB X.k2.length bd) (.int .i64 X.ct)
 have g4:=fun {u:Value} {m:List UInt8} (h:BsS w3 (jL (w.heap.size+1) w3) u m)=>(by rw [hw4];exact BsS.set12 h (.int .i64 X.kd) (.slice sB X.sec.length sd) (.int .i64 X.pr) (.int .i64 X.st) (.slice nB X.non.length nd) (.int .i64 X.x) (.int .i64 X.g) (.int .i64 X.own) (.int .i64 X.oth) (.slice aB X.k1.length ad) (.slice bB X.k2.length bd) (.int .i64 X.ct):BsS w4 (jL (w.heap.size+1) w4) u m)
 have J1:=iH (g4 G1.out);have J2:=iH (g4 G2.out);have J3:=iH (g4 G3.out);have J4:=iH (g4 G4.out);have J5:=iH (g4 G5.out)
 have H6w:Hid (BsS w3 (jL (w.heap.size+1) w3) (.slice eA s.length ec) s):=iH (BsS.keep (BsS.off (H6.out.lift HB3.out) (FZ.out _ HB3.out) j27) fun g hs _=>⟨rfl,hs⟩)
 have J6:=iH (g4 H6w.out)
 have HQ4:=iH hp4
 have hfr4:w4.heap[w.heap.size]?=some (.cells #[.int .i64 X.kd,.slice sA X.sec.length sc,.int .i64 X.pr,.int .i64 X.st,.slice nA X.non.length nc,.int .i64 X.x,.int .i64 X.g,.int .i64 X.own,.int .i64 X.oth,.slice aA X.k1.length ac,.slice bA X.k2.length bc,.int .i64 X.ct] 48 (0,0)):=(hp4.2.1.block w.heap.size (by have:=HSZ.out;have:=HB3.out.size;omega) (by intro e;injection e with e;omega)).trans (FR.out _ HB3.out)
 unfold Go.Proofs.YtalmmiojbmpmiaaGreatDoor.set12 at hw4
 rw [<-hw4]
 clear hw4 hp4 g4 f0 f1 f2 f3 f4 f5 f6 f7 f8 f9 f10 f11 z0 zf0 z1 zf1 z2 zf2 z3 zf3 z4 zf4 z5 zf5 z6 zf6 z7 zf7 z8 zf8 z9 zf9 z10 zf10 z11 zf11
 obtain⟨f0,f1,f2,f3,f4,f5,f6,f7,f8,f9,f10,f11,ff⟩:=jy hfr4
 clear hfr4 ff
 have HK4:Hid (∀W,Below (w.heap.size+1) w4 W->KD W):=iH (fun W h=>HK.out.below (((HB0.out.trans (HB3.out.mono HB0.out.size)).mono iL).trans ((HQ4.out.2.2.mono (Nat.le_succ _)).trans (h.mono (Nat.le_succ _)))) HK.out.lt)
 have I0:=j2y;have I1:=j2z;have I2:=j30;have I3:=j31;have I4:=j32
 have HCF:∀(args:Array Value) (W:World),Sem.run Tryz.prog (callFunc F args) W=.ok (.enter F args) W:=by rcases HF.out with ⟨_,rfl⟩|⟨_,rfl⟩|⟨_,rfl⟩|⟨_,rfl⟩|⟨_,rfl⟩<;>(intro args W;kernel_rfl)
 go_cut [12] from 39 to 42 (fun y wc=>y=.func (.func F) #[] #[]/\wc=w4)
 case first=>
  rcases HF.out with ⟨h4,rfl⟩|⟨h4,rfl⟩|⟨h4,rfl⟩|⟨h4,rfl⟩|⟨h4,rfl⟩
  all_goals(rw [h4]at f3;clear h4;go_wp2_with fail;go_meet;exact⟨rfl,rfl⟩)
 case rest=>
 obtain⟨rfl,hwc⟩:=hcut
 have hwc:=hwc.symm
 subst hwc
 clear I0 I1 I2 I3 I4
 go_wp2_with(refine(HDO.out (w.heap.size+1) sB nB aB bB sd nd ad bd A2 eA c2 ec _ HK4.out HQ4.out.1 J1.out J2.out J3.out J4.out J5.out J6.out HL.out).mono ?_;rintro e w5 ⟨rfl,e0,e1,e2,e3,e4,e5,e6,e7,e8,e9,e10,e11,hpt⟩;have HPT:=iH hpt;obtain⟨p0,p1,p2,p3,p4,p5,p6,p7,p8,p9,p10,p11,pf⟩:=jy hpt.1;have pf0:=pf 0;have pf1:=pf 1;have pf2:=pf 2;have pf3:=pf 3;have pf4:=pf 4;have pf5:=pf 5;have pf6:=pf 6;have pf7:=pf 7;have pf8:=pf 8;have pf9:=pf 9;have pf10:=pf 10;have pf11:=pf 11;clear hpt pf)
 obtain⟨y0,y1,y2,y3,y4,y5,y6,y7,y8,y9,y10,y11,yf⟩:=jy (HPT.out.set12 (.int .i64 0) (.slice none 0 0) (.int .i64 0) (.int .i64 0) (.slice none 0 0) (.int .i64 0) (.int .i64 0) (.int .i64 0) (.int .i64 0) (.slice none 0 0) (.slice none 0 0) (.int .i64 0)).1
 unfold Go.Proofs.YtalmmiojbmpmiaaGreatDoor.set12 at y0 y1 y2 y3 y4 y5 y6 y7 y8 y9 y10 y11
 refine bodyPost_ret (v:=.tuple #[.agg #[.int .i64 0,.slice none 0 0,.int .i64 0,.int .i64 0,.slice none 0 0,.int .i64 0,.int .i64 0,.int .i64 0,.int .i64 0,.slice none 0 0,.slice none 0 0,.int .i64 0],.slice none 0 0,.slice none 0 0,.int .i64 er]) (by simp [results,Tryz.results35,go_sem,y0,y1,y2,y3,y4,y5,y6,y7,y8,y9,y10,y11]) rfl ?_
 exact ExO.err R.out ((HB0.out.trans (HB3.out.mono HB0.out.size)).trans (Below.mono ((HQ4.out.2.2.trans HPT.out.2.2).trans (((PtW.start HPT.out.1).set12 (.int .i64 0) (.slice none 0 0) (.int .i64 0) (.int .i64 0) (.slice none 0 0) (.int .i64 0) (.int .i64 0) (.int .i64 0) (.int .i64 0) (.slice none 0 0) (.slice none 0 0) (.int .i64 0)).2.2)) (Nat.le_succ _)))
theorem term_last(X:Exg)(sA nA aA bA:Option Addr)(sc nc ac bc:Nat)(vA eA:Option Addr)(vc ec:Nat)(B s:List UInt8)(w:World)(hK:KD w)(h1:Bs w w.heap.size (.slice sA X.sec.length sc) X.sec)(h2:Bs w w.heap.size (.slice nA X.non.length nc) X.non)(h3:Bs w w.heap.size (.slice aA X.k1.length ac) X.k1)(h4:Bs w w.heap.size (.slice bA X.k2.length bc) X.k2)(h5:Bs w w.heap.size (.slice vA B.length vc) B)(h6:Bs w w.heap.size (.slice eA s.length ec) s)(ls:X.sec.length<=140737488351232)(ln:X.non.length<=140737488351232)(l1:X.k1.length<=140737488351232)(l2:X.k2.length<=140737488351232)(hl:s.length<=140737488351232)(F:Nat)(hF:(X.st=0/\F=89)\/(X.st=1/\F=90)\/(X.st=2/\F=91)\/(X.st=3/\F=92)\/(X.st=4/\F=93))(hst:0<=X.st/\X.st<=4)(hlt:X.st=4)(hus:usT X=true)(v:List UInt8)(hv:UI X B=some v)(tag:Int)(Y:Exg)(hyst:Y.st=X.st)(dt nx U:List UInt8)(hw:∀(A:Option Addr) (c:Nat) (W:World),Bs W W.heap.size (.slice A dt.length c) dt->Calls Tryz.prog 75 #[.int .i64 tag,.slice A dt.length c] W (YR U W))(hdo:j22 F X v s tag Y dt nx)(hr:US X B s=(0,{Y with st:=Y.st+1},[],nx)):Calls Tryz.prog 35 #[.agg #[.int .i64 X.kd,.slice sA X.sec.length sc,.int .i64 X.pr,.int .i64 X.st,.slice nA X.non.length nc,.int .i64 X.x,.int .i64 X.g,.int .i64 X.own,.int .i64 X.oth,.slice aA X.k1.length ac,.slice bA X.k2.length bc,.int .i64 X.ct],.slice vA B.length vc,.slice eA s.length ec] w (ExO (US X B s) w):=by
 have R:=iH hr
 have HWR:=iH hw
 have HF:=iH hF;have HUS:=iH hus;have HST:=iH hst;have HV:=iH hv;have HDO:=iH hdo
 obtain⟨w0,hw0⟩:∃w0,w0=(w.alloc (.cells #[.int .i64 X.kd,.slice sA X.sec.length sc,.int .i64 X.pr,.int .i64 X.st,.slice nA X.non.length nc,.int .i64 X.x,.int .i64 X.g,.int .i64 X.own,.int .i64 X.oth,.slice aA X.k1.length ac,.slice bA X.k2.length bc,.int .i64 X.ct] 48)).alloc (.cells #[.int .i64 0,.slice none 0 0,.int .i64 0,.int .i64 0,.slice none 0 0,.int .i64 0,.int .i64 0,.int .i64 0,.int .i64 0,.slice none 0 0,.slice none 0 0,.int .i64 0] 48):=⟨_,rfl⟩
 have hb0:Below w.heap.size w w0:=by rw [hw0];exact(iA).alloc (by simp) _
 have hz0:w0.heap.size=w.heap.size+2:=by rw [hw0];simp
 have FR:Hid (∀W,Below w0.heap.size w0 W->W.heap[w.heap.size]?=some (.cells #[.int .i64 X.kd,.slice sA X.sec.length sc,.int .i64 X.pr,.int .i64 X.st,.slice nA X.non.length nc,.int .i64 X.x,.int .i64 X.g,.int .i64 X.own,.int .i64 X.oth,.slice aA X.k1.length ac,.slice bA X.k2.length bc,.int .i64 X.ct] 48 (0,0))):=iH (fun W h=>(h.block w.heap.size (by omega)).trans (by rw [hw0];exact(Below.heap_alloc _ _ _ (by simp)).trans (iN)))
 have FZ:Hid (∀W,Below w0.heap.size w0 W->W.heap[w.heap.size+1]?=some (.cells #[.int .i64 0,.slice none 0 0,.int .i64 0,.int .i64 0,.slice none 0 0,.int .i64 0,.int .i64 0,.int .i64 0,.int .i64 0,.slice none 0 0,.slice none 0 0,.int .i64 0] 48 (0,0))):=iH (fun W h=>(h.block (w.heap.size+1) (by omega)).trans (by rw [hw0];exact(show((w.alloc (.cells #[.int .i64 X.kd,.slice sA X.sec.length sc,.int .i64 X.pr,.int .i64 X.st,.slice nA X.non.length nc,.int .i64 X.x,.int .i64 X.g,.int .i64 X.own,.int .i64 X.oth,.slice aA X.k1.length ac,.slice bA X.k2.length bc,.int .i64 X.ct] 48)).alloc (.cells #[.int .i64 0,.slice none 0 0,.int .i64 0,.int .i64 0,.slice none 0 0,.int .i64 0,.int .i64 0,.int .i64 0,.int .i64 0,.slice none 0 0,.slice none 0 0,.int .i64 0] 48)).heap[w.heap.size+1]?=_ from by have:=heap_alloc_new (w.alloc (.cells #[.int .i64 X.kd,.slice sA X.sec.length sc,.int .i64 X.pr,.int .i64 X.st,.slice nA X.non.length nc,.int .i64 X.x,.int .i64 X.g,.int .i64 X.own,.int .i64 X.oth,.slice aA X.k1.length ac,.slice bA X.k2.length bc,.int .i64 X.ct] 48)) (.cells #[.int .i64 0,.slice none 0 0,.int .i64 0,.int .i64 0,.slice none 0 0,.int .i64 0,.int .i64 0,.int .i64 0,.int .i64 0,.slice none 0 0,.slice none 0 0,.int .i64 0] 48);simpa using this)))
 have HK:=iH hK
 have H1:=iH (h1.lift hb0);have H2:=iH (h2.lift hb0);have H3:=iH (h3.lift hb0);have H4:=iH (h4.lift hb0);have H5:=iH (h5.lift hb0);have H6:=iH (h6.lift hb0)
 have HLN:=iH (And.intro ls (And.intro ln (And.intro l1 l2)))
 have HW0:=iH hw0;have HB0:=iH hb0;have HSZ:=iH hz0;have HL:=iH hl
 obtain⟨f0,f1,f2,f3,f4,f5,f6,f7,f8,f9,f10,f11,ff⟩:=jy (FR.out w0 iB)
 obtain⟨z0,z1,z2,z3,z4,z5,z6,z7,z8,z9,z10,z11,zf⟩:=jy (FZ.out w0 iB)
 have zf0:=zf 0;have zf1:=zf 1;have zf2:=zf 2;have zf3:=zf 3;have zf4:=zf 4;have zf5:=zf 5;have zf6:=zf 6;have zf7:=zf 7;have zf8:=zf 8;have zf9:=zf 9;have zf10:=zf 10;have zf11:=zf 11
 clear hw0 hb0 hz0 hK h1 h2 h3 h4 h5 h6 ls ln l1 l2 hl zf ff
 have d0:decide (X.st<0)=false:=decide_eq_false (by omega)
 have d3:decide (4<X.st)=false:=decide_eq_false (by omega)
 have hy0:0<=Y.st:=by omega
 have hy3:Y.st<=4:=by omega
 have d4:decide (X.st<4)=false:=decide_eq_false (by omega)
 clear hF hus hst hv hdo hr hyst hw hlt
 go_enter Tryz.func35,Tryz.ntmps35
 go_upto_region 1 with fail
 rw [<-HW0.out]
 go_upto_region 5 with (go_at_call 87;refine(XZ X sA nA aA bA sc nc ac bc w0 H3.out H4.out HLN.out.2.2.1 HLN.out.2.2.2).mono ?_;rw [HUS.out];rintro e w1 ⟨rfl,hb⟩;have HB1:=iH hb;clear f0 f1 f2 f3 f4 f5 f6 f7 f8 f9 f10 f11;obtain⟨g0,g1,g2,g3,g4,g5,g6,g7,g8,g9,g10,g11,gf⟩:=jy (FR.out _ hb);clear z0 zf0 z1 zf1 z2 zf2 z3 zf3 z4 zf4 z5 zf5 z6 zf6 z7 zf7 z8 zf8 z9 zf9 z10 zf10 z11 zf11;obtain⟨z0,z1,z2,z3,z4,z5,z6,z7,z8,z9,z10,z11,zf⟩:=jy (FZ.out _ hb);have zf0:=zf 0;have zf1:=zf 1;have zf2:=zf 2;have zf3:=zf 3;have zf4:=zf 4;have zf5:=zf 5;have zf6:=zf 6;have zf7:=zf 7;have zf8:=zf 8;have zf9:=zf 9;have zf10:=zf 10;have zf11:=zf 11;clear hb zf gf)
 go_upto_region 8 with (go_at_call 88;refine(Q5 X sA nA aA bA sc nc ac bc vA vc B w1 (Bs.lift H5.out HB1.out) HST.out).mono ?_;rw [HV.out];rintro e w2 ⟨v2,rfl,hs,hb⟩;obtain⟨A2,c2,hv2⟩:=Bs.formL hs;subst hv2;have GV:=iH hs;have HB2:=iH (HB1.out.trans (hb.mono HB1.out.size));clear g0 g1 g2 g3 g4 g5 g6 g7 g8 g9 g10 g11;obtain⟨f0,f1,f2,f3,f4,f5,f6,f7,f8,f9,f10,f11,ff⟩:=jy (FR.out _ HB2.out);clear z0 zf0 z1 zf1 z2 zf2 z3 zf3 z4 zf4 z5 zf5 z6 zf6 z7 zf7 z8 zf8 z9 zf9 z10 zf10 z11 zf11;obtain⟨z0,z1,z2,z3,z4,z5,z6,z7,z8,z9,z10,z11,zf⟩:=jy (FZ.out _ HB2.out);have zf0:=zf 0;have zf1:=zf 1;have zf2:=zf 2;have zf3:=zf 3;have zf4:=zf 4;have zf5:=zf 5;have zf6:=zf 6;have zf7:=zf 7;have zf8:=zf 8;have zf9:=zf 9;have zf10:=zf 10;have zf11:=zf 11;clear hs hb ff zf)
 go_upto_region 9 with (go_at_call 70;refine(yL X sA nA aA bA sc nc ac bc w2 (H1.out.lift HB2.out) (H2.out.lift HB2.out) (H3.out.lift HB2.out) (H4.out.lift HB2.out) HLN.out.1 HLN.out.2.1 HLN.out.2.2.1 HLN.out.2.2.2).mono ?_;rintro e w3 ⟨sB,nB,aB,bB,sd,nd,ad,bd,rfl,k1,k2,k3,k4,hb⟩;have HB3:=iH (HB2.out.trans (hb.mono HB2.out.size));have hpz:=PtW.start (FZ.out _ HB3.out);clear f0 f1 f2 f3 f4 f5 f6 f7 f8 f9 f10 f11 z0 zf0 z1 zf1 z2 zf2 z3 zf3 z4 zf4 z5 zf5 z6 zf6 z7 zf7 z8 zf8 z9 zf9 z10 zf10 z11 zf11;obtain⟨f0,f1,f2,f3,f4,f5,f6,f7,f8,f9,f10,f11,ff⟩:=jy (FR.out _ HB3.out);obtain⟨z0,z1,z2,z3,z4,z5,z6,z7,z8,z9,z10,z11,zf⟩:=jy hpz.1;have zf0:=zf 0;have zf1:=zf 1;have zf2:=zf 2;have zf3:=zf 3;have zf4:=zf 4;have zf5:=zf 5;have zf6:=zf 6;have zf7:=zf 7;have zf8:=zf 8;have zf9:=zf 9;have zf10:=zf 10;have zf11:=zf 11;have G1:=iH (BsS.madeB (p:=w.heap.size+1) k1 (by have:=HSZ.out;have:=HB2.out.size;omega));have G2:=iH (BsS.madeB (p:=w.heap.size+1) k2 (by have:=HSZ.out;have:=HB2.out.size;omega));have G3:=iH (BsS.madeB (p:=w.heap.size+1) k3 (by have:=HSZ.out;have:=HB2.out.size;omega));have G4:=iH (BsS.madeB (p:=w.heap.size+1) k4 (by have:=HSZ.out;have:=HB2.out.size;omega));have G5:=iH (BsS.onB (BsS.madeB (p:=w.heap.size+1) GV.out (by have:=HSZ.out;have:=HB1.out.size;omega)) hb);have HPZ:=iH hpz;clear k1 k2 k3 k4 hb hpz ff zf)
 obtain⟨w4,hw4⟩:∃z,z=set12 w3 (w.heap.size+1) (.int .i64 X.kd) (.slice sB X.sec.length sd) (.int .i64 X.pr) (.int .i64 X.st) (.slice nB X.non.length nd) (.int .i64 X.x) (.int .i64 X.g) (.int .i64 X.own) (.int .i64 X.oth) (.slice aB X.k1.length ad) (.slice bB X.k2.length bd) (.int .i64 X.ct):=⟨_,rfl⟩
 have hp4:PtW (w.heap.size+1) w3 w4 #[.int .i64 X.kd,.slice sB X.sec.length sd,.int .i64 X.pr,.int .i64 X.st,.slice nB X.non.length nd,.int .i64 X.x,.int .i64 X.g,.int .i64 X.own,.int .i64 X.oth,.slice aB X.k1.length ad,.slice bB X.k2.length bd,.int .i64 X.ct]:=by rw [hw4];exact HPZ.out.set12 (.int .i64 X.kd) (.slice sB X.sec.length sd) (.int .i64 X.pr) (.int .i64 X.st) (.slice nB X.non.length nd) (.int .i64 X.x) (.int .i64 X.g) (.int .i64 X.own) (.int .i64 X.oth) (.slice aB X.k1.length ad) (.slice bB X.k2.length bd) (.int .i64 X.ct)
 have g4:=fun {u:Value} {m:List UInt8} (h:BsS w3 (jL (w.heap.size+1) w3) u m)=>(by rw [hw4];exact BsS.set12 h (.int .i64 X.kd) (.slice sB X.sec.length sd) (.int .i64 X.pr) (.int .i64 X.st) (.slice nB X.non.length nd) (.int .i64 X.x) (.int .i64 X.g) (.int .i64 X.own) (.int .i64 X.oth) (.slice aB X.k1.length ad) (.slice bB X.k2.length bd) (.int .i64 X.ct):BsS w4 (jL (w.heap.size+1) w4) u m)
 have J1:=iH (g4 G1.out);have J2:=iH (g4 G2.out);have J3:=iH (g4 G3.out);have J4:=iH (g4 G4.out);have J5:=iH (g4 G5.out)
 have H6w:Hid (BsS w3 (jL (w.heap.size+1) w3) (.slice eA s.length ec) s):=iH (BsS.keep (BsS.off (H6.out.lift HB3.out) (FZ.out _ HB3.out) j27) fun g hs _=>⟨rfl,hs⟩)
 have J6:=iH (g4 H6w.out)
 have HQ4:=iH hp4
 have hfr4:w4.heap[w.heap.size]?=some (.cells #[.int .i64 X.kd,.slice sA X.sec.length sc,.int .i64 X.pr,.int .i64 X.st,.slice nA X.non.length nc,.int .i64 X.x,.int .i64 X.g,.int .i64 X.own,.int .i64 X.oth,.slice aA X.k1.length ac,.slice bA X.k2.length bc,.int .i64 X.ct] 48 (0,0)):=(hp4.2.1.block w.heap.size (by have:=HSZ.out;have:=HB3.out.size;omega) (by intro e;injection e with e;omega)).trans (FR.out _ HB3.out)
 unfold Go.Proofs.YtalmmiojbmpmiaaGreatDoor.set12 at hw4
 rw [<-hw4]
 clear hw4 hp4 g4 f0 f1 f2 f3 f4 f5 f6 f7 f8 f9 f10 f11 z0 zf0 z1 zf1 z2 zf2 z3 zf3 z4 zf4 z5 zf5 z6 zf6 z7 zf7 z8 zf8 z9 zf9 z10 zf10 z11 zf11
 obtain⟨f0,f1,f2,f3,f4,f5,f6,f7,f8,f9,f10,f11,ff⟩:=jy hfr4
 clear hfr4 ff
 have HK4:Hid (∀W,Below (w.heap.size+1) w4 W->KD W):=iH (fun W h=>HK.out.below (((HB0.out.trans (HB3.out.mono HB0.out.size)).mono iL).trans ((HQ4.out.2.2.mono (Nat.le_succ _)).trans (h.mono (Nat.le_succ _)))) HK.out.lt)
 have I0:=j2y;have I1:=j2z;have I2:=j30;have I3:=j31;have I4:=j32
 have HCF:∀(args:Array Value) (W:World),Sem.run Tryz.prog (callFunc F args) W=.ok (.enter F args) W:=by rcases HF.out with ⟨_,rfl⟩|⟨_,rfl⟩|⟨_,rfl⟩|⟨_,rfl⟩|⟨_,rfl⟩<;>(intro args W;kernel_rfl)
 go_cut [12] from 39 to 42 (fun y wc=>y=.func (.func F) #[] #[]/\wc=w4)
 case first=>
  rcases HF.out with ⟨h4,rfl⟩|⟨h4,rfl⟩|⟨h4,rfl⟩|⟨h4,rfl⟩|⟨h4,rfl⟩
  all_goals(rw [h4]at f3;clear h4;go_wp2_with fail;go_meet;exact⟨rfl,rfl⟩)
 case rest=>
 obtain⟨rfl,hwc⟩:=hcut
 have hwc:=hwc.symm
 subst hwc
 clear I0 I1 I2 I3 I4
 go_upto_region 13 with (refine(HDO.out (w.heap.size+1) sB nB aB bB sd nd ad bd A2 eA c2 ec _ HK4.out HQ4.out.1 J1.out J2.out J3.out J4.out J5.out J6.out HL.out).mono ?_;rintro e w5 ⟨dA,dc,nA1,nc1,rfl,⟨sY,nY,aY,bY,sy,ny,ay,by_,hpt,k1,k2,k3,k4⟩,hd,hn⟩;have HPT:=iH hpt;have HX5:=iH (hpt.2.1.block w.heap.size (by have:=HSZ.out;have:=HB3.out.size;have:=HQ4.out.2.1.size;omega) (by intro e;injection e with e;omega));have K1:=iH k1;have K2:=iH k2;have K3:=iH k3;have K4:=iH k4;have KD1:=iH hd;have KN:=iH hn;clear hpt k1 k2 k3 k4 hd hn)
 clear f0 f1 f2 f3 f4 f5 f6 f7 f8 f9 f10 f11
 obtain⟨f0,f1,f2,f3,f4,f5,f6,f7,f8,f9,f10,f11,ff⟩:=jy (HX5.out.trans ((HQ4.out.2.1.block w.heap.size (by have:=HSZ.out;have:=HB3.out.size;omega) (by intro e;injection e with e;omega)).trans (FR.out _ HB3.out)))
 clear ff
 go_upto_region 15 with fail
 have hp9:PtW (w.heap.size+1) w4 w5 #[.int .i64 Y.kd,.slice sY Y.sec.length sy,.int .i64 Y.pr,.int .i64 Y.st,.slice nY Y.non.length ny,.int .i64 Y.x,.int .i64 Y.g,.int .i64 Y.own,.int .i64 Y.oth,.slice aY Y.k1.length ay,.slice bY Y.k2.length by_,.int .i64 Y.ct]:=HPT.out
 have HP9:=iH hp9
 obtain⟨p0,p1,p2,p3,p4,p5,p6,p7,p8,p9,p10,p11,pf⟩:=jy hp9.1
 have pf3:=pf 3
 have M1:=iH K1.out
 have M2:=iH K2.out
 have M3:=iH K3.out
 have M4:=iH K4.out
 have MN:=iH KN.out
 clear hp9 pf
 go_upto_region 16 with fail
 obtain⟨w6,hw6⟩:∃z,z=w5.setCell ⟨w.heap.size+1,3,none⟩ (.int .i64 (Y.st+1)):=⟨_,rfl⟩
 rw [<-hw6]
 have hp6:PtW (w.heap.size+1) w4 w6 #[.int .i64 Y.kd,.slice sY Y.sec.length sy,.int .i64 Y.pr,.int .i64 (Y.st+1),.slice nY Y.non.length ny,.int .i64 Y.x,.int .i64 Y.g,.int .i64 Y.own,.int .i64 Y.oth,.slice aY Y.k1.length ay,.slice bY Y.k2.length by_,.int .i64 Y.ct]:=by rw [hw6];exact HP9.out.set 3 _
 have HP6:=iH hp6
 have N6:Hid (BsS w6 (jL (w.heap.size+1) w6) _ _):=iH (by rw [hw6];exact BsS.setP MN.out 3 _)
 have L1:Hid (BsS w6 (jL (w.heap.size+1) w6) _ _):=iH (by rw [hw6];exact BsS.setP M1.out 3 _)
 have L2:Hid (BsS w6 (jL (w.heap.size+1) w6) _ _):=iH (by rw [hw6];exact BsS.setP M2.out 3 _)
 have L3:Hid (BsS w6 (jL (w.heap.size+1) w6) _ _):=iH (by rw [hw6];exact BsS.setP M3.out 3 _)
 have L4:Hid (BsS w6 (jL (w.heap.size+1) w6) _ _):=iH (by rw [hw6];exact BsS.setP M4.out 3 _)
 clear hw6 p0 p1 p2 p3 p4 p5 p6 p7 p8 p9 p10 p11 pf3 f0 f1 f2 f3 f4 f5 f6 f7 f8 f9 f10 f11
 obtain⟨p0,p1,p2,p3,p4,p5,p6,p7,p8,p9,p10,p11,pf⟩:=jy hp6.1
 have pf0:=pf 0;have pf1:=pf 1;have pf2:=pf 2;have pf3:=pf 3;have pf4:=pf 4;have pf5:=pf 5;have pf6:=pf 6;have pf7:=pf 7;have pf8:=pf 8;have pf9:=pf 9;have pf10:=pf 10;have pf11:=pf 11
 clear hp6 pf
 go_wp2_with fail
 obtain⟨y0,y1,y2,y3,y4,y5,y6,y7,y8,y9,y10,y11,yf⟩:=jy (HP6.out.set12 (.int .i64 Y.kd) (.slice sY Y.sec.length sy) (.int .i64 Y.pr) (.int .i64 (Y.st+1)) (.slice nY Y.non.length ny) (.int .i64 Y.x) (.int .i64 Y.g) (.int .i64 Y.own) (.int .i64 Y.oth) (.slice aY Y.k1.length ay) (.slice bY Y.k2.length by_) (.int .i64 Y.ct)).1
 obtain⟨w8,hw8⟩:∃z,z=set12 w6 (w.heap.size+1) (.int .i64 Y.kd) (.slice sY Y.sec.length sy) (.int .i64 Y.pr) (.int .i64 (Y.st+1)) (.slice nY Y.non.length ny) (.int .i64 Y.x) (.int .i64 Y.g) (.int .i64 Y.own) (.int .i64 Y.oth) (.slice aY Y.k1.length ay) (.slice bY Y.k2.length by_) (.int .i64 Y.ct):=⟨_,rfl⟩
 have hfin:∀ {u:Value} {m:List UInt8},BsS w6 (jL (w.heap.size+1) w6) u m->Bs w8 w8.heap.size u m:=fun {u m} h=>by rw [hw8];exact(BsS.set12 h (.int .i64 Y.kd) (.slice sY Y.sec.length sy) (.int .i64 Y.pr) (.int .i64 (Y.st+1)) (.slice nY Y.non.length ny) (.int .i64 Y.x) (.int .i64 Y.g) (.int .i64 Y.own) (.int .i64 Y.oth) (.slice aY Y.k1.length ay) (.slice bY Y.k2.length by_) (.int .i64 Y.ct)).loB
 have hbel:Below w.heap.size w w8:=by rw [hw8];exact(HB0.out.trans (HB3.out.mono HB0.out.size)).trans (Below.mono ((HQ4.out.2.2.trans HP6.out.2.2).trans (((PtW.start HP6.out.1).set12 (.int .i64 Y.kd) (.slice sY Y.sec.length sy) (.int .i64 Y.pr) (.int .i64 (Y.st+1)) (.slice nY Y.non.length ny) (.int .i64 Y.x) (.int .i64 Y.g) (.int .i64 Y.own) (.int .i64 Y.oth) (.slice aY Y.k1.length ay) (.slice bY Y.k2.length by_) (.int .i64 Y.ct)).2.2)) (Nat.le_succ _))
 unfold Go.Proofs.YtalmmiojbmpmiaaGreatDoor.set12 at y0 y1 y2 y3 y4 y5 y6 y7 y8 y9 y10 y11
 refine bodyPost_ret (v:=.tuple #[.agg #[.int .i64 Y.kd,.slice sY Y.sec.length sy,.int .i64 Y.pr,.int .i64 (Y.st+1),.slice nY Y.non.length ny,.int .i64 Y.x,.int .i64 Y.g,.int .i64 Y.own,.int .i64 Y.oth,.slice aY Y.k1.length ay,.slice bY Y.k2.length by_,.int .i64 Y.ct],.slice none 0 0,.slice nA1 nx.length nc1,.int .i64 0]) (by simp [results,Tryz.results35,go_sem,y0,y1,y2,y3,y4,y5,y6,y7,y8,y9,y10,y11]) rfl ?_
 unfold Go.Proofs.YtalmmiojbmpmiaaGreatDoor.set12 at hw8
 rw [<-hw8,R.out]
 exact⟨_,none,0,_,_,rfl,⟨_,_,_,_,rfl,hfin L1.out,hfin L2.out,hfin L3.out,hfin L4.out⟩,kh _ _,hfin N6.out,hbel⟩
theorem usC_parts{X:Exg}(h:usC X=true):vPw X.kd X.sec=true/\(X.pr=2\/X.pr=3)/\(1<=X.st->X.non.length=16)/\(2<=X.st->jx X.g=true)/\(3<=X.st->jx X.own=true/\jx X.oth=true/\X.k2.length=16):=by
 unfold usC qd zE vS at h
 simp only [Bool.and_eq_true,Bool.or_eq_true,decide_eq_true_eq]at h
 obtain⟨⟨⟨⟨hp,hpr⟩,h1⟩,h2⟩,h3⟩:=h
 exact⟨hp,hpr,fun q=>h1.resolve_left (by omega),fun q=>h2.resolve_left (by omega),fun q=>by
  obtain⟨⟨a,b⟩,c⟩:=h3.resolve_left (by omega)
  exact⟨a,b,c.2.1⟩⟩
theorem sealL1(k n:List UInt8)(h:n.length=16):(kQ k Z16 n).length=16:=by rw [UM _ _ _ (m:=1) (by omega),j14]
theorem val_lenN{tag:Int}{z:Nat}{l:Ns}{v:List UInt8}(h0:¬tag=0)(h:QZ tag z l=some v):v.length=z:=by
 unfold QZ at h
 split at h
 ·split at h
  ·cases h
  ·try rw [iF h0]at h
   split at h
   ·split at h
    ·rename_i hh
     cases h
     exact hh.2
    ·cases h
   ·cases h
 ·cases h
theorem val_len16{X:Exg}{B v:List UInt8}(q:X.st=1)(hp:X.pr=3)(h:qa B (Qo X.st) (VR X)=some v):v.length=16:=by
 have hs:VR X=16:=by unfold VR;rw [iT q,iT hp]
 rw [hs]at h
 unfold qa at h
 split at h
 ·cases h
 ·exact val_lenN (by rw [q];decide) h
theorem ne_err{er:Int}(h:¬er=0):(er != 0)=true:=by simp [h]
theorem chip_any(X:Exg)(sA nA aA bA:Option Addr)(sc nc ac bc:Nat)(vA eA:Option Addr)(vc ec:Nat)(B s:List UInt8)(w:World)(hK:KD w)(h1:Bs w w.heap.size (.slice sA X.sec.length sc) X.sec)(h2:Bs w w.heap.size (.slice nA X.non.length nc) X.non)(h3:Bs w w.heap.size (.slice aA X.k1.length ac) X.k1)(h4:Bs w w.heap.size (.slice bA X.k2.length bc) X.k2)(h5:Bs w w.heap.size (.slice vA B.length vc) B)(h6:Bs w w.heap.size (.slice eA s.length ec) s)(ls:X.sec.length<=140737488351232)(ln:X.non.length<=140737488351232)(l1:X.k1.length<=140737488351232)(l2:X.k2.length<=140737488351232)(hl:s.length<=140737488351232):Calls Tryz.prog 33 #[.agg #[.int .i64 X.kd,.slice sA X.sec.length sc,.int .i64 X.pr,.int .i64 X.st,.slice nA X.non.length nc,.int .i64 X.x,.int .i64 X.g,.int .i64 X.own,.int .i64 X.oth,.slice aA X.k1.length ac,.slice bA X.k2.length bc,.int .i64 X.ct],.slice vA B.length vc,.slice eA s.length ec] w (ExO (U2 X B s) w):=by
 by_cases hst:X.st<0\/3<X.st
 ·exact chip_state X sA nA aA bA sc nc ac bc vA eA vc ec B s w hK h1 h2 h3 h4 h5 h6 ls ln l1 l2 hl hst
 have hst:0<=X.st/\X.st<=3:=by omega
 rcases hus:usC X with _|_
 ·exact chip_invalid X sA nA aA bA sc nc ac bc vA eA vc ec B s w hK h1 h2 h3 h4 h5 h6 ls ln l1 l2 hl hst hus
 rcases hv:qa B (Qo X.st) (VR X)with _|v
 ·exact chip_form X sA nA aA bA sc nc ac bc vA eA vc ec B s w hK h1 h2 h3 h4 h5 h6 ls ln l1 l2 hl hst hus hv
 obtain⟨hp,hpr,hn,hg,hpa⟩:=usC_parts hus
 have hq:X.st=0\/X.st=1\/X.st=2\/X.st=3:=by omega
 rcases hq with q|q|q|q
 ·have hd:(k7 s 16).length=16:=by unfold k7;rw [List.length_take,ji];omega
  have hh:kP X.kd X.sec (k7 s 16)=(0,kQ (kz X.kd X.sec) Z16 (k7 s 16)):=by
   unfold kP
   rw [iF (by rw [hp];simp),iF (by omega)]
  have hr:U2 X B s=(0,{({X with non:=k7 s 16}:Exg)with st:=X.st+1},kx 128 (kP X.kd X.sec (k7 s 16)).2,sdW s):=by
   unfold U2;rw [iF (by omega),iF (by rw [hus];simp),hv];simp only [];rw [iT q,q]<;>rfl
  exact Vl X sA nA aA bA sc nc ac bc vA eA vc ec B s w hK h1 h2 h3 h4 h5 h6 ls ln l1 l2 hl 71 (.inl ⟨q,rfl⟩) hst hus v hv 128 ⟨by omega,by omega⟩ {X with non:=k7 s 16} rfl (kP X.kd X.sec (k7 s 16)).2 (sdW s) (by rw [hh];show(kQ (kz X.kd X.sec) Z16 (k7 s 16)).length<=64;rw [sealL1 _ _ hd];omega) (fun P sA nA aA bA sc nc ac bc vA eA vc ec w k r h1 h2 h3 h4 h5 h6 h7=>yX P X sA nA aA bA sc nc ac bc vA eA vc ec v s w k r h1 h2 h3 h4 h5 h6 h7 hp) hr
 ·have hn:=hn (by omega)
  by_cases hp3:X.pr=3
  ·obtain⟨gi,hi⟩:∃g,yb X.non v=(0,g):=⟨_,by unfold yb;rw [iF (fun x=>x ⟨hn,val_len16 q hp3 hv⟩)]⟩
   have hr:U2 X B s=(0,{({X with g:=gi}:Exg)with st:=X.st+1},kx 130 [],s):=by
    unfold U2;rw [iF (by omega),iF (by rw [hus];simp),hv];simp only [];rw [iF (by omega),iT q,iT hp3,hi,q]<;>rfl
   exact Vl X sA nA aA bA sc nc ac bc vA eA vc ec B s w hK h1 h2 h3 h4 h5 h6 ls ln l1 l2 hl 72 (.inr (.inl ⟨q,rfl⟩)) hst hus v hv 130 ⟨by omega,by omega⟩ {X with g:=gi} rfl [] s (by simp) (fun P sA nA aA bA sc nc ac bc vA eA vc ec w k r h1 h2 h3 h4 h5 h6 h7=>chipMap_int P X sA nA aA bA sc nc ac bc vA eA vc ec v s w k r h1 h2 h3 h4 h5 h6 h7 hp3 gi hi) hr
  have hp2:X.pr=2:=by omega
  obtain⟨⟨er,o⟩,hde⟩:∃r,jF v=r:=⟨_,rfl⟩
  by_cases he:er=0
  ·subst he
   obtain⟨⟨er,gi⟩,hge⟩:∃r,qJ X.non (XS s) o=r:=⟨_,rfl⟩
   by_cases he:er=0
   ·subst he
    have hr:U2 X B s=(0,{({X with g:=gi}:Exg)with st:=X.st+1},kx 130 (kg (zZ 4 (XS s))),sdW s):=by
     unfold U2;rw [iF (by omega),iF (by rw [hus];simp),hv];simp only [];rw [iF (by omega),iT q,iF hp3,hde];simp only [];rw [hge,iF (by simp),iF (by simp),q]<;>rfl
    exact Vl X sA nA aA bA sc nc ac bc vA eA vc ec B s w hK h1 h2 h3 h4 h5 h6 ls ln l1 l2 hl 72 (.inr (.inl ⟨q,rfl⟩)) hst hus v hv 130 ⟨by omega,by omega⟩ {X with g:=gi} rfl (kg (zZ 4 (XS s))) (sdW s) (by simp [kg]) (fun P sA nA aA bA sc nc ac bc vA eA vc ec w k r h1 h2 h3 h4 h5 h6 h7=>chipMap_any P X sA nA aA bA sc nc ac bc vA eA vc ec v s w k r h1 h2 h3 h4 h5 h6 h7 hp2 o hde gi hge) hr
   ·have hr:U2 X B s=qk er:=by
     unfold U2;rw [iF (by omega),iF (by rw [hus];simp),hv];simp only [];rw [iF (by omega),iT q,iF hp3,hde];simp only [];rw [hge,iF (by simp),iT he]
    exact chip_err X sA nA aA bA sc nc ac bc vA eA vc ec B s w hK h1 h2 h3 h4 h5 h6 ls ln l1 l2 hl 72 (.inr (.inl ⟨q,rfl⟩)) hst hus v hv er (ne_err he) (fun P sA nA aA bA sc nc ac bc vA eA vc ec w k r h1 h2 h3 h4 h5 h6 h7=>chipMap_gen P X sA nA aA bA sc nc ac bc vA eA vc ec v s w k r h1 h2 h3 h4 h5 h6 h7 hp2 o hde er gi hge (ne_err he)) hr
  ·have hr:U2 X B s=qk er:=by
    unfold U2;rw [iF (by omega),iF (by rw [hus];simp),hv];simp only [];rw [iF (by omega),iT q,iF hp3,hde];simp only [];rw [iT he]
   exact chip_err X sA nA aA bA sc nc ac bc vA eA vc ec B s w hK h1 h2 h3 h4 h5 h6 ls ln l1 l2 hl 72 (.inr (.inl ⟨q,rfl⟩)) hst hus v hv er (ne_err he) (fun P sA nA aA bA sc nc ac bc vA eA vc ec w k r h1 h2 h3 h4 h5 h6 h7=>chipMap_dec P X sA nA aA bA sc nc ac bc vA eA vc ec v s w k r h1 h2 h3 h4 h5 h6 h7 hp2 er o hde (ne_err he)) hr
 ·have hg:=hg (by omega)
  obtain⟨⟨er,o⟩,hde⟩:∃r,jF v=r:=⟨_,rfl⟩
  by_cases he:er=0
  ·subst he
   by_cases heq:o=zZ X.g (XS s)
   ·have hr:U2 X B s=qk 10:=by
     unfold U2;rw [iF (by omega),iF (by rw [hus];simp),hv];simp only [];rw [iF (by omega),iF (by omega),iT q,hde];simp only [];rw [iF (by simp),iT heq]
    exact chip_err X sA nA aA bA sc nc ac bc vA eA vc ec B s w hK h1 h2 h3 h4 h5 h6 ls ln l1 l2 hl 73 (.inr (.inr (.inl ⟨q,rfl⟩))) hst hus v hv 10 (by decide) (fun P sA nA aA bA sc nc ac bc vA eA vc ec w k r h1 h2 h3 h4 h5 h6 h7=>chipAgree_same P X sA nA aA bA sc nc ac bc vA eA vc ec v s w k r h1 h2 h3 h4 h5 h6 h7 o hg hde heq) hr
   ·have hys:(Zb {X with x:=XS s,own:=zZ X.g (XS s)} o).2.st=X.st:=by unfold Zb;rw [iF heq]
    have hr:U2 X B s=(0,{(Zb {X with x:=XS s,own:=zZ X.g (XS s)} o).2 with st:=(Zb {X with x:=XS s,own:=zZ X.g (XS s)} o).2.st+1},kx 132 (kg (zZ X.g (XS s))),sdW s):=by
     rw [hys];unfold U2;rw [iF (by omega),iF (by rw [hus];simp),hv];simp only [];rw [iF (by omega),iF (by omega),iT q,hde];simp only [];rw [iF (by simp),iF heq,q]<;>rfl
    exact Vl X sA nA aA bA sc nc ac bc vA eA vc ec B s w hK h1 h2 h3 h4 h5 h6 ls ln l1 l2 hl 73 (.inr (.inr (.inl ⟨q,rfl⟩))) hst hus v hv 132 ⟨by omega,by omega⟩ _ hys (kg (zZ X.g (XS s))) (sdW s) (by simp [kg]) (fun P sA nA aA bA sc nc ac bc vA eA vc ec w k r h1 h2 h3 h4 h5 h6 h7=>chipAgree_any P X sA nA aA bA sc nc ac bc vA eA vc ec v s w k r h1 h2 h3 h4 h5 h6 h7 o hg hde heq) hr
  ·have hr:U2 X B s=qk er:=by
    unfold U2;rw [iF (by omega),iF (by rw [hus];simp),hv];simp only [];rw [iF (by omega),iF (by omega),iT q,hde];simp only [];rw [iT he]
   exact chip_err X sA nA aA bA sc nc ac bc vA eA vc ec B s w hK h1 h2 h3 h4 h5 h6 ls ln l1 l2 hl 73 (.inr (.inr (.inl ⟨q,rfl⟩))) hst hus v hv er (ne_err he) (fun P sA nA aA bA sc nc ac bc vA eA vc ec w k r h1 h2 h3 h4 h5 h6 h7=>chipAgree_err P X sA nA aA bA sc nc ac bc vA eA vc ec v s w k r h1 h2 h3 h4 h5 h6 h7 er o hde (ne_err he)) hr
 ·obtain⟨ho,ht,hk2⟩:=hpa (by omega)
  by_cases hvt:v=tkW X X.own
  ·have hr:U2 X B s=(0,{X with st:=X.st+1},kx 134 (tkW X X.oth),s):=by
    unfold U2;rw [iF (by omega),iF (by rw [hus];simp),hv];simp only [];rw [iF (by omega),iF (by omega),iF (by omega),iF (fun x=>x hvt),q]<;>rfl
   exact Vl X sA nA aA bA sc nc ac bc vA eA vc ec B s w hK h1 h2 h3 h4 h5 h6 ls ln l1 l2 hl 74 (.inr (.inr (.inr (⟨q,rfl⟩)))) hst hus v hv 134 ⟨by omega,by omega⟩ X rfl (tkW X X.oth) s (by rw [tkl X _ hk2];omega) (fun P sA nA aA bA sc nc ac bc vA eA vc ec w k r h1 h2 h3 h4 h5 h6 h7=>chipCheck_any P X sA nA aA bA sc nc ac bc vA eA vc ec v s w k r h1 h2 h3 h4 h5 h6 h7 hk2 ho ht hvt) hr
  ·have hr:U2 X B s=qk 21:=by
    unfold U2;rw [iF (by omega),iF (by rw [hus];simp),hv];simp only [];rw [iF (by omega),iF (by omega),iF (by omega),iT hvt]
   exact chip_err X sA nA aA bA sc nc ac bc vA eA vc ec B s w hK h1 h2 h3 h4 h5 h6 ls ln l1 l2 hl 74 (.inr (.inr (.inr (⟨q,rfl⟩)))) hst hus v hv 21 (by decide) (fun P sA nA aA bA sc nc ac bc vA eA vc ec w k r h1 h2 h3 h4 h5 h6 h7=>chipCheck_err P X sA nA aA bA sc nc ac bc vA eA vc ec v s w k r h1 h2 h3 h4 h5 h6 h7 hk2 ho hvt) hr
theorem usT_parts{X:Exg}(h:usT X=true):vPw X.kd X.sec=true/\(X.pr=2\/X.pr=3)/\(X.st=2->X.non.length=16/\(X.pr=2->okS X.x=true)/\(X.pr=3->jx X.g=true))/\(X.st=3->X.non.length=16/\jx X.g=true/\jx X.own=true/\okS X.x=true)/\(X.st=4->jx X.own=true/\jx X.oth=true/\X.k2.length=16):=by
 unfold usT qd at h
 simp only [Bool.and_eq_true,decide_eq_true_eq]at h
 obtain⟨⟨hp,hpr⟩,h1⟩:=h
 refine⟨hp,hpr,fun q=> ?_,fun q=> ?_,fun q=> ?_⟩
 ·rw [iT q]at h1
  simp only [Bool.and_eq_true,decide_eq_true_eq]at h1
  obtain⟨a,b⟩:=h1
  exact⟨a,fun p=>by rwa [iT p]at b,fun p=>by rwa [iF (by omega)]at b⟩
 ·rw [iF (by omega),iT q]at h1
  simp only [Bool.and_eq_true,decide_eq_true_eq]at h1
  obtain⟨⟨⟨a,b⟩,c⟩,d⟩:=h1
  exact⟨a,b,c,d⟩
 ·rw [iF (by omega),iF (by omega),iT q]at h1
  unfold zE vS at h1
  simp only [Bool.and_eq_true,decide_eq_true_eq]at h1
  obtain⟨⟨a,b⟩,c⟩:=h1
  exact⟨a,b,c.2.1⟩
theorem openL1(k n:List UInt8)(h:n.length=16):(Jf k Z16 n).length=16:=by rw [openO_oP _ _ _ (m:=1) (by omega),oP_len]
theorem rep_val{X:Exg}{B:List UInt8}(h:¬X.st=0):UI X B=qa B (126+2*X.st) (j0a X):=by unfold UI;rw [iF h]
theorem rep_len16{X:Exg}{B v:List UInt8}(q:X.st=1)(h:qa B (126+2*X.st) (j0a X)=some v):v.length=16:=by
 have hs:j0a X=16:=by unfold j0a;rw [iT q]
 rw [hs]at h
 unfold qa at h
 split at h
 ·cases h
 ·exact val_lenN (by rw [q];decide) h
theorem genW_elem{n:List UInt8}{k o gi:Int}(h:qJ n k o=(0,gi)):jx gi=true:=by
 unfold qJ at h
 split at h
 ·cases h
 ·split at h
  ·cases h
  ·split at h
   ·cases h
   ·split at h
    ·cases h
    ·rename_i h1 h2 h3
     injection h with _ h
     rw [<-h]
     exact gen_elem n k o (by simpa using h1) (by simpa using h2) h3
theorem drawL(s:List UInt8):(k7 s 16).length=16:=by unfold k7;rw [List.length_take,ji];omega
theorem term_any(X:Exg)(sA nA aA bA:Option Addr)(sc nc ac bc:Nat)(vA eA:Option Addr)(vc ec:Nat)(B s:List UInt8)(w:World)(hK:KD w)(h1:Bs w w.heap.size (.slice sA X.sec.length sc) X.sec)(h2:Bs w w.heap.size (.slice nA X.non.length nc) X.non)(h3:Bs w w.heap.size (.slice aA X.k1.length ac) X.k1)(h4:Bs w w.heap.size (.slice bA X.k2.length bc) X.k2)(h5:Bs w w.heap.size (.slice vA B.length vc) B)(h6:Bs w w.heap.size (.slice eA s.length ec) s)(ls:X.sec.length<=140737488351232)(ln:X.non.length<=140737488351232)(l1:X.k1.length<=140737488351232)(l2:X.k2.length<=140737488351232)(hl:s.length<=140737488351232):Calls Tryz.prog 35 #[.agg #[.int .i64 X.kd,.slice sA X.sec.length sc,.int .i64 X.pr,.int .i64 X.st,.slice nA X.non.length nc,.int .i64 X.x,.int .i64 X.g,.int .i64 X.own,.int .i64 X.oth,.slice aA X.k1.length ac,.slice bA X.k2.length bc,.int .i64 X.ct],.slice vA B.length vc,.slice eA s.length ec] w (ExO (US X B s) w):=by
 by_cases hst:X.st<0\/4<X.st
 ·exact term_state X sA nA aA bA sc nc ac bc vA eA vc ec B s w hK h1 h2 h3 h4 h5 h6 ls ln l1 l2 hl hst
 have hst:0<=X.st/\X.st<=4:=by omega
 rcases hus:usT X with _|_
 ·exact term_invalid X sA nA aA bA sc nc ac bc vA eA vc ec B s w hK h1 h2 h3 h4 h5 h6 ls ln l1 l2 hl hst hus
 rcases hv:UI X B with _|v
 ·exact term_form X sA nA aA bA sc nc ac bc vA eA vc ec B s w hK h1 h2 h3 h4 h5 h6 ls ln l1 l2 hl hst hus hv
 obtain⟨hp,hpr,hk2,hk3,hk4⟩:=usT_parts hus
 by_cases q:X.st=0
 ·have hv0:B.length=0/\v= []:=by
   unfold UI at hv
   rw [iT q]at hv
   split at hv
   ·rename_i h;injection hv with hv;exact⟨h,hv.symm⟩
   ·cases hv
  obtain⟨hB,rfl⟩:=hv0
  have hr:US X B s=(0,{X with st:=X.st+1},kx 0 [],s):=by
   unfold US
   rw [iF (by omega),iF (by rw [hus];simp),iT q,iF (by omega),q]
   rfl
  exact VV X sA nA aA bA sc nc ac bc vA eA vc ec B s w hK h1 h2 h3 h4 h5 h6 ls ln l1 l2 hl 89 (.inl ⟨q,rfl⟩) hst (by omega) hus [] hv (-1) X rfl [] s (kx 0 []) (fun A c W _=>YI _ W) (fun P sA nA aA bA sc nc ac bc vA eA vc ec w k r h1 h2 h3 h4 h5 h6 h7=>Vi P X sA nA aA bA sc nc ac bc vA eA vc ec [] s w k r h1 h2 h3 h4 h5 h6 h7) hr
 have hv2:=hv
 rw [rep_val q]at hv2
 have hq:X.st=1\/X.st=2\/X.st=3\/X.st=4:=by omega
 rcases hq with q|q|q|q
 ·have hl16:=rep_len16 q hv2
  have hrv:Z5 X.kd X.sec v=(0,Jf (kz X.kd X.sec) Z16 v):=by
   unfold Z5
   rw [iF (by rw [hp];simp),iF (by omega)]
  obtain⟨N,hN⟩:∃N,Jf (kz X.kd X.sec) Z16 v=N:=⟨_,rfl⟩
  have hNl:N.length=16:=by rw [<-hN];exact openL1 _ _ hl16
  rw [hN]at hrv
  by_cases hp3:X.pr=3
  ·obtain⟨gi,hi⟩:∃g,yb N (k7 s 16)=(0,g):=⟨_,by unfold yb;rw [iF (fun x=>x ⟨hNl,drawL s⟩)]⟩
   have hr:US X B s=(0,{({X with non:=N,g:=gi}:Exg)with st:=X.st+1},kx 129 (k7 s 16),sdW s):=by
    unfold US;rw [iF (by omega),iF (by rw [hus];simp),iF (by omega),hv2];simp only [];rw [iT q,iT hp3,hrv,hi,q]<;>rfl
   exact VV X sA nA aA bA sc nc ac bc vA eA vc ec B s w hK h1 h2 h3 h4 h5 h6 ls ln l1 l2 hl 90 (.inr (.inl ⟨q,rfl⟩)) hst (by omega) hus v hv 129 {X with non:=N,g:=gi} rfl (k7 s 16) (sdW s) (kx 129 (k7 s 16)) (fun A c W h=>UY 129 ⟨by omega,by omega⟩ A c _ W h (by rw [drawL];omega)) (fun P sA nA aA bA sc nc ac bc vA eA vc ec w k r h1 h2 h3 h4 h5 h6 h7=>termMap_int P X sA nA aA bA sc nc ac bc vA eA vc ec v s w k r h1 h2 h3 h4 h5 h6 h7 hp3 N hrv gi hi) hr
  have hp2:X.pr=2:=by omega
  have hr:US X B s=(0,{({X with non:=N,x:=XS s}:Exg)with st:=X.st+1},kx 129 (kg (zZ 4 (XS s))),sdW s):=by
   unfold US;rw [iF (by omega),iF (by rw [hus];simp),iF (by omega),hv2];simp only [];rw [iT q,iF hp3,hrv,q]<;>rfl
  exact VV X sA nA aA bA sc nc ac bc vA eA vc ec B s w hK h1 h2 h3 h4 h5 h6 ls ln l1 l2 hl 90 (.inr (.inl ⟨q,rfl⟩)) hst (by omega) hus v hv 129 {X with non:=N,x:=XS s} rfl (kg (zZ 4 (XS s))) (sdW s) (kx 129 (kg (zZ 4 (XS s)))) (fun A c W h=>UY 129 ⟨by omega,by omega⟩ A c _ W h (by simp [kg])) (fun P sA nA aA bA sc nc ac bc vA eA vc ec w k r h1 h2 h3 h4 h5 h6 h7=>termMap_gen P X sA nA aA bA sc nc ac bc vA eA vc ec v s w k r h1 h2 h3 h4 h5 h6 h7 hp2 N hrv) hr
 ·obtain⟨hn,hx,hg⟩:=hk2 q
  by_cases hp3:X.pr=3
  ·have hn2:¬X.pr=2:=by omega
   have hr:US X B s=(0,{({X with x:=XS s,own:=zZ X.g (XS s)}:Exg)with st:=X.st+1},kx 131 (kg (zZ X.g (XS s))),sdW s):=by
    unfold US;rw [iF (by omega),iF (by rw [hus];simp),iF (by omega),hv2];simp only [];rw [iF (by omega),iT q,iF (fun x=>hn2 x.1),iF (fun x=>hn2 x.1),iF hn2,q]<;>rfl
   exact VV X sA nA aA bA sc nc ac bc vA eA vc ec B s w hK h1 h2 h3 h4 h5 h6 ls ln l1 l2 hl 91 (.inr (.inr (.inl ⟨q,rfl⟩))) hst (by omega) hus v hv 131 {X with x:=XS s,own:=zZ X.g (XS s)} rfl (kg (zZ X.g (XS s))) (sdW s) (kx 131 (kg (zZ X.g (XS s)))) (fun A c W h=>UY 131 ⟨by omega,by omega⟩ A c _ W h (by simp [kg])) (fun P sA nA aA bA sc nc ac bc vA eA vc ec w k r h1 h2 h3 h4 h5 h6 h7=>termKey_int P X sA nA aA bA sc nc ac bc vA eA vc ec v s w k r h1 h2 h3 h4 h5 h6 h7 hp3 (hg hp3)) hr
  have hp2:X.pr=2:=by omega
  obtain⟨⟨er,o⟩,hde⟩:∃r,jF v=r:=⟨_,rfl⟩
  by_cases he:er=0
  ·subst he
   obtain⟨⟨er,gi⟩,hge⟩:∃r,qJ X.non X.x o=r:=⟨_,rfl⟩
   by_cases he:er=0
   ·subst he
    have hr:US X B s=(0,{({X with g:=gi,x:=XS s,own:=zZ gi (XS s)}:Exg)with st:=X.st+1},kx 131 (kg (zZ gi (XS s))),sdW s):=by
     unfold US;rw [iF (by omega),iF (by rw [hus];simp),iF (by omega),hv2];simp only [];rw [iF (by omega),iT q,hde];simp only [];rw [hge,iF (by simp),iF (by simp),iT hp2,q]<;>rfl
    exact VV X sA nA aA bA sc nc ac bc vA eA vc ec B s w hK h1 h2 h3 h4 h5 h6 ls ln l1 l2 hl 91 (.inr (.inr (.inl ⟨q,rfl⟩))) hst (by omega) hus v hv 131 {X with g:=gi,x:=XS s,own:=zZ gi (XS s)} rfl (kg (zZ gi (XS s))) (sdW s) (kx 131 (kg (zZ gi (XS s)))) (fun A c W h=>UY 131 ⟨by omega,by omega⟩ A c _ W h (by simp [kg])) (fun P sA nA aA bA sc nc ac bc vA eA vc ec w k r h1 h2 h3 h4 h5 h6 h7=>termKey_any P X sA nA aA bA sc nc ac bc vA eA vc ec v s w k r h1 h2 h3 h4 h5 h6 h7 hp2 o hde gi hge (genW_elem hge)) hr
   ·have hr:US X B s=qk er:=by
     unfold US;rw [iF (by omega),iF (by rw [hus];simp),iF (by omega),hv2];simp only [];rw [iF (by omega),iT q,hde];simp only [];rw [hge,iF (by simp),iT ⟨hp2,he⟩]
    exact term_err X sA nA aA bA sc nc ac bc vA eA vc ec B s w hK h1 h2 h3 h4 h5 h6 ls ln l1 l2 hl 91 (.inr (.inr (.inl ⟨q,rfl⟩))) hst hus v hv er (ne_err he) (fun P sA nA aA bA sc nc ac bc vA eA vc ec w k r h1 h2 h3 h4 h5 h6 h7=>termKey_gen P X sA nA aA bA sc nc ac bc vA eA vc ec v s w k r h1 h2 h3 h4 h5 h6 h7 hp2 o hde er gi hge (ne_err he)) hr
  ·have hr:US X B s=qk er:=by
    unfold US;rw [iF (by omega),iF (by rw [hus];simp),iF (by omega),hv2];simp only [];rw [iF (by omega),iT q,hde];simp only [];rw [iT ⟨hp2,he⟩]
   exact term_err X sA nA aA bA sc nc ac bc vA eA vc ec B s w hK h1 h2 h3 h4 h5 h6 ls ln l1 l2 hl 91 (.inr (.inr (.inl ⟨q,rfl⟩))) hst hus v hv er (ne_err he) (fun P sA nA aA bA sc nc ac bc vA eA vc ec w k r h1 h2 h3 h4 h5 h6 h7=>termKey_dec P X sA nA aA bA sc nc ac bc vA eA vc ec v s w k r h1 h2 h3 h4 h5 h6 h7 hp2 er o hde (ne_err he)) hr
 ·obtain⟨hn,hg,ho,hx⟩:=hk3 q
  obtain⟨⟨er,o⟩,hde⟩:∃r,jF v=r:=⟨_,rfl⟩
  by_cases he:er=0
  ·subst he
   by_cases heq:o=X.own
   ·have hr:US X B s=qk 10:=by
     unfold US;rw [iF (by omega),iF (by rw [hus];simp),iF (by omega),hv2];simp only [];rw [iF (by omega),iF (by omega),iT q,hde];simp only [];rw [iF (by simp),iT heq]
    exact term_err X sA nA aA bA sc nc ac bc vA eA vc ec B s w hK h1 h2 h3 h4 h5 h6 ls ln l1 l2 hl 92 (.inr (.inr (.inr (.inl ⟨q,rfl⟩)))) hst hus v hv 10 (by decide) (fun P sA nA aA bA sc nc ac bc vA eA vc ec w k r h1 h2 h3 h4 h5 h6 h7=>termAgree_same P X sA nA aA bA sc nc ac bc vA eA vc ec v s w k r h1 h2 h3 h4 h5 h6 h7 o hde heq) hr
   ·have hys:(Zb X o).2.st=X.st:=by unfold Zb;rw [iF heq]
    have hk:(Zb X o).2.k2.length=16:=by unfold Zb;rw [iF heq];exact zh _ _
    have hr:US X B s=(0,{(Zb X o).2 with st:=(Zb X o).2.st+1},kx 133 (tkW (Zb X o).2 o),s):=by
     rw [hys];unfold US;rw [iF (by omega),iF (by rw [hus];simp),iF (by omega),hv2];simp only [];rw [iF (by omega),iF (by omega),iT q,hde];simp only [];rw [iF (by simp),iF heq,q]<;>rfl
    exact VV X sA nA aA bA sc nc ac bc vA eA vc ec B s w hK h1 h2 h3 h4 h5 h6 ls ln l1 l2 hl 92 (.inr (.inr (.inr (.inl ⟨q,rfl⟩)))) hst (by omega) hus v hv 133 _ hys (tkW (Zb X o).2 o) s (kx 133 (tkW (Zb X o).2 o)) (fun A c W h=>UY 133 ⟨by omega,by omega⟩ A c _ W h (by rw [tkl _ _ hk];omega)) (fun P sA nA aA bA sc nc ac bc vA eA vc ec w k r h1 h2 h3 h4 h5 h6 h7=>termAgree_any P X sA nA aA bA sc nc ac bc vA eA vc ec v s w k r h1 h2 h3 h4 h5 h6 h7 o hx hde heq) hr
  ·have hr:US X B s=qk er:=by
    unfold US;rw [iF (by omega),iF (by rw [hus];simp),iF (by omega),hv2];simp only [];rw [iF (by omega),iF (by omega),iT q,hde];simp only [];rw [iT he]
   exact term_err X sA nA aA bA sc nc ac bc vA eA vc ec B s w hK h1 h2 h3 h4 h5 h6 ls ln l1 l2 hl 92 (.inr (.inr (.inr (.inl ⟨q,rfl⟩)))) hst hus v hv er (ne_err he) (fun P sA nA aA bA sc nc ac bc vA eA vc ec w k r h1 h2 h3 h4 h5 h6 h7=>termAgree_err P X sA nA aA bA sc nc ac bc vA eA vc ec v s w k r h1 h2 h3 h4 h5 h6 h7 er o hde (ne_err he) (by simp [he])) hr
 ·obtain⟨ho,ht,hk2⟩:=hk4 q
  by_cases hvt:v=tkW X X.own
  ·have hr:US X B s=(0,{X with st:=X.st+1},[],s):=by
    unfold US;rw [iF (by omega),iF (by rw [hus];simp),iF (by omega),hv2];simp only [];rw [iF (by omega),iF (by omega),iF (by omega),iF (fun x=>x hvt),q]<;>rfl
   exact term_last X sA nA aA bA sc nc ac bc vA eA vc ec B s w hK h1 h2 h3 h4 h5 h6 ls ln l1 l2 hl 93 (.inr (.inr (.inr (.inr (⟨q,rfl⟩))))) hst q hus v hv (-1) X rfl [] s (kx 0 []) (fun A c W _=>YI _ W) (fun P sA nA aA bA sc nc ac bc vA eA vc ec w k r h1 h2 h3 h4 h5 h6 h7=>termCheck_any P X sA nA aA bA sc nc ac bc vA eA vc ec v s w k r h1 h2 h3 h4 h5 h6 h7 hk2 ho hvt) hr
  ·have hr:US X B s=qk 21:=by
    unfold US;rw [iF (by omega),iF (by rw [hus];simp),iF (by omega),hv2];simp only [];rw [iF (by omega),iF (by omega),iF (by omega),iT hvt]
   exact term_err X sA nA aA bA sc nc ac bc vA eA vc ec B s w hK h1 h2 h3 h4 h5 h6 ls ln l1 l2 hl 93 (.inr (.inr (.inr (.inr (⟨q,rfl⟩))))) hst hus v hv 21 (by decide) (fun P sA nA aA bA sc nc ac bc vA eA vc ec w k r h1 h2 h3 h4 h5 h6 h7=>termCheck_err P X sA nA aA bA sc nc ac bc vA eA vc ec v s w k r h1 h2 h3 h4 h5 h6 h7 hk2 ho hvt) hr
def ShX(X:Exg):Prop:=X.sec.length<=140737488351232/\X.non.length<=140737488351232/\X.k1.length<=140737488351232/\X.k2.length<=140737488351232
theorem fail_sh(er:Int):ShX (qk er).2.1/\(qk er).2.2.2.length<=140737488351232:=⟨⟨by simp [qk,zX],by simp [qk,zX],by simp [qk,zX],by simp [qk,zX]⟩,by simp [qk]⟩
theorem agree_sh{e:Exg}(h:ShX e)(o:Int):ShX (Zb e o).2:=by
 unfold Zb
 split
 ·exact h
 ·exact⟨h.1,h.2.1,by show(ZB _ _).length<=_;rw [zh];omega,by show(ZB _ _).length<=_;rw [zh];omega⟩
theorem rev_le(kd:Int)(sec v:List UInt8):(Z5 kd sec v).2.length<=140737488351232:=by
 unfold Z5
 split
 ·simp
 ·split
  ·simp
  ·rename_i h
   show(Jf _ Z16 v).length<=_
   rw [openL1 _ _ (Classical.byContradiction h)]
   omega
theorem sd_le(s:List UInt8):(sdW s).length<=140737488351232:=by unfold sdW;rw [ji];omega
theorem draw_le(s:List UInt8):(k7 s 16).length<=140737488351232:=by rw [drawL];omega
theorem term_sh(X:Exg)(B s:List UInt8)(h:ShX X)(hs:s.length<=140737488351232):ShX (US X B s).2.1/\(US X B s).2.2.2.length<=140737488351232:=by
 obtain⟨a,b,c,d⟩:=h
 unfold US
 split
 ·exact fail_sh _
 split
 ·exact fail_sh _
 split
 ·split
  ·exact fail_sh _
  ·exact⟨⟨a,b,c,d⟩,hs⟩
 split
 ·exact fail_sh _
 split
 ·split
  ·exact⟨⟨a,rev_le _ _ _,c,d⟩,sd_le _⟩
  ·exact⟨⟨a,rev_le _ _ _,c,d⟩,sd_le _⟩
 split
 ·split
  ·exact fail_sh _
  ·split
   ·exact fail_sh _
   ·exact⟨⟨a,b,c,d⟩,sd_le _⟩
 split
 ·split
  ·exact fail_sh _
  ·split
   ·exact fail_sh _
   ·exact⟨agree_sh (e:=X) ⟨a,b,c,d⟩ _,hs⟩
 split
 ·exact fail_sh _
 ·exact⟨⟨a,b,c,d⟩,hs⟩
theorem chip_sh(X:Exg)(B s:List UInt8)(h:ShX X)(hs:s.length<=140737488351232):ShX (U2 X B s).2.1/\(U2 X B s).2.2.2.length<=140737488351232:=by
 obtain⟨a,b,c,d⟩:=h
 unfold U2
 split
 ·exact fail_sh _
 split
 ·exact fail_sh _
 split
 ·exact fail_sh _
 split
 ·exact⟨⟨a,draw_le _,c,d⟩,sd_le _⟩
 split
 ·split
  ·exact⟨⟨a,b,c,d⟩,hs⟩
  ·split
   ·exact fail_sh _
   ·split
    ·exact fail_sh _
    ·exact⟨⟨a,b,c,d⟩,sd_le _⟩
 split
 ·split
  ·exact fail_sh _
  ·split
   ·exact fail_sh _
   ·rename_i v _ _ _ _ _ _
    have:=agree_sh (e:={X with x:=XS s,own:=zZ X.g (XS s)}) ⟨a,b,c,d⟩
    exact⟨this _,sd_le _⟩
 split
 ·exact fail_sh _
 ·exact⟨⟨a,b,c,d⟩,hs⟩
section
variable {kd m:Int} {sec:List UInt8}
theorem run_term(hm:m=2\/m=3)(hp:vPw kd sec=true){i:Nat}{T C:Exg}{R:List UInt8}(h:rndQ kd sec m i T C R)(hi:i<4)(s:List UInt8):(US T R s).1=0/\midX kd sec m i (US T R s).2.1 C (US T R s).2.2.1:=by
 obtain rfl|rfl|rfl|rfl:i=0\/i=1\/i=2\/i=3:=by omega
 ·exact term0 hp hm h s
 ·exact term1 hp hm h s
 ·exact term2 hp hm h s
 ·exact term3 hp hm h s
theorem run_chip(hm:m=2\/m=3)(hp:vPw kd sec=true){i:Nat}{T C:Exg}{D:List UInt8}(h:midX kd sec m i T C D)(hi:i<4)(s:List UInt8):((U2 C D s).1=0/\rndQ kd sec m (i+1) T (U2 C D s).2.1 (U2 C D s).2.2.1)\/((U2 C D s).1=10/\(i=1\/i=2)):=by
 obtain rfl|rfl|rfl|rfl:i=0\/i=1\/i=2\/i=3:=by omega
 ·exact .inl (chip0 hp hm h s)
 ·exact(chip1 hp hm h s).imp id fun h=>⟨h,.inl rfl⟩
 ·exact(chip2 hp hm h s).imp id fun h=>⟨h,.inr rfl⟩
 ·exact .inl (chip3 hp hm h s)
end
theorem dproto_any(B p n:Nat)(w:World)(h:Die B w p n):Calls Tryz.prog 37 #[.pointer (some ⟨p,0,none⟩)] w fun e w'=>∃m:Int,e=.returned (.int .i64 m)/\(m=2\/m=3)/\DiePost B w p n w':=by
 have H:=iH h
 clear h
 go_enter Tryz.func37,Tryz.ntmps37
 go_wp2_with(go_at_call 42;refine(qA B p n _ _ H.out (by decide) (by decide)).mono ?_;rintro e w1 ⟨z,rfl,hz,hd⟩;have HD:=iH hd;clear hd)
 go_ret
 exact⟨2+z,rfl,by omega,HD.out⟩
def BA(w:World)(n:Nat)(wx:World)(L:List (Value×List UInt8)):Prop:=
 Die (w.heap.size+1) wx w.heap.size n/\Below w.heap.size w wx/\∀x∈L,BsS wx (fun b=>b<wx.heap.size/\b≠w.heap.size) x.1 x.2
section
variable {w wx wy:World} {n:Nat} {L:List (Value×List UInt8)}
theorem BA.die(h:BA w n wx L):Die (w.heap.size+1) wx w.heap.size n:=h.1
theorem BA.bel(h:BA w n wx L):Below w.heap.size w wx:=h.2.1
theorem BA.lt(h:BA w n wx L):w.heap.size<wx.heap.size:=h.1.le
theorem BA.at(h:BA w n wx L)(i:Nat){v:Value}{l:List UInt8}(hi:L[i]?=some (v,l)):BsS wx (fun b=>b<wx.heap.size/\b≠w.heap.size) v l:=h.2.2 (v,l) (List.mem_of_getElem? hi)
theorem BA.dice(h:BA w n wx L)(hd:DiePost (w.heap.size+1) wx w.heap.size n wy):BA w n wy L:=
 ⟨hd.1,h.2.1.grown hd.2 h.2.1.size (fun k e=>by injection e with e;omega),fun x hx=>(h.2.2 x hx).dieB hd⟩
theorem BA.on(h:BA w n wx L)(hb:Below wx.heap.size wx wy):BA w n wy L:=
 ⟨h.1.below (hb.mono h.1.le),h.2.1.trans (hb.mono h.2.1.size),fun x hx=>(h.2.2 x hx).onB hb⟩
theorem BA.add(h:BA w n wx L){wz:World}(hp:w.heap.size<wz.heap.size){v:Value}{l:List UInt8}(hv:BsS wx (New wz wx) v l):BA w n wx ((v,l) :: L):=
 ⟨h.1,h.2.1,fun x hx=>by
  rcases List.mem_cons.1 hx with rfl|hx
  ·exact hv.madeB hp
  ·exact h.2.2 x hx⟩
theorem BA.nil(hd:Die (w.heap.size+1) wx w.heap.size n)(hb:Below w.heap.size w wx):BA w n wx []:=⟨hd,hb,fun _ h=>by simp at h⟩
theorem BA.arg(h:BA w n wx L){v:Value}{l:List UInt8}(hv:Bs w w.heap.size v l):BA w n wx ((v,l) :: L):=
 ⟨h.1,h.2.1,fun x hx=>by
  rcases List.mem_cons.1 hx with rfl|hx
  ·exact BsS.keep hv fun g hg _=>⟨h.2.1.block g hg,iZ hg h.2.1.size,by omega⟩
  ·exact h.2.2 x hx⟩
end
def szT(j:Nat):Int:=if j=0 then 0 else if j=3 then 8 else 4
def szB(j:Nat):Int:=if j=0 then 16 else if j=3 then 8 else 4
theorem ixT(j:Nat)(h:j<4)(w:World):(Instr.index 64 (.agg #[.int .i64 0,.int .i64 4,.int .i64 4,.int .i64 8]) (.int .i64 (j:Int))).run Tryz.prog w=.ok (.int .i64 (szT j)) w:=by
 obtain rfl|rfl|rfl|rfl:j=0\/j=1\/j=2\/j=3:=by omega
 all_goals kernel_rfl
theorem ixB(j:Nat)(h:j<4)(w:World):(Instr.index 64 (.agg #[.int .i64 16,.int .i64 4,.int .i64 4,.int .i64 8]) (.int .i64 (j:Int))).run Tryz.prog w=.ok (.int .i64 (szB j)) w:=by
 obtain rfl|rfl|rfl|rfl:j=0\/j=1\/j=2\/j=3:=by omega
 all_goals kernel_rfl
theorem ln_back(m:Int)(j:Nat)(h:¬(m=3/\j=1)):((lnC m j:Nat):Int)=szB j:=by
 unfold lnC szB
 by_cases h0:j=0
 ·rw [iT h0,iT h0]<;>rfl
 ·rw [iF h0,iF h0]
  by_cases h1:j=1
  ·rw [iT h1,iF (fun x=>h ⟨x,h1⟩),iF (by omega)]<;>rfl
  ·rw [iF h1];split<;>rfl
theorem ln_size(m:Int)(j:Nat)(h:¬(m=3/\j=1)):((lnT m j:Nat):Int)=szT j:=by
 unfold lnT szT
 by_cases h0:j=0
 ·rw [iT h0,iT h0]<;>rfl
 ·rw [iF h0,iF h0]
  by_cases h1:j=1
  ·rw [iT h1,iF (fun x=>h ⟨x,h1⟩),iF (by omega)]<;>rfl
  ·rw [iF h1];split<;>rfl
theorem passwordShapes_law(v:Value)(n:Nat)(vs:Value)(S:List UInt8)(ns:S.length<=140737488351232)(vo:Value)(O:List UInt8)(no:O.length<=140737488351232)(w:World)(hK:KD w)(hv:IntsS w (·<w.heap.size) v n)(hs:Bs w w.heap.size vs S)(ho:Bs w w.heap.size vo O):
 Calls Tryz.prog 9 #[v,vs,vo] w fun e w'=>e=.returned (.bool true)/\Below w.heap.size w w':=by
 obtain⟨va,vc,rfl⟩:=hv.form
 obtain⟨eA,ec,rfl⟩:=Bs.formL hs
 obtain⟨oA,oc,rfl⟩:=Bs.formL ho
 have HL:=iH (ZI _ _ n w hv)
 have HR:=iH (UJ _ n w hv)
 have HK:=iH hK;have HS:=iH hs;have HO:=iH ho;have HNS:=iH ns;have HNO:=iH no
 clear hv hK hs ho ns no
 by_cases hlt:(n:Int)<=400
 ·have hn1:decide ((n:Int)<=400)=true:=decide_eq_true hlt
  rw [hn1]at HL
  clear hlt hn1
  go_enter Tryz.func9,Tryz.ntmps9
  go_upto_region 5 with (first
   |(go_at_call 37;refine(dproto_any _ _ n w2 H2.out.die).mono ?_;rintro e w3 ⟨m,rfl,hm,hd⟩;have H3:=iH (H2.out.dice hd);clear hd)
   |(go_at_call 14;refine(Zt _ _ n w1 H1.out.die).mono ?_;rintro e w2 ⟨kd,sec,sp,cp,rfl,hs,hkd,hsl,hd⟩;have H2:=iH ((H1.out.dice hd).add H1.out.lt hs);clear hs hd)
   |(go_at_call 10;refine HL.out.mono ?_;rintro e w' ⟨rfl,hw'⟩;rw [hw'];clear hw' w')
   |(go_at_call 12;refine HR.out.mono ?_;rintro e w1 ⟨rfl,hd,hb⟩;have H1:=iH (((BA.nil hd hb).arg HS.out).arg HO.out);clear hd hb))
  obtain⟨w4,hw⟩:∃z,z=w3.alloc (.cells #[.int .i64 kd,.slice sp sec.length cp] 24):=⟨_,rfl⟩
  rw [<-hw]
  have PWF:Hid (w4.heap[w3.heap.size]?=some (.cells #[.int .i64 kd,.slice sp sec.length cp] 24 (0,0))):=iH (by rw [hw];exact iN)
  have H4:Hid (BA w n w4 _):=iH (by rw [hw];exact H3.out.on (jq _ _))
  clear hw
  have hvp:vPw kd sec=true:=decide_eq_true ⟨hkd.1,hkd.2,hsl.1,by omega⟩
  have HM:=iH hm;have HVP:=iH hvp
  have hbg:JG kd sec m=(0,bgX kd sec m):=by unfold JG;rw [iF (by rw [hvp];simp),iF (fun h=>h hm)]
  have HBG:=iH (fun W h=>XL kd sec sp cp m W h (by omega))
  obtain⟨X0,hX0⟩:∃X,bgX kd sec m=X:=⟨_,rfl⟩
  rw [hbg,hX0]at HBG
  have HX0:=iH hX0
  have hsh:ShX X0:=by rw [<-hX0];exact⟨by show sec.length<=_;omega,by show(0:Nat)<=_;omega,by show(0:Nat)<=_;omega,by show(0:Nat)<=_;omega⟩
  have HSH:=iH hsh
  clear hm hvp hbg hX0 hsh hkd hsl H1 H2 H3
  obtain⟨c0,c1,_⟩:=two PWF.out
  go_upto_region 6 with (go_at_call 31;refine(HBG.out w4 (H4.out.at 0 rfl).loB).mono ?_;rintro e w5 ⟨y,rfl,⟨u1,u2,u3,u4,rfl,hs,hn,ha,hb⟩,hbw⟩;obtain⟨s1,sc1,hp⟩:=Bs.formL hs;subst hp;obtain⟨n1,nc1,hp⟩:=Bs.formL hn;subst hp;obtain⟨a1,ac1,hp⟩:=Bs.formL ha;subst hp;obtain⟨b1,bc1,hp⟩:=Bs.formL hb;subst hp;have H5:=iH (H4.out.on hbw);have hv:VRQ9 w w5 [] [(.slice sp sec.length cp,sec),(.slice oA O.length oc,O),(.slice eA S.length ec,S)]:=⟨H5.out.bel,fun r h=>(by simp at h),fun x h=>(H5.out.2.2 x h).loB⟩;have V5Q9:=iH ((((hv.add hs).add hn).add ha).add hb);have HPB:=iH hbw;clear hs hn ha hb hbw hv c0 c1)
  obtain⟨w6,hw⟩:∃z,z=w5.alloc (.cells #[.int .i64 X0.kd,.slice s1 X0.sec.length sc1,.int .i64 X0.pr,.int .i64 X0.st,.slice n1 X0.non.length nc1,.int .i64 X0.x,.int .i64 X0.g,.int .i64 X0.own,.int .i64 X0.oth,.slice a1 X0.k1.length ac1,.slice b1 X0.k2.length bc1,.int .i64 X0.ct] 48):=⟨_,rfl⟩
  rw [<-hw]
  have V6Q9:Hid (VRQ9 w w6 _ _):=iH (by rw [hw];exact V5Q9.out.row #[.int .i64 X0.kd,.slice s1 X0.sec.length sc1,.int .i64 X0.pr,.int .i64 X0.st,.slice n1 X0.non.length nc1,.int .i64 X0.x,.int .i64 X0.g,.int .i64 X0.own,.int .i64 X0.oth,.slice a1 X0.k1.length ac1,.slice b1 X0.k2.length bc1,.int .i64 X0.ct])
  have HA6:Hid (Below w5.heap.size w5 w6):=iH (by rw [hw];exact jq _ _)
  clear hw
  obtain⟨c0,c1,_⟩:=two ((HA6.out.block _ (lt_of_block ((HPB.out.block _ (lt_of_block PWF.out)).trans PWF.out))).trans ((HPB.out.block _ (lt_of_block PWF.out)).trans PWF.out))
  go_upto_region 7 with (go_at_call 31;refine(HBG.out w6 (V6Q9.out.at 4 rfl)).mono ?_;rintro e w7 ⟨y,rfl,⟨u1,u2,u3,u4,rfl,hs,hn,ha,hb⟩,hbw⟩;obtain⟨s2,sc2,hp⟩:=Bs.formL hs;subst hp;obtain⟨n2,nc2,hp⟩:=Bs.formL hn;subst hp;obtain⟨a2,ac2,hp⟩:=Bs.formL ha;subst hp;obtain⟨b2,bc2,hp⟩:=Bs.formL hb;subst hp;have V7Q9:=iH (((((V6Q9.out.on hbw).add hs).add hn).add ha).add hb);clear hs hn ha hb hbw c0 c1)
  obtain⟨w8,hw⟩:∃z,z=w7.alloc (.cells #[.int .i64 X0.kd,.slice s2 X0.sec.length sc2,.int .i64 X0.pr,.int .i64 X0.st,.slice n2 X0.non.length nc2,.int .i64 X0.x,.int .i64 X0.g,.int .i64 X0.own,.int .i64 X0.oth,.slice a2 X0.k1.length ac2,.slice b2 X0.k2.length bc2,.int .i64 X0.ct] 48):=⟨_,rfl⟩
  rw [<-hw]
  have V8Q9:Hid (VRQ9 w w8 _ _):=iH (by rw [hw];exact V7Q9.out.row #[.int .i64 X0.kd,.slice s2 X0.sec.length sc2,.int .i64 X0.pr,.int .i64 X0.st,.slice n2 X0.non.length nc2,.int .i64 X0.x,.int .i64 X0.g,.int .i64 X0.own,.int .i64 X0.oth,.slice a2 X0.k1.length ac2,.slice b2 X0.k2.length bc2,.int .i64 X0.ct])
  have HA8:Hid (Below w7.heap.size w7 w8):=iH (by rw [hw];exact jq _ _)
  clear hw
  obtain⟨gt,hgt⟩:∃g,g=w5.heap.size:=⟨_,rfl⟩
  obtain⟨gc,hgc⟩:∃g,g=w7.heap.size:=⟨_,rfl⟩
  have hgo:w.heap.size<=gt/\w.heap.size<=gc/\gt≠gc:=by have h6:=lt_of_block (V8Q9.out.rw 1 rfl);have h1:=V5Q9.out.bel.size;have h2:=V7Q9.out.bel.size;have h3:=lt_of_block (V7Q9.out.rw 0 rfl);rw [hgt,hgc];exact⟨h1,h2,by omega⟩
  rw [<-hgt,<-hgc]
  have hst:VRQ9 w w8 [(gt,#[.int .i64 X0.kd,.slice s1 X0.sec.length sc1,.int .i64 X0.pr,.int .i64 X0.st,.slice n1 X0.non.length nc1,.int .i64 X0.x,.int .i64 X0.g,.int .i64 X0.own,.int .i64 X0.oth,.slice a1 X0.k1.length ac1,.slice b1 X0.k2.length bc1,.int .i64 X0.ct]),(gc,#[.int .i64 X0.kd,.slice s2 X0.sec.length sc2,.int .i64 X0.pr,.int .i64 X0.st,.slice n2 X0.non.length nc2,.int .i64 X0.x,.int .i64 X0.g,.int .i64 X0.own,.int .i64 X0.oth,.slice a2 X0.k1.length ac2,.slice b2 X0.k2.length bc2,.int .i64 X0.ct])] [(.slice b1 X0.k2.length bc1,X0.k2),(.slice a1 X0.k1.length ac1,X0.k1),(.slice n1 X0.non.length nc1,X0.non),(.slice s1 X0.sec.length sc1,X0.sec),(.slice b2 X0.k2.length bc2,X0.k2),(.slice a2 X0.k1.length ac2,X0.k1),(.slice n2 X0.non.length nc2,X0.non),(.slice s2 X0.sec.length sc2,X0.sec),(.slice none 0 0,[]),(.slice eA S.length ec,S),(.slice oA O.length oc,O)]:=by
   rw [hgt,hgc];exact((V8Q9.out.add (kh _ _)).but (by simp) (by simp))
  have HGO:=iH hgo;have HST:=iH hst
  clear hgo hst hgt hgc
  go_upto_region 9 with fail
  go_loopg [1,2,14,15] 4 (fun q s o r i wr=>∃(j:Nat) (T C:Exg) (R S O:List UInt8),j+q=4/\i=.int .i64 (j:Int)/\rndQ kd sec m j T C R/\ShX T/\ShX C/\S.length<=140737488351232/\O.length<=140737488351232/\∃s1 n1 a1 b1 sc1 nc1 ac1 bc1 s2 n2 a2 b2 sc2 nc2 ac2 bc2,VRQ9 w wr [(gt,#[.int .i64 T.kd,.slice s1 T.sec.length sc1,.int .i64 T.pr,.int .i64 T.st,.slice n1 T.non.length nc1,.int .i64 T.x,.int .i64 T.g,.int .i64 T.own,.int .i64 T.oth,.slice a1 T.k1.length ac1,.slice b1 T.k2.length bc1,.int .i64 T.ct]),(gc,#[.int .i64 C.kd,.slice s2 C.sec.length sc2,.int .i64 C.pr,.int .i64 C.st,.slice n2 C.non.length nc2,.int .i64 C.x,.int .i64 C.g,.int .i64 C.own,.int .i64 C.oth,.slice a2 C.k1.length ac2,.slice b2 C.k2.length bc2,.int .i64 C.ct])] [(.slice b1 T.k2.length bc1,T.k2),(.slice a1 T.k1.length ac1,T.k1),(.slice n1 T.non.length nc1,T.non),(.slice s1 T.sec.length sc1,T.sec),(.slice b2 C.k2.length bc2,C.k2),(.slice a2 C.k1.length ac2,C.k1),(.slice n2 C.non.length nc2,C.non),(.slice s2 C.sec.length sc2,C.sec),(r,R),(s,S),(o,O)])
  case atStart=>exact⟨0,X0,X0,[],S,O,by omega,rfl,⟨HX0.out.symm,HX0.out.symm,rfl⟩,HSH.out,HSH.out,HNS.out,HNO.out,_,_,_,_,_,_,_,_,_,_,_,_,_,_,_,_,HST.out⟩
  case round=>
  clear V5Q9 V6Q9 V7Q9 V8Q9 HA6 HA8 H4 H5 HST HPB PWF HSH HX0 HBG HNS HNO
  obtain⟨j,T,C,R,S,O,hj,rfl,hQ,hT,hC,hS,hO,s1,n1,a1,b1,sc1,nc1,ac1,bc1,s2,n2,a2,b2,sc2,nc2,ac2,bc2,hV⟩:=hrel
  obtain⟨w10,rfl⟩:∃W:World,W=wr:=⟨_,rfl⟩
  have hr0:=hV.at 8 rfl;have hs0:=hV.at 9 rfl;have ho0:=hV.at 10 rfl
  obtain⟨rA,rc,hp⟩:=Bs.formL hr0;subst hp;obtain⟨eA,ec,hp⟩:=Bs.formL hs0;subst hp;obtain⟨oA,oc,hp⟩:=Bs.formL ho0;subst hp
  have V10:=iH hV;have HQ:=iH hQ;have HT:=iH hT;have HC:=iH hC;have HSL:=iH hS;have HOL:=iH hO
  clear hV hQ hT hC hS hO hr0 hs0 ho0
  by_cases hj3:j<4
  rotate_left
  ·go_wp2_with(go_at_call 11;refine(qx w10 (HK.out.below V10.out.bel HK.out.lt)).mono ?_;rintro e w11 ⟨rfl,hb⟩;have V11:=iH (V10.out.on hb);clear hb)
   go_ret
   exact⟨rfl,V11.out.bel⟩
  obtain⟨⟨er,Y,D,N⟩,ht⟩:∃r,US T R S=r:=⟨_,rfl⟩
  have HTW:=iH ht
  have hsh:=term_sh T R S HT.out HSL.out
  rw [ht]at hsh
  have HSY:=iH hsh
  have hmid:=run_term HM.out HVP.out HQ.out hj3 S
  rw [ht]at hmid
  obtain⟨he0,hmid⟩:=hmid
  have he0:er=0:=he0;have hmid:midX kd sec m j Y C D:=hmid
  subst he0
  have HMID:=iH hmid
  clear ht hsh hmid
  obtain⟨f0,f1,f2,f3,f4,f5,f6,f7,f8,f9,f10,f11,ff⟩:=jy (V10.out.rw 0 rfl);clear ff
  go_upto_region 12 with (go_at_call 35;refine(term_any T s1 n1 a1 b1 sc1 nc1 ac1 bc1 rA eA rc ec R S w10 (HK.out.below V10.out.bel HK.out.lt) (V10.out.at 3 rfl) (V10.out.at 2 rfl) (V10.out.at 1 rfl) (V10.out.at 0 rfl) (V10.out.at 8 rfl) (V10.out.at 9 rfl) HT.out.1 HT.out.2.1 HT.out.2.2.1 HT.out.2.2.2 HSL.out).mono ?_;rw [HTW.out];rintro e w11 ⟨y,dd3,dc3,nn3,nd3,rfl,⟨u1,u2,u3,u4,rfl,hs,hn,ha,hb⟩,hd,hx,hbw⟩;obtain⟨s3,sc3,hp⟩:=Bs.formL hs;subst hp;obtain⟨n3,nc3,hp⟩:=Bs.formL hn;subst hp;obtain⟨a3,ac3,hp⟩:=Bs.formL ha;subst hp;obtain⟨b3,bc3,hp⟩:=Bs.formL hb;subst hp;have V11:=iH (((((((V10.out.on hbw).add hs).add hn).add ha).add hb).add hd).add hx);clear f0 f1 f2 f3 f4 f5 f6 f7 f8 f9 f10 f11;clear hs hn ha hb hd hx hbw)
  obtain⟨w12,hw⟩:∃z,z=w11.alloc (.cells #[.int .i64 Y.kd,.slice s3 Y.sec.length sc3,.int .i64 Y.pr,.int .i64 Y.st,.slice n3 Y.non.length nc3,.int .i64 Y.x,.int .i64 Y.g,.int .i64 Y.own,.int .i64 Y.oth,.slice a3 Y.k1.length ac3,.slice b3 Y.k2.length bc3,.int .i64 Y.ct] 48):=⟨_,rfl⟩
  rw [<-hw]
  have V12:Hid (VRQ9 w w12 _ _):=iH (by rw [hw];exact V11.out.row #[.int .i64 Y.kd,.slice s3 Y.sec.length sc3,.int .i64 Y.pr,.int .i64 Y.st,.slice n3 Y.non.length nc3,.int .i64 Y.x,.int .i64 Y.g,.int .i64 Y.own,.int .i64 Y.oth,.slice a3 Y.k1.length ac3,.slice b3 Y.k2.length bc3,.int .i64 Y.ct])
  have HA12:Hid (Below w11.heap.size w11 w12):=iH (by rw [hw];exact jq _ _)
  clear hw
  obtain⟨f0,f1,f2,f3,f4,f5,f6,f7,f8,f9,f10,f11,ff⟩:=jy (V12.out.rw 1 rfl);have ff0:=ff 0;have ff1:=ff 1;have ff2:=ff 2;have ff3:=ff 3;have ff4:=ff 4;have ff5:=ff 5;have ff6:=ff 6;have ff7:=ff 7;have ff8:=ff 8;have ff9:=ff 9;have ff10:=ff 10;have ff11:=ff 11;clear ff;obtain⟨g0,g1,g2,g3,g4,g5,g6,g7,g8,g9,g10,g11,gf⟩:=jy (V12.out.rw 2 rfl);clear gf;obtain⟨h0,h1,h2,h3,h4,h5,h6,h7,h8,h9,h10,h11,hf⟩:=jy (V12.out.rw 0 rfl);clear hf
  go_upto_region 15 with fail
  obtain⟨w13,hw⟩:∃z,z=set12 w12 (gt) (.int .i64 Y.kd) (.slice s3 Y.sec.length sc3) (.int .i64 Y.pr) (.int .i64 Y.st) (.slice n3 Y.non.length nc3) (.int .i64 Y.x) (.int .i64 Y.g) (.int .i64 Y.own) (.int .i64 Y.oth) (.slice a3 Y.k1.length ac3) (.slice b3 Y.k2.length bc3) (.int .i64 Y.ct):=⟨_,rfl⟩
  have V13:Hid (VRQ9 w w13 ((gt,#[.int .i64 Y.kd,.slice s3 Y.sec.length sc3,.int .i64 Y.pr,.int .i64 Y.st,.slice n3 Y.non.length nc3,.int .i64 Y.x,.int .i64 Y.g,.int .i64 Y.own,.int .i64 Y.oth,.slice a3 Y.k1.length ac3,.slice b3 Y.k2.length bc3,.int .i64 Y.ct]) :: [(gc,#[.int .i64 C.kd,.slice s2 C.sec.length sc2,.int .i64 C.pr,.int .i64 C.st,.slice n2 C.non.length nc2,.int .i64 C.x,.int .i64 C.g,.int .i64 C.own,.int .i64 C.oth,.slice a2 C.k1.length ac2,.slice b2 C.k2.length bc2,.int .i64 C.ct]),(w11.heap.size,#[.int .i64 Y.kd,.slice s3 Y.sec.length sc3,.int .i64 Y.pr,.int .i64 Y.st,.slice n3 Y.non.length nc3,.int .i64 Y.x,.int .i64 Y.g,.int .i64 Y.own,.int .i64 Y.oth,.slice a3 Y.k1.length ac3,.slice b3 Y.k2.length bc3,.int .i64 Y.ct])]) _):=iH (by rw [hw];exact((V12.out.but (Rs':=(gt,#[.int .i64 T.kd,.slice s1 T.sec.length sc1,.int .i64 T.pr,.int .i64 T.st,.slice n1 T.non.length nc1,.int .i64 T.x,.int .i64 T.g,.int .i64 T.own,.int .i64 T.oth,.slice a1 T.k1.length ac1,.slice b1 T.k2.length bc1,.int .i64 T.ct]) :: [(gc,#[.int .i64 C.kd,.slice s2 C.sec.length sc2,.int .i64 C.pr,.int .i64 C.st,.slice n2 C.non.length nc2,.int .i64 C.x,.int .i64 C.g,.int .i64 C.own,.int .i64 C.oth,.slice a2 C.k1.length ac2,.slice b2 C.k2.length bc2,.int .i64 C.ct]),(w11.heap.size,#[.int .i64 Y.kd,.slice s3 Y.sec.length sc3,.int .i64 Y.pr,.int .i64 Y.st,.slice n3 Y.non.length nc3,.int .i64 Y.x,.int .i64 Y.g,.int .i64 Y.own,.int .i64 Y.oth,.slice a3 Y.k1.length ac3,.slice b3 Y.k2.length bc3,.int .i64 Y.ct])]) (by simp) (fun _ h=>h)).fill HGO.out.1 (by intro r hr;simp only [List.mem_cons,List.not_mem_nil,or_false]at hr;have h1:=lt_of_block (V11.out.rw 0 rfl);have h2:=HGO.out.2.2;rcases hr with rfl|rfl<;>(simp only [ne_eq];omega)) (noBE T s1 n1 a1 b1 sc1 nc1 ac1 bc1) (.int .i64 Y.kd) (.slice s3 Y.sec.length sc3) (.int .i64 Y.pr) (.int .i64 Y.st) (.slice n3 Y.non.length nc3) (.int .i64 Y.x) (.int .i64 Y.g) (.int .i64 Y.own) (.int .i64 Y.oth) (.slice a3 Y.k1.length ac3) (.slice b3 Y.k2.length bc3) (.int .i64 Y.ct)))
  unfold Go.Proofs.YtalmmiojbmpmiaaGreatDoor.set12 at hw
  rw [<-hw]
  clear f0 f1 f2 f3 f4 f5 f6 f7 f8 f9 f10 f11 ff0 ff1 ff2 ff3 ff4 ff5 ff6 ff7 ff8 ff9 ff10 ff11 g0 g1 g2 g3 g4 g5 g6 g7 g8 g9 g10 g11 h0 h1 h2 h3 h4 h5 h6 h7 h8 h9 h10 h11;clear hw
  obtain⟨⟨es,Z,E,M⟩,hc⟩:∃r,U2 C D O=r:=⟨_,rfl⟩
  have HCW:=iH hc
  have hsh:=chip_sh C D O HC.out HOL.out
  rw [hc]at hsh
  have HSZ:=iH hsh
  have hch:=run_chip HM.out HVP.out HMID.out hj3 O
  rw [hc]at hch
  have HCH:=iH hch
  clear hc hsh hch
  obtain⟨f0,f1,f2,f3,f4,f5,f6,f7,f8,f9,f10,f11,ff⟩:=jy (V13.out.rw 1 rfl);clear ff
  go_upto_region 16 with (go_at_call 33;refine(chip_any C s2 n2 a2 b2 sc2 nc2 ac2 bc2 dd3 oA dc3 oc D O w13 (HK.out.below V13.out.bel HK.out.lt) (V13.out.at 13 rfl) (V13.out.at 12 rfl) (V13.out.at 11 rfl) (V13.out.at 10 rfl) (V13.out.at 1 rfl) (V13.out.at 16 rfl) HC.out.1 HC.out.2.1 HC.out.2.2.1 HC.out.2.2.2 HOL.out).mono ?_;rw [HCW.out];rintro e w14 ⟨y,dd4,dc4,nn4,nd4,rfl,⟨u1,u2,u3,u4,rfl,hs,hn,ha,hb⟩,hd,hx,hbw⟩;obtain⟨s4,sc4,hp⟩:=Bs.formL hs;subst hp;obtain⟨n4,nc4,hp⟩:=Bs.formL hn;subst hp;obtain⟨a4,ac4,hp⟩:=Bs.formL ha;subst hp;obtain⟨b4,bc4,hp⟩:=Bs.formL hb;subst hp;have V14:=iH (((((((V13.out.on hbw).add hs).add hn).add ha).add hb).add hd).add hx);clear f0 f1 f2 f3 f4 f5 f6 f7 f8 f9 f10 f11;clear hs hn ha hb hd hx hbw)
  obtain⟨w15,hw⟩:∃z,z=w14.alloc (.cells #[.int .i64 Z.kd,.slice s4 Z.sec.length sc4,.int .i64 Z.pr,.int .i64 Z.st,.slice n4 Z.non.length nc4,.int .i64 Z.x,.int .i64 Z.g,.int .i64 Z.own,.int .i64 Z.oth,.slice a4 Z.k1.length ac4,.slice b4 Z.k2.length bc4,.int .i64 Z.ct] 48):=⟨_,rfl⟩
  rw [<-hw]
  have V15:Hid (VRQ9 w w15 _ _):=iH (by rw [hw];exact V14.out.row #[.int .i64 Z.kd,.slice s4 Z.sec.length sc4,.int .i64 Z.pr,.int .i64 Z.st,.slice n4 Z.non.length nc4,.int .i64 Z.x,.int .i64 Z.g,.int .i64 Z.own,.int .i64 Z.oth,.slice a4 Z.k1.length ac4,.slice b4 Z.k2.length bc4,.int .i64 Z.ct])
  have HA15:Hid (Below w14.heap.size w14 w15):=iH (by rw [hw];exact jq _ _)
  clear hw
  rcases HCH.out with hok|hbad
  rotate_left
  ·obtain⟨h10,_⟩:=hbad
   have h10:es=10:=h10
   subst h10
   go_wp2_with(go_at_call 11;refine(qx w15 (HK.out.below V15.out.bel HK.out.lt)).mono ?_;rintro e wz ⟨rfl,hb⟩;have VZQ9:=iH (V15.out.on hb);clear hb)
   go_ret
   exact⟨rfl,VZQ9.out.bel⟩
  obtain⟨h00,hq1⟩:=hok
  have h00:es=0:=h00;have hq1:rndQ kd sec m (j+1) Y Z E:=hq1
  subst h00
  have HQ1:=iH hq1
  clear hq1
  obtain⟨f0,f1,f2,f3,f4,f5,f6,f7,f8,f9,f10,f11,ff⟩:=jy (V15.out.rw 0 rfl);clear ff;obtain⟨g0,g1,g2,g3,g4,g5,g6,g7,g8,g9,g10,g11,gf⟩:=jy (V15.out.rw 2 rfl);have gf0:=gf 0;have gf1:=gf 1;have gf2:=gf 2;have gf3:=gf 3;have gf4:=gf 4;have gf5:=gf 5;have gf6:=gf 6;have gf7:=gf 7;have gf8:=gf 8;have gf9:=gf 9;have gf10:=gf 10;have gf11:=gf 11;clear gf
  go_upto_region 19 with fail
  obtain⟨w16,hw⟩:∃z,z=set12 w15 (gc) (.int .i64 Z.kd) (.slice s4 Z.sec.length sc4) (.int .i64 Z.pr) (.int .i64 Z.st) (.slice n4 Z.non.length nc4) (.int .i64 Z.x) (.int .i64 Z.g) (.int .i64 Z.own) (.int .i64 Z.oth) (.slice a4 Z.k1.length ac4) (.slice b4 Z.k2.length bc4) (.int .i64 Z.ct):=⟨_,rfl⟩
  have V16:Hid (VRQ9 w w16 ((gc,#[.int .i64 Z.kd,.slice s4 Z.sec.length sc4,.int .i64 Z.pr,.int .i64 Z.st,.slice n4 Z.non.length nc4,.int .i64 Z.x,.int .i64 Z.g,.int .i64 Z.own,.int .i64 Z.oth,.slice a4 Z.k1.length ac4,.slice b4 Z.k2.length bc4,.int .i64 Z.ct]) :: [(gt,#[.int .i64 Y.kd,.slice s3 Y.sec.length sc3,.int .i64 Y.pr,.int .i64 Y.st,.slice n3 Y.non.length nc3,.int .i64 Y.x,.int .i64 Y.g,.int .i64 Y.own,.int .i64 Y.oth,.slice a3 Y.k1.length ac3,.slice b3 Y.k2.length bc3,.int .i64 Y.ct])]) _):=iH (by rw [hw];exact((V15.out.but (Rs':=(gc,#[.int .i64 C.kd,.slice s2 C.sec.length sc2,.int .i64 C.pr,.int .i64 C.st,.slice n2 C.non.length nc2,.int .i64 C.x,.int .i64 C.g,.int .i64 C.own,.int .i64 C.oth,.slice a2 C.k1.length ac2,.slice b2 C.k2.length bc2,.int .i64 C.ct]) :: [(gt,#[.int .i64 Y.kd,.slice s3 Y.sec.length sc3,.int .i64 Y.pr,.int .i64 Y.st,.slice n3 Y.non.length nc3,.int .i64 Y.x,.int .i64 Y.g,.int .i64 Y.own,.int .i64 Y.oth,.slice a3 Y.k1.length ac3,.slice b3 Y.k2.length bc3,.int .i64 Y.ct])]) (by simp) (fun _ h=>h)).fill HGO.out.2.1 (by intro r hr;simp only [List.mem_cons,List.not_mem_nil,or_false]at hr;rcases hr with rfl;exact HGO.out.2.2) (noBE C s2 n2 a2 b2 sc2 nc2 ac2 bc2) (.int .i64 Z.kd) (.slice s4 Z.sec.length sc4) (.int .i64 Z.pr) (.int .i64 Z.st) (.slice n4 Z.non.length nc4) (.int .i64 Z.x) (.int .i64 Z.g) (.int .i64 Z.own) (.int .i64 Z.oth) (.slice a4 Z.k1.length ac4) (.slice b4 Z.k2.length bc4) (.int .i64 Z.ct)))
  unfold Go.Proofs.YtalmmiojbmpmiaaGreatDoor.set12 at hw
  rw [<-hw]
  clear f0 f1 f2 f3 f4 f5 f6 f7 f8 f9 f10 f11 g0 g1 g2 g3 g4 g5 g6 g7 g8 g9 g10 g11 gf0 gf1 gf2 gf3 gf4 gf5 gf6 gf7 gf8 gf9 gf10 gf11;clear hw
  obtain⟨v1,hD,hl1,_⟩:=mid_shape HM.out HMID.out
  obtain⟨v2,hE,hl2,_⟩:=rnd_shape HQ1.out
  have hb1:v1.length<=64:=by rw [hl1];unfold lnT;(repeat' split)<;>omega
  have hb2:v2.length<=64:=by rw [hl2];unfold lnC;(repeat' split)<;>omega
  have ht1:tgT j=0\/(128<=tgT j/\tgT j<=134):=by unfold tgT;split<;>omega
  have hpd:jS D true=.ok (jZ (tgT j) v1):=by rw [hD];exact(yG _ _ ht1 hb1).2.2.2
  have hpe:jS E true=.ok (.cons 124 [] (.cons (tgC j) v2 .nil .nil) .nil):=by rw [hE,(yG (tgC j) v2 (.inr (by unfold tgC;omega)) hb2).2.2.2];unfold jZ;rw [iF (by unfold tgC;omega)]
  have IXT:=fun W=>ixT j hj3 W;have IXB:=fun W=>ixB j hj3 W
  have HL1:=iH hl1;have HL2:=iH hl2;have HPD:=iH hpd;have HPE:=iH hpe
  clear hD hE hl1 hl2 hb1 hb2 ht1 hpd hpe
  have hc5:(m=2/\j=0)\/(m=2/\0<j)\/(m=3/\j=0)\/(m=3/\1<j)\/(m=3/\j=1):=by have:=HM.out;omega
  rcases hc5 with ⟨hmm,hjj⟩|⟨hmm,hjj⟩|⟨hmm,hjj⟩|⟨hmm,hjj⟩|⟨hmm,hjj⟩
  ·have M3:(m==3)=false:=by simp [hmm]
   have J0Q9:decide ((0:Int)<(j:Int))=false:=decide_eq_false (by omega)
   have J0n:decide (0<j)=false:=decide_eq_false (by omega)
   have hbk:(v2.length:Int)=szB j:=by rw [HL2.out];exact ln_back m j (by omega)
   have B2:((v2.length:Int) != szB j)=false:=by rw [hbk];simp
   have hpd:=HPD.out
   rw [show jZ (tgT j) v1=.cons 124 [] .nil .nil by unfold jZ;rw [iT (by unfold tgT;rw [iT hjj])]]at hpd
   have HPX:=iH hpd
   clear hpd hmm hjj hbk
   go_upto_region 20 with (go_at_call 41;refine(rparse_any D _ true w16 (V16.out.at 7 rfl)).mono ?_;rw [HPX.out];rintro e w17 h;obtain⟨a9,c9,rfl,hs,hb⟩:=h.got;have V17:=iH (V16.out.on hb);have HN1:=iH hs;clear hs hb h)
   go_upto_region 21 with (go_at_call 41;refine(rparse_any E _ true w17 (V17.out.at 1 rfl)).mono ?_;rw [HPE.out];rintro e w18 h;obtain⟨a8,c8,rfl,hs,hb⟩:=h.got;have V18:=iH (V17.out.on hb);have HN2:=iH hs;have HN3:Hid (NsS w18 (fun b=>b<w18.heap.size) _ _):=iH (HN1.out.keep fun b h1 _=>⟨hb.block b h1.2,iZ h1.2 hb.size⟩);clear hs hb h)
   obtain⟨lb,lo,lc,ka,kc,xA,xc,hv1,p0,p1,p2,_,hk1⟩:=ns1 HN3.out
   injection hv1 with e1 e2 e3;subst e1;clear e2 e3
   obtain⟨ub,uo,uc,ua,ud,zAQ9,zc,hv3,r0,r1,r2,_,hk2⟩:=ns1 HN2.out
   injection hv3 with e1 e2 e3;subst e1;clear e2 e3
   obtain⟨tb,to_,tc,ta,td,vA,vc2,hv4,s0,s1x,s2x,_,_⟩:=ns1 hk2
   injection hv4 with e1 e2 e3;subst e1;clear e2 e3
   clear hk1 hk2 HPD HPX HPE
   go_wp2_with fail
   go_roundg (gk - 1)
   case measure=>omega
   case rel=>exact⟨j+1,Y,Z,E,N,M,by omega,by go_num,HQ1.out,HSY.out.1,HSZ.out.1,HSY.out.2,HSZ.out.2,s3,n3,a3,b3,sc3,nc3,ac3,bc3,s4,n4,a4,b4,sc4,nc4,ac4,bc4,V18.out.but (by simp) (by simp)⟩
  ·have M3:(m==3)=false:=by simp [hmm]
   have J0Q9:decide ((0:Int)<(j:Int))=true:=decide_eq_true (by omega)
   have J0n:decide (0<j)=true:=decide_eq_true (by omega)
   have hbk:(v2.length:Int)=szB j:=by rw [HL2.out];exact ln_back m j (by omega)
   have B2:((v2.length:Int) != szB j)=false:=by rw [hbk];simp
   have hsz:(v1.length:Int)=szT j:=by rw [HL1.out];exact ln_size m j (by omega)
   have S2:((v1.length:Int) != szT j)=false:=by rw [hsz];simp
   have hpd:=HPD.out
   rw [show jZ (tgT j) v1=.cons 124 [] (.cons (tgT j) v1 .nil .nil) .nil by unfold jZ;rw [iF (by unfold tgT;rw [iF (by omega)];omega)]]at hpd
   have HPX:=iH hpd
   clear hpd hmm hjj hbk hsz
   go_upto_region 20 with (go_at_call 41;refine(rparse_any D _ true w16 (V16.out.at 7 rfl)).mono ?_;rw [HPX.out];rintro e w17 h;obtain⟨a9,c9,rfl,hs,hb⟩:=h.got;have V17:=iH (V16.out.on hb);have HN1:=iH hs;clear hs hb h)
   go_upto_region 21 with (go_at_call 41;refine(rparse_any E _ true w17 (V17.out.at 1 rfl)).mono ?_;rw [HPE.out];rintro e w18 h;obtain⟨a8,c8,rfl,hs,hb⟩:=h.got;have V18:=iH (V17.out.on hb);have HN2:=iH hs;have HN3:Hid (NsS w18 (fun b=>b<w18.heap.size) _ _):=iH (HN1.out.keep fun b h1 _=>⟨hb.block b h1.2,iZ h1.2 hb.size⟩);clear hs hb h)
   obtain⟨lb,lo,lc,ka,kc,xA,xc,hv1,p0,p1,p2,_,hk1⟩:=ns1 HN3.out
   injection hv1 with e1 e2 e3;subst e1;clear e2 e3
   obtain⟨mb,mo,mc,ma,md,yA,yc,hv2,q0,q1,q2,_,_⟩:=ns1 hk1
   injection hv2 with e1 e2 e3;subst e1;clear e2 e3
   obtain⟨ub,uo,uc,ua,ud,zAQ9,zc,hv3,r0,r1,r2,_,hk2⟩:=ns1 HN2.out
   injection hv3 with e1 e2 e3;subst e1;clear e2 e3
   obtain⟨tb,to_,tc,ta,td,vA,vc2,hv4,s0,s1x,s2x,_,_⟩:=ns1 hk2
   injection hv4 with e1 e2 e3;subst e1;clear e2 e3
   clear hk1 hk2 HPD HPX HPE
   go_wp2_with fail
   go_roundg (gk - 1)
   case measure=>omega
   case rel=>exact⟨j+1,Y,Z,E,N,M,by omega,by go_num,HQ1.out,HSY.out.1,HSZ.out.1,HSY.out.2,HSZ.out.2,s3,n3,a3,b3,sc3,nc3,ac3,bc3,s4,n4,a4,b4,sc4,nc4,ac4,bc4,V18.out.but (by simp) (by simp)⟩
  ·have M3:(m==3)=true:=by simp [hmm]
   have J1:((j:Int)==1)=false:=by simp;omega
   have J0Q9:decide ((0:Int)<(j:Int))=false:=decide_eq_false (by omega)
   have J0n:decide (0<j)=false:=decide_eq_false (by omega)
   have hbk:(v2.length:Int)=szB j:=by rw [HL2.out];exact ln_back m j (by omega)
   have B2:((v2.length:Int) != szB j)=false:=by rw [hbk];simp
   have hpd:=HPD.out
   rw [show jZ (tgT j) v1=.cons 124 [] .nil .nil by unfold jZ;rw [iT (by unfold tgT;rw [iT hjj])]]at hpd
   have HPX:=iH hpd
   clear hpd hmm hjj hbk
   go_upto_region 20 with (go_at_call 41;refine(rparse_any D _ true w16 (V16.out.at 7 rfl)).mono ?_;rw [HPX.out];rintro e w17 h;obtain⟨a9,c9,rfl,hs,hb⟩:=h.got;have V17:=iH (V16.out.on hb);have HN1:=iH hs;clear hs hb h)
   go_upto_region 21 with (go_at_call 41;refine(rparse_any E _ true w17 (V17.out.at 1 rfl)).mono ?_;rw [HPE.out];rintro e w18 h;obtain⟨a8,c8,rfl,hs,hb⟩:=h.got;have V18:=iH (V17.out.on hb);have HN2:=iH hs;have HN3:Hid (NsS w18 (fun b=>b<w18.heap.size) _ _):=iH (HN1.out.keep fun b h1 _=>⟨hb.block b h1.2,iZ h1.2 hb.size⟩);clear hs hb h)
   obtain⟨lb,lo,lc,ka,kc,xA,xc,hv1,p0,p1,p2,_,hk1⟩:=ns1 HN3.out
   injection hv1 with e1 e2 e3;subst e1;clear e2 e3
   obtain⟨ub,uo,uc,ua,ud,zAQ9,zc,hv3,r0,r1,r2,_,hk2⟩:=ns1 HN2.out
   injection hv3 with e1 e2 e3;subst e1;clear e2 e3
   obtain⟨tb,to_,tc,ta,td,vA,vc2,hv4,s0,s1x,s2x,_,_⟩:=ns1 hk2
   injection hv4 with e1 e2 e3;subst e1;clear e2 e3
   clear hk1 hk2 HPD HPX HPE
   go_wp2_with fail
   go_roundg (gk - 1)
   case measure=>omega
   case rel=>exact⟨j+1,Y,Z,E,N,M,by omega,by go_num,HQ1.out,HSY.out.1,HSZ.out.1,HSY.out.2,HSZ.out.2,s3,n3,a3,b3,sc3,nc3,ac3,bc3,s4,n4,a4,b4,sc4,nc4,ac4,bc4,V18.out.but (by simp) (by simp)⟩
  ·have M3:(m==3)=true:=by simp [hmm]
   have J1:((j:Int)==1)=false:=by simp;omega
   have J0Q9:decide ((0:Int)<(j:Int))=true:=decide_eq_true (by omega)
   have J0n:decide (0<j)=true:=decide_eq_true (by omega)
   have hbk:(v2.length:Int)=szB j:=by rw [HL2.out];exact ln_back m j (by omega)
   have B2:((v2.length:Int) != szB j)=false:=by rw [hbk];simp
   have hsz:(v1.length:Int)=szT j:=by rw [HL1.out];exact ln_size m j (by omega)
   have S2:((v1.length:Int) != szT j)=false:=by rw [hsz];simp
   have hpd:=HPD.out
   rw [show jZ (tgT j) v1=.cons 124 [] (.cons (tgT j) v1 .nil .nil) .nil by unfold jZ;rw [iF (by unfold tgT;rw [iF (by omega)];omega)]]at hpd
   have HPX:=iH hpd
   clear hpd hmm hjj hbk hsz
   go_upto_region 20 with (go_at_call 41;refine(rparse_any D _ true w16 (V16.out.at 7 rfl)).mono ?_;rw [HPX.out];rintro e w17 h;obtain⟨a9,c9,rfl,hs,hb⟩:=h.got;have V17:=iH (V16.out.on hb);have HN1:=iH hs;clear hs hb h)
   go_upto_region 21 with (go_at_call 41;refine(rparse_any E _ true w17 (V17.out.at 1 rfl)).mono ?_;rw [HPE.out];rintro e w18 h;obtain⟨a8,c8,rfl,hs,hb⟩:=h.got;have V18:=iH (V17.out.on hb);have HN2:=iH hs;have HN3:Hid (NsS w18 (fun b=>b<w18.heap.size) _ _):=iH (HN1.out.keep fun b h1 _=>⟨hb.block b h1.2,iZ h1.2 hb.size⟩);clear hs hb h)
   obtain⟨lb,lo,lc,ka,kc,xA,xc,hv1,p0,p1,p2,_,hk1⟩:=ns1 HN3.out
   injection hv1 with e1 e2 e3;subst e1;clear e2 e3
   obtain⟨mb,mo,mc,ma,md,yA,yc,hv2,q0,q1,q2,_,_⟩:=ns1 hk1
   injection hv2 with e1 e2 e3;subst e1;clear e2 e3
   obtain⟨ub,uo,uc,ua,ud,zAQ9,zc,hv3,r0,r1,r2,_,hk2⟩:=ns1 HN2.out
   injection hv3 with e1 e2 e3;subst e1;clear e2 e3
   obtain⟨tb,to_,tc,ta,td,vA,vc2,hv4,s0,s1x,s2x,_,_⟩:=ns1 hk2
   injection hv4 with e1 e2 e3;subst e1;clear e2 e3
   clear hk1 hk2 HPD HPX HPE
   go_wp2_with fail
   go_roundg (gk - 1)
   case measure=>omega
   case rel=>exact⟨j+1,Y,Z,E,N,M,by omega,by go_num,HQ1.out,HSY.out.1,HSZ.out.1,HSY.out.2,HSZ.out.2,s3,n3,a3,b3,sc3,nc3,ac3,bc3,s4,n4,a4,b4,sc4,nc4,ac4,bc4,V18.out.but (by simp) (by simp)⟩
  ·have M3:(m==3)=true:=by simp [hmm]
   have J1:((j:Int)==1)=true:=by simp;omega
   have J0Q9:decide ((0:Int)<(j:Int))=true:=decide_eq_true (by omega)
   have J0n:decide (0<j)=true:=decide_eq_true (by omega)
   have hbk:(v2.length:Int)=0:=by rw [HL2.out];unfold lnC;rw [iF (by omega),iT hjj,iT hmm]<;>rfl
   have B2:((v2.length:Int) != 0)=false:=by rw [hbk];simp
   have hsz:(v1.length:Int)=16:=by rw [HL1.out];unfold lnT;rw [iF (by omega),iT hjj,iT hmm]<;>rfl
   have S2:((v1.length:Int) != 16)=false:=by rw [hsz];simp
   have hpd:=HPD.out
   rw [show jZ (tgT j) v1=.cons 124 [] (.cons (tgT j) v1 .nil .nil) .nil by unfold jZ;rw [iF (by unfold tgT;rw [iF (by omega)];omega)]]at hpd
   have HPX:=iH hpd
   clear hpd hmm hjj hbk hsz
   go_upto_region 20 with (go_at_call 41;refine(rparse_any D _ true w16 (V16.out.at 7 rfl)).mono ?_;rw [HPX.out];rintro e w17 h;obtain⟨a9,c9,rfl,hs,hb⟩:=h.got;have V17:=iH (V16.out.on hb);have HN1:=iH hs;clear hs hb h)
   go_upto_region 21 with (go_at_call 41;refine(rparse_any E _ true w17 (V17.out.at 1 rfl)).mono ?_;rw [HPE.out];rintro e w18 h;obtain⟨a8,c8,rfl,hs,hb⟩:=h.got;have V18:=iH (V17.out.on hb);have HN2:=iH hs;have HN3:Hid (NsS w18 (fun b=>b<w18.heap.size) _ _):=iH (HN1.out.keep fun b h1 _=>⟨hb.block b h1.2,iZ h1.2 hb.size⟩);clear hs hb h)
   obtain⟨lb,lo,lc,ka,kc,xA,xc,hv1,p0,p1,p2,_,hk1⟩:=ns1 HN3.out
   injection hv1 with e1 e2 e3;subst e1;clear e2 e3
   obtain⟨mb,mo,mc,ma,md,yA,yc,hv2,q0,q1,q2,_,_⟩:=ns1 hk1
   injection hv2 with e1 e2 e3;subst e1;clear e2 e3
   obtain⟨ub,uo,uc,ua,ud,zAQ9,zc,hv3,r0,r1,r2,_,hk2⟩:=ns1 HN2.out
   injection hv3 with e1 e2 e3;subst e1;clear e2 e3
   obtain⟨tb,to_,tc,ta,td,vA,vc2,hv4,s0,s1x,s2x,_,_⟩:=ns1 hk2
   injection hv4 with e1 e2 e3;subst e1;clear e2 e3
   clear hk1 hk2 HPD HPX HPE
   go_wp2_with fail
   go_roundg (gk - 1)
   case measure=>omega
   case rel=>exact⟨j+1,Y,Z,E,N,M,by omega,by go_num,HQ1.out,HSY.out.1,HSZ.out.1,HSY.out.2,HSZ.out.2,s3,n3,a3,b3,sc3,nc3,ac3,bc3,s4,n4,a4,b4,sc4,nc4,ac4,bc4,V18.out.but (by simp) (by simp)⟩
 ·have hn1:decide ((n:Int)<=400)=false:=decide_eq_false hlt
  rw [hn1]at HL
  clear hlt hn1 HR HS HO
  go_enter Tryz.func9,Tryz.ntmps9
  go_wp2_with(first
   |(go_at_call 10;refine HL.out.mono ?_;rintro e w' ⟨rfl,hw'⟩;rw [hw'];clear hw' w')
   |(go_at_call 11;refine(qx w HK.out).mono ?_;rintro e w1 ⟨rfl,hb⟩;have HBT:=iH hb;clear hb))
  go_ret
  exact⟨rfl,HBT.out⟩
end Go.Proofs.YtalmmiojbmpmiaaGreatDoor
