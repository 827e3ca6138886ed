/- Layer 21: the reference's copies of exchanges; Layer 21: the reference's ChipStep -/
import Derived.Test.YtalmmiojbmpmiaaGreatDoorPBv
import Derived.Test.YtalmmiojbmpmiaaGreatDoorPBs
set_option linter.all false
set_option maxRecDepth 100000
set_option maxHeartbeats 64000000
namespace Go.Proofs.YtalmmiojbmpmiaaGreatDoor
open Go.RowKit Go.Deep
theorem m6{P:Prop}(h:P:=by
 rw [R.out]
 exact⟨_,_,_,_,_,rfl,⟨_,_,_,_,rfl,hfin L0.out,hfin L1.out,hfin L2.out,hfin L3.out⟩,HU.out.loB,hfin N9.out,hbel⟩):P:=h
theorem m7{P:Prop}(h:P:=by
 simp only [hD]at hK |-
 obtain⟨A,c,e6,_⟩:∃A c,v 6=_/\_:=hF 6 (by simp)
 simp only [e6]at hK |-
 go_simp
 exact hK _ _ hJ ⟨World.grownBy.refl _ _,id⟩ ⟨A,c,e6,rfl⟩):P:=h
theorem m8{P:Prop}(h:P:=by
 simp only [hD]at hK |-
 go_simp
 refine(HWR.out _ _ w1 (D9.out.grownP hJ.gr).loB).mono ?_
 rintro e wk ⟨A3,c3,rfl,hs,hb⟩
 refine hK _ _ (hJ.call hb) ⟨jH hb,fun h=>(hb.block _ hJ.lt).trans h⟩ ⟨_,_,rfl,?_⟩
 exact hs.madeB hJ.lt):P:=h
theorem mU{P:Prop}(h:P:=by
 rintro e wk ⟨A3,c3,rfl,hs,hb⟩
 refine hK _ _ (hJ.call hb) ⟨jH hb,fun h=>(hb.block _ hJ.lt).trans h⟩ ⟨_,_,rfl,?_⟩
 exact hs.madeB hJ.lt):P:=h
theorem mV{P:Prop}(h:P:=by
 simp only [hD]at hK |-
 obtain⟨a0,a1,a2,a3,a4,a5,a6,a7,a8,a9,a10,a11,hp⟩:=hJ
 have q:=j4 hp.1
 have HJq:=iH hp
 clear hp hL hF
 go_simp
 exact hK undef _ ⟨_,_,_,_,_,_,_,_,_,_,_,_,HJq.out.set12 (.int .i64 X.kd) (.slice sB X.sec.length sd) (.int .i64 X.pr) (.int .i64 (X.st+1)) (.slice nB X.non.length nd) (.int .i64 X.x) (.int .i64 X.g) (.int .i64 X.own) (.int .i64 X.oth) (.slice aB X.k1.length ad) (.slice bB X.k2.length bd) (.int .i64 X.ct)⟩ ⟨((PtW.start HJq.out.1).set12 (.int .i64 X.kd) (.slice sB X.sec.length sd) (.int .i64 X.pr) (.int .i64 (X.st+1)) (.slice nB X.non.length nd) (.int .i64 X.x) (.int .i64 X.g) (.int .i64 X.own) (.int .i64 X.oth) (.slice aB X.k1.length ad) (.slice bB X.k2.length bd) (.int .i64 X.ct)).2.1,fun _=>((PtW.start HJq.out.1).set12 (.int .i64 X.kd) (.slice sB X.sec.length sd) (.int .i64 X.pr) (.int .i64 (X.st+1)) (.slice nB X.non.length nd) (.int .i64 X.x) (.int .i64 X.g) (.int .i64 X.own) (.int .i64 X.oth) (.slice aB X.k1.length ad) (.slice bB X.k2.length bd) (.int .i64 X.ct)).1⟩ ((PtW.start HJq.out.1).set12 (.int .i64 X.kd) (.slice sB X.sec.length sd) (.int .i64 X.pr) (.int .i64 (X.st+1)) (.slice nB X.non.length nd) (.int .i64 X.x) (.int .i64 X.g) (.int .i64 X.own) (.int .i64 X.oth) (.slice aB X.k1.length ad) (.slice bB X.k2.length bd) (.int .i64 X.ct)).1):P:=h
theorem mW{P:Prop}(h:P:=by
 simp only [hD]at hK |-
 obtain⟨a0,a1,a2,a3,a4,a5,a6,a7,a8,a9,a10,a11,hp⟩:=hJ
 have q:=j4 hp.1
 have HJq:=iH hp
 clear hp hL hF
 go_simp
 exact hK undef _ ⟨_,_,_,_,_,_,_,_,_,_,_,_,HJq.out.set12 (.int .i64 X.kd) (.slice sB X.sec.length sd) (.int .i64 X.pr) (.int .i64 (X.st+1)) (.slice nB X.non.length nd) (.int .i64 X.x) (.int .i64 gi) (.int .i64 X.own) (.int .i64 X.oth) (.slice aB X.k1.length ad) (.slice bB X.k2.length bd) (.int .i64 X.ct)⟩ ⟨((PtW.start HJq.out.1).set12 (.int .i64 X.kd) (.slice sB X.sec.length sd) (.int .i64 X.pr) (.int .i64 (X.st+1)) (.slice nB X.non.length nd) (.int .i64 X.x) (.int .i64 gi) (.int .i64 X.own) (.int .i64 X.oth) (.slice aB X.k1.length ad) (.slice bB X.k2.length bd) (.int .i64 X.ct)).2.1,fun _=>((PtW.start HJq.out.1).set12 (.int .i64 X.kd) (.slice sB X.sec.length sd) (.int .i64 X.pr) (.int .i64 (X.st+1)) (.slice nB X.non.length nd) (.int .i64 X.x) (.int .i64 gi) (.int .i64 X.own) (.int .i64 X.oth) (.slice aB X.k1.length ad) (.slice bB X.k2.length bd) (.int .i64 X.ct)).1⟩ ((PtW.start HJq.out.1).set12 (.int .i64 X.kd) (.slice sB X.sec.length sd) (.int .i64 X.pr) (.int .i64 (X.st+1)) (.slice nB X.non.length nd) (.int .i64 X.x) (.int .i64 gi) (.int .i64 X.own) (.int .i64 X.oth) (.slice aB X.k1.length ad) (.slice bB X.k2.length bd) (.int .i64 X.ct)).1):P:=h
theorem m0a{P:Prop}(h:P:=by
 intro x hx
 simp only [List.mem_cons,List.not_mem_nil,or_false]at hx
 rcases hx with rfl|rfl|rfl|rfl|rfl|rfl|rfl|rfl|rfl|rfl
 ·exact M1.out.madeB hz1
 ·exact M2.out.madeB hz1
 ·exact M3.out.madeB hz1
 ·exact M4.out.madeB hz1
 ·exact BsS.keep (BsS.off (H1.out.lift HB3.out) (FZ.out _ HB3.out) QL) fun g hs _=>⟨rfl,hs⟩
 ·exact BsS.keep (BsS.off (H2.out.lift HB3.out) (FZ.out _ HB3.out) QL) fun g hs _=>⟨rfl,hs⟩
 ·exact BsS.keep (BsS.off (H3.out.lift HB3.out) (FZ.out _ HB3.out) QL) fun g hs _=>⟨rfl,hs⟩
 ·exact BsS.keep (BsS.off (H4.out.lift HB3.out) (FZ.out _ HB3.out) QL) fun g hs _=>⟨rfl,hs⟩
 ·exact BsS.keep (BsS.off (H5.out.lift HB3.out) (FZ.out _ HB3.out) QL) fun g hs _=>⟨rfl,hs⟩
 ·exact BsS.keep (BsS.off (H6.out.lift HB3.out) (FZ.out _ HB3.out) QL) fun g hs _=>⟨rfl,hs⟩):P:=h
theorem Kc(X:Exg)(sA nA aA bA:Option Addr)(sc nc ac bc:Nat)(w:World)(hs:Bs w w.heap.size (.slice sA X.sec.length sc) X.sec)(hn:Bs w w.heap.size (.slice nA X.non.length nc) X.non)(h1:Bs w w.heap.size (.slice aA X.k1.length ac) X.k1)(h2:Bs w w.heap.size (.slice bA X.k2.length bc) X.k2)(ls:X.sec.length<=140737488351232)(ln:X.non.length<=140737488351232)(l1:X.k1.length<=140737488351232)(l2:X.k2.length<=140737488351232):Calls Tryz.prog 77 #[.agg #[.int .i64 X.kd,.slice sA X.sec.length sc,.int .i64 X.pr,.int .i64 X.st,.slice nA X.non.length nc,.int .i64 X.x,.int .i64 X.g,.int .i64 X.own,.int .i64 X.oth,.slice aA X.k1.length ac,.slice bA X.k2.length bc,.int .i64 X.ct]] w fun e w'=>∃sA nA aA bA sc nc ac bc,e=.returned (.agg #[.int .i64 X.kd,.slice sA X.sec.length sc,.int .i64 X.pr,.int .i64 X.st,.slice nA X.non.length nc,.int .i64 X.x,.int .i64 X.g,.int .i64 X.own,.int .i64 X.oth,.slice aA X.k1.length ac,.slice bA X.k2.length bc,.int .i64 X.ct])/\BsS w' (New w w') (.slice sA X.sec.length sc) X.sec/\BsS w' (New w w') (.slice nA X.non.length nc) X.non/\BsS w' (New w w') (.slice aA X.k1.length ac) X.k1/\BsS w' (New w w') (.slice bA X.k2.length bc) X.k2/\Below w.heap.size w w':=by
 obtain⟨w0,hw0⟩:∃w0,w0=(w.alloc (.cells #[.int .i64 X.kd,.slice sA X.sec.length sc,.int .i64 X.pr,.int .i64 X.st,.slice nA X.non.length nc,.int .i64 X.x,.int .i64 X.g,.int .i64 X.own,.int .i64 X.oth,.slice aA X.k1.length ac,.slice bA X.k2.length bc,.int .i64 X.ct] 48)).alloc (.cells #[.int .i64 0,.slice none 0 0,.int .i64 0,.int .i64 0,.slice none 0 0,.int .i64 0,.int .i64 0,.int .i64 0,.int .i64 0,.slice none 0 0,.slice none 0 0,.int .i64 0] 48):=⟨_,rfl⟩
 have hb0:Below w.heap.size w w0:=by rw [hw0];exact(iA).alloc (by simp) _
 have hz0:w0.heap.size=w.heap.size+2:=by rw [hw0];simp
 have HP0:Hid (PtW w.heap.size w0 w0 #[.int .i64 X.kd,.slice sA X.sec.length sc,.int .i64 X.pr,.int .i64 X.st,.slice nA X.non.length nc,.int .i64 X.x,.int .i64 X.g,.int .i64 X.own,.int .i64 X.oth,.slice aA X.k1.length ac,.slice bA X.k2.length bc,.int .i64 X.ct]):=iH (PtW.start (by rw [hw0];exact(Below.heap_alloc _ _ _ (by simp)).trans (iN)))
 have HZ0:Hid (w0.heap[w.heap.size+1]?=some (.cells #[.int .i64 0,.slice none 0 0,.int .i64 0,.int .i64 0,.slice none 0 0,.int .i64 0,.int .i64 0,.int .i64 0,.int .i64 0,.slice none 0 0,.slice none 0 0,.int .i64 0] 48 (0,0))):=iH (by rw [hw0];exact(show((w.alloc (.cells #[.int .i64 X.kd,.slice sA X.sec.length sc,.int .i64 X.pr,.int .i64 X.st,.slice nA X.non.length nc,.int .i64 X.x,.int .i64 X.g,.int .i64 X.own,.int .i64 X.oth,.slice aA X.k1.length ac,.slice bA X.k2.length bc,.int .i64 X.ct] 48)).alloc (.cells #[.int .i64 0,.slice none 0 0,.int .i64 0,.int .i64 0,.slice none 0 0,.int .i64 0,.int .i64 0,.int .i64 0,.int .i64 0,.slice none 0 0,.slice none 0 0,.int .i64 0] 48)).heap[w.heap.size+1]?=_ from by have:=heap_alloc_new (w.alloc (.cells #[.int .i64 X.kd,.slice sA X.sec.length sc,.int .i64 X.pr,.int .i64 X.st,.slice nA X.non.length nc,.int .i64 X.x,.int .i64 X.g,.int .i64 X.own,.int .i64 X.oth,.slice aA X.k1.length ac,.slice bA X.k2.length bc,.int .i64 X.ct] 48)) (.cells #[.int .i64 0,.slice none 0 0,.int .i64 0,.int .i64 0,.slice none 0 0,.int .i64 0,.int .i64 0,.int .i64 0,.int .i64 0,.slice none 0 0,.slice none 0 0,.int .i64 0] 48);simpa using this))
 have off:∀u m,Bs w w.heap.size u m->BsS w0 (j7 w.heap.size w0) u m:=fun u m h=>h.keep fun b hs hl=>⟨hb0.block b hl,by omega,by omega⟩
 have Hs0:=iH (off _ _ hs);have Hn0:=iH (off _ _ hn);have Ha0:=iH (off _ _ h1);have Hb0:=iH (off _ _ h2)
 have HLN:=iH (And.intro ls (And.intro ln (And.intro l1 l2)))
 have HW0:=iH hw0;have HB0:=iH hb0;have HSZ:=iH hz0
 obtain⟨f0,f1,f2,f3,f4,f5,f6,f7,f8,f9,f10,f11,ff⟩:=j4 HP0.out.1
 have ffx:=ff 1
 clear hs hn h1 h2 off hw0 hb0 hz0 ls ln l1 l2 ff
 go_enter Tryz.func77,Tryz.ntmps77
 go_upto_region 1 with fail
 rw [<-HW0.out]
 go_upto_region 2 with (at_builtin;(with_reducible refine j5 rfl (.const (.slice none 0 0)) (.tmp 5) rfl w0.heap.size (.slice none 0 0) [] rfl (OwnB.nil _ _) sA X.sec.length sc X.sec (·<w0.heap.size) rfl Hs0.out.loB (by have:=HLN.out;simp;omega) iL ?_);intro v1 u1 hgr;rw [List.nil_append]at hgr;obtain⟨sB,sd,hv1⟩:=hgr.1.form;subst hv1;have O1:=iH (hgr.1.out (by have:=HLN.out;omega) w0 iL);have B1:=iH hgr.2.1;have hp:=HP0.out.call hgr.2.1;have HQ1:=iH hp;obtain⟨g0,g1,g2,g3,g4,g5,g6,g7,g8,g9,g10,g11,gf⟩:=j4 hp.1;have gfx:=gf 1;clear hp hgr gf f0 f1 f2 f3 f4 f5 f6 f7 f8 f9 f10 f11 ffx)
 obtain⟨w1,hw⟩:∃z,z=u1.setCell ⟨w.heap.size,1,none⟩ (.slice sB X.sec.length sd):=⟨_,rfl⟩
 rw [<-hw]
 have hp:PtW w.heap.size w0 w1 #[.int .i64 X.kd,.slice sB X.sec.length sd,.int .i64 X.pr,.int .i64 X.st,.slice nA X.non.length nc,.int .i64 X.x,.int .i64 X.g,.int .i64 X.own,.int .i64 X.oth,.slice aA X.k1.length ac,.slice bA X.k2.length bc,.int .i64 X.ct]:=by rw [hw];exact HQ1.out.set 1 _
 have hzz:=HP0.out.2.1.size
 have M1_1:Hid (BsS w1 (New w0 w1) (.slice sB X.sec.length sd) X.sec):=iH (by rw [hw];exact O1.out.keep fun g hg hl=>⟨iO (by show g≠w.heap.size;have:=hg.1;have:=HSZ.out;omega),by have:=hg.1;omega,by simpa [World.setCell]using hg.2⟩)
 have Hn1:Hid (BsS w1 (j7 w.heap.size w1) (.slice nA X.non.length nc) X.non):=iH (Hn0.out.grownP hp.2.1)
 have Ha1:Hid (BsS w1 (j7 w.heap.size w1) (.slice aA X.k1.length ac) X.k1):=iH (Ha0.out.grownP hp.2.1)
 have Hb1:Hid (BsS w1 (j7 w.heap.size w1) (.slice bA X.k2.length bc) X.k2):=iH (Hb0.out.grownP hp.2.1)
 have HP1:=iH hp
 obtain⟨f0,f1,f2,f3,f4,f5,f6,f7,f8,f9,f10,f11,ff⟩:=j4 hp.1
 have ffx:=ff 4
 clear hw hp hzz g0 g1 g2 g3 g4 g5 g6 g7 g8 g9 g10 g11 gfx ff
 go_upto_region 3 with (at_builtin;(with_reducible refine j5 rfl (.const (.slice none 0 0)) (.tmp 10) rfl w1.heap.size (.slice none 0 0) [] rfl (OwnB.nil _ _) nA X.non.length nc X.non (·<w1.heap.size) rfl Hn1.out.loB (by have:=HLN.out;simp;omega) iL ?_);intro v1 u2 hgr;rw [List.nil_append]at hgr;obtain⟨nB,nd,hv1⟩:=hgr.1.form;subst hv1;have O2:=iH (hgr.1.out (by have:=HLN.out;omega) w1 iL);have B2:=iH hgr.2.1;have hp:=HP1.out.call hgr.2.1;have HQ2:=iH hp;obtain⟨g0,g1,g2,g3,g4,g5,g6,g7,g8,g9,g10,g11,gf⟩:=j4 hp.1;have gfx:=gf 4;clear hp hgr gf f0 f1 f2 f3 f4 f5 f6 f7 f8 f9 f10 f11 ffx)
 obtain⟨w2,hw⟩:∃z,z=u2.setCell ⟨w.heap.size,4,none⟩ (.slice nB X.non.length nd):=⟨_,rfl⟩
 rw [<-hw]
 have hp:PtW w.heap.size w0 w2 #[.int .i64 X.kd,.slice sB X.sec.length sd,.int .i64 X.pr,.int .i64 X.st,.slice nB X.non.length nd,.int .i64 X.x,.int .i64 X.g,.int .i64 X.own,.int .i64 X.oth,.slice aA X.k1.length ac,.slice bA X.k2.length bc,.int .i64 X.ct]:=by rw [hw];exact HQ2.out.set 4 _
 have hzz:=HP1.out.2.1.size
 have M2_2:Hid (BsS w2 (New w0 w2) (.slice nB X.non.length nd) X.non):=iH (by rw [hw];exact O2.out.keep fun g hg hl=>⟨iO (by show g≠w.heap.size;have:=hg.1;have:=HSZ.out;omega),by have:=hg.1;omega,by simpa [World.setCell]using hg.2⟩)
 have M1_2:Hid (BsS w2 (New w0 w2) (.slice sB X.sec.length sd) X.sec):=iH (M1_1.out.keep fun g hg hl=>⟨by rw [hw,iO (by show g≠w.heap.size;have:=hg.1;have:=HSZ.out;omega)];exact B2.out.block g hl,hg.1,by rw [hw];simp [World.setCell];exact iZ hl B2.out.size⟩)
 have Ha2:Hid (BsS w2 (j7 w.heap.size w2) (.slice aA X.k1.length ac) X.k1):=iH (Ha0.out.grownP hp.2.1)
 have Hb2:Hid (BsS w2 (j7 w.heap.size w2) (.slice bA X.k2.length bc) X.k2):=iH (Hb0.out.grownP hp.2.1)
 have HP2:=iH hp
 obtain⟨f0,f1,f2,f3,f4,f5,f6,f7,f8,f9,f10,f11,ff⟩:=j4 hp.1
 have ffx:=ff 9
 clear hw hp hzz g0 g1 g2 g3 g4 g5 g6 g7 g8 g9 g10 g11 gfx ff
 go_upto_region 4 with (at_builtin;(with_reducible refine j5 rfl (.const (.slice none 0 0)) (.tmp 15) rfl w2.heap.size (.slice none 0 0) [] rfl (OwnB.nil _ _) aA X.k1.length ac X.k1 (·<w2.heap.size) rfl Ha2.out.loB (by have:=HLN.out;simp;omega) iL ?_);intro v1 u3 hgr;rw [List.nil_append]at hgr;obtain⟨aB,ad,hv1⟩:=hgr.1.form;subst hv1;have O3:=iH (hgr.1.out (by have:=HLN.out;omega) w2 iL);have B3:=iH hgr.2.1;have hp:=HP2.out.call hgr.2.1;have HQ3:=iH hp;obtain⟨g0,g1,g2,g3,g4,g5,g6,g7,g8,g9,g10,g11,gf⟩:=j4 hp.1;have gfx:=gf 9;clear hp hgr gf f0 f1 f2 f3 f4 f5 f6 f7 f8 f9 f10 f11 ffx)
 obtain⟨w3,hw⟩:∃z,z=u3.setCell ⟨w.heap.size,9,none⟩ (.slice aB X.k1.length ad):=⟨_,rfl⟩
 rw [<-hw]
 have hp:PtW w.heap.size w0 w3 #[.int .i64 X.kd,.slice sB X.sec.length sd,.int .i64 X.pr,.int .i64 X.st,.slice nB X.non.length nd,.int .i64 X.x,.int .i64 X.g,.int .i64 X.own,.int .i64 X.oth,.slice aB X.k1.length ad,.slice bA X.k2.length bc,.int .i64 X.ct]:=by rw [hw];exact HQ3.out.set 9 _
 have hzz:=HP2.out.2.1.size
 have M3_3:Hid (BsS w3 (New w0 w3) (.slice aB X.k1.length ad) X.k1):=iH (by rw [hw];exact O3.out.keep fun g hg hl=>⟨iO (by show g≠w.heap.size;have:=hg.1;have:=HSZ.out;omega),by have:=hg.1;omega,by simpa [World.setCell]using hg.2⟩)
 have M1_3:Hid (BsS w3 (New w0 w3) (.slice sB X.sec.length sd) X.sec):=iH (M1_2.out.keep fun g hg hl=>⟨by rw [hw,iO (by show g≠w.heap.size;have:=hg.1;have:=HSZ.out;omega)];exact B3.out.block g hl,hg.1,by rw [hw];simp [World.setCell];exact iZ hl B3.out.size⟩)
 have M2_3:Hid (BsS w3 (New w0 w3) (.slice nB X.non.length nd) X.non):=iH (M2_2.out.keep fun g hg hl=>⟨by rw [hw,iO (by show g≠w.heap.size;have:=hg.1;have:=HSZ.out;omega)];exact B3.out.block g hl,hg.1,by rw [hw];simp [World.setCell];exact iZ hl B3.out.size⟩)
 have Hb3:Hid (BsS w3 (j7 w.heap.size w3) (.slice bA X.k2.length bc) X.k2):=iH (Hb0.out.grownP hp.2.1)
 have HP3:=iH hp
 obtain⟨f0,f1,f2,f3,f4,f5,f6,f7,f8,f9,f10,f11,ff⟩:=j4 hp.1
 have ffx:=ff 10
 clear hw hp hzz g0 g1 g2 g3 g4 g5 g6 g7 g8 g9 g10 g11 gfx ff
 go_upto_region 5 with (at_builtin;(with_reducible refine j5 rfl (.const (.slice none 0 0)) (.tmp 21) rfl w3.heap.size (.slice none 0 0) [] rfl (OwnB.nil _ _) bA X.k2.length bc X.k2 (·<w3.heap.size) rfl Hb3.out.loB (by have:=HLN.out;simp;omega) iL ?_);intro v1 u4 hgr;rw [List.nil_append]at hgr;obtain⟨bB,bd,hv1⟩:=hgr.1.form;subst hv1;have O4:=iH (hgr.1.out (by have:=HLN.out;omega) w3 iL);have B4:=iH hgr.2.1;have hp:=HP3.out.call hgr.2.1;have HQ4:=iH hp;obtain⟨g0,g1,g2,g3,g4,g5,g6,g7,g8,g9,g10,g11,gf⟩:=j4 hp.1;have gfx:=gf 10;clear hp hgr gf f0 f1 f2 f3 f4 f5 f6 f7 f8 f9 f10 f11 ffx)
 obtain⟨w4,hw⟩:∃z,z=u4.setCell ⟨w.heap.size,10,none⟩ (.slice bB X.k2.length bd):=⟨_,rfl⟩
 rw [<-hw]
 have hp:PtW w.heap.size w0 w4 #[.int .i64 X.kd,.slice sB X.sec.length sd,.int .i64 X.pr,.int .i64 X.st,.slice nB X.non.length nd,.int .i64 X.x,.int .i64 X.g,.int .i64 X.own,.int .i64 X.oth,.slice aB X.k1.length ad,.slice bB X.k2.length bd,.int .i64 X.ct]:=by rw [hw];exact HQ4.out.set 10 _
 have hzz:=HP3.out.2.1.size
 have M4_4:Hid (BsS w4 (New w0 w4) (.slice bB X.k2.length bd) X.k2):=iH (by rw [hw];exact O4.out.keep fun g hg hl=>⟨iO (by show g≠w.heap.size;have:=hg.1;have:=HSZ.out;omega),by have:=hg.1;omega,by simpa [World.setCell]using hg.2⟩)
 have M1_4:Hid (BsS w4 (New w0 w4) (.slice sB X.sec.length sd) X.sec):=iH (M1_3.out.keep fun g hg hl=>⟨by rw [hw,iO (by show g≠w.heap.size;have:=hg.1;have:=HSZ.out;omega)];exact B4.out.block g hl,hg.1,by rw [hw];simp [World.setCell];exact iZ hl B4.out.size⟩)
 have M2_4:Hid (BsS w4 (New w0 w4) (.slice nB X.non.length nd) X.non):=iH (M2_3.out.keep fun g hg hl=>⟨by rw [hw,iO (by show g≠w.heap.size;have:=hg.1;have:=HSZ.out;omega)];exact B4.out.block g hl,hg.1,by rw [hw];simp [World.setCell];exact iZ hl B4.out.size⟩)
 have M3_4:Hid (BsS w4 (New w0 w4) (.slice aB X.k1.length ad) X.k1):=iH (M3_3.out.keep fun g hg hl=>⟨by rw [hw,iO (by show g≠w.heap.size;have:=hg.1;have:=HSZ.out;omega)];exact B4.out.block g hl,hg.1,by rw [hw];simp [World.setCell];exact iZ hl B4.out.size⟩)
 have HP4:=iH hp
 obtain⟨f0,f1,f2,f3,f4,f5,f6,f7,f8,f9,f10,f11,ff⟩:=j4 hp.1
 clear hw hp hzz g0 g1 g2 g3 g4 g5 g6 g7 g8 g9 g10 g11 gfx ff
 have hz5:w4.heap[w.heap.size+1]?=some (.cells #[.int .i64 0,.slice none 0 0,.int .i64 0,.int .i64 0,.slice none 0 0,.int .i64 0,.int .i64 0,.int .i64 0,.int .i64 0,.slice none 0 0,.slice none 0 0,.int .i64 0] 48 (0,0)):=(HP4.out.2.1.block (w.heap.size+1) (by have:=HSZ.out;omega) (by intro e;injection e with e;omega)).trans HZ0.out
 obtain⟨z0,z1,z2,z3,z4,z5,z6,z7,z8,z9,z10,z11,zf⟩:=j4 hz5
 have zf0:=zf 0;have zf1:=zf 1;have zf2:=zf 2;have zf3:=zf 3;have zf4:=zf 4;have zf5:=zf 5;have zf6:=zf 6;have zf7:=zf 7;have zf8:=zf 8;have zf9:=zf 9;have zf10:=zf 10;have zf11:=zf 11
 have HZ5:=iH hz5
 clear hz5 zf
 go_wp2_with fail
 have hq:(set12 w4 (w.heap.size+1) (.int .i64 X.kd) (.slice sB X.sec.length sd) (.int .i64 X.pr) (.int .i64 X.st) (.slice nB X.non.length nd) (.int .i64 X.x) (.int .i64 X.g) (.int .i64 X.own) (.int .i64 X.oth) (.slice aB X.k1.length ad) (.slice bB X.k2.length bd) (.int .i64 X.ct)).heap[w.heap.size+1]?=some (.cells #[.int .i64 X.kd,.slice sB X.sec.length sd,.int .i64 X.pr,.int .i64 X.st,.slice nB X.non.length nd,.int .i64 X.x,.int .i64 X.g,.int .i64 X.own,.int .i64 X.oth,.slice aB X.k1.length ad,.slice bB X.k2.length bd,.int .i64 X.ct] 48 (0,0)):=((PtW.start HZ5.out).set12 (.int .i64 X.kd) (.slice sB X.sec.length sd) (.int .i64 X.pr) (.int .i64 X.st) (.slice nB X.non.length nd) (.int .i64 X.x) (.int .i64 X.g) (.int .i64 X.own) (.int .i64 X.oth) (.slice aB X.k1.length ad) (.slice bB X.k2.length bd) (.int .i64 X.ct)).1
 obtain⟨y0,y1,y2,y3,y4,y5,y6,y7,y8,y9,y10,y11,yf⟩:=j4 hq
 unfold Go.Proofs.YtalmmiojbmpmiaaGreatDoor.set12 at y0 y1 y2 y3 y4 y5 y6 y7 y8 y9 y10 y11
 refine bodyPost_ret (v:=.agg #[.int .i64 X.kd,.slice sB X.sec.length sd,.int .i64 X.pr,.int .i64 X.st,.slice nB X.non.length nd,.int .i64 X.x,.int .i64 X.g,.int .i64 X.own,.int .i64 X.oth,.slice aB X.k1.length ad,.slice bB X.k2.length bd,.int .i64 X.ct]) (by simp [results,Tryz.results77,go_sem,y0,y1,y2,y3,y4,y5,y6,y7,y8,y9,y10,y11]) rfl ?_
 obtain⟨w6,hw6⟩:∃z,z=set12 w4 (w.heap.size+1) (.int .i64 X.kd) (.slice sB X.sec.length sd) (.int .i64 X.pr) (.int .i64 X.st) (.slice nB X.non.length nd) (.int .i64 X.x) (.int .i64 X.g) (.int .i64 X.own) (.int .i64 X.oth) (.slice aB X.k1.length ad) (.slice bB X.k2.length bd) (.int .i64 X.ct):=⟨_,rfl⟩
 have hfin:∀ {u:Value} {m:List UInt8},BsS w4 (New w0 w4) u m->BsS w6 (New w w6) u m:=fun {u m} h=>h.keep fun g hg hl=>⟨by rw [hw6,Km (by have:=hg.1;have:=HSZ.out;omega)],by have:=hg.1;have:=HSZ.out;omega,by rw [hw6,Qc];exact hl⟩
 have hbel:Below w.heap.size w w6:=by rw [hw6];exact HB0.out.trans ((HP4.out.2.2).trans ((PtW.set12 (PtW.start HZ5.out) (.int .i64 X.kd) (.slice sB X.sec.length sd) (.int .i64 X.pr) (.int .i64 X.st) (.slice nB X.non.length nd) (.int .i64 X.x) (.int .i64 X.g) (.int .i64 X.own) (.int .i64 X.oth) (.slice aB X.k1.length ad) (.slice bB X.k2.length bd) (.int .i64 X.ct)).2.2.mono (Nat.le_succ _)))
 unfold Go.Proofs.YtalmmiojbmpmiaaGreatDoor.set12 at hw6
 rw [<-hw6]
 exact⟨_,_,_,_,_,_,_,_,rfl,hfin M1_4.out,hfin M2_4.out,hfin M3_4.out,hfin M4_4.out,hbel⟩
theorem j4s(w:World)(P:Nat):BsS w (j7 P w) (.slice none 0 0) []:=⟨none,0,rfl,by simp,by omega,by simp,fun h=>by simp at h⟩
theorem XH{v:List UInt8}{o:Int}(h:jd v=(0,o)):jk o=true:=by
 unfold jd at h
 split at h
 ·cases h
 ·split at h
  ·cases h
  ·rename_i h2
   injection h with _ h
   rw [<-h]
   simpa using h2
section
variable(X:Exg)(sA nA aA bA:Option Addr)(sc nc ac bc:Nat)(vA eA:Option Addr)(vc ec:Nat)(B s:List UInt8)(w:World)(hK:KR w)(h1:Bs w w.heap.size (.slice sA X.sec.length sc) X.sec)(h2:Bs w w.heap.size (.slice nA X.non.length nc) X.non)(h3:Bs w w.heap.size (.slice aA X.k1.length ac) X.k1)(h4:Bs w w.heap.size (.slice bA X.k2.length bc) X.k2)(h5:Bs w w.heap.size (.slice vA B.length vc) B)(h6:Bs w w.heap.size (.slice eA s.length ec) s)(ls:X.sec.length<=140737488351232)(ln:X.non.length<=140737488351232)(l1:X.k1.length<=140737488351232)(l2:X.k2.length<=140737488351232)(hl:s.length<=140737488351232)
include X sA nA aA bA sc nc ac bc vA eA vc ec B s w hK h1 h2 h3 h4 h5 h6 ls ln l1 l2 hl
theorem Y7(hst:X.st<0\/3<X.st):Calls Tryz.prog 34 #[.agg #[.int .i64 X.kd,.slice sA X.sec.length sc,.int .i64 X.pr,.int .i64 X.st,.slice nA X.non.length nc,.int .i64 X.x,.int .i64 X.g,.int .i64 X.own,.int .i64 X.oth,.slice aA X.k1.length ac,.slice bA X.k2.length bc,.int .i64 X.ct],.slice vA B.length vc,.slice eA s.length ec] w (ExO (jv X B s) w):=by
 have R:Hid (jv X B s=jI 23):=iH (by unfold jv;rw [iT hst])
 obtain⟨w0,HW0,HB0,HSZ,FR,FZ,H1,H2,H3,H4,H5,H6⟩:=Za X sA nA aA bA sc nc ac bc h1 h2 h3 h4 h5 h6
 have HK:=iH hK;have HLN:=iH (And.intro ls (And.intro ln (And.intro l1 l2)));have HL:=iH hl
 obtain⟨f0,f1,f2,f3,f4,f5,f6,f7,f8,f9,f10,f11,ff⟩:=j4 (FR.out w0 iB)
 obtain⟨z0,z1,z2,z3,z4,z5,z6,z7,z8,z9,z10,z11,zf⟩:=j4 (FZ.out w0 iB)
 have zf0:=zf 0;have zf1:=zf 1;have zf2:=zf 2;have zf3:=zf 3;have zf4:=zf 4;have zf5:=zf 5;have zf6:=zf 6;have zf7:=zf 7;have zf8:=zf 8;have zf9:=zf 9;have zf10:=zf 10;have zf11:=zf 11
 clear hK h1 h2 h3 h4 h5 h6 ls ln l1 l2 hl zf ff
 rcases hst with hst|hst
 all_goals
  go_enter Tryz.func34,Tryz.ntmps34
  go_upto_region 1 with fail
  rw [<-HW0.out]
  go_wp2_with fail
  obtain⟨y0,y1,y2,y3,y4,y5,y6,y7,y8,y9,y10,y11,yf⟩:=j4 ((PtW.start (FZ.out w0 iB)).set12 (.int .i64 0) (.slice none 0 0) (.int .i64 0) (.int .i64 0) (.slice none 0 0) (.int .i64 0) (.int .i64 0) (.int .i64 0) (.int .i64 0) (.slice none 0 0) (.slice none 0 0) (.int .i64 0)).1
  unfold Go.Proofs.YtalmmiojbmpmiaaGreatDoor.set12 at y0 y1 y2 y3 y4 y5 y6 y7 y8 y9 y10 y11
  refine bodyPost_ret (v:=.tuple #[.agg #[.int .i64 0,.slice none 0 0,.int .i64 0,.int .i64 0,.slice none 0 0,.int .i64 0,.int .i64 0,.int .i64 0,.int .i64 0,.slice none 0 0,.slice none 0 0,.int .i64 0],.slice none 0 0,.slice none 0 0,.int .i64 23]) (by simp [results,Tryz.results34,go_sem,y0,y1,y2,y3,y4,y5,y6,y7,y8,y9,y10,y11]) rfl ?_
  exact ExO.err R.out ((HB0.out.trans (iB.mono HB0.out.size)).trans (Below.mono (((PtW.start (FZ.out _ iB)).set12 (.int .i64 0) (.slice none 0 0) (.int .i64 0) (.int .i64 0) (.slice none 0 0) (.int .i64 0) (.int .i64 0) (.int .i64 0) (.int .i64 0) (.slice none 0 0) (.slice none 0 0) (.int .i64 0)).2.2) (Nat.le_succ _)))
theorem QY(hst:0<=X.st/\X.st<=3)(hus:usC X=false):Calls Tryz.prog 34 #[.agg #[.int .i64 X.kd,.slice sA X.sec.length sc,.int .i64 X.pr,.int .i64 X.st,.slice nA X.non.length nc,.int .i64 X.x,.int .i64 X.g,.int .i64 X.own,.int .i64 X.oth,.slice aA X.k1.length ac,.slice bA X.k2.length bc,.int .i64 X.ct],.slice vA B.length vc,.slice eA s.length ec] w (ExO (jv X B s) w):=by
 have R:Hid (jv X B s=jI 14):=iH (by unfold jv;rw [iF (by omega),iT hus])
 have HUS:=iH hus
 obtain⟨w0,HW0,HB0,HSZ,FR,FZ,H1,H2,H3,H4,H5,H6⟩:=Za X sA nA aA bA sc nc ac bc h1 h2 h3 h4 h5 h6
 have HK:=iH hK;have HLN:=iH (And.intro ls (And.intro ln (And.intro l1 l2)));have HL:=iH hl
 obtain⟨f0,f1,f2,f3,f4,f5,f6,f7,f8,f9,f10,f11,ff⟩:=j4 (FR.out w0 iB)
 obtain⟨z0,z1,z2,z3,z4,z5,z6,z7,z8,z9,z10,z11,zf⟩:=j4 (FZ.out w0 iB)
 have zf0:=zf 0;have zf1:=zf 1;have zf2:=zf 2;have zf3:=zf 3;have zf4:=zf 4;have zf5:=zf 5;have zf6:=zf 6;have zf7:=zf 7;have zf8:=zf 8;have zf9:=zf 9;have zf10:=zf 10;have zf11:=zf 11
 clear hK h1 h2 h3 h4 h5 h6 ls ln l1 l2 hl zf ff
 clear hus
 go_enter Tryz.func34,Tryz.ntmps34
 go_upto_region 1 with fail
 rw [<-HW0.out]
 go_upto_region 4 with (go_at_call 76;refine(U0 X sA nA aA bA sc nc ac bc w0 H3.out H4.out HLN.out.2.2.1 HLN.out.2.2.2).mono ?_;rw [HUS.out];rintro e w1 ⟨rfl,hb⟩;have HB1:=iH hb;clear f0 f1 f2 f3 f4 f5 f6 f7 f8 f9 f10 f11;obtain⟨g0,g1,g2,g3,g4,g5,g6,g7,g8,g9,g10,g11,gf⟩:=j4 (FR.out _ hb);clear z0 zf0 z1 zf1 z2 zf2 z3 zf3 z4 zf4 z5 zf5 z6 zf6 z7 zf7 z8 zf8 z9 zf9 z10 zf10 z11 zf11;obtain⟨z0,z1,z2,z3,z4,z5,z6,z7,z8,z9,z10,z11,zf⟩:=j4 (FZ.out _ hb);have zf0:=zf 0;have zf1:=zf 1;have zf2:=zf 2;have zf3:=zf 3;have zf4:=zf 4;have zf5:=zf 5;have zf6:=zf 6;have zf7:=zf 7;have zf8:=zf 8;have zf9:=zf 9;have zf10:=zf 10;have zf11:=zf 11;clear hb zf gf)
 go_wp2_with fail
 obtain⟨y0,y1,y2,y3,y4,y5,y6,y7,y8,y9,y10,y11,yf⟩:=j4 ((PtW.start (FZ.out w1 HB1.out)).set12 (.int .i64 0) (.slice none 0 0) (.int .i64 0) (.int .i64 0) (.slice none 0 0) (.int .i64 0) (.int .i64 0) (.int .i64 0) (.int .i64 0) (.slice none 0 0) (.slice none 0 0) (.int .i64 0)).1
 unfold Go.Proofs.YtalmmiojbmpmiaaGreatDoor.set12 at y0 y1 y2 y3 y4 y5 y6 y7 y8 y9 y10 y11
 refine bodyPost_ret (v:=.tuple #[.agg #[.int .i64 0,.slice none 0 0,.int .i64 0,.int .i64 0,.slice none 0 0,.int .i64 0,.int .i64 0,.int .i64 0,.int .i64 0,.slice none 0 0,.slice none 0 0,.int .i64 0],.slice none 0 0,.slice none 0 0,.int .i64 14]) (by simp [results,Tryz.results34,go_sem,y0,y1,y2,y3,y4,y5,y6,y7,y8,y9,y10,y11]) rfl ?_
 exact mo
theorem j3k(hst:0<=X.st/\X.st<=3)(hus:usC X=true):Calls Tryz.prog 34 #[.agg #[.int .i64 X.kd,.slice sA X.sec.length sc,.int .i64 X.pr,.int .i64 X.st,.slice nA X.non.length nc,.int .i64 X.x,.int .i64 X.g,.int .i64 X.own,.int .i64 X.oth,.slice aA X.k1.length ac,.slice bA X.k2.length bc,.int .i64 X.ct],.slice vA B.length vc,.slice eA s.length ec] w (ExO (jv X B s) w):=by
 obtain⟨r,hr⟩:∃r,kw B (zS X.st) (Qd X)=r:=⟨_,rfl⟩
 obtain⟨VB,hVB⟩:∃l,r.getD []=l:=⟨_,rfl⟩
 obtain⟨IB,hIB⟩:∃b,r.isSome=b:=⟨_,rfl⟩
 have HVC:Hid (∀v w,Bs w w.heap.size v B->Calls Tryz.prog 78 #[v,.int .i64 (zS X.st),.int .i64 (JB X.pr (X.st+1) false)] w fun e w'=>∃v',e=.returned (.tuple #[v',.bool IB])/\BsS w' (New w w') v' VB/\Below w.heap.size w w'):=iH (fun v w h=>by
  have h:=j3p X (by omega) B v w h
  rw [hr]at h
  unfold ValOut at h
  rw [hVB,hIB]at h
  exact h)
 have HV:=iH hr;have HVB:=iH hVB;have HIB:=iH hIB
 have HST:Hid (X.st=0\/X.st=1\/X.st=2\/X.st=3):=iH (by omega)
 have HUS:=iH hus
 obtain⟨w0,HW0,HB0,HSZ,FR,FZ,H1,H2,H3,H4,H5,H6⟩:=Za X sA nA aA bA sc nc ac bc h1 h2 h3 h4 h5 h6
 have HK:=iH hK;have HLN:=iH (And.intro ls (And.intro ln (And.intro l1 l2)));have HL:=iH hl
 have f:=j4 (FR.out w0 iB)
 clear hK h1 h2 h3 h4 h5 h6 ls ln l1 l2 hl
 have d0:decide (X.st<0)=false:=decide_eq_false (by have:=HST.out;omega)
 have d3:decide (3<X.st)=false:=decide_eq_false (by have:=HST.out;omega)
 have HIX:=j8j X.st HST.out
 have hs0:0<=X.st:=by have:=HST.out;omega
 have hs3:X.st<=3:=by have:=HST.out;omega
 clear hus hst hr hVB hIB
 go_enter Tryz.func34,Tryz.ntmps34
 go_upto_region 1 with fail
 rw [<-HW0.out]
 go_upto_region 5 with (go_at_call 76;refine(U0 X sA nA aA bA sc nc ac bc w0 H3.out H4.out HLN.out.2.2.1 HLN.out.2.2.2).mono ?_;rw [HUS.out];rintro e w1 ⟨rfl,hb⟩;have HB1:=iH hb;clear f;have f:=j4 (FR.out _ hb);clear hb)
 go_upto_region 6 with (go_at_call 77;refine(Kc X sA nA aA bA sc nc ac bc w1 (H1.out.lift HB1.out) (H2.out.lift HB1.out) (H3.out.lift HB1.out) (H4.out.lift HB1.out) HLN.out.1 HLN.out.2.1 HLN.out.2.2.1 HLN.out.2.2.2).mono ?_;rintro e w3 ⟨sB,nB,aB,bB,sd,nd,ad,bd,rfl,k1,k2,k3,k4,hb⟩;have M1:=iH k1;have M2:=iH k2;have M3:=iH k3;have M4:=iH k4;have HB13:=iH hb;have HB3:=iH (HB1.out.trans (hb.mono HB1.out.size));clear k1 k2 k3 k4 hb f;have k:=j4 (show(w3.alloc (.cells #[.int .i64 0,.slice none 0 0,.int .i64 0,.int .i64 0,.slice none 0 0,.int .i64 0,.int .i64 0,.int .i64 0,.int .i64 0,.slice none 0 0,.slice none 0 0,.int .i64 0] 48)).heap[w3.heap.size]?=some (.cells #[.int .i64 0,.slice none 0 0,.int .i64 0,.int .i64 0,.slice none 0 0,.int .i64 0,.int .i64 0,.int .i64 0,.int .i64 0,.slice none 0 0,.slice none 0 0,.int .i64 0] 48 (0,0)) from iN))
 have hz3:w.heap.size+2<=w3.heap.size:=by have:=HSZ.out;have:=HB3.out.size;omega
 have hz1:w.heap.size+1<w1.heap.size:=by have:=HSZ.out;have:=HB1.out.size;omega
 have hL:∀x∈([(.slice sB X.sec.length sd,X.sec),(.slice nB X.non.length nd,X.non),(.slice aB X.k1.length ad,X.k1),(.slice bB X.k2.length bd,X.k2),(.slice sA X.sec.length sc,X.sec),(.slice nA X.non.length nc,X.non),(.slice aA X.k1.length ac,X.k1),(.slice bA X.k2.length bc,X.k2),(.slice vA B.length vc,B),(.slice eA s.length ec,s)]:List (Value×List UInt8)),BsS w3 (j7 (w.heap.size+1) w3) x.1 x.2:=by
  exact m0a
 obtain⟨w4,hw⟩:∃z,z=w3.alloc (.cells #[.int .i64 X.kd,.slice sB X.sec.length sd,.int .i64 X.pr,.int .i64 X.st,.slice nB X.non.length nd,.int .i64 X.x,.int .i64 X.g,.int .i64 X.own,.int .i64 X.oth,.slice aB X.k1.length ad,.slice bB X.k2.length bd,.int .i64 X.ct] 48):=⟨_,rfl⟩
 have hs:RS w w3.heap.size #[.int .i64 X.kd,.slice sA X.sec.length sc,.int .i64 X.pr,.int .i64 X.st,.slice nA X.non.length nc,.int .i64 X.x,.int .i64 X.g,.int .i64 X.own,.int .i64 X.oth,.slice aA X.k1.length ac,.slice bA X.k2.length bc,.int .i64 X.ct] #[.int .i64 X.kd,.slice sB X.sec.length sd,.int .i64 X.pr,.int .i64 X.st,.slice nB X.non.length nd,.int .i64 X.x,.int .i64 X.g,.int .i64 X.own,.int .i64 X.oth,.slice aB X.k1.length ad,.slice bB X.k2.length bd,.int .i64 X.ct] [(.slice sB X.sec.length sd,X.sec),(.slice nB X.non.length nd,X.non),(.slice aB X.k1.length ad,X.k1),(.slice bB X.k2.length bd,X.k2),(.slice sA X.sec.length sc,X.sec),(.slice nA X.non.length nc,X.non),(.slice aA X.k1.length ac,X.k1),(.slice bA X.k2.length bc,X.k2),(.slice vA B.length vc,B),(.slice eA s.length ec,s)] w4:=by rw [hw];exact(RS.start (HB0.out.trans (HB3.out.mono HB0.out.size)) (FR.out _ HB3.out) (FZ.out _ HB3.out) hz3 hL)
 rw [<-hw]
 obtain⟨gy,hgy⟩:∃g,g=w3.heap.size:=⟨_,rfl⟩
 rw [<-hgy]at hs |-
 have S4:=iH hs
 clear hw hs hgy hL hz3 hz1 k
 have f:=j4 S4.out.rx;have g:=j4 S4.out.ry
 go_upto_region 7 with fail
 obtain⟨w5,hw⟩:∃z,z=w4.setCell ⟨gy,3,none⟩ (.int .i64 (X.st+1)):=⟨_,rfl⟩
 rw [<-hw]
 have S5:Hid (RS w gy _ #[.int .i64 X.kd,.slice sB X.sec.length sd,.int .i64 X.pr,.int .i64 (X.st+1),.slice nB X.non.length nd,.int .i64 X.x,.int .i64 X.g,.int .i64 X.own,.int .i64 X.oth,.slice aB X.k1.length ad,.slice bB X.k2.length bd,.int .i64 X.ct] _ w5):=iH (by rw [hw];exact S4.out.set 3 _)
 clear f g;clear hw
 have f:=j4 S5.out.rx;have g:=j4 S5.out.ry
 go_upto_region 8 with (at_builtin;(with_reducible refine j5 rfl (.const (.slice none 0 0)) (.tmp 41) rfl w5.heap.size (.slice none 0 0) [] rfl (OwnB.nil _ _) eA s.length ec s _ rfl (S5.out.at 9 rfl) (by have:=HL.out;simp;omega) iL ?_);intro v6 w6 hgr;rw [List.nil_append]at hgr;obtain⟨eB,ed,hv6⟩:=hgr.1.form;subst hv6;have S6:=iH ((S5.out.on hgr.2.1).add S5.out.lt (hgr.1.out (by have:=HL.out;omega) w5 iL));clear f g;clear hgr;have f:=j4 S6.out.rx;have g:=j4 S6.out.ry)
 go_upto_region 9 with fail
 go_upto_region 10 with (first|(go_at_call 78;refine(HVC.out _ w7 (S7.out.lo 9 rfl)).mono ?_;rintro e w8 ⟨v8,rfl,hs,hb⟩;obtain⟨A8,c8,hp⟩:=Bs.formL hs;subst hp;have S8:=iH ((S7.out.on hb).add S7.out.lt hs);clear f g;clear hb hs;have f:=j4 S8.out.rx;have g:=j4 S8.out.ry)|(go_at_call 79;refine(Qa X sA nA aA bA sc nc ac bc (X.st+1) false w6).mono ?_;rintro e w7 ⟨rfl,hb⟩;have S7:=iH (S6.out.on hb);clear f g;clear hb;have f:=j4 S7.out.rx;have g:=j4 S7.out.ry))
 rcases r with _|v
 ·obtain rfl:IB=false:=HIB.out.symm
  have R:Hid (jv X B s=jI 1):=iH (by have hus:=HUS.out;have hst:=HST.out;unfold jv;rw [iF (by omega),iF (by rw [hus];simp),HV.out])
  go_upto_region 11 with fail
  clear f g;have z:=j4 S8.out.rz
  go_wp2_with fail
  have y:=j4 ((PtW.start S8.out.rz).set12 (.int .i64 0) (.slice none 0 0) (.int .i64 0) (.int .i64 0) (.slice none 0 0) (.int .i64 0) (.int .i64 0) (.int .i64 0) (.int .i64 0) (.slice none 0 0) (.slice none 0 0) (.int .i64 0)).1
  have hbel:=iH (S8.out.bel.trans (Below.mono (((PtW.start S8.out.rz).set12 (.int .i64 0) (.slice none 0 0) (.int .i64 0) (.int .i64 0) (.slice none 0 0) (.int .i64 0) (.int .i64 0) (.int .i64 0) (.int .i64 0) (.slice none 0 0) (.slice none 0 0) (.int .i64 0)).2.2) (Nat.le_succ _)))
  unfold Go.Proofs.YtalmmiojbmpmiaaGreatDoor.set12 at y hbel
  refine bodyPost_ret (v:=.tuple #[.agg #[.int .i64 0,.slice none 0 0,.int .i64 0,.int .i64 0,.slice none 0 0,.int .i64 0,.int .i64 0,.int .i64 0,.int .i64 0,.slice none 0 0,.slice none 0 0,.int .i64 0],.slice none 0 0,.slice none 0 0,.int .i64 1]) (by simp [results,Tryz.results34,go_sem,y]) rfl ?_
  exact ExO.err R.out hbel.out
 obtain rfl:IB=true:=HIB.out.symm
 obtain rfl:v=VB:=HVB.out
 have hq:=HST.out
 clear HIB HVB HVC
 rcases hq with q|q|q|q
 ·have hus:=HUS.out;have hv:=HV.out
  obtain⟨SD,hSD⟩:∃l,sdW s=l:=⟨_,rfl⟩
  obtain⟨DN,hDN⟩:∃l,js s 16=l:=⟨_,rfl⟩
  obtain⟨SK,hKK⟩:∃k,jY s=k:=⟨_,rfl⟩
  have DRW:=iH (xP s DN SD hDN hSD HL.out)
  have SEC:=iH (qp s SD SK hKK hSD HL.out)
  have hDL:DN.length=16:=by rw [<-hDN];exact xd s
  have hKI:0<=SK/\SK<=1073741789:=by rw [<-hKK];exact Jf s
  have hp:vPw X.kd X.sec=true:=(qq hus).1
  obtain⟨HD,hHD⟩:∃l,kZ (kS X.kd X.sec) Z16 DN=l:=⟨_,rfl⟩
  have hh:qn X.kd X.sec DN=(0,HD):=by
   unfold qn
   rw [iF (by rw [hp];simp),iF (by omega),hHD]
  have HH:=iH hh
  have hHL:HD.length=16:=by rw [<-hHD];exact j4k _ _ hDL
  obtain⟨U,hU⟩:∃U,jE 128 HD=U:=⟨_,rfl⟩
  have HWR:Hid (∀(A:Option Addr) (c:Nat) (W:World),Bs W W.heap.size (.slice A HD.length c) HD->Calls Tryz.prog 86 #[.int .i64 (128+2*X.st),.slice A HD.length c] W (xw U W)):=iH (by rw [show 128+2*X.st=128 by omega,<-hU];exact fun A c W h=>ql 128 ⟨by omega,by omega⟩ A c HD W h)
  have R:Hid (jv X B s=(0,⟨X.kd,X.sec,X.pr,X.st+1,DN,X.x,X.g,X.own,X.oth,X.k1,X.k2,X.ct⟩,U,SD)):=iH (by unfold jv;rw [iF (by omega),iF (by rw [hus];simp),hv];simp only [];rw [iT q,hDN,hh,hSD,hU,q]<;>rfl)
  have b1:(X.st+1==1)=true:=by simp;omega
  clear hus hv q hp hHD hh hHL hU hSD hDN hKK hDL hKI
  go_upto_region 20 with (go_at_call 80;refine(DRW.out _ w8 (HK.out.below S8.out.bel HK.out.lt) (S8.out.lo 11 rfl)).mono ?_;rintro e w9 ⟨A9,c9,B9,d9,rfl,h1,h2,hb⟩;have S9:=iH (((S8.out.on hb).add S8.out.lt h2).add S8.out.lt h1);clear f g;clear hb h2 h1;have f:=j4 S9.out.rx;have g:=j4 S9.out.ry)
  obtain⟨w10,hw⟩:∃z,z=w9.setCell ⟨gy,4,none⟩ (.slice A9 DN.length c9):=⟨_,rfl⟩
  rw [<-hw]
  have S10:Hid (RS w gy _ #[.int .i64 X.kd,.slice sB X.sec.length sd,.int .i64 X.pr,.int .i64 (X.st+1),.slice A9 DN.length c9,.int .i64 X.x,.int .i64 X.g,.int .i64 X.own,.int .i64 X.oth,.slice aB X.k1.length ad,.slice bB X.k2.length bd,.int .i64 X.ct] _ w10):=iH (by rw [hw];exact S9.out.set 4 _)
  clear f g;clear hw
  have f:=j4 S10.out.rx;have g:=j4 S10.out.ry
  go_upto_region 43 with (go_at_call 19;refine(j0w X.kd X.sec sA sc DN A9 c9 w10 (HK.out.below S10.out.bel HK.out.lt) (S10.out.lo 8 rfl) (S10.out.lo 0 rfl)).mono ?_;rw [HH.out];rintro e w11 ⟨v10,rfl,hs,hb⟩;obtain⟨A10,c10,hp⟩:=Bs.formL hs;subst hp;have S11:=iH ((S10.out.on hb).add S10.out.lt hs);clear f g;clear hb hs;have f:=j4 S11.out.rx;have g:=j4 S11.out.ry)
  clear f g;have D9:=iH (S11.out.offP 0 rfl);have N9:=iH (S11.out.offP 2 rfl);have L0:=iH (S11.out.offP 5 rfl);have L1:=iH (S11.out.offP 1 rfl);have L2:=iH (S11.out.offP 7 rfl);have L3:=iH (S11.out.offP 8 rfl)
  refine j9 12 [some 170,some 171,some 172,some 173,some 174,some 175,some 176,some 177,none,some 7,some 8,some 9] [[],[],[1],[1,2],[1,2,3],[],[1,2,3,4,5],[],[0,1,2,3,4,5,6],[0,1,2,3,4,5,6,8],[0,1,2,3,4,5,6,7,8,9],[0,1,2,3,4,5,6,7,8,9,10]]
   (fun _ _ w1=>PtA (w.heap.size+1) w11 w1) (fun w1 w2=>RO (w.heap.size+1) #[.int .i64 X.kd,.slice sB X.sec.length sd,.int .i64 X.pr,.int .i64 (X.st+1),.slice A9 DN.length c9,.int .i64 X.x,.int .i64 X.g,.int .i64 X.own,.int .i64 X.oth,.slice aB X.k1.length ad,.slice bB X.k2.length bd,.int .i64 X.ct] w1 w2)
   [.v (.agg #[.int .i64 X.kd,.slice sB X.sec.length sd,.int .i64 X.pr,.int .i64 (X.st+1),.slice A9 DN.length c9,.int .i64 X.x,.int .i64 X.g,.int .i64 X.own,.int .i64 X.oth,.slice aB X.k1.length ad,.slice bB X.k2.length bd,.int .i64 X.ct]),
    .v (.pointer (some ⟨w.heap.size,3,none⟩)),
    .v (.int .i64 X.st),
    .v (.int .i64 (2*X.st)),
    .v (.int .i64 (128+2*X.st)),
    .v (.slice A10 HD.length c10),
    .p (fun v w1=>∃A c,v 6=.slice A U.length c/\BsS w1 (j7 (w.heap.size+1) w1) (.slice A U.length c) U) (fun _ _ _ _ _ hr ⟨A,c,h1,h2⟩=>⟨A,c,h1,h2.grownP hr.1⟩),
    .v (.slice B9 SD.length d9),
    .p (fun v w1=>w1.heap[w.heap.size+1]?=some (.cells #[.int .i64 X.kd,.slice sB X.sec.length sd,.int .i64 X.pr,.int .i64 (X.st+1),.slice A9 DN.length c9,.int .i64 X.x,.int .i64 X.g,.int .i64 X.own,.int .i64 X.oth,.slice aB X.k1.length ad,.slice bB X.k2.length bd,.int .i64 X.ct] 48 (0,0))) (fun _ _ _ _ _ hr h=>hr.2 h),
    .q fun v=>∃A c,v 6=.slice A U.length c/\v 9=.slice A U.length c,
    .v (.slice B9 SD.length d9),
    .v (.int .i64 0)]
   (by kernel_rfl) (by kernel_rfl) rfl (fun _=>⟨_,_,_,_,_,_,_,_,_,_,_,_,(PtW.start S11.out.rz).drew⟩) ?steps ?tail
  case steps=>
   simp only [List.take_succ_cons,List.take_zero]
   repeat' (with_reducible first|exact StepsRG.nil|refine StepsRG.cons ?_ ?_)
   all_goals(intro L v w1 hJ hL hF hD K hK;simp only [jb,Act.put,Nat.zero_add,Nat.reduceAdd,List.setIfInBounds_toArray,List.set_cons_zero,List.set_cons_succ,↓jP,List.getD_cons_zero,List.getD_cons_succ,Nat.reduceEqDiff,↓reduceIte]at hD hK |-)
   all_goals try(have q:=j4 ((hJ.gr.block _ S11.out.lt (by intro e;injection e with e;have:=S11.out.gy2;omega)).trans S11.out.ry);have q1x:=j4 ((hJ.gr.block _ (lt_of_block S11.out.rx) (by intro e;injection e with e;omega)).trans S11.out.rx);(try simp only [hD]at hK |-);go_simp;refine hK _ _ hJ ⟨World.grownBy.refl _ _,id⟩ ?_;first|exact rfl|exact jf _|exact xu (by have:=HST.out;omega))
   ·exact m8
   ·simp only [hD]at hK |-
    obtain⟨a0,a1,a2,a3,a4,a5,a6,a7,a8,a9,a10,a11,hp⟩:=hJ
    have q:=j4 hp.1
    have HJq:=iH hp
    clear hp hL hF
    go_simp
    exact hK undef _ ⟨_,_,_,_,_,_,_,_,_,_,_,_,HJq.out.set12 (.int .i64 X.kd) (.slice sB X.sec.length sd) (.int .i64 X.pr) (.int .i64 (X.st+1)) (.slice A9 DN.length c9) (.int .i64 X.x) (.int .i64 X.g) (.int .i64 X.own) (.int .i64 X.oth) (.slice aB X.k1.length ad) (.slice bB X.k2.length bd) (.int .i64 X.ct)⟩ ⟨((PtW.start HJq.out.1).set12 (.int .i64 X.kd) (.slice sB X.sec.length sd) (.int .i64 X.pr) (.int .i64 (X.st+1)) (.slice A9 DN.length c9) (.int .i64 X.x) (.int .i64 X.g) (.int .i64 X.own) (.int .i64 X.oth) (.slice aB X.k1.length ad) (.slice bB X.k2.length bd) (.int .i64 X.ct)).2.1,fun _=>((PtW.start HJq.out.1).set12 (.int .i64 X.kd) (.slice sB X.sec.length sd) (.int .i64 X.pr) (.int .i64 (X.st+1)) (.slice A9 DN.length c9) (.int .i64 X.x) (.int .i64 X.g) (.int .i64 X.own) (.int .i64 X.oth) (.slice aB X.k1.length ad) (.slice bB X.k2.length bd) (.int .i64 X.ct)).1⟩ ((PtW.start HJq.out.1).set12 (.int .i64 X.kd) (.slice sB X.sec.length sd) (.int .i64 X.pr) (.int .i64 (X.st+1)) (.slice A9 DN.length c9) (.int .i64 X.x) (.int .i64 X.g) (.int .i64 X.own) (.int .i64 X.oth) (.slice aB X.k1.length ad) (.slice bB X.k2.length bd) (.int .i64 X.ct)).1
   ·exact m7
  case tail=>
   intro v w1 hJ hF hD
   simp only [jZ]at hD
   obtain⟨e0,e1,e2,e3,e4,e5,e7,e10,e11, -⟩:=hD
   simp only [List.drop_succ_cons,List.drop_zero,jb,Act.put,Nat.zero_add,Nat.reduceAdd,List.setIfInBounds_toArray,List.set_cons_zero,List.set_cons_succ]
   obtain⟨A7,c7,e6,hu⟩:∃A c,v 6=_/\_:=hF 6 (by simp)
   obtain⟨A8x,c8x,e6b,e9⟩:∃A c,v 6=_/\v 9=_:=hF 9 (by simp)
   obtain⟨rfl,_,rfl⟩:=Value.slice.inj (e6.symm.trans e6b)
   have h8:w1.heap[w.heap.size+1]?=some (.cells #[.int .i64 X.kd,.slice sB X.sec.length sd,.int .i64 X.pr,.int .i64 (X.st+1),.slice A9 DN.length c9,.int .i64 X.x,.int .i64 X.g,.int .i64 X.own,.int .i64 X.oth,.slice aB X.k1.length ad,.slice bB X.k2.length bd,.int .i64 X.ct] 48 (0,0)):=hF 8 (by simp)
   simp only [e0,e1,e2,e3,e4,e5,e6,e7,e9,e10,e11]
   have HP7:=iH hJ;have HU:=iH hu
   have y:=j4 h8
   clear hJ hF hu h8 e0 e1 e2 e3 e4 e5 e6 e6b e7 e9 e10 e11
   go_wp2_with fail
   refine bodyPost_ret (v:=.tuple #[.agg #[.int .i64 X.kd,.slice sB X.sec.length sd,.int .i64 X.pr,.int .i64 (X.st+1),.slice A9 DN.length c9,.int .i64 X.x,.int .i64 X.g,.int .i64 X.own,.int .i64 X.oth,.slice aB X.k1.length ad,.slice bB X.k2.length bd,.int .i64 X.ct],.slice A7 U.length c7,.slice B9 SD.length d9,.int .i64 0]) (by simp [results,Tryz.results34,go_sem,y]) rfl ?_
   have hfin:∀ {u:Value} {m:List UInt8},BsS w11 (j7 (w.heap.size+1) w11) u m->Bs w1 w1.heap.size u m:=fun {u m} h=>(h.grownP HP7.out.gr).loB
   have hbel:Below w.heap.size w w1:=S11.out.bel.trans (HP7.out.bel.mono (Nat.le_succ _))
   exact m6
 ·by_cases hp3:X.pr=3
  ·have hus:=HUS.out;have hv:=HV.out
   have hn:=(qq hus).2.2.1 (by omega)
   obtain⟨gi,hi⟩:∃g,yG X.non v=(0,g):=⟨_,by unfold yG;rw [iF (fun x=>x ⟨hn,Zw q hp3 hv⟩)]⟩
   have HI:=iH hi
   have tp:(X.pr==3)=true:=by simp [hp3]
   obtain⟨U,hU⟩:∃U,jE 130 []=U:=⟨_,rfl⟩
   have HWR:Hid (∀(A:Option Addr) (c:Nat) (W:World),Bs W W.heap.size (.slice none 0 0) []->Calls Tryz.prog 86 #[.int .i64 (128+2*X.st),.slice none 0 0] W (xw U W)):=iH (by rw [show 128+2*X.st=130 by omega,<-hU];exact fun A c W h=>ql 130 ⟨by omega,by omega⟩ none 0 [] W h)
   have R:Hid (jv X B s=(0,⟨X.kd,X.sec,X.pr,X.st+1,X.non,X.x,gi,X.own,X.oth,X.k1,X.k2,X.ct⟩,U,s)):=iH (by unfold jv;rw [iF (by omega),iF (by rw [hus];simp),hv];simp only [];rw [iF (by omega),iT q,iT hp3,hi,hU,q]<;>rfl)
   have b1:(X.st+1==1)=false:=by simp;omega
   have b2:(X.st+1==2)=true:=by simp;omega
   clear hus hv q hn hU hi hp3
   go_upto_region 43 with (go_at_call 28;refine(Q8 X.non v _ _ w8 (HK.out.below S8.out.bel HK.out.lt) (S8.out.lo 7 rfl) (S8.out.lo 0 rfl)).mono ?_;rw [HI.out];rintro e w9 ⟨rfl,hb⟩;have S9:=iH (S8.out.on hb);clear f g;clear hb;have f:=j4 S9.out.rx;have g:=j4 S9.out.ry)
   obtain⟨w10,hw⟩:∃z,z=w9.setCell ⟨gy,6,none⟩ (.int .i64 gi):=⟨_,rfl⟩
   rw [<-hw]
   have S10:Hid (RS w gy _ #[.int .i64 X.kd,.slice sB X.sec.length sd,.int .i64 X.pr,.int .i64 (X.st+1),.slice nB X.non.length nd,.int .i64 X.x,.int .i64 gi,.int .i64 X.own,.int .i64 X.oth,.slice aB X.k1.length ad,.slice bB X.k2.length bd,.int .i64 X.ct] _ w10):=iH (by rw [hw];exact S9.out.set 6 _)
   clear f g;clear hw
   have f:=j4 S10.out.rx;have g:=j4 S10.out.ry
   clear f g;have D9:=iH (j4s w10 (w.heap.size+1));have N9:=iH (S10.out.offP 1 rfl);have L0:=iH (S10.out.offP 2 rfl);have L1:=iH (S10.out.offP 3 rfl);have L2:=iH (S10.out.offP 4 rfl);have L3:=iH (S10.out.offP 5 rfl)
   refine j9 12 [some 170,some 171,some 172,some 173,some 174,some 175,some 176,some 177,none,some 7,some 8,some 9] [[],[],[1],[1,2],[1,2,3],[],[1,2,3,4,5],[],[0,1,2,3,4,5,6],[0,1,2,3,4,5,6,8],[0,1,2,3,4,5,6,7,8,9],[0,1,2,3,4,5,6,7,8,9,10]]
    (fun _ _ w1=>PtA (w.heap.size+1) w10 w1) (fun w1 w2=>RO (w.heap.size+1) #[.int .i64 X.kd,.slice sB X.sec.length sd,.int .i64 X.pr,.int .i64 (X.st+1),.slice nB X.non.length nd,.int .i64 X.x,.int .i64 gi,.int .i64 X.own,.int .i64 X.oth,.slice aB X.k1.length ad,.slice bB X.k2.length bd,.int .i64 X.ct] w1 w2)
    [.v (.agg #[.int .i64 X.kd,.slice sB X.sec.length sd,.int .i64 X.pr,.int .i64 (X.st+1),.slice nB X.non.length nd,.int .i64 X.x,.int .i64 gi,.int .i64 X.own,.int .i64 X.oth,.slice aB X.k1.length ad,.slice bB X.k2.length bd,.int .i64 X.ct]),
     .v (.pointer (some ⟨w.heap.size,3,none⟩)),
     .v (.int .i64 X.st),
     .v (.int .i64 (2*X.st)),
     .v (.int .i64 (128+2*X.st)),
     .v (.slice none 0 0),
     .p (fun v w1=>∃A c,v 6=.slice A U.length c/\BsS w1 (j7 (w.heap.size+1) w1) (.slice A U.length c) U) (fun _ _ _ _ _ hr ⟨A,c,h1,h2⟩=>⟨A,c,h1,h2.grownP hr.1⟩),
     .v (.slice eB s.length ed),
     .p (fun v w1=>w1.heap[w.heap.size+1]?=some (.cells #[.int .i64 X.kd,.slice sB X.sec.length sd,.int .i64 X.pr,.int .i64 (X.st+1),.slice nB X.non.length nd,.int .i64 X.x,.int .i64 gi,.int .i64 X.own,.int .i64 X.oth,.slice aB X.k1.length ad,.slice bB X.k2.length bd,.int .i64 X.ct] 48 (0,0))) (fun _ _ _ _ _ hr h=>hr.2 h),
     .q fun v=>∃A c,v 6=.slice A U.length c/\v 9=.slice A U.length c,
     .v (.slice eB s.length ed),
     .v (.int .i64 0)]
    (by kernel_rfl) (by kernel_rfl) rfl (fun _=>⟨_,_,_,_,_,_,_,_,_,_,_,_,(PtW.start S10.out.rz).drew⟩) ?steps ?tail
   case steps=>
    simp only [List.take_succ_cons,List.take_zero]
    repeat' (with_reducible first|exact StepsRG.nil|refine StepsRG.cons ?_ ?_)
    all_goals(intro L v w1 hJ hL hF hD K hK;simp only [jb,Act.put,Nat.zero_add,Nat.reduceAdd,List.setIfInBounds_toArray,List.set_cons_zero,List.set_cons_succ,↓jP,List.getD_cons_zero,List.getD_cons_succ,Nat.reduceEqDiff,↓reduceIte]at hD hK |-)
    all_goals try(have q:=j4 ((hJ.gr.block _ S10.out.lt (by intro e;injection e with e;have:=S10.out.gy2;omega)).trans S10.out.ry);have q1x:=j4 ((hJ.gr.block _ (lt_of_block S10.out.rx) (by intro e;injection e with e;omega)).trans S10.out.rx);(try simp only [hD]at hK |-);go_simp;refine hK _ _ hJ ⟨World.grownBy.refl _ _,id⟩ ?_;first|exact rfl|exact jf _|exact xu (by have:=HST.out;omega))
    ·simp only [hD]at hK |-
     go_simp
     refine(HWR.out none 0 w1 (D9.out.grownP hJ.gr).loB).mono ?_
     exact mU
    ·exact mW
    ·exact m7
   case tail=>
    intro v w1 hJ hF hD
    simp only [jZ]at hD
    obtain⟨e0,e1,e2,e3,e4,e5,e7,e10,e11, -⟩:=hD
    simp only [List.drop_succ_cons,List.drop_zero,jb,Act.put,Nat.zero_add,Nat.reduceAdd,List.setIfInBounds_toArray,List.set_cons_zero,List.set_cons_succ]
    obtain⟨A7,c7,e6,hu⟩:∃A c,v 6=_/\_:=hF 6 (by simp)
    obtain⟨A8x,c8x,e6b,e9⟩:∃A c,v 6=_/\v 9=_:=hF 9 (by simp)
    obtain⟨rfl,_,rfl⟩:=Value.slice.inj (e6.symm.trans e6b)
    have h8:w1.heap[w.heap.size+1]?=some (.cells #[.int .i64 X.kd,.slice sB X.sec.length sd,.int .i64 X.pr,.int .i64 (X.st+1),.slice nB X.non.length nd,.int .i64 X.x,.int .i64 gi,.int .i64 X.own,.int .i64 X.oth,.slice aB X.k1.length ad,.slice bB X.k2.length bd,.int .i64 X.ct] 48 (0,0)):=hF 8 (by simp)
    simp only [e0,e1,e2,e3,e4,e5,e6,e7,e9,e10,e11]
    have HP7:=iH hJ;have HU:=iH hu
    have y:=j4 h8
    clear hJ hF hu h8 e0 e1 e2 e3 e4 e5 e6 e6b e7 e9 e10 e11
    go_wp2_with fail
    refine bodyPost_ret (v:=.tuple #[.agg #[.int .i64 X.kd,.slice sB X.sec.length sd,.int .i64 X.pr,.int .i64 (X.st+1),.slice nB X.non.length nd,.int .i64 X.x,.int .i64 gi,.int .i64 X.own,.int .i64 X.oth,.slice aB X.k1.length ad,.slice bB X.k2.length bd,.int .i64 X.ct],.slice A7 U.length c7,.slice eB s.length ed,.int .i64 0]) (by simp [results,Tryz.results34,go_sem,y]) rfl ?_
    have hfin:∀ {u:Value} {m:List UInt8},BsS w10 (j7 (w.heap.size+1) w10) u m->Bs w1 w1.heap.size u m:=fun {u m} h=>(h.grownP HP7.out.gr).loB
    have hbel:Below w.heap.size w w1:=S10.out.bel.trans (HP7.out.bel.mono (Nat.le_succ _))
    exact m6
  have hus:=HUS.out;have hv:=HV.out
  have hp2:X.pr=2:=by have:=(qq hus).2.1;omega
  have tp:(X.pr==3)=false:=by simp [hp2]
  clear hp3
  obtain⟨⟨er,o⟩,hde⟩:∃r,jd v=r:=⟨_,rfl⟩
  by_cases he:er=0
  ·subst he
   obtain⟨⟨er,gi⟩,hg⟩:∃r,qQ X.non (jY s) o=r:=⟨_,rfl⟩
   by_cases he:er=0
   ·subst he
    obtain⟨SD,hSD⟩:∃l,sdW s=l:=⟨_,rfl⟩
    obtain⟨DN,hDN⟩:∃l,js s 16=l:=⟨_,rfl⟩
    obtain⟨SK,hKK⟩:∃k,jY s=k:=⟨_,rfl⟩
    have DRW:=iH (xP s DN SD hDN hSD HL.out)
    have SEC:=iH (qp s SD SK hKK hSD HL.out)
    have hDL:DN.length=16:=by rw [<-hDN];exact xd s
    have hKI:0<=SK/\SK<=1073741789:=by rw [<-hKK];exact Jf s
    have HDE:=iH hde
    have hge:qQ X.non SK o=(0,gi):=by rw [<-hKK];exact hg
    have HGE:=iH hge
    obtain⟨G,hG⟩:∃g,jN 4 SK=g:=⟨_,rfl⟩
    have hgi:=zG 4 SK
    rw [hG]at hgi
    have HPW:=iH (Kk 4 SK ⟨by omega,by omega⟩ hKI)
    rw [hG]at HPW
    have HEN:=iH (zK G hgi)
    obtain⟨U,hU⟩:∃U,jE 130 (jc G)=U:=⟨_,rfl⟩
    have HWR:Hid (∀(A:Option Addr) (c:Nat) (W:World),Bs W W.heap.size (.slice A 4 c) (jc G)->Calls Tryz.prog 86 #[.int .i64 (128+2*X.st),.slice A 4 c] W (xw U W)):=iH (by rw [show 128+2*X.st=130 by omega,<-hU];exact fun A c W h=>ql 130 ⟨by omega,by omega⟩ A c (jc G) W h)
    have R:Hid (jv X B s=(0,⟨X.kd,X.sec,X.pr,X.st+1,X.non,X.x,gi,X.own,X.oth,X.k1,X.k2,X.ct⟩,U,SD)):=iH (by unfold jv;rw [iF (by omega),iF (by rw [hus];simp),hv];simp only [];rw [iF (by omega),iT q,iF (by omega),hde];simp only [];rw [hg,iF (by simp),iF (by simp),hSD,hKK,hG,hU,q]<;>rfl)
    have b1:(X.st+1==1)=false:=by simp;omega
    have b2:(X.st+1==2)=true:=by simp;omega
    clear hus hv q hde hge hg hp2 hSD hDN hKK hDL hKI hG hgi hU
    go_upto_region 28 with (go_at_call 81;refine(jO v _ _ w8 (S8.out.at 0 rfl)).mono ?_;rw [HDE.out];rintro e w' ⟨rfl,hw⟩;rw [hw];clear hw w')
    go_upto_region 30 with (first|(go_at_call 24;refine(qO X.non _ SK o w9 (S9.out.lo 8 rfl)).mono ?_;rw [HGE.out];rintro e w' ⟨rfl,hw⟩;rw [hw];clear hw w')|(go_at_call 82;refine(SEC.out _ w8 (HK.out.below S8.out.bel HK.out.lt) (S8.out.lo 11 rfl)).mono ?_;rintro e w9 ⟨B9,d9,rfl,h2,hb⟩;have S9:=iH ((S8.out.on hb).add S8.out.lt h2);clear f g;clear hb h2;have f:=j4 S9.out.rx;have g:=j4 S9.out.ry))
    obtain⟨w10,hw⟩:∃z,z=w9.setCell ⟨gy,6,none⟩ (.int .i64 gi):=⟨_,rfl⟩
    rw [<-hw]
    have S10:Hid (RS w gy _ #[.int .i64 X.kd,.slice sB X.sec.length sd,.int .i64 X.pr,.int .i64 (X.st+1),.slice nB X.non.length nd,.int .i64 X.x,.int .i64 gi,.int .i64 X.own,.int .i64 X.oth,.slice aB X.k1.length ad,.slice bB X.k2.length bd,.int .i64 X.ct] _ w10):=iH (by rw [hw];exact S9.out.set 6 _)
    clear f g;clear hw
    have f:=j4 S10.out.rx;have g:=j4 S10.out.ry
    go_upto_region 43 with (first|(go_at_call 83;refine(HEN.out _).mono ?_;rintro e w11 ⟨A12,c12,rfl,hs,hb⟩;have S11:=iH ((S10.out.on hb).add S10.out.lt hs);clear f g;clear hb hs;have f:=j4 S11.out.rx;have g:=j4 S11.out.ry)|(go_at_call 61;refine(HPW.out _).mono ?_;rintro e w' ⟨rfl,hw⟩;rw [hw];clear hw w'))
    clear f g;have D9:=iH (S11.out.offP 0 rfl);have N9:=iH (S11.out.offP 1 rfl);have L0:=iH (S11.out.offP 4 rfl);have L1:=iH (S11.out.offP 5 rfl);have L2:=iH (S11.out.offP 6 rfl);have L3:=iH (S11.out.offP 7 rfl)
    refine j9 12 [some 170,some 171,some 172,some 173,some 174,some 175,some 176,some 177,none,some 7,some 8,some 9] [[],[],[1],[1,2],[1,2,3],[],[1,2,3,4,5],[],[0,1,2,3,4,5,6],[0,1,2,3,4,5,6,8],[0,1,2,3,4,5,6,7,8,9],[0,1,2,3,4,5,6,7,8,9,10]]
     (fun _ _ w1=>PtA (w.heap.size+1) w11 w1) (fun w1 w2=>RO (w.heap.size+1) #[.int .i64 X.kd,.slice sB X.sec.length sd,.int .i64 X.pr,.int .i64 (X.st+1),.slice nB X.non.length nd,.int .i64 X.x,.int .i64 gi,.int .i64 X.own,.int .i64 X.oth,.slice aB X.k1.length ad,.slice bB X.k2.length bd,.int .i64 X.ct] w1 w2)
     [.v (.agg #[.int .i64 X.kd,.slice sB X.sec.length sd,.int .i64 X.pr,.int .i64 (X.st+1),.slice nB X.non.length nd,.int .i64 X.x,.int .i64 gi,.int .i64 X.own,.int .i64 X.oth,.slice aB X.k1.length ad,.slice bB X.k2.length bd,.int .i64 X.ct]),
      .v (.pointer (some ⟨w.heap.size,3,none⟩)),
      .v (.int .i64 X.st),
      .v (.int .i64 (2*X.st)),
      .v (.int .i64 (128+2*X.st)),
      .v (.slice A12 4 c12),
      .p (fun v w1=>∃A c,v 6=.slice A U.length c/\BsS w1 (j7 (w.heap.size+1) w1) (.slice A U.length c) U) (fun _ _ _ _ _ hr ⟨A,c,h1,h2⟩=>⟨A,c,h1,h2.grownP hr.1⟩),
      .v (.slice B9 SD.length d9),
      .p (fun v w1=>w1.heap[w.heap.size+1]?=some (.cells #[.int .i64 X.kd,.slice sB X.sec.length sd,.int .i64 X.pr,.int .i64 (X.st+1),.slice nB X.non.length nd,.int .i64 X.x,.int .i64 gi,.int .i64 X.own,.int .i64 X.oth,.slice aB X.k1.length ad,.slice bB X.k2.length bd,.int .i64 X.ct] 48 (0,0))) (fun _ _ _ _ _ hr h=>hr.2 h),
      .q fun v=>∃A c,v 6=.slice A U.length c/\v 9=.slice A U.length c,
      .v (.slice B9 SD.length d9),
      .v (.int .i64 0)]
     (by kernel_rfl) (by kernel_rfl) rfl (fun _=>⟨_,_,_,_,_,_,_,_,_,_,_,_,(PtW.start S11.out.rz).drew⟩) ?steps ?tail
    case steps=>
     simp only [List.take_succ_cons,List.take_zero]
     repeat' (with_reducible first|exact StepsRG.nil|refine StepsRG.cons ?_ ?_)
     all_goals(intro L v w1 hJ hL hF hD K hK;simp only [jb,Act.put,Nat.zero_add,Nat.reduceAdd,List.setIfInBounds_toArray,List.set_cons_zero,List.set_cons_succ,↓jP,List.getD_cons_zero,List.getD_cons_succ,Nat.reduceEqDiff,↓reduceIte]at hD hK |-)
     all_goals try(have q:=j4 ((hJ.gr.block _ S11.out.lt (by intro e;injection e with e;have:=S11.out.gy2;omega)).trans S11.out.ry);have q1x:=j4 ((hJ.gr.block _ (lt_of_block S11.out.rx) (by intro e;injection e with e;omega)).trans S11.out.rx);(try simp only [hD]at hK |-);go_simp;refine hK _ _ hJ ⟨World.grownBy.refl _ _,id⟩ ?_;first|exact rfl|exact jf _|exact xu (by have:=HST.out;omega))
     ·exact m8
     ·exact mW
     ·exact m7
    case tail=>
     intro v w1 hJ hF hD
     simp only [jZ]at hD
     obtain⟨e0,e1,e2,e3,e4,e5,e7,e10,e11, -⟩:=hD
     simp only [List.drop_succ_cons,List.drop_zero,jb,Act.put,Nat.zero_add,Nat.reduceAdd,List.setIfInBounds_toArray,List.set_cons_zero,List.set_cons_succ]
     obtain⟨A7,c7,e6,hu⟩:∃A c,v 6=_/\_:=hF 6 (by simp)
     obtain⟨A8x,c8x,e6b,e9⟩:∃A c,v 6=_/\v 9=_:=hF 9 (by simp)
     obtain⟨rfl,_,rfl⟩:=Value.slice.inj (e6.symm.trans e6b)
     have h8:w1.heap[w.heap.size+1]?=some (.cells #[.int .i64 X.kd,.slice sB X.sec.length sd,.int .i64 X.pr,.int .i64 (X.st+1),.slice nB X.non.length nd,.int .i64 X.x,.int .i64 gi,.int .i64 X.own,.int .i64 X.oth,.slice aB X.k1.length ad,.slice bB X.k2.length bd,.int .i64 X.ct] 48 (0,0)):=hF 8 (by simp)
     simp only [e0,e1,e2,e3,e4,e5,e6,e7,e9,e10,e11]
     have HP7:=iH hJ;have HU:=iH hu
     have y:=j4 h8
     clear hJ hF hu h8 e0 e1 e2 e3 e4 e5 e6 e6b e7 e9 e10 e11
     go_wp2_with fail
     refine bodyPost_ret (v:=.tuple #[.agg #[.int .i64 X.kd,.slice sB X.sec.length sd,.int .i64 X.pr,.int .i64 (X.st+1),.slice nB X.non.length nd,.int .i64 X.x,.int .i64 gi,.int .i64 X.own,.int .i64 X.oth,.slice aB X.k1.length ad,.slice bB X.k2.length bd,.int .i64 X.ct],.slice A7 U.length c7,.slice B9 SD.length d9,.int .i64 0]) (by simp [results,Tryz.results34,go_sem,y]) rfl ?_
     have hfin:∀ {u:Value} {m:List UInt8},BsS w11 (j7 (w.heap.size+1) w11) u m->Bs w1 w1.heap.size u m:=fun {u m} h=>(h.grownP HP7.out.gr).loB
     have hbel:Below w.heap.size w w1:=S11.out.bel.trans (HP7.out.bel.mono (Nat.le_succ _))
     exact m6
   ·have hne:=he
    have he:=qc he
    obtain⟨SD,hSD⟩:∃l,sdW s=l:=⟨_,rfl⟩
    obtain⟨DN,hDN⟩:∃l,js s 16=l:=⟨_,rfl⟩
    obtain⟨SK,hKK⟩:∃k,jY s=k:=⟨_,rfl⟩
    have DRW:=iH (xP s DN SD hDN hSD HL.out)
    have SEC:=iH (qp s SD SK hKK hSD HL.out)
    have hDL:DN.length=16:=by rw [<-hDN];exact xd s
    have hKI:0<=SK/\SK<=1073741789:=by rw [<-hKK];exact Jf s
    have HDE:=iH hde
    have hge:qQ X.non SK o=(er,gi):=by rw [<-hKK];exact hg
    have HGE:=iH hge
    have R:Hid (jv X B s=jI er):=iH (by unfold jv;rw [iF (by omega),iF (by rw [hus];simp),hv];simp only [];rw [iF (by omega),iT q,iF (by omega),hde];simp only [];rw [hg,iF (by simp),iT hne])
    have b1:(X.st+1==1)=false:=by simp;omega
    have b2:(X.st+1==2)=true:=by simp;omega
    clear hus hv q hde hge hg hne hp2 hSD hDN hKK hDL hKI
    go_upto_region 28 with (go_at_call 81;refine(jO v _ _ w8 (S8.out.at 0 rfl)).mono ?_;rw [HDE.out];rintro e w' ⟨rfl,hw⟩;rw [hw];clear hw w')
    go_upto_region 30 with (first|(go_at_call 24;refine(qO X.non _ SK o w9 (S9.out.lo 8 rfl)).mono ?_;rw [HGE.out];rintro e w' ⟨rfl,hw⟩;rw [hw];clear hw w')|(go_at_call 82;refine(SEC.out _ w8 (HK.out.below S8.out.bel HK.out.lt) (S8.out.lo 11 rfl)).mono ?_;rintro e w9 ⟨B9,d9,rfl,h2,hb⟩;have S9:=iH ((S8.out.on hb).add S8.out.lt h2);clear f g;clear hb h2;have f:=j4 S9.out.rx;have g:=j4 S9.out.ry))
    obtain⟨w10,hw⟩:∃z,z=w9.setCell ⟨gy,6,none⟩ (.int .i64 gi):=⟨_,rfl⟩
    rw [<-hw]
    have S10:Hid (RS w gy _ #[.int .i64 X.kd,.slice sB X.sec.length sd,.int .i64 X.pr,.int .i64 (X.st+1),.slice nB X.non.length nd,.int .i64 X.x,.int .i64 gi,.int .i64 X.own,.int .i64 X.oth,.slice aB X.k1.length ad,.slice bB X.k2.length bd,.int .i64 X.ct] _ w10):=iH (by rw [hw];exact S9.out.set 6 _)
    clear f g;clear hw
    have f:=j4 S10.out.rx;have g:=j4 S10.out.ry
    go_upto_region 31 with fail
    clear f g;have z:=j4 S10.out.rz
    go_wp2_with fail
    have y:=j4 ((PtW.start S10.out.rz).set12 (.int .i64 0) (.slice none 0 0) (.int .i64 0) (.int .i64 0) (.slice none 0 0) (.int .i64 0) (.int .i64 0) (.int .i64 0) (.int .i64 0) (.slice none 0 0) (.slice none 0 0) (.int .i64 0)).1
    have hbel:=iH (S10.out.bel.trans (Below.mono (((PtW.start S10.out.rz).set12 (.int .i64 0) (.slice none 0 0) (.int .i64 0) (.int .i64 0) (.slice none 0 0) (.int .i64 0) (.int .i64 0) (.int .i64 0) (.int .i64 0) (.slice none 0 0) (.slice none 0 0) (.int .i64 0)).2.2) (Nat.le_succ _)))
    unfold Go.Proofs.YtalmmiojbmpmiaaGreatDoor.set12 at y hbel
    refine bodyPost_ret (v:=.tuple #[.agg #[.int .i64 0,.slice none 0 0,.int .i64 0,.int .i64 0,.slice none 0 0,.int .i64 0,.int .i64 0,.int .i64 0,.int .i64 0,.slice none 0 0,.slice none 0 0,.int .i64 0],.slice none 0 0,.slice none 0 0,.int .i64 er]) (by simp [results,Tryz.results34,go_sem,y]) rfl ?_
    exact ExO.err R.out hbel.out
  ·have hne:=he
   have he:=qc he
   have HDE:=iH hde
   have R:Hid (jv X B s=jI er):=iH (by unfold jv;rw [iF (by omega),iF (by rw [hus];simp),hv];simp only [];rw [iF (by omega),iT q,iF (by omega),hde];simp only [];rw [iT hne])
   have b1:(X.st+1==1)=false:=by simp;omega
   have b2:(X.st+1==2)=true:=by simp;omega
   clear hus hv q hde hne hp2
   go_upto_region 26 with (go_at_call 81;refine(jO v _ _ w8 (S8.out.at 0 rfl)).mono ?_;rw [HDE.out];rintro e w' ⟨rfl,hw⟩;rw [hw];clear hw w')
   clear f g;have z:=j4 S8.out.rz
   go_wp2_with fail
   have y:=j4 ((PtW.start S8.out.rz).set12 (.int .i64 0) (.slice none 0 0) (.int .i64 0) (.int .i64 0) (.slice none 0 0) (.int .i64 0) (.int .i64 0) (.int .i64 0) (.int .i64 0) (.slice none 0 0) (.slice none 0 0) (.int .i64 0)).1
   have hbel:=iH (S8.out.bel.trans (Below.mono (((PtW.start S8.out.rz).set12 (.int .i64 0) (.slice none 0 0) (.int .i64 0) (.int .i64 0) (.slice none 0 0) (.int .i64 0) (.int .i64 0) (.int .i64 0) (.int .i64 0) (.slice none 0 0) (.slice none 0 0) (.int .i64 0)).2.2) (Nat.le_succ _)))
   unfold Go.Proofs.YtalmmiojbmpmiaaGreatDoor.set12 at y hbel
   refine bodyPost_ret (v:=.tuple #[.agg #[.int .i64 0,.slice none 0 0,.int .i64 0,.int .i64 0,.slice none 0 0,.int .i64 0,.int .i64 0,.int .i64 0,.int .i64 0,.slice none 0 0,.slice none 0 0,.int .i64 0],.slice none 0 0,.slice none 0 0,.int .i64 er]) (by simp [results,Tryz.results34,go_sem,y]) rfl ?_
   exact ExO.err R.out hbel.out
 ·obtain⟨⟨er,o⟩,hde⟩:∃r,jd v=r:=⟨_,rfl⟩
  have hus:=HUS.out;have hv:=HV.out
  by_cases he:er=0
  ·subst he
   by_cases hne:o=jN X.g (jY s)
   ·obtain⟨SD,hSD⟩:∃l,sdW s=l:=⟨_,rfl⟩
    obtain⟨DN,hDN⟩:∃l,js s 16=l:=⟨_,rfl⟩
    obtain⟨SK,hKK⟩:∃k,jY s=k:=⟨_,rfl⟩
    have DRW:=iH (xP s DN SD hDN hSD HL.out)
    have SEC:=iH (qp s SD SK hKK hSD HL.out)
    have hDL:DN.length=16:=by rw [<-hDN];exact xd s
    have hKI:0<=SK/\SK<=1073741789:=by rw [<-hKK];exact Jf s
    have hg:=(qq hus).2.2.2.1 (by omega)
    have HDE:=iH hde
    obtain⟨OW,hOW⟩:∃g,jN X.g SK=g:=⟨_,rfl⟩
    have hgi:=zG X.g SK
    rw [hOW]at hgi
    have hxg:0<=X.g/\X.g<2147483579:=by have:=jD hg;omega
    have HPW:=iH (Kk X.g SK hxg hKI)
    rw [hOW]at HPW
    have hno:o=OW:=by rw [<-hOW,<-hKK];exact hne
    have HNE:=iH hno
    have R:Hid (jv X B s=jI 10):=iH (by unfold jv;rw [iF (by omega),iF (by rw [hus];simp),hv];simp only [];rw [iF (by omega),iF (by omega),iT q,hde];simp only [];rw [iF (by simp),iT hne])
    have b1:(X.st+1==1)=false:=by simp;omega
    have b2:(X.st+1==2)=false:=by simp;omega
    have b3:(X.st+1==3)=true:=by simp;omega
    clear hus hv q hde hne hno hg hSD hDN hKK hDL hKI hOW hgi hxg
    go_upto_region 37 with (go_at_call 81;refine(jO v _ _ w8 (S8.out.at 0 rfl)).mono ?_;rw [HDE.out];rintro e w' ⟨rfl,hw⟩;rw [hw];clear hw w')
    go_upto_region 38 with (go_at_call 82;refine(SEC.out _ w8 (HK.out.below S8.out.bel HK.out.lt) (S8.out.lo 11 rfl)).mono ?_;rintro e w9 ⟨B9,d9,rfl,h2,hb⟩;have S9:=iH ((S8.out.on hb).add S8.out.lt h2);clear f g;clear hb h2;have f:=j4 S9.out.rx;have g:=j4 S9.out.ry)
    obtain⟨w10,hw⟩:∃z,z=w9.setCell ⟨gy,5,none⟩ (.int .i64 SK):=⟨_,rfl⟩
    rw [<-hw]
    have S10:Hid (RS w gy _ #[.int .i64 X.kd,.slice sB X.sec.length sd,.int .i64 X.pr,.int .i64 (X.st+1),.slice nB X.non.length nd,.int .i64 SK,.int .i64 X.g,.int .i64 X.own,.int .i64 X.oth,.slice aB X.k1.length ad,.slice bB X.k2.length bd,.int .i64 X.ct] _ w10):=iH (by rw [hw];exact S9.out.set 5 _)
    clear f g;clear hw
    have f:=j4 S10.out.rx;have g:=j4 S10.out.ry
    go_upto_region 39 with (go_at_call 61;refine(HPW.out _).mono ?_;rintro e w' ⟨rfl,hw⟩;rw [hw];clear hw w')
    obtain⟨w11,hw⟩:∃z,z=w10.setCell ⟨gy,7,none⟩ (.int .i64 OW):=⟨_,rfl⟩
    rw [<-hw]
    have S11:Hid (RS w gy _ #[.int .i64 X.kd,.slice sB X.sec.length sd,.int .i64 X.pr,.int .i64 (X.st+1),.slice nB X.non.length nd,.int .i64 SK,.int .i64 X.g,.int .i64 OW,.int .i64 X.oth,.slice aB X.k1.length ad,.slice bB X.k2.length bd,.int .i64 X.ct] _ w11):=iH (by rw [hw];exact S10.out.set 7 _)
    clear f g;clear hw
    have f:=j4 S11.out.rx;have g:=j4 S11.out.ry
    go_upto_region 40 with (go_at_call 84;refine(Kb (Exg.mk (X.kd) (X.sec) (X.pr) (X.st+1) (X.non) (SK) (X.g) (OW) (X.oth) (X.k1) (X.k2) (X.ct)) sB nB aB bB sd nd ad bd o HNE.out w11).mono ?_;rintro e w12 ⟨rfl,hb⟩;have S12:=iH (S11.out.on hb);clear f g;clear hb;have f:=j4 S12.out.rx;have g:=j4 S12.out.ry)
    obtain⟨w13,hw⟩:∃z,z=set12 w12 gy (.int .i64 X.kd) (.slice sB X.sec.length sd) (.int .i64 X.pr) (.int .i64 (X.st+1)) (.slice nB X.non.length nd) (.int .i64 SK) (.int .i64 X.g) (.int .i64 OW) (.int .i64 X.oth) (.slice aB X.k1.length ad) (.slice bB X.k2.length bd) (.int .i64 X.ct):=⟨_,rfl⟩
    have S13:Hid (RS w gy _ #[.int .i64 X.kd,.slice sB X.sec.length sd,.int .i64 X.pr,.int .i64 (X.st+1),.slice nB X.non.length nd,.int .i64 SK,.int .i64 X.g,.int .i64 OW,.int .i64 X.oth,.slice aB X.k1.length ad,.slice bB X.k2.length bd,.int .i64 X.ct] _ w13):=iH (by rw [hw];exact S12.out.fill (.int .i64 X.kd) (.slice sB X.sec.length sd) (.int .i64 X.pr) (.int .i64 (X.st+1)) (.slice nB X.non.length nd) (.int .i64 SK) (.int .i64 X.g) (.int .i64 OW) (.int .i64 X.oth) (.slice aB X.k1.length ad) (.slice bB X.k2.length bd) (.int .i64 X.ct))
    unfold Go.Proofs.YtalmmiojbmpmiaaGreatDoor.set12 at hw
    rw [<-hw]
    clear f g;clear hw
    have f:=j4 S13.out.rx;have g:=j4 S13.out.ry
    go_upto_region 41 with fail
    clear f g;have z:=j4 S13.out.rz
    go_wp2_with fail
    have y:=j4 ((PtW.start S13.out.rz).set12 (.int .i64 0) (.slice none 0 0) (.int .i64 0) (.int .i64 0) (.slice none 0 0) (.int .i64 0) (.int .i64 0) (.int .i64 0) (.int .i64 0) (.slice none 0 0) (.slice none 0 0) (.int .i64 0)).1
    have hbel:=iH (S13.out.bel.trans (Below.mono (((PtW.start S13.out.rz).set12 (.int .i64 0) (.slice none 0 0) (.int .i64 0) (.int .i64 0) (.slice none 0 0) (.int .i64 0) (.int .i64 0) (.int .i64 0) (.int .i64 0) (.slice none 0 0) (.slice none 0 0) (.int .i64 0)).2.2) (Nat.le_succ _)))
    unfold Go.Proofs.YtalmmiojbmpmiaaGreatDoor.set12 at y hbel
    refine bodyPost_ret (v:=.tuple #[.agg #[.int .i64 0,.slice none 0 0,.int .i64 0,.int .i64 0,.slice none 0 0,.int .i64 0,.int .i64 0,.int .i64 0,.int .i64 0,.slice none 0 0,.slice none 0 0,.int .i64 0],.slice none 0 0,.slice none 0 0,.int .i64 10]) (by simp [results,Tryz.results34,go_sem,y]) rfl ?_
    exact ExO.err R.out hbel.out
   ·obtain⟨SD,hSD⟩:∃l,sdW s=l:=⟨_,rfl⟩
    obtain⟨DN,hDN⟩:∃l,js s 16=l:=⟨_,rfl⟩
    obtain⟨SK,hKK⟩:∃k,jY s=k:=⟨_,rfl⟩
    have DRW:=iH (xP s DN SD hDN hSD HL.out)
    have SEC:=iH (qp s SD SK hKK hSD HL.out)
    have hDL:DN.length=16:=by rw [<-hDN];exact xd s
    have hKI:0<=SK/\SK<=1073741789:=by rw [<-hKK];exact Jf s
    have hg:=(qq hus).2.2.2.1 (by omega)
    have HDE:=iH hde
    obtain⟨OW,hOW⟩:∃g,jN X.g SK=g:=⟨_,rfl⟩
    have hgi:=zG X.g SK
    rw [hOW]at hgi
    have hxg:0<=X.g/\X.g<2147483579:=by have:=jD hg;omega
    have HPW:=iH (Kk X.g SK hxg hKI)
    rw [hOW]at HPW
    have hno:¬o=OW:=by rw [<-hOW,<-hKK];exact hne
    have hoi:0<=o/\o<2147483579:=by have:=jD (XH hde);omega
    have HNE:=iH hno;have HOI:=iH hoi;have HKI:=iH hKI
    have HEN:=iH (zK OW hgi)
    obtain⟨U,hU⟩:∃U,jE 132 (jc OW)=U:=⟨_,rfl⟩
    have HWR:Hid (∀(A:Option Addr) (c:Nat) (W:World),Bs W W.heap.size (.slice A 4 c) (jc OW)->Calls Tryz.prog 86 #[.int .i64 (128+2*X.st),.slice A 4 c] W (xw U W)):=iH (by rw [show 128+2*X.st=132 by omega,<-hU];exact fun A c W h=>ql 132 ⟨by omega,by omega⟩ A c (jc OW) W h)
    have R:Hid (jv X B s=(0,⟨X.kd,X.sec,X.pr,X.st+1,X.non,SK,X.g,OW,o,zw (jc (jN o SK)) 1,zw (jc (jN o SK)) 2,0⟩,U,SD)):=iH (by unfold jv;rw [iF (by omega),iF (by rw [hus];simp),hv];simp only [];rw [iF (by omega),iF (by omega),iT q,hde];simp only [];rw [iF (by simp),iF hne,hKK,hOW,hSD,hU,q];unfold kr;simp only [];rw [iF hno]<;>rfl)
    have b1:(X.st+1==1)=false:=by simp;omega
    have b2:(X.st+1==2)=false:=by simp;omega
    have b3:(X.st+1==3)=true:=by simp;omega
    clear hus hv q hde hne hno hg hSD hDN hKK hDL hKI hOW hgi hxg hoi hU
    go_upto_region 37 with (go_at_call 81;refine(jO v _ _ w8 (S8.out.at 0 rfl)).mono ?_;rw [HDE.out];rintro e w' ⟨rfl,hw⟩;rw [hw];clear hw w')
    go_upto_region 38 with (go_at_call 82;refine(SEC.out _ w8 (HK.out.below S8.out.bel HK.out.lt) (S8.out.lo 11 rfl)).mono ?_;rintro e w9 ⟨B9,d9,rfl,h2,hb⟩;have S9:=iH ((S8.out.on hb).add S8.out.lt h2);clear f g;clear hb h2;have f:=j4 S9.out.rx;have g:=j4 S9.out.ry)
    obtain⟨w10,hw⟩:∃z,z=w9.setCell ⟨gy,5,none⟩ (.int .i64 SK):=⟨_,rfl⟩
    rw [<-hw]
    have S10:Hid (RS w gy _ #[.int .i64 X.kd,.slice sB X.sec.length sd,.int .i64 X.pr,.int .i64 (X.st+1),.slice nB X.non.length nd,.int .i64 SK,.int .i64 X.g,.int .i64 X.own,.int .i64 X.oth,.slice aB X.k1.length ad,.slice bB X.k2.length bd,.int .i64 X.ct] _ w10):=iH (by rw [hw];exact S9.out.set 5 _)
    clear f g;clear hw
    have f:=j4 S10.out.rx;have g:=j4 S10.out.ry
    go_upto_region 39 with (go_at_call 61;refine(HPW.out _).mono ?_;rintro e w' ⟨rfl,hw⟩;rw [hw];clear hw w')
    obtain⟨w11,hw⟩:∃z,z=w10.setCell ⟨gy,7,none⟩ (.int .i64 OW):=⟨_,rfl⟩
    rw [<-hw]
    have S11:Hid (RS w gy _ #[.int .i64 X.kd,.slice sB X.sec.length sd,.int .i64 X.pr,.int .i64 (X.st+1),.slice nB X.non.length nd,.int .i64 SK,.int .i64 X.g,.int .i64 OW,.int .i64 X.oth,.slice aB X.k1.length ad,.slice bB X.k2.length bd,.int .i64 X.ct] _ w11):=iH (by rw [hw];exact S10.out.set 7 _)
    clear f g;clear hw
    have f:=j4 S11.out.rx;have g:=j4 S11.out.ry
    go_upto_region 40 with (go_at_call 84;refine(Q5 (Exg.mk (X.kd) (X.sec) (X.pr) (X.st+1) (X.non) (SK) (X.g) (OW) (X.oth) (X.k1) (X.k2) (X.ct)) sB nB aB bB sd nd ad bd o HNE.out HOI.out HKI.out w11 (HK.out.below S11.out.bel HK.out.lt)).mono ?_;rintro e w12 ⟨aC,bC,ae,be,rfl,m1,m2,hb⟩;have S12:=iH (((S11.out.on hb).add S11.out.lt m2).add S11.out.lt m1);clear f g;clear hb m2 m1;have f:=j4 S12.out.rx;have g:=j4 S12.out.ry)
    obtain⟨w13,hw⟩:∃z,z=set12 w12 gy (.int .i64 X.kd) (.slice sB X.sec.length sd) (.int .i64 X.pr) (.int .i64 (X.st+1)) (.slice nB X.non.length nd) (.int .i64 SK) (.int .i64 X.g) (.int .i64 OW) (.int .i64 o) (.slice aC 16 ae) (.slice bC 16 be) (.int .i64 0):=⟨_,rfl⟩
    have S13:Hid (RS w gy _ #[.int .i64 X.kd,.slice sB X.sec.length sd,.int .i64 X.pr,.int .i64 (X.st+1),.slice nB X.non.length nd,.int .i64 SK,.int .i64 X.g,.int .i64 OW,.int .i64 o,.slice aC 16 ae,.slice bC 16 be,.int .i64 0] _ w13):=iH (by rw [hw];exact S12.out.fill (.int .i64 X.kd) (.slice sB X.sec.length sd) (.int .i64 X.pr) (.int .i64 (X.st+1)) (.slice nB X.non.length nd) (.int .i64 SK) (.int .i64 X.g) (.int .i64 OW) (.int .i64 o) (.slice aC 16 ae) (.slice bC 16 be) (.int .i64 0))
    unfold Go.Proofs.YtalmmiojbmpmiaaGreatDoor.set12 at hw
    rw [<-hw]
    clear f g;clear hw
    have f:=j4 S13.out.rx;have g:=j4 S13.out.ry
    go_upto_region 43 with (go_at_call 83;refine(HEN.out _).mono ?_;rintro e w14 ⟨A12,c12,rfl,hs,hb⟩;have S14:=iH ((S13.out.on hb).add S13.out.lt hs);clear f g;clear hb hs;have f:=j4 S14.out.rx;have g:=j4 S14.out.ry)
    clear f g;have D9:=iH (S14.out.offP 0 rfl);have N9:=iH (S14.out.offP 3 rfl);have L0:=iH (S14.out.offP 6 rfl);have L1:=iH (S14.out.offP 7 rfl);have L2:=iH (S14.out.offP 1 rfl);have L3:=iH (S14.out.offP 2 rfl)
    refine j9 12 [some 170,some 171,some 172,some 173,some 174,some 175,some 176,some 177,none,some 7,some 8,some 9] [[],[],[1],[1,2],[1,2,3],[],[1,2,3,4,5],[],[0,1,2,3,4,5,6],[0,1,2,3,4,5,6,8],[0,1,2,3,4,5,6,7,8,9],[0,1,2,3,4,5,6,7,8,9,10]]
     (fun _ _ w1=>PtA (w.heap.size+1) w14 w1) (fun w1 w2=>RO (w.heap.size+1) #[.int .i64 X.kd,.slice sB X.sec.length sd,.int .i64 X.pr,.int .i64 (X.st+1),.slice nB X.non.length nd,.int .i64 SK,.int .i64 X.g,.int .i64 OW,.int .i64 o,.slice aC 16 ae,.slice bC 16 be,.int .i64 0] w1 w2)
     [.v (.agg #[.int .i64 X.kd,.slice sB X.sec.length sd,.int .i64 X.pr,.int .i64 (X.st+1),.slice nB X.non.length nd,.int .i64 SK,.int .i64 X.g,.int .i64 OW,.int .i64 o,.slice aC 16 ae,.slice bC 16 be,.int .i64 0]),
      .v (.pointer (some ⟨w.heap.size,3,none⟩)),
      .v (.int .i64 X.st),
      .v (.int .i64 (2*X.st)),
      .v (.int .i64 (128+2*X.st)),
      .v (.slice A12 4 c12),
      .p (fun v w1=>∃A c,v 6=.slice A U.length c/\BsS w1 (j7 (w.heap.size+1) w1) (.slice A U.length c) U) (fun _ _ _ _ _ hr ⟨A,c,h1,h2⟩=>⟨A,c,h1,h2.grownP hr.1⟩),
      .v (.slice B9 SD.length d9),
      .p (fun v w1=>w1.heap[w.heap.size+1]?=some (.cells #[.int .i64 X.kd,.slice sB X.sec.length sd,.int .i64 X.pr,.int .i64 (X.st+1),.slice nB X.non.length nd,.int .i64 SK,.int .i64 X.g,.int .i64 OW,.int .i64 o,.slice aC 16 ae,.slice bC 16 be,.int .i64 0] 48 (0,0))) (fun _ _ _ _ _ hr h=>hr.2 h),
      .q fun v=>∃A c,v 6=.slice A U.length c/\v 9=.slice A U.length c,
      .v (.slice B9 SD.length d9),
      .v (.int .i64 0)]
     (by kernel_rfl) (by kernel_rfl) rfl (fun _=>⟨_,_,_,_,_,_,_,_,_,_,_,_,(PtW.start S14.out.rz).drew⟩) ?steps ?tail
    case steps=>
     simp only [List.take_succ_cons,List.take_zero]
     repeat' (with_reducible first|exact StepsRG.nil|refine StepsRG.cons ?_ ?_)
     all_goals(intro L v w1 hJ hL hF hD K hK;simp only [jb,Act.put,Nat.zero_add,Nat.reduceAdd,List.setIfInBounds_toArray,List.set_cons_zero,List.set_cons_succ,↓jP,List.getD_cons_zero,List.getD_cons_succ,Nat.reduceEqDiff,↓reduceIte]at hD hK |-)
     all_goals try(have q:=j4 ((hJ.gr.block _ S14.out.lt (by intro e;injection e with e;have:=S14.out.gy2;omega)).trans S14.out.ry);have q1x:=j4 ((hJ.gr.block _ (lt_of_block S14.out.rx) (by intro e;injection e with e;omega)).trans S14.out.rx);(try simp only [hD]at hK |-);go_simp;refine hK _ _ hJ ⟨World.grownBy.refl _ _,id⟩ ?_;first|exact rfl|exact jf _|exact xu (by have:=HST.out;omega))
     ·exact m8
     ·simp only [hD]at hK |-
      obtain⟨a0,a1,a2,a3,a4,a5,a6,a7,a8,a9,a10,a11,hp⟩:=hJ
      have q:=j4 hp.1
      have HJq:=iH hp
      clear hp hL hF
      go_simp
      exact hK undef _ ⟨_,_,_,_,_,_,_,_,_,_,_,_,HJq.out.set12 (.int .i64 X.kd) (.slice sB X.sec.length sd) (.int .i64 X.pr) (.int .i64 (X.st+1)) (.slice nB X.non.length nd) (.int .i64 SK) (.int .i64 X.g) (.int .i64 OW) (.int .i64 o) (.slice aC 16 ae) (.slice bC 16 be) (.int .i64 0)⟩ ⟨((PtW.start HJq.out.1).set12 (.int .i64 X.kd) (.slice sB X.sec.length sd) (.int .i64 X.pr) (.int .i64 (X.st+1)) (.slice nB X.non.length nd) (.int .i64 SK) (.int .i64 X.g) (.int .i64 OW) (.int .i64 o) (.slice aC 16 ae) (.slice bC 16 be) (.int .i64 0)).2.1,fun _=>((PtW.start HJq.out.1).set12 (.int .i64 X.kd) (.slice sB X.sec.length sd) (.int .i64 X.pr) (.int .i64 (X.st+1)) (.slice nB X.non.length nd) (.int .i64 SK) (.int .i64 X.g) (.int .i64 OW) (.int .i64 o) (.slice aC 16 ae) (.slice bC 16 be) (.int .i64 0)).1⟩ ((PtW.start HJq.out.1).set12 (.int .i64 X.kd) (.slice sB X.sec.length sd) (.int .i64 X.pr) (.int .i64 (X.st+1)) (.slice nB X.non.length nd) (.int .i64 SK) (.int .i64 X.g) (.int .i64 OW) (.int .i64 o) (.slice aC 16 ae) (.slice bC 16 be) (.int .i64 0)).1
     ·exact m7
    case tail=>
     intro v w1 hJ hF hD
     simp only [jZ]at hD
     obtain⟨e0,e1,e2,e3,e4,e5,e7,e10,e11, -⟩:=hD
     simp only [List.drop_succ_cons,List.drop_zero,jb,Act.put,Nat.zero_add,Nat.reduceAdd,List.setIfInBounds_toArray,List.set_cons_zero,List.set_cons_succ]
     obtain⟨A7,c7,e6,hu⟩:∃A c,v 6=_/\_:=hF 6 (by simp)
     obtain⟨A8x,c8x,e6b,e9⟩:∃A c,v 6=_/\v 9=_:=hF 9 (by simp)
     obtain⟨rfl,_,rfl⟩:=Value.slice.inj (e6.symm.trans e6b)
     have h8:w1.heap[w.heap.size+1]?=some (.cells #[.int .i64 X.kd,.slice sB X.sec.length sd,.int .i64 X.pr,.int .i64 (X.st+1),.slice nB X.non.length nd,.int .i64 SK,.int .i64 X.g,.int .i64 OW,.int .i64 o,.slice aC 16 ae,.slice bC 16 be,.int .i64 0] 48 (0,0)):=hF 8 (by simp)
     simp only [e0,e1,e2,e3,e4,e5,e6,e7,e9,e10,e11]
     have HP7:=iH hJ;have HU:=iH hu
     have y:=j4 h8
     clear hJ hF hu h8 e0 e1 e2 e3 e4 e5 e6 e6b e7 e9 e10 e11
     go_wp2_with fail
     refine bodyPost_ret (v:=.tuple #[.agg #[.int .i64 X.kd,.slice sB X.sec.length sd,.int .i64 X.pr,.int .i64 (X.st+1),.slice nB X.non.length nd,.int .i64 SK,.int .i64 X.g,.int .i64 OW,.int .i64 o,.slice aC 16 ae,.slice bC 16 be,.int .i64 0],.slice A7 U.length c7,.slice B9 SD.length d9,.int .i64 0]) (by simp [results,Tryz.results34,go_sem,y]) rfl ?_
     have hfin:∀ {u:Value} {m:List UInt8},BsS w14 (j7 (w.heap.size+1) w14) u m->Bs w1 w1.heap.size u m:=fun {u m} h=>(h.grownP HP7.out.gr).loB
     have hbel:Below w.heap.size w w1:=S14.out.bel.trans (HP7.out.bel.mono (Nat.le_succ _))
     exact m6
  ·have hne:=he
   have he:=qc he
   have HDE:=iH hde
   have R:Hid (jv X B s=jI er):=iH (by unfold jv;rw [iF (by omega),iF (by rw [hus];simp),hv];simp only [];rw [iF (by omega),iF (by omega),iT q,hde];simp only [];rw [iT hne])
   have b1:(X.st+1==1)=false:=by simp;omega
   have b2:(X.st+1==2)=false:=by simp;omega
   have b3:(X.st+1==3)=true:=by simp;omega
   clear hus hv q hde hne
   go_upto_region 36 with (go_at_call 81;refine(jO v _ _ w8 (S8.out.at 0 rfl)).mono ?_;rw [HDE.out];rintro e w' ⟨rfl,hw⟩;rw [hw];clear hw w')
   clear f g;have z:=j4 S8.out.rz
   go_wp2_with fail
   have y:=j4 ((PtW.start S8.out.rz).set12 (.int .i64 0) (.slice none 0 0) (.int .i64 0) (.int .i64 0) (.slice none 0 0) (.int .i64 0) (.int .i64 0) (.int .i64 0) (.int .i64 0) (.slice none 0 0) (.slice none 0 0) (.int .i64 0)).1
   have hbel:=iH (S8.out.bel.trans (Below.mono (((PtW.start S8.out.rz).set12 (.int .i64 0) (.slice none 0 0) (.int .i64 0) (.int .i64 0) (.slice none 0 0) (.int .i64 0) (.int .i64 0) (.int .i64 0) (.int .i64 0) (.slice none 0 0) (.slice none 0 0) (.int .i64 0)).2.2) (Nat.le_succ _)))
   unfold Go.Proofs.YtalmmiojbmpmiaaGreatDoor.set12 at y hbel
   refine bodyPost_ret (v:=.tuple #[.agg #[.int .i64 0,.slice none 0 0,.int .i64 0,.int .i64 0,.slice none 0 0,.int .i64 0,.int .i64 0,.int .i64 0,.int .i64 0,.slice none 0 0,.slice none 0 0,.int .i64 0],.slice none 0 0,.slice none 0 0,.int .i64 er]) (by simp [results,Tryz.results34,go_sem,y]) rfl ?_
   exact ExO.err R.out hbel.out
 ·by_cases heq:v=tkW X X.own
  ·have hus:=HUS.out;have hv:=HV.out
   obtain⟨T,hT⟩:∃T,tkW X X.own=T:=⟨_,rfl⟩
   have hpa:=(qq hus).2.2.2.2 (by omega)
   have hoi:0<=X.own/\X.own<2147483579:=by have:=jD hpa.1;omega
   have hti:0<=X.oth/\X.oth<2147483579:=by have:=jD hpa.2.1;omega
   have TK:=iH (fun W h=>zn X sA nA aA bA sc nc ac bc X.own hoi hpa.2.2 W h)
   rw [hT]at TK
   have hdc:decide (v=T)=true:=decide_eq_true (by rw [<-hT];exact heq)
   have HDC:=iH hdc
   obtain⟨T2,hT2⟩:∃T,tkW X X.oth=T:=⟨_,rfl⟩
   have TK2:=iH (fun W h=>zn X sA nA aA bA sc nc ac bc X.oth hti hpa.2.2 W h)
   rw [hT2]at TK2
   have h8:T2.length=8:=by rw [<-hT2];exact tkl X _ hpa.2.2
   obtain⟨U,hU⟩:∃U,jE 134 T2=U:=⟨_,rfl⟩
   have HWR:Hid (∀(A:Option Addr) (c:Nat) (W:World),Bs W W.heap.size (.slice A 8 c) T2->Calls Tryz.prog 86 #[.int .i64 (128+2*X.st),.slice A 8 c] W (xw U W)):=iH (by rw [show 128+2*X.st=134 by omega,<-hU];exact fun A c W h=>(by have:=ql 134 ⟨by omega,by omega⟩ A c T2 W (by rw [h8];exact h);rw [h8]at this;exact this))
   have R:Hid (jv X B s=(0,⟨X.kd,X.sec,X.pr,X.st+1,X.non,X.x,X.g,X.own,X.oth,X.k1,X.k2,X.ct⟩,U,s)):=iH (by unfold jv;rw [iF (by omega),iF (by rw [hus];simp),hv];simp only [];rw [iF (by omega),iF (by omega),iF (by omega),iF (fun x=>x heq),hT2,hU,q]<;>rfl)
   have b1:(X.st+1==1)=false:=by simp;omega
   have b2:(X.st+1==2)=false:=by simp;omega
   have b3:(X.st+1==3)=false:=by simp;omega
   clear hus hv q heq hpa hoi hti hT hdc hT2 h8 hU
   go_upto_region 17 with (first|(go_at_call 22;refine(kG _ _ v T _ _ w9 (S9.out.at 0 rfl) T9.out).mono ?_;rw [HDC.out];rintro e w10 ⟨rfl,nr,hw⟩;have hb:Below w9.heap.size w9 w10:=(by rw [hw];exact j3 iB nr);clear hw T9;have S10:=iH (S9.out.on hb);clear f g;clear hb;have f:=j4 S10.out.rx;have g:=j4 S10.out.ry)|(go_at_call 85;refine(TK.out w8 (S8.out.lo 9 rfl)).mono ?_;rintro e w9 ⟨A11,c11,rfl,ht,hb⟩;have T9:=iH ht;clear ht;have S9:=iH (S8.out.on hb);clear f g;clear hb;have f:=j4 S9.out.rx;have g:=j4 S9.out.ry))
   go_upto_region 43 with (go_at_call 85;refine(TK2.out w10 (S10.out.lo 9 rfl)).mono ?_;rintro e w11 ⟨A12,c12,rfl,ht,hb⟩;have T12:=iH ht;clear ht;have S11:=iH (S10.out.on hb);clear f g;clear hb;have f:=j4 S11.out.rx;have g:=j4 S11.out.ry)
   clear f g;have D9:=iH (BsS.keep (BsS.off T12.out S11.out.rz QL) fun g hs _=>⟨rfl,hs⟩);have N9:=iH (S11.out.offP 1 rfl);have L0:=iH (S11.out.offP 2 rfl);have L1:=iH (S11.out.offP 3 rfl);have L2:=iH (S11.out.offP 4 rfl);have L3:=iH (S11.out.offP 5 rfl)
   refine j9 12 [some 170,some 171,some 172,some 173,some 174,some 175,some 176,some 177,none,some 7,some 8,some 9] [[],[],[1],[1,2],[1,2,3],[],[1,2,3,4,5],[],[0,1,2,3,4,5,6],[0,1,2,3,4,5,6,8],[0,1,2,3,4,5,6,7,8,9],[0,1,2,3,4,5,6,7,8,9,10]]
    (fun _ _ w1=>PtA (w.heap.size+1) w11 w1) (fun w1 w2=>RO (w.heap.size+1) #[.int .i64 X.kd,.slice sB X.sec.length sd,.int .i64 X.pr,.int .i64 (X.st+1),.slice nB X.non.length nd,.int .i64 X.x,.int .i64 X.g,.int .i64 X.own,.int .i64 X.oth,.slice aB X.k1.length ad,.slice bB X.k2.length bd,.int .i64 X.ct] w1 w2)
    [.v (.agg #[.int .i64 X.kd,.slice sB X.sec.length sd,.int .i64 X.pr,.int .i64 (X.st+1),.slice nB X.non.length nd,.int .i64 X.x,.int .i64 X.g,.int .i64 X.own,.int .i64 X.oth,.slice aB X.k1.length ad,.slice bB X.k2.length bd,.int .i64 X.ct]),
     .v (.pointer (some ⟨w.heap.size,3,none⟩)),
     .v (.int .i64 X.st),
     .v (.int .i64 (2*X.st)),
     .v (.int .i64 (128+2*X.st)),
     .v (.slice A12 8 c12),
     .p (fun v w1=>∃A c,v 6=.slice A U.length c/\BsS w1 (j7 (w.heap.size+1) w1) (.slice A U.length c) U) (fun _ _ _ _ _ hr ⟨A,c,h1,h2⟩=>⟨A,c,h1,h2.grownP hr.1⟩),
     .v (.slice eB s.length ed),
     .p (fun v w1=>w1.heap[w.heap.size+1]?=some (.cells #[.int .i64 X.kd,.slice sB X.sec.length sd,.int .i64 X.pr,.int .i64 (X.st+1),.slice nB X.non.length nd,.int .i64 X.x,.int .i64 X.g,.int .i64 X.own,.int .i64 X.oth,.slice aB X.k1.length ad,.slice bB X.k2.length bd,.int .i64 X.ct] 48 (0,0))) (fun _ _ _ _ _ hr h=>hr.2 h),
     .q fun v=>∃A c,v 6=.slice A U.length c/\v 9=.slice A U.length c,
     .v (.slice eB s.length ed),
     .v (.int .i64 0)]
    (by kernel_rfl) (by kernel_rfl) rfl (fun _=>⟨_,_,_,_,_,_,_,_,_,_,_,_,(PtW.start S11.out.rz).drew⟩) ?steps ?tail
   case steps=>
    simp only [List.take_succ_cons,List.take_zero]
    repeat' (with_reducible first|exact StepsRG.nil|refine StepsRG.cons ?_ ?_)
    all_goals(intro L v w1 hJ hL hF hD K hK;simp only [jb,Act.put,Nat.zero_add,Nat.reduceAdd,List.setIfInBounds_toArray,List.set_cons_zero,List.set_cons_succ,↓jP,List.getD_cons_zero,List.getD_cons_succ,Nat.reduceEqDiff,↓reduceIte]at hD hK |-)
    all_goals try(have q:=j4 ((hJ.gr.block _ S11.out.lt (by intro e;injection e with e;have:=S11.out.gy2;omega)).trans S11.out.ry);have q1x:=j4 ((hJ.gr.block _ (lt_of_block S11.out.rx) (by intro e;injection e with e;omega)).trans S11.out.rx);(try simp only [hD]at hK |-);go_simp;refine hK _ _ hJ ⟨World.grownBy.refl _ _,id⟩ ?_;first|exact rfl|exact jf _|exact xu (by have:=HST.out;omega))
    ·exact m8
    ·exact mV
    ·exact m7
   case tail=>
    intro v w1 hJ hF hD
    simp only [jZ]at hD
    obtain⟨e0,e1,e2,e3,e4,e5,e7,e10,e11, -⟩:=hD
    simp only [List.drop_succ_cons,List.drop_zero,jb,Act.put,Nat.zero_add,Nat.reduceAdd,List.setIfInBounds_toArray,List.set_cons_zero,List.set_cons_succ]
    obtain⟨A7,c7,e6,hu⟩:∃A c,v 6=_/\_:=hF 6 (by simp)
    obtain⟨A8x,c8x,e6b,e9⟩:∃A c,v 6=_/\v 9=_:=hF 9 (by simp)
    obtain⟨rfl,_,rfl⟩:=Value.slice.inj (e6.symm.trans e6b)
    have h8:w1.heap[w.heap.size+1]?=some (.cells #[.int .i64 X.kd,.slice sB X.sec.length sd,.int .i64 X.pr,.int .i64 (X.st+1),.slice nB X.non.length nd,.int .i64 X.x,.int .i64 X.g,.int .i64 X.own,.int .i64 X.oth,.slice aB X.k1.length ad,.slice bB X.k2.length bd,.int .i64 X.ct] 48 (0,0)):=hF 8 (by simp)
    simp only [e0,e1,e2,e3,e4,e5,e6,e7,e9,e10,e11]
    have HP7:=iH hJ;have HU:=iH hu
    have y:=j4 h8
    clear hJ hF hu h8 e0 e1 e2 e3 e4 e5 e6 e6b e7 e9 e10 e11
    go_wp2_with fail
    refine bodyPost_ret (v:=.tuple #[.agg #[.int .i64 X.kd,.slice sB X.sec.length sd,.int .i64 X.pr,.int .i64 (X.st+1),.slice nB X.non.length nd,.int .i64 X.x,.int .i64 X.g,.int .i64 X.own,.int .i64 X.oth,.slice aB X.k1.length ad,.slice bB X.k2.length bd,.int .i64 X.ct],.slice A7 U.length c7,.slice eB s.length ed,.int .i64 0]) (by simp [results,Tryz.results34,go_sem,y]) rfl ?_
    have hfin:∀ {u:Value} {m:List UInt8},BsS w11 (j7 (w.heap.size+1) w11) u m->Bs w1 w1.heap.size u m:=fun {u m} h=>(h.grownP HP7.out.gr).loB
    have hbel:Below w.heap.size w w1:=S11.out.bel.trans (HP7.out.bel.mono (Nat.le_succ _))
    exact m6
  ·have hne:=heq
   clear heq
   have hus:=HUS.out;have hv:=HV.out
   obtain⟨T,hT⟩:∃T,tkW X X.own=T:=⟨_,rfl⟩
   have hpa:=(qq hus).2.2.2.2 (by omega)
   have hoi:0<=X.own/\X.own<2147483579:=by have:=jD hpa.1;omega
   have hti:0<=X.oth/\X.oth<2147483579:=by have:=jD hpa.2.1;omega
   have TK:=iH (fun W h=>zn X sA nA aA bA sc nc ac bc X.own hoi hpa.2.2 W h)
   rw [hT]at TK
   have hdc:decide (v=T)=false:=decide_eq_false (by rw [<-hT];exact hne)
   have HDC:=iH hdc
   have R:Hid (jv X B s=jI 21):=iH (by unfold jv;rw [iF (by omega),iF (by rw [hus];simp),hv];simp only [];rw [iF (by omega),iF (by omega),iF (by omega),iT hne])
   have b1:(X.st+1==1)=false:=by simp;omega
   have b2:(X.st+1==2)=false:=by simp;omega
   have b3:(X.st+1==3)=false:=by simp;omega
   clear hus hv q hne hpa hoi hti hT hdc
   go_upto_region 16 with (first|(go_at_call 22;refine(kG _ _ v T _ _ w9 (S9.out.at 0 rfl) T9.out).mono ?_;rw [HDC.out];rintro e w10 ⟨rfl,nr,hw⟩;have hb:Below w9.heap.size w9 w10:=(by rw [hw];exact j3 iB nr);clear hw T9;have S10:=iH (S9.out.on hb);clear f g;clear hb;have f:=j4 S10.out.rx;have g:=j4 S10.out.ry)|(go_at_call 85;refine(TK.out w8 (S8.out.lo 9 rfl)).mono ?_;rintro e w9 ⟨A11,c11,rfl,ht,hb⟩;have T9:=iH ht;clear ht;have S9:=iH (S8.out.on hb);clear f g;clear hb;have f:=j4 S9.out.rx;have g:=j4 S9.out.ry))
   clear f g;have z:=j4 S10.out.rz
   go_wp2_with fail
   have y:=j4 ((PtW.start S10.out.rz).set12 (.int .i64 0) (.slice none 0 0) (.int .i64 0) (.int .i64 0) (.slice none 0 0) (.int .i64 0) (.int .i64 0) (.int .i64 0) (.int .i64 0) (.slice none 0 0) (.slice none 0 0) (.int .i64 0)).1
   have hbel:=iH (S10.out.bel.trans (Below.mono (((PtW.start S10.out.rz).set12 (.int .i64 0) (.slice none 0 0) (.int .i64 0) (.int .i64 0) (.slice none 0 0) (.int .i64 0) (.int .i64 0) (.int .i64 0) (.int .i64 0) (.slice none 0 0) (.slice none 0 0) (.int .i64 0)).2.2) (Nat.le_succ _)))
   unfold Go.Proofs.YtalmmiojbmpmiaaGreatDoor.set12 at y hbel
   refine bodyPost_ret (v:=.tuple #[.agg #[.int .i64 0,.slice none 0 0,.int .i64 0,.int .i64 0,.slice none 0 0,.int .i64 0,.int .i64 0,.int .i64 0,.int .i64 0,.slice none 0 0,.slice none 0 0,.int .i64 0],.slice none 0 0,.slice none 0 0,.int .i64 21]) (by simp [results,Tryz.results34,go_sem,y]) rfl ?_
   exact ExO.err R.out hbel.out
theorem j0s:Calls Tryz.prog 34 #[.agg #[.int .i64 X.kd,.slice sA X.sec.length sc,.int .i64 X.pr,.int .i64 X.st,.slice nA X.non.length nc,.int .i64 X.x,.int .i64 X.g,.int .i64 X.own,.int .i64 X.oth,.slice aA X.k1.length ac,.slice bA X.k2.length bc,.int .i64 X.ct],.slice vA B.length vc,.slice eA s.length ec] w (ExO (jv X B s) w):=by
 by_cases hst:X.st<0\/3<X.st
 ·exact Y7 X sA nA aA bA sc nc ac bc vA eA vc ec B s w hK h1 h2 h3 h4 h5 h6 ls ln l1 l2 hl hst
 have hst:0<=X.st/\X.st<=3:=by omega
 rcases hus:usC X with _|_
 ·exact QY X sA nA aA bA sc nc ac bc vA eA vc ec B s w hK h1 h2 h3 h4 h5 h6 ls ln l1 l2 hl hst hus
 exact j3k X sA nA aA bA sc nc ac bc vA eA vc ec B s w hK h1 h2 h3 h4 h5 h6 ls ln l1 l2 hl hst hus
end
end Go.Proofs.YtalmmiojbmpmiaaGreatDoor
