/- Sessions of messages: Same and Valid of the reference; Layer 21: the reference's Begin and Same -/
import Derived.Test.YtalmmiojbmpmiaaGreatDoorPBm
set_option linter.all false
set_option maxRecDepth 100000
set_option maxHeartbeats 8000000
namespace Go.Proofs.YtalmmiojbmpmiaaGreatDoor
open Go.RowKit Go.Deep
theorem j17(va vb:Value)(a1 a2 b1 b2:List UInt8)(n m:Int)(S S':Nat->Prop)(w:World)(ha:Vt w S va a1 a2 n)(hb:Vt w S' vb b1 b2 m):
 Calls Tryz.prog 39 #[va,vb] w fun e w'=>e=.returned (.bool (decide (n=m/\a1=b1/\a2=b2)))/\Below w.heap.size w w':=by
 obtain⟨u1,u2,rfl,h1,h2⟩:=ha
 obtain⟨t1,t2,rfl,k1,k2⟩:=hb
 obtain⟨w1,hw1⟩:∃w1,w1=w.alloc (.cells #[u1,u2,.int .i64 n] 46):=⟨_,rfl⟩
 obtain⟨w2,hw2⟩:∃w2,w2=w1.alloc (.cells #[t1,t2,.int .i64 m] 46):=⟨_,rfl⟩
 have hz1:w1.heap.size=w.heap.size+1:=by rw [hw1];simp
 have hB1:Below w.heap.size w w1:=by rw [hw1];exact iA
 have hB2:Below w1.heap.size w1 w2:=by rw [hw2];exact iA
 have hh1:w1.heap[w.heap.size]?=some (.cells #[u1,u2,.int .i64 n] 46 (0,0)):=by rw [hw1];exact iN
 have hh2:w2.heap[w1.heap.size]?=some (.cells #[t1,t2,.int .i64 m] 46 (0,0)):=by rw [hw2];exact iN
 rw [hz1]at hh2
 have hB:Below w.heap.size w w2:=hB1.trans (hB2.mono hB1.size)
 obtain⟨x0,x1,x2,_⟩:=xx ((hB2.block w.heap.size (by omega)).trans hh1)
 obtain⟨y0,y1,y2,_⟩:=xx hh2
 have ol:∀ {S:Nat->Prop} {v:Value} {l:List UInt8},BsS w S v l->BsS w2 (fun _=>True) v l:=fun h=>BsS.keep h fun g _ hl=>⟨hB.block g hl,trivial⟩
 have X0:=iH x0;have X1:=iH x1;have X2:=iH x2;have Y0:=iH y0;have Y1:=iH y1;have Y2:=iH y2
 have lift:∀(W:World) (g o:Nat) (v:Value) (nd:Nat),W=w2.drewN nd->w2.cell? ⟨g,o,none⟩=some v->W.cell? ⟨g,o,none⟩=some v:=fun W g o v nd e h=>by subst e;exact((j3 (B:=g+1) (Below.refl _ w2) nd).cell (p:=⟨g,o,none⟩) (Nat.lt_succ_self g)).trans h
 have HLI:=iH lift
 have H1:=iH (ol h1);have H2:=iH (ol h2);have G1:=iH (ol k1);have G2:=iH (ol k2)
 have HB:=iH hB
 have HW1:=iH hw1;have HW2:=iH hw2;have HZ1:=iH hz1
 clear h1 h2 k1 k2 ol hB1 hB2 hh1 hh2 hB hw1 hw2 hz1 lift
 obtain⟨o1,ho1⟩:∃o,decide (a1=b1)=o:=⟨_,rfl⟩
 obtain⟨o2,ho2⟩:∃o,decide (a2=b2)=o:=⟨_,rfl⟩
 have HO1:=iH ho1;have HO2:=iH ho2
 clear ho1 ho2
 by_cases hn:n=m
 ·have HN:=iH hn
  have t0:(n==m)=true:=by simp [hn]
  clear hn
  cases o1 with
  |false=>
   have R:Hid (decide (n=m/\a1=b1/\a2=b2)=false):=iH (decide_eq_false fun h=>of_decide_eq_false HO1.out h.2.1)
   go_enter Tryz.func39,Tryz.ntmps39
   go_upto_region 1 with fail
   rw [<-HW1.out,<-HW2.out]
   go_wp2_with(go_at_call 22;refine(kG _ _ a1 b1 _ _ w2 H1.out G1.out).mono ?_;rintro e w3 ⟨rfl,nd,hw3⟩;rw [HO1.out];have HW3:=iH hw3;clear hw3)
   go_ret
   rw [R.out,HW3.out]
   exact⟨rfl,j3 HB.out nd⟩
  |true=>
   have R:Hid (decide (n=m/\a1=b1/\a2=b2)=o2):=iH (by
    rw [<-HO2.out,Bool.eq_iff_iff,decide_eq_true_iff,decide_eq_true_iff]
    exact⟨fun h=>h.2.2,fun h=>⟨HN.out,of_decide_eq_true HO1.out,h⟩⟩)
   go_enter Tryz.func39,Tryz.ntmps39
   go_upto_region 1 with fail
   rw [<-HW1.out,<-HW2.out]
   go_wp2_with(first
    |(go_at_call 22;refine(kG _ _ a2 b2 _ _ w3 (BsS.keep H2.out fun g hs _=>⟨by rw [HW3.out]<;>rfl,hs⟩) (BsS.keep G2.out fun g hs _=>⟨by rw [HW3.out]<;>rfl,hs⟩)).mono ?_;rintro e w4 ⟨rfl,nd4,hw4⟩;rw [HO2.out];have HW4:=iH hw4;clear hw4)
    |(go_at_call 22;refine(kG _ _ a1 b1 _ _ w2 H1.out G1.out).mono ?_;rintro e w3 ⟨rfl,nd,hw3⟩;rw [HO1.out];have HW3:=iH hw3;have q0:=HLI.out _ _ _ _ nd hw3 X1.out;have q1:=HLI.out _ _ _ _ nd hw3 Y1.out;clear hw3))
   go_ret
   rw [R.out,HW4.out,HW3.out]
   exact⟨rfl,j3 (j3 HB.out nd) nd4⟩
 ·have t0:(n==m)=false:=by simp [hn]
  have R:Hid (decide (n=m/\a1=b1/\a2=b2)=false):=iH (decide_eq_false fun h=>hn h.1)
  clear hn
  go_enter Tryz.func39,Tryz.ntmps39
  go_upto_region 1 with fail
  rw [<-HW1.out,<-HW2.out]
  exact ma
theorem ZB(X:Exg)(sA nA aA bA:Option Addr)(sc nc ac bc:Nat)(tA mA cA dA:Option Addr)(tc mc cc dc:Nat)(w:World)(h1:Bs w w.heap.size (.slice sA X.sec.length sc) X.sec)(h2:Bs w w.heap.size (.slice nA X.non.length nc) X.non)(h3:Bs w w.heap.size (.slice aA X.k1.length ac) X.k1)(h4:Bs w w.heap.size (.slice bA X.k2.length bc) X.k2)(k1:Bs w w.heap.size (.slice tA X.sec.length tc) X.sec)(k2:Bs w w.heap.size (.slice mA X.non.length mc) X.non)(k3:Bs w w.heap.size (.slice cA X.k1.length cc) X.k1)(k4:Bs w w.heap.size (.slice dA X.k2.length dc) X.k2):
 Calls Tryz.prog 32 #[.agg #[.int .i64 X.kd,.slice sA X.sec.length sc,.int .i64 X.pr,.int .i64 X.st,.slice nA X.non.length nc,.int .i64 X.x,.int .i64 X.g,.int .i64 X.own,.int .i64 X.oth,.slice aA X.k1.length ac,.slice bA X.k2.length bc,.int .i64 X.ct],.agg #[.int .i64 X.kd,.slice tA X.sec.length tc,.int .i64 X.pr,.int .i64 X.st,.slice mA X.non.length mc,.int .i64 X.x,.int .i64 X.g,.int .i64 X.own,.int .i64 X.oth,.slice cA X.k1.length cc,.slice dA X.k2.length dc,.int .i64 X.ct]] w fun e w'=>e=.returned (.bool true)/\Below w.heap.size w w':=by
 obtain⟨w0,hw0⟩:∃w0,w0=(w.alloc (.cells #[.int .i64 X.kd,.slice sA X.sec.length sc,.int .i64 X.pr,.int .i64 X.st,.slice nA X.non.length nc,.int .i64 X.x,.int .i64 X.g,.int .i64 X.own,.int .i64 X.oth,.slice aA X.k1.length ac,.slice bA X.k2.length bc,.int .i64 X.ct] 48)).alloc (.cells #[.int .i64 X.kd,.slice tA X.sec.length tc,.int .i64 X.pr,.int .i64 X.st,.slice mA X.non.length mc,.int .i64 X.x,.int .i64 X.g,.int .i64 X.own,.int .i64 X.oth,.slice cA X.k1.length cc,.slice dA X.k2.length dc,.int .i64 X.ct] 48):=⟨_,rfl⟩
 have hb0:Below w.heap.size w w0:=by rw [hw0];exact(iA).alloc (by simp) _
 have hz0:w0.heap.size=w.heap.size+2:=by rw [hw0];simp
 have FR:Hid (∀W,Below w0.heap.size w0 W->W.heap[w.heap.size]?=some (.cells #[.int .i64 X.kd,.slice sA X.sec.length sc,.int .i64 X.pr,.int .i64 X.st,.slice nA X.non.length nc,.int .i64 X.x,.int .i64 X.g,.int .i64 X.own,.int .i64 X.oth,.slice aA X.k1.length ac,.slice bA X.k2.length bc,.int .i64 X.ct] 48 (0,0))):=iH (fun W h=>(h.block w.heap.size (by omega)).trans (by rw [hw0];exact(Below.heap_alloc _ _ _ (by simp)).trans (iN)))
 have FZ:Hid (∀W,Below w0.heap.size w0 W->W.heap[w.heap.size+1]?=some (.cells #[.int .i64 X.kd,.slice tA X.sec.length tc,.int .i64 X.pr,.int .i64 X.st,.slice mA X.non.length mc,.int .i64 X.x,.int .i64 X.g,.int .i64 X.own,.int .i64 X.oth,.slice cA X.k1.length cc,.slice dA X.k2.length dc,.int .i64 X.ct] 48 (0,0))):=iH (fun W h=>(h.block (w.heap.size+1) (by omega)).trans (by rw [hw0];exact(show((w.alloc (.cells #[.int .i64 X.kd,.slice sA X.sec.length sc,.int .i64 X.pr,.int .i64 X.st,.slice nA X.non.length nc,.int .i64 X.x,.int .i64 X.g,.int .i64 X.own,.int .i64 X.oth,.slice aA X.k1.length ac,.slice bA X.k2.length bc,.int .i64 X.ct] 48)).alloc (.cells #[.int .i64 X.kd,.slice tA X.sec.length tc,.int .i64 X.pr,.int .i64 X.st,.slice mA X.non.length mc,.int .i64 X.x,.int .i64 X.g,.int .i64 X.own,.int .i64 X.oth,.slice cA X.k1.length cc,.slice dA X.k2.length dc,.int .i64 X.ct] 48)).heap[w.heap.size+1]?=_ from by have:=heap_alloc_new (w.alloc (.cells #[.int .i64 X.kd,.slice sA X.sec.length sc,.int .i64 X.pr,.int .i64 X.st,.slice nA X.non.length nc,.int .i64 X.x,.int .i64 X.g,.int .i64 X.own,.int .i64 X.oth,.slice aA X.k1.length ac,.slice bA X.k2.length bc,.int .i64 X.ct] 48)) (.cells #[.int .i64 X.kd,.slice tA X.sec.length tc,.int .i64 X.pr,.int .i64 X.st,.slice mA X.non.length mc,.int .i64 X.x,.int .i64 X.g,.int .i64 X.own,.int .i64 X.oth,.slice cA X.k1.length cc,.slice dA X.k2.length dc,.int .i64 X.ct] 48);simpa using this)))
 have H1:=iH (h1.lift hb0);have H2:=iH (h2.lift hb0);have H3:=iH (h3.lift hb0);have H4:=iH (h4.lift hb0)
 have K1:=iH (k1.lift hb0);have K2:=iH (k2.lift hb0);have K3:=iH (k3.lift hb0);have K4:=iH (k4.lift hb0)
 have HW0:=iH hw0;have HB0:=iH hb0
 clear hw0 hb0 hz0 h1 h2 h3 h4 k1 k2 k3 k4
 obtain⟨f0,f1,f2,f3,f4,f5,f6,f7,f8,f9,f10,f11,ff⟩:=j4 (FR.out w0 iB);clear ff
 obtain⟨g0,g1,g2,g3,g4,g5,g6,g7,g8,g9,g10,g11,gf⟩:=j4 (FZ.out w0 iB);clear gf
 go_enter Tryz.func32,Tryz.ntmps32
 go_upto_region 1 with fail
 rw [<-HW0.out]
 go_wp2_with(first
  |(go_at_call 39;refine(j17 _ _ X.k1 X.k2 X.k1 X.k2 X.ct X.ct _ _ w2 ⟨_,_,rfl,H3.out.lift HB2.out,H4.out.lift HB2.out⟩ ⟨_,_,rfl,K3.out.lift HB2.out,K4.out.lift HB2.out⟩).mono ?_;rintro e w3 ⟨rfl,hb⟩;rw [decide_eq_true (show X.ct=X.ct/\X.k1=X.k1/\X.k2=X.k2 from⟨rfl,rfl,rfl⟩)];have HB3:=iH (HB2.out.trans (hb.mono HB2.out.size));clear hb)
  |(go_at_call 22;refine(kG _ _ X.non X.non _ _ w1 (H2.out.lift HB1.out) (K2.out.lift HB1.out)).mono ?_;rintro e w2 ⟨rfl,nd,hw⟩;rw [decide_eq_true (rfl:X.non=X.non)];have hb:Below w0.heap.size w0 w2:=(by rw [hw];exact j3 HB1.out nd);have HB2:=iH hb;clear hw f0 f1 f2 f3 f4 f5 f6 f7 f8 f9 f10 f11 g0 g1 g2 g3 g4 g5 g6 g7 g8 g9 g10 g11;obtain⟨f0,f1,f2,f3,f4,f5,f6,f7,f8,f9,f10,f11,ff⟩:=j4 (FR.out w2 hb);clear ff;obtain⟨g0,g1,g2,g3,g4,g5,g6,g7,g8,g9,g10,g11,gf⟩:=j4 (FZ.out w2 hb);clear gf;clear hb)
  |(go_at_call 22;refine(kG _ _ X.sec X.sec _ _ w0 H1.out K1.out).mono ?_;rintro e w1 ⟨rfl,nd,hw⟩;rw [decide_eq_true (rfl:X.sec=X.sec)];have hb:Below w0.heap.size w0 w1:=(by rw [hw];exact j3 iB nd);have HB1:=iH hb;clear hw f0 f1 f2 f3 f4 f5 f6 f7 f8 f9 f10 f11 g0 g1 g2 g3 g4 g5 g6 g7 g8 g9 g10 g11;obtain⟨f0,f1,f2,f3,f4,f5,f6,f7,f8,f9,f10,f11,ff⟩:=j4 (FR.out w1 hb);clear ff;obtain⟨g0,g1,g2,g3,g4,g5,g6,g7,g8,g9,g10,g11,gf⟩:=j4 (FZ.out w1 hb);clear gf;clear hb))
 go_ret
 exact⟨rfl,HB0.out.trans (HB3.out.mono HB0.out.size)⟩
end Go.Proofs.YtalmmiojbmpmiaaGreatDoor
