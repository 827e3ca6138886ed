/- Sessions of messages: Same and Valid of the reference -/
import Derived.Test.YtalmmiojbmpmiaaGreatDoorPBd
import Derived.Test.YtalmmiojbmpmiaaGreatDoorPBi
set_option linter.all false
set_option maxRecDepth 100000
set_option maxHeartbeats 1000000
namespace Go.Proofs.YtalmmiojbmpmiaaGreatDoor
open Go.RowKit Go.Deep
theorem j10(va vb:Value)(a1 a2 b1 b2:List UInt8)(n m:Int)(S S':Nat->Prop)(w:World)(ha:Vi w S va a1 a2 n)(hb:Vi w S' vb b1 b2 m):
 Calls Tryz.prog 39 #[va,vb] w fun e w'=>e=.returned (.bool (decide (n=m/\a1=b1/\a2=b2)))/\Below w.heap.size w w':=by
 obtain⟨u1,u2,rfl,h1,h2⟩:=ha
 obtain⟨t1,t2,rfl,k1,k2⟩:=hb
 obtain⟨w1,hw1⟩:∃w1,w1=w.alloc (.cells #[u1,u2,.int .i64 n] 46):=⟨_,rfl⟩
 obtain⟨w2,hw2⟩:∃w2,w2=w1.alloc (.cells #[t1,t2,.int .i64 m] 46):=⟨_,rfl⟩
 have hz1:w1.heap.size=w.heap.size+1:=by rw [hw1];simp
 have hB1:Below w.heap.size w w1:=by rw [hw1];exact iA
 have hB2:Below w1.heap.size w1 w2:=by rw [hw2];exact iA
 have hh1:w1.heap[w.heap.size]?=some (.cells #[u1,u2,.int .i64 n] 46 (0,0)):=by rw [hw1];exact iN
 have hh2:w2.heap[w1.heap.size]?=some (.cells #[t1,t2,.int .i64 m] 46 (0,0)):=by rw [hw2];exact iN
 rw [hz1]at hh2
 have hB:Below w.heap.size w w2:=hB1.trans (hB2.mono hB1.size)
 obtain⟨x0,x1,x2,_⟩:=xt ((hB2.block w.heap.size (by omega)).trans hh1)
 obtain⟨y0,y1,y2,_⟩:=xt hh2
 have ol:∀ {S:Nat->Prop} {v:Value} {l:List UInt8},BsS w S v l->BsS w2 (fun _=>True) v l:=fun h=>BsS.keep h fun g _ hl=>⟨hB.block g hl,trivial⟩
 have X0:=iH x0;have X1:=iH x1;have X2:=iH x2;have Y0:=iH y0;have Y1:=iH y1;have Y2:=iH y2
 have lift:∀(W:World) (g o:Nat) (v:Value) (nd:Nat),W=w2.drewN nd->w2.cell? ⟨g,o,none⟩=some v->W.cell? ⟨g,o,none⟩=some v:=fun W g o v nd e h=>by subst e;exact((j3 (B:=g+1) (Below.refl _ w2) nd).cell (p:=⟨g,o,none⟩) (Nat.lt_succ_self g)).trans h
 have HLI:=iH lift
 have H1:=iH (ol h1);have H2:=iH (ol h2);have G1:=iH (ol k1);have G2:=iH (ol k2)
 have HB:=iH hB
 have HW1:=iH hw1;have HW2:=iH hw2;have HZ1:=iH hz1
 clear h1 h2 k1 k2 ol hB1 hB2 hh1 hh2 hB hw1 hw2 hz1 lift
 obtain⟨o1,ho1⟩:∃o,decide (a1=b1)=o:=⟨_,rfl⟩
 obtain⟨o2,ho2⟩:∃o,decide (a2=b2)=o:=⟨_,rfl⟩
 have HO1:=iH ho1;have HO2:=iH ho2
 clear ho1 ho2
 by_cases hn:n=m
 ·have HN:=iH hn
  have t0:(n==m)=true:=by simp [hn]
  clear hn
  cases o1 with
  |false=>
   have R:Hid (decide (n=m/\a1=b1/\a2=b2)=false):=iH (decide_eq_false fun h=>of_decide_eq_false HO1.out h.2.1)
   go_enter Tryz.func39,Tryz.ntmps39
   go_upto_region 1 with fail
   rw [<-HW1.out,<-HW2.out]
   go_wp2_with(go_at_call 22;refine(kL _ _ a1 b1 _ _ w2 H1.out G1.out).mono ?_;rintro e w3 ⟨rfl,nd,hw3⟩;rw [HO1.out];have HW3:=iH hw3;clear hw3)
   go_ret
   rw [R.out,HW3.out]
   exact⟨rfl,j3 HB.out nd⟩
  |true=>
   have R:Hid (decide (n=m/\a1=b1/\a2=b2)=o2):=iH (by
    rw [<-HO2.out,Bool.eq_iff_iff,decide_eq_true_iff,decide_eq_true_iff]
    exact⟨fun h=>h.2.2,fun h=>⟨HN.out,of_decide_eq_true HO1.out,h⟩⟩)
   go_enter Tryz.func39,Tryz.ntmps39
   go_upto_region 1 with fail
   rw [<-HW1.out,<-HW2.out]
   go_wp2_with(first
    |(go_at_call 22;refine(kL _ _ a2 b2 _ _ w3 (BsS.keep H2.out fun g hs _=>⟨by rw [HW3.out]<;>rfl,hs⟩) (BsS.keep G2.out fun g hs _=>⟨by rw [HW3.out]<;>rfl,hs⟩)).mono ?_;rintro e w4 ⟨rfl,nd4,hw4⟩;rw [HO2.out];have HW4:=iH hw4;clear hw4)
    |(go_at_call 22;refine(kL _ _ a1 b1 _ _ w2 H1.out G1.out).mono ?_;rintro e w3 ⟨rfl,nd,hw3⟩;rw [HO1.out];have HW3:=iH hw3;have q0:=HLI.out _ _ _ _ nd hw3 X1.out;have q1:=HLI.out _ _ _ _ nd hw3 Y1.out;clear hw3))
   go_ret
   rw [R.out,HW4.out,HW3.out]
   exact⟨rfl,j3 (j3 HB.out nd) nd4⟩
 ·have t0:(n==m)=false:=by simp [hn]
  have R:Hid (decide (n=m/\a1=b1/\a2=b2)=false):=iH (decide_eq_false fun h=>hn h.1)
  clear hn
  go_enter Tryz.func39,Tryz.ntmps39
  go_upto_region 1 with fail
  rw [<-HW1.out,<-HW2.out]
  go_wp2_with fail
  go_ret
  rw [R.out]
  exact⟨rfl,HB.out⟩
end Go.Proofs.YtalmmiojbmpmiaaGreatDoor
