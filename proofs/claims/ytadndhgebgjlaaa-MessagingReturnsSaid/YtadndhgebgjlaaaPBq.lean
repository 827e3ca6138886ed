/- Sessions of messages: Same and Valid of the reference; Equal commands and responses; Layer 19's commands and responses: both sides answer alike -/
import Derived.Test.YtadndhgebgjlaaaPBn
set_option linter.unusedVariables false
set_option linter.unusedSimpArgs false
set_option maxRecDepth 100000
set_option maxHeartbeats 2000000
namespace Go.Proofs.Ytadndhgebgjlaaa
open Go.RowKit Go.Deep
theorem ZT(va vb:Value)(a1 a2 b1 b2:List UInt8)(n m:Int)(S S':Nat->Prop)(w:World)(ha:xk w S va a1 a2 n)(hb:xk w S' vb b1 b2 m):
 Calls Try.prog 14 #[va,vb] w fun e w'=>e=.returned (.bool (decide (n=m/\a1=b1/\a2=b2)))/\Below w.heap.size w w':=by
 obtain⟨u1,u2,rfl,h1,h2⟩:=ha
 obtain⟨t1,t2,rfl,k1,k2⟩:=hb
 obtain⟨w1,hw1⟩:∃w1,w1=w.alloc (.cells #[u1,u2,.int .i64 n] 29):=⟨_,rfl⟩
 obtain⟨w2,hw2⟩:∃w2,w2=w1.alloc (.cells #[t1,t2,.int .i64 m] 29):=⟨_,rfl⟩
 have hz1:w1.heap.size=w.heap.size+1:=by rw [hw1];simp
 have hB1:Below w.heap.size w w1:=by rw [hw1];exact iA
 have hB2:Below w1.heap.size w1 w2:=by rw [hw2];exact iA
 have hh1:w1.heap[w.heap.size]?=some (.cells #[u1,u2,.int .i64 n] 29 (0,0)):=by rw [hw1];exact iN
 have hh2:w2.heap[w1.heap.size]?=some (.cells #[t1,t2,.int .i64 m] 29 (0,0)):=by rw [hw2];exact iN
 rw [hz1]at hh2
 have hB:Below w.heap.size w w2:=hB1.trans (hB2.mono hB1.size)
 obtain⟨x0,x1,x2,_⟩:=j9 ((hB2.block w.heap.size (by omega)).trans hh1)
 obtain⟨y0,y1,y2,_⟩:=j9 hh2
 have ol:∀ {S:Nat->Prop} {v:Value} {l:List UInt8},BsS w S v l->BsS w2 (fun _=>True) v l:=fun h=>BsS.keep h fun g _ hl=>⟨hB.block g hl,trivial⟩
 have X0:=iH x0;have X1:=iH x1;have X2:=iH x2;have Y0:=iH y0;have Y1:=iH y1;have Y2:=iH y2
 have lift:∀(W:World) (g o:Nat) (v:Value) (nd:Nat),W=w2.drewN nd->w2.cell? ⟨g,o,none⟩=some v->W.cell? ⟨g,o,none⟩=some v:=fun W g o v nd e h=>by subst e;exact((jf (B:=g+1) (Below.refl _ w2) nd).cell (p:=⟨g,o,none⟩) (Nat.lt_succ_self g)).trans h
 have HLI:=iH lift
 have H1:=iH (ol h1);have H2:=iH (ol h2);have G1:=iH (ol k1);have G2:=iH (ol k2)
 have HB:=iH hB
 have HW1:=iH hw1;have HW2:=iH hw2;have HZ1:=iH hz1
 clear h1 h2 k1 k2 ol hB1 hB2 hh1 hh2 hB hw1 hw2 hz1 lift
 obtain⟨o1,ho1⟩:∃o,decide (a1=b1)=o:=⟨_,rfl⟩
 obtain⟨o2,ho2⟩:∃o,decide (a2=b2)=o:=⟨_,rfl⟩
 have HO1:=iH ho1;have HO2:=iH ho2
 clear ho1 ho2
 by_cases hn:n=m
 ·have HN:=iH hn
  have t0:(n==m)=true:=by simp [hn]
  clear hn
  cases o1 with
  |false=>
   have R:Hid (decide (n=m/\a1=b1/\a2=b2)=false):=iH (decide_eq_false fun h=>of_decide_eq_false HO1.out h.2.1)
   go_enter Try.func14,Try.ntmps14
   go_upto_region 1 with fail
   rw [<-HW1.out,<-HW2.out]
   go_wp2_with(go_at_call 33;refine(xK _ _ a1 b1 _ _ w2 H1.out G1.out).mono ?_;rintro e w3 ⟨rfl,nd,hw3⟩;rw [HO1.out];have HW3:=iH hw3;clear hw3)
   go_ret
   rw [R.out,HW3.out]
   exact⟨rfl,jf HB.out nd⟩
  |true=>
   have R:Hid (decide (n=m/\a1=b1/\a2=b2)=o2):=iH (by
    rw [<-HO2.out,Bool.eq_iff_iff,decide_eq_true_iff,decide_eq_true_iff]
    exact⟨fun h=>h.2.2,fun h=>⟨HN.out,of_decide_eq_true HO1.out,h⟩⟩)
   go_enter Try.func14,Try.ntmps14
   go_upto_region 1 with fail
   rw [<-HW1.out,<-HW2.out]
   go_wp2_with(first
    |(go_at_call 33;refine(xK _ _ a2 b2 _ _ w3 (BsS.keep H2.out fun g hs _=>⟨by rw [HW3.out]<;>rfl,hs⟩) (BsS.keep G2.out fun g hs _=>⟨by rw [HW3.out]<;>rfl,hs⟩)).mono ?_;rintro e w4 ⟨rfl,nd4,hw4⟩;rw [HO2.out];have HW4:=iH hw4;clear hw4)
    |(go_at_call 33;refine(xK _ _ a1 b1 _ _ w2 H1.out G1.out).mono ?_;rintro e w3 ⟨rfl,nd,hw3⟩;rw [HO1.out];have HW3:=iH hw3;have q0:=HLI.out _ _ _ _ nd hw3 X1.out;have q1:=HLI.out _ _ _ _ nd hw3 Y1.out;clear hw3))
   go_ret
   rw [R.out,HW4.out,HW3.out]
   exact⟨rfl,jf (jf HB.out nd) nd4⟩
 ·have t0:(n==m)=false:=by simp [hn]
  have R:Hid (decide (n=m/\a1=b1/\a2=b2)=false):=iH (decide_eq_false fun h=>hn h.1)
  clear hn
  go_enter Try.func14,Try.ntmps14
  go_upto_region 1 with fail
  rw [<-HW1.out,<-HW2.out]
  go_wp2_with fail
  go_ret
  rw [R.out]
  exact⟨rfl,HB.out⟩
theorem KG(va vb:Value)(a b:Cm)(S S':Nat->Prop)(w:World)(ha:QI w S va a)(hb:QI w S' vb b):
 Calls Try.prog 20 #[va,vb] w fun e w'=>e=.returned (.bool (decide (a.cl=b.cl/\a.ins=b.ins/\a.p1=b.p1/\a.p2=b.p2/\a.ex=b.ex/\a.data=b.data)))/\Below w.heap.size w w':=by
 obtain⟨u1,rfl,h1⟩:=ha
 obtain⟨t1,rfl,k1⟩:=hb
 obtain⟨w1,hw1⟩:∃w1,w1=w.alloc (.cells #[.int .i64 a.cl,.int .i64 a.ins,.int .i64 a.p1,.int .i64 a.p2,u1,.int .i64 a.ex] 32):=⟨_,rfl⟩
 obtain⟨w2,hw2⟩:∃w2,w2=w1.alloc (.cells #[.int .i64 b.cl,.int .i64 b.ins,.int .i64 b.p1,.int .i64 b.p2,t1,.int .i64 b.ex] 32):=⟨_,rfl⟩
 have hz1:w1.heap.size=w.heap.size+1:=by rw [hw1];simp
 have hB1:Below w.heap.size w w1:=by rw [hw1];exact iA
 have hB2:Below w1.heap.size w1 w2:=by rw [hw2];exact iA
 have hh1:w1.heap[w.heap.size]?=some (.cells #[.int .i64 a.cl,.int .i64 a.ins,.int .i64 a.p1,.int .i64 a.p2,u1,.int .i64 a.ex] 32 (0,0)):=by rw [hw1];exact iN
 have hh2:w2.heap[w1.heap.size]?=some (.cells #[.int .i64 b.cl,.int .i64 b.ins,.int .i64 b.p1,.int .i64 b.p2,t1,.int .i64 b.ex] 32 (0,0)):=by rw [hw2];exact iN
 rw [hz1]at hh2
 have hB:Below w.heap.size w w2:=hB1.trans (hB2.mono hB1.size)
 have hh3:=(hB2.block w.heap.size (by omega)).trans hh1
 have x0:w2.cell? ⟨w.heap.size,0,none⟩=some (.int .i64 a.cl):=by rw [cell_of_row _ _ _ _ _ _ hh3]<;>rfl
 have x1:w2.cell? ⟨w.heap.size,1,none⟩=some (.int .i64 a.ins):=by rw [cell_of_row _ _ _ _ _ _ hh3]<;>rfl
 have x2:w2.cell? ⟨w.heap.size,2,none⟩=some (.int .i64 a.p1):=by rw [cell_of_row _ _ _ _ _ _ hh3]<;>rfl
 have x3:w2.cell? ⟨w.heap.size,3,none⟩=some (.int .i64 a.p2):=by rw [cell_of_row _ _ _ _ _ _ hh3]<;>rfl
 have x4:w2.cell? ⟨w.heap.size,4,none⟩=some u1:=by rw [cell_of_row _ _ _ _ _ _ hh3]<;>rfl
 have x5:w2.cell? ⟨w.heap.size,5,none⟩=some (.int .i64 a.ex):=by rw [cell_of_row _ _ _ _ _ _ hh3]<;>rfl
 have y0:w2.cell? ⟨w.heap.size+1,0,none⟩=some (.int .i64 b.cl):=by rw [cell_of_row _ _ _ _ _ _ hh2]<;>rfl
 have y1:w2.cell? ⟨w.heap.size+1,1,none⟩=some (.int .i64 b.ins):=by rw [cell_of_row _ _ _ _ _ _ hh2]<;>rfl
 have y2:w2.cell? ⟨w.heap.size+1,2,none⟩=some (.int .i64 b.p1):=by rw [cell_of_row _ _ _ _ _ _ hh2]<;>rfl
 have y3:w2.cell? ⟨w.heap.size+1,3,none⟩=some (.int .i64 b.p2):=by rw [cell_of_row _ _ _ _ _ _ hh2]<;>rfl
 have y4:w2.cell? ⟨w.heap.size+1,4,none⟩=some t1:=by rw [cell_of_row _ _ _ _ _ _ hh2]<;>rfl
 have y5:w2.cell? ⟨w.heap.size+1,5,none⟩=some (.int .i64 b.ex):=by rw [cell_of_row _ _ _ _ _ _ hh2]<;>rfl
 have ol:∀ {S:Nat->Prop} {v:Value} {l:List UInt8},BsS w S v l->BsS w2 (fun _=>True) v l:=fun h=>BsS.keep h fun g _ hl=>⟨hB.block g hl,trivial⟩
 have H1:=iH (ol h1);have G1:=iH (ol k1)
 obtain⟨DA,hDA⟩:∃d,a.data=d:=⟨_,rfl⟩
 obtain⟨DB,hDB⟩:∃d,b.data=d:=⟨_,rfl⟩
 rw [hDA]at H1
 rw [hDB]at G1
 obtain⟨o0,ho0⟩:∃o,(a.cl==b.cl)=o:=⟨_,rfl⟩
 obtain⟨o1,ho1⟩:∃o,(a.ins==b.ins)=o:=⟨_,rfl⟩
 obtain⟨o2,ho2⟩:∃o,(a.p1==b.p1)=o:=⟨_,rfl⟩
 obtain⟨o3,ho3⟩:∃o,(a.p2==b.p2)=o:=⟨_,rfl⟩
 obtain⟨o4,ho4⟩:∃o,(a.ex==b.ex)=o:=⟨_,rfl⟩
 obtain⟨o9,ho9⟩:∃o,decide (DA=DB)=o:=⟨_,rfl⟩
 have R:Hid (decide (a.cl=b.cl/\a.ins=b.ins/\a.p1=b.p1/\a.p2=b.p2/\a.ex=b.ex/\a.data=b.data)=(o0&&(o1&&(o2&&(o3&&(o4&&o9)))))):=iH (by
  rw [<-ho0,<-ho1,<-ho2,<-ho3,<-ho4,<-ho9,hDA,hDB,Bool.eq_iff_iff]
  simp)
 have HO9:=iH ho9
 have HB:=iH hB;have HW1:=iH hw1;have HW2:=iH hw2
 clear h1 k1 ol hB1 hB2 hh1 hh2 hh3 hB hw1 hw2 hz1 ho9 hDA hDB
 cases o0 with
 |false=>
  go_enter Try.func20,Try.ntmps20
  go_upto_region 1 with fail
  rw [<-HW1.out,<-HW2.out]
  go_wp2_with fail
  go_ret
  rw [R.out]
  exact⟨by simp,HB.out⟩
 |true=>
  cases o1 with
  |false=>
   go_enter Try.func20,Try.ntmps20
   go_upto_region 1 with fail
   rw [<-HW1.out,<-HW2.out]
   go_wp2_with fail
   go_ret
   rw [R.out]
   exact⟨by simp,HB.out⟩
  |true=>
   cases o2 with
   |false=>
    go_enter Try.func20,Try.ntmps20
    go_upto_region 1 with fail
    rw [<-HW1.out,<-HW2.out]
    go_wp2_with fail
    go_ret
    rw [R.out]
    exact⟨by simp,HB.out⟩
   |true=>
    cases o3 with
    |false=>
     go_enter Try.func20,Try.ntmps20
     go_upto_region 1 with fail
     rw [<-HW1.out,<-HW2.out]
     go_wp2_with fail
     go_ret
     rw [R.out]
     exact⟨by simp,HB.out⟩
    |true=>
     cases o4 with
     |false=>
      go_enter Try.func20,Try.ntmps20
      go_upto_region 1 with fail
      rw [<-HW1.out,<-HW2.out]
      go_wp2_with fail
      go_ret
      rw [R.out]
      exact⟨by simp,HB.out⟩
     |true=>
      go_enter Try.func20,Try.ntmps20
      go_upto_region 1 with fail
      rw [<-HW1.out,<-HW2.out]
      go_wp2_with(go_at_call 33;refine(xK _ _ DA DB _ _ w2 H1.out G1.out).mono ?_;rintro e w3 ⟨rfl,nd,hw3⟩;rw [HO9.out];have HW3:=iH hw3;clear hw3)
      go_ret
      rw [R.out,HW3.out]
      exact⟨by simp,jf HB.out nd⟩
theorem KX(va vb:Value)(da db:List UInt8)(sa sb:Int)(S S':Nat->Prop)(w:World)(ha:Yw w S va da sa)(hb:Yw w S' vb db sb):
 Calls Try.prog 21 #[va,vb] w fun e w'=>e=.returned (.bool (decide (sa=sb/\da=db)))/\Below w.heap.size w w':=by
 obtain⟨u1,rfl,h1⟩:=ha
 obtain⟨t1,rfl,k1⟩:=hb
 obtain⟨w1,hw1⟩:∃w1,w1=w.alloc (.cells #[u1,.int .i64 sa] 45):=⟨_,rfl⟩
 obtain⟨w2,hw2⟩:∃w2,w2=w1.alloc (.cells #[t1,.int .i64 sb] 45):=⟨_,rfl⟩
 have hz1:w1.heap.size=w.heap.size+1:=by rw [hw1];simp
 have hB1:Below w.heap.size w w1:=by rw [hw1];exact iA
 have hB2:Below w1.heap.size w1 w2:=by rw [hw2];exact iA
 have hh1:w1.heap[w.heap.size]?=some (.cells #[u1,.int .i64 sa] 45 (0,0)):=by rw [hw1];exact iN
 have hh2:w2.heap[w1.heap.size]?=some (.cells #[t1,.int .i64 sb] 45 (0,0)):=by rw [hw2];exact iN
 rw [hz1]at hh2
 have hB:Below w.heap.size w w2:=hB1.trans (hB2.mono hB1.size)
 have hh3:=(hB2.block w.heap.size (by omega)).trans hh1
 have x0:w2.cell? ⟨w.heap.size,0,none⟩=some u1:=by rw [cell_of_row _ _ _ _ _ _ hh3]<;>rfl
 have x1:w2.cell? ⟨w.heap.size,1,none⟩=some (.int .i64 sa):=by rw [cell_of_row _ _ _ _ _ _ hh3]<;>rfl
 have y0:w2.cell? ⟨w.heap.size+1,0,none⟩=some t1:=by rw [cell_of_row _ _ _ _ _ _ hh2]<;>rfl
 have y1:w2.cell? ⟨w.heap.size+1,1,none⟩=some (.int .i64 sb):=by rw [cell_of_row _ _ _ _ _ _ hh2]<;>rfl
 have ol:∀ {S:Nat->Prop} {v:Value} {l:List UInt8},BsS w S v l->BsS w2 (fun _=>True) v l:=fun h=>BsS.keep h fun g _ hl=>⟨hB.block g hl,trivial⟩
 have H1:=iH (ol h1);have G1:=iH (ol k1)
 obtain⟨DA,hDA⟩:∃d,da=d:=⟨_,rfl⟩
 obtain⟨DB,hDB⟩:∃d,db=d:=⟨_,rfl⟩
 rw [hDA]at H1
 rw [hDB]at G1
 obtain⟨o0,ho0⟩:∃o,(sa==sb)=o:=⟨_,rfl⟩
 obtain⟨o9,ho9⟩:∃o,decide (DA=DB)=o:=⟨_,rfl⟩
 have R:Hid (decide (sa=sb/\da=db)=(o0&&o9)):=iH (by
  rw [<-ho0,<-ho9,hDA,hDB,Bool.eq_iff_iff]
  simp)
 have HO9:=iH ho9
 have HB:=iH hB;have HW1:=iH hw1;have HW2:=iH hw2
 clear h1 k1 ol hB1 hB2 hh1 hh2 hh3 hB hw1 hw2 hz1 ho9 hDA hDB
 cases o0 with
 |false=>
  go_enter Try.func21,Try.ntmps21
  go_upto_region 1 with fail
  rw [<-HW1.out,<-HW2.out]
  go_wp2_with fail
  go_ret
  rw [R.out]
  exact⟨by simp,HB.out⟩
 |true=>
  go_enter Try.func21,Try.ntmps21
  go_upto_region 1 with fail
  rw [<-HW1.out,<-HW2.out]
  go_wp2_with(go_at_call 33;refine(xK _ _ DA DB _ _ w2 H1.out G1.out).mono ?_;rintro e w3 ⟨rfl,nd,hw3⟩;rw [HO9.out];have HW3:=iH hw3;clear hw3)
  go_ret
  rw [R.out,HW3.out]
  exact⟨by simp,jf HB.out nd⟩
theorem kK(w:World):((w.alloc (.cells #[.int .i64 0,.int .i64 0,.int .i64 0,.int .i64 0,.slice none 0 0,.int .i64 0] 32)).alloc (.cells #[.slice none 0 0,.slice none 0 0,.int .i64 0] 29)).heap[w.heap.size]?=some (.cells #[.int .i64 0,.int .i64 0,.int .i64 0,.int .i64 0,.slice none 0 0,.int .i64 0] 32 (0,0))/\((w.alloc (.cells #[.int .i64 0,.int .i64 0,.int .i64 0,.int .i64 0,.slice none 0 0,.int .i64 0] 32)).alloc (.cells #[.slice none 0 0,.slice none 0 0,.int .i64 0] 29)).heap[w.heap.size+1]?=some (.cells #[.slice none 0 0,.slice none 0 0,.int .i64 0] 29 (0,0)):=by
 refine⟨by rw [Below.heap_alloc _ _ _ (by simp)];exact iN,?_⟩
 have h:=heap_alloc_new (w.alloc (.cells #[.int .i64 0,.int .i64 0,.int .i64 0,.int .i64 0,.slice none 0 0,.int .i64 0] 32)) (.cells #[.slice none 0 0,.slice none 0 0,.int .i64 0] 29)
 rwa [show(w.alloc (.cells #[.int .i64 0,.int .i64 0,.int .i64 0,.int .i64 0,.slice none 0 0,.int .i64 0] 32)).heap.size=w.heap.size+1 by simp]at h
theorem yW(w:World):((w.alloc (.cells #[.slice none 0 0,.int .i64 0] 45)).alloc (.cells #[.slice none 0 0,.slice none 0 0,.int .i64 0] 29)).heap[w.heap.size]?=some (.cells #[.slice none 0 0,.int .i64 0] 45 (0,0))/\((w.alloc (.cells #[.slice none 0 0,.int .i64 0] 45)).alloc (.cells #[.slice none 0 0,.slice none 0 0,.int .i64 0] 29)).heap[w.heap.size+1]?=some (.cells #[.slice none 0 0,.slice none 0 0,.int .i64 0] 29 (0,0)):=by
 refine⟨by rw [Below.heap_alloc _ _ _ (by simp)];exact iN,?_⟩
 have h:=heap_alloc_new (w.alloc (.cells #[.slice none 0 0,.int .i64 0] 45)) (.cells #[.slice none 0 0,.slice none 0 0,.int .i64 0] 29)
 rwa [show(w.alloc (.cells #[.slice none 0 0,.int .i64 0] 45)).heap.size=w.heap.size+1 by simp]at h
end Go.Proofs.Ytadndhgebgjlaaa
