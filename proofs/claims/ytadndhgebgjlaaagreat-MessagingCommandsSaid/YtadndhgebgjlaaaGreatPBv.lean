/- Sessions of messages: Same and Valid of the reference; Equal commands and responses; Layer 19's commands and responses: both sides answer alike; Layer 19's a... -/
import Derived.Deep.CutBlock
import Derived.Test.YtadndhgebgjlaaaGreatPBj
import Derived.Test.YtadndhgebgjlaaaGreatPBu
set_option maxRecDepth 100000
set_option maxHeartbeats 40000000
namespace Go.Proofs.YtadndhgebgjlaaaGreat
open Go.RowKit Go.Deep
theorem QL(va vb:Value)(a1 a2 b1 b2:List UInt8)(n m:Int)(S S':Nat->Prop)(w:World)(ha:xp w S va a1 a2 n)(hb:xp w S' vb b1 b2 m):
 Calls Tryz.prog 39 #[va,vb] w fun e w'=>e=.returned (.bool (decide (n=m/\a1=b1/\a2=b2)))/\Below w.heap.size w w':=by
 obtain⟨u1,u2,rfl,h1,h2⟩:=ha
 obtain⟨t1,t2,rfl,k1,k2⟩:=hb
 obtain⟨w1,hw1⟩:∃w1,w1=w.alloc (.cells #[u1,u2,.int .i64 n] 29):=⟨_,rfl⟩
 obtain⟨w2,hw2⟩:∃w2,w2=w1.alloc (.cells #[t1,t2,.int .i64 m] 29):=⟨_,rfl⟩
 have hz1:w1.heap.size=w.heap.size+1:=by rw [hw1];simp
 have hB1:Below w.heap.size w w1:=by rw [hw1];exact iA
 have hB2:Below w1.heap.size w1 w2:=by rw [hw2];exact iA
 have hh1:w1.heap[w.heap.size]?=some (.cells #[u1,u2,.int .i64 n] 29 (0,0)):=by rw [hw1];exact iN
 have hh2:w2.heap[w1.heap.size]?=some (.cells #[t1,t2,.int .i64 m] 29 (0,0)):=by rw [hw2];exact iN
 rw [hz1]at hh2
 have hB:Below w.heap.size w w2:=hB1.trans (hB2.mono hB1.size)
 obtain⟨x0,x1,x2,_⟩:=jc ((hB2.block w.heap.size (by omega)).trans hh1)
 obtain⟨y0,y1,y2,_⟩:=jc hh2
 have ol:∀ {S:Nat->Prop} {v:Value} {l:List UInt8},BsS w S v l->BsS w2 (fun _=>True) v l:=fun h=>BsS.keep h fun g _ hl=>⟨hB.block g hl,trivial⟩
 have X0:=iH x0;have X1:=iH x1;have X2:=iH x2;have Y0:=iH y0;have Y1:=iH y1;have Y2:=iH y2
 have lift:∀(W:World) (g o:Nat) (v:Value) (nd:Nat),W=w2.drewN nd->w2.cell? ⟨g,o,none⟩=some v->W.cell? ⟨g,o,none⟩=some v:=fun W g o v nd e h=>by subst e;exact((j4 (B:=g+1) (Below.refl _ w2) nd).cell (p:=⟨g,o,none⟩) (Nat.lt_succ_self g)).trans h
 have HLI:=iH lift
 have H1:=iH (ol h1);have H2:=iH (ol h2);have G1:=iH (ol k1);have G2:=iH (ol k2)
 have HB:=iH hB
 have HW1:=iH hw1;have HW2:=iH hw2;have HZ1:=iH hz1
 clear h1 h2 k1 k2 ol hB1 hB2 hh1 hh2 hB hw1 hw2 hz1 lift
 obtain⟨o1,ho1⟩:∃o,decide (a1=b1)=o:=⟨_,rfl⟩
 obtain⟨o2,ho2⟩:∃o,decide (a2=b2)=o:=⟨_,rfl⟩
 have HO1:=iH ho1;have HO2:=iH ho2
 clear ho1 ho2
 by_cases hn:n=m
 ·have HN:=iH hn
  have t0:(n==m)=true:=by simp [hn]
  clear hn
  cases o1 with
  |false=>
   have R:Hid (decide (n=m/\a1=b1/\a2=b2)=false):=iH (decide_eq_false fun h=>of_decide_eq_false HO1.out h.2.1)
   go_enter Tryz.func39,Tryz.ntmps39
   go_upto_region 1 with fail
   rw [<-HW1.out,<-HW2.out]
   go_wp2_with(go_at_call 73;refine(zB _ _ a1 b1 _ _ w2 H1.out G1.out).mono ?_;rintro e w3 ⟨rfl,nd,hw3⟩;rw [HO1.out];have HW3:=iH hw3;clear hw3)
   go_ret
   rw [R.out,HW3.out]
   exact⟨rfl,j4 HB.out nd⟩
  |true=>
   have R:Hid (decide (n=m/\a1=b1/\a2=b2)=o2):=iH (by
    rw [<-HO2.out,Bool.eq_iff_iff,decide_eq_true_iff,decide_eq_true_iff]
    exact⟨fun h=>h.2.2,fun h=>⟨HN.out,of_decide_eq_true HO1.out,h⟩⟩)
   go_enter Tryz.func39,Tryz.ntmps39
   go_upto_region 1 with fail
   rw [<-HW1.out,<-HW2.out]
   go_wp2_with(first
    |(go_at_call 73;refine(zB _ _ a2 b2 _ _ w3 (BsS.keep H2.out fun g hs _=>⟨by rw [HW3.out];rfl,hs⟩) (BsS.keep G2.out fun g hs _=>⟨by rw [HW3.out];rfl,hs⟩)).mono ?_;rintro e w4 ⟨rfl,nd4,hw4⟩;rw [HO2.out];have HW4:=iH hw4;clear hw4)
    |(go_at_call 73;refine(zB _ _ a1 b1 _ _ w2 H1.out G1.out).mono ?_;rintro e w3 ⟨rfl,nd,hw3⟩;rw [HO1.out];have HW3:=iH hw3;have q0:=HLI.out _ _ _ _ nd hw3 X1.out;have q1:=HLI.out _ _ _ _ nd hw3 Y1.out;clear hw3))
   go_ret
   rw [R.out,HW4.out,HW3.out]
   exact⟨rfl,j4 (j4 HB.out nd) nd4⟩
 ·have t0:(n==m)=false:=by simp [hn]
  have R:Hid (decide (n=m/\a1=b1/\a2=b2)=false):=iH (decide_eq_false fun h=>hn h.1)
  clear hn
  go_enter Tryz.func39,Tryz.ntmps39
  go_upto_region 1 with fail
  rw [<-HW1.out,<-HW2.out]
  go_wp2_with fail
  go_ret
  rw [R.out]
  exact⟨rfl,HB.out⟩
theorem Jt(va vb:Value)(a b:Cm)(S S':Nat->Prop)(w:World)(ha:ye w S va a)(hb:ye w S' vb b):
 Calls Tryz.prog 38 #[va,vb] w fun e w'=>e=.returned (.bool (decide (a.cl=b.cl/\a.ins=b.ins/\a.p1=b.p1/\a.p2=b.p2/\a.ex=b.ex/\a.data=b.data)))/\Below w.heap.size w w':=by
 obtain⟨u1,rfl,h1⟩:=ha
 obtain⟨t1,rfl,k1⟩:=hb
 obtain⟨w1,hw1⟩:∃w1,w1=w.alloc (.cells #[.int .i64 a.cl,.int .i64 a.ins,.int .i64 a.p1,.int .i64 a.p2,u1,.int .i64 a.ex] 32):=⟨_,rfl⟩
 obtain⟨w2,hw2⟩:∃w2,w2=w1.alloc (.cells #[.int .i64 b.cl,.int .i64 b.ins,.int .i64 b.p1,.int .i64 b.p2,t1,.int .i64 b.ex] 32):=⟨_,rfl⟩
 have hz1:w1.heap.size=w.heap.size+1:=by rw [hw1];simp
 have hB1:Below w.heap.size w w1:=by rw [hw1];exact iA
 have hB2:Below w1.heap.size w1 w2:=by rw [hw2];exact iA
 have hh1:w1.heap[w.heap.size]?=some (.cells #[.int .i64 a.cl,.int .i64 a.ins,.int .i64 a.p1,.int .i64 a.p2,u1,.int .i64 a.ex] 32 (0,0)):=by rw [hw1];exact iN
 have hh2:w2.heap[w1.heap.size]?=some (.cells #[.int .i64 b.cl,.int .i64 b.ins,.int .i64 b.p1,.int .i64 b.p2,t1,.int .i64 b.ex] 32 (0,0)):=by rw [hw2];exact iN
 rw [hz1]at hh2
 have hB:Below w.heap.size w w2:=hB1.trans (hB2.mono hB1.size)
 have hh3:=(hB2.block w.heap.size (by omega)).trans hh1
 have x0:w2.cell? ⟨w.heap.size,0,none⟩=some (.int .i64 a.cl):=by rw [cell_of_row _ _ _ _ _ _ hh3];rfl
 have x1:w2.cell? ⟨w.heap.size,1,none⟩=some (.int .i64 a.ins):=by rw [cell_of_row _ _ _ _ _ _ hh3];rfl
 have x2:w2.cell? ⟨w.heap.size,2,none⟩=some (.int .i64 a.p1):=by rw [cell_of_row _ _ _ _ _ _ hh3];rfl
 have x3:w2.cell? ⟨w.heap.size,3,none⟩=some (.int .i64 a.p2):=by rw [cell_of_row _ _ _ _ _ _ hh3];rfl
 have x4:w2.cell? ⟨w.heap.size,4,none⟩=some u1:=by rw [cell_of_row _ _ _ _ _ _ hh3];rfl
 have x5:w2.cell? ⟨w.heap.size,5,none⟩=some (.int .i64 a.ex):=by rw [cell_of_row _ _ _ _ _ _ hh3];rfl
 have y0:w2.cell? ⟨w.heap.size+1,0,none⟩=some (.int .i64 b.cl):=by rw [cell_of_row _ _ _ _ _ _ hh2];rfl
 have y1:w2.cell? ⟨w.heap.size+1,1,none⟩=some (.int .i64 b.ins):=by rw [cell_of_row _ _ _ _ _ _ hh2];rfl
 have y2:w2.cell? ⟨w.heap.size+1,2,none⟩=some (.int .i64 b.p1):=by rw [cell_of_row _ _ _ _ _ _ hh2];rfl
 have y3:w2.cell? ⟨w.heap.size+1,3,none⟩=some (.int .i64 b.p2):=by rw [cell_of_row _ _ _ _ _ _ hh2];rfl
 have y4:w2.cell? ⟨w.heap.size+1,4,none⟩=some t1:=by rw [cell_of_row _ _ _ _ _ _ hh2];rfl
 have y5:w2.cell? ⟨w.heap.size+1,5,none⟩=some (.int .i64 b.ex):=by rw [cell_of_row _ _ _ _ _ _ hh2];rfl
 have ol:∀ {S:Nat->Prop} {v:Value} {l:List UInt8},BsS w S v l->BsS w2 (fun _=>True) v l:=fun h=>BsS.keep h fun g _ hl=>⟨hB.block g hl,trivial⟩
 have H1:=iH (ol h1);have G1:=iH (ol k1)
 obtain⟨DA,hDA⟩:∃d,a.data=d:=⟨_,rfl⟩
 obtain⟨DB,hDB⟩:∃d,b.data=d:=⟨_,rfl⟩
 rw [hDA]at H1
 rw [hDB]at G1
 obtain⟨o0,ho0⟩:∃o,(a.cl==b.cl)=o:=⟨_,rfl⟩
 obtain⟨o1,ho1⟩:∃o,(a.ins==b.ins)=o:=⟨_,rfl⟩
 obtain⟨o2,ho2⟩:∃o,(a.p1==b.p1)=o:=⟨_,rfl⟩
 obtain⟨o3,ho3⟩:∃o,(a.p2==b.p2)=o:=⟨_,rfl⟩
 obtain⟨o4,ho4⟩:∃o,(a.ex==b.ex)=o:=⟨_,rfl⟩
 obtain⟨o9,ho9⟩:∃o,decide (DA=DB)=o:=⟨_,rfl⟩
 have R:Hid (decide (a.cl=b.cl/\a.ins=b.ins/\a.p1=b.p1/\a.p2=b.p2/\a.ex=b.ex/\a.data=b.data)=(o0&&(o1&&(o2&&(o3&&(o4&&o9)))))):=iH (by
  rw [<-ho0,<-ho1,<-ho2,<-ho3,<-ho4,<-ho9,hDA,hDB,Bool.eq_iff_iff]
  simp)
 have HO9:=iH ho9
 have HB:=iH hB;have HW1:=iH hw1;have HW2:=iH hw2
 clear h1 k1 ol hB1 hB2 hh1 hh2 hh3 hB hw1 hw2 hz1 ho9 hDA hDB
 cases o0 with
 |false=>
  go_enter Tryz.func38,Tryz.ntmps38
  go_upto_region 1 with fail
  rw [<-HW1.out,<-HW2.out]
  go_wp2_with fail
  go_ret
  rw [R.out]
  exact⟨by simp,HB.out⟩
 |true=>
  cases o1 with
  |false=>
   go_enter Tryz.func38,Tryz.ntmps38
   go_upto_region 1 with fail
   rw [<-HW1.out,<-HW2.out]
   go_wp2_with fail
   go_ret
   rw [R.out]
   exact⟨by simp,HB.out⟩
  |true=>
   cases o2 with
   |false=>
    go_enter Tryz.func38,Tryz.ntmps38
    go_upto_region 1 with fail
    rw [<-HW1.out,<-HW2.out]
    go_wp2_with fail
    go_ret
    rw [R.out]
    exact⟨by simp,HB.out⟩
   |true=>
    cases o3 with
    |false=>
     go_enter Tryz.func38,Tryz.ntmps38
     go_upto_region 1 with fail
     rw [<-HW1.out,<-HW2.out]
     go_wp2_with fail
     go_ret
     rw [R.out]
     exact⟨by simp,HB.out⟩
    |true=>
     cases o4 with
     |false=>
      go_enter Tryz.func38,Tryz.ntmps38
      go_upto_region 1 with fail
      rw [<-HW1.out,<-HW2.out]
      go_wp2_with fail
      go_ret
      rw [R.out]
      exact⟨by simp,HB.out⟩
     |true=>
      go_enter Tryz.func38,Tryz.ntmps38
      go_upto_region 1 with fail
      rw [<-HW1.out,<-HW2.out]
      go_wp2_with(go_at_call 73;refine(zB _ _ DA DB _ _ w2 H1.out G1.out).mono ?_;rintro e w3 ⟨rfl,nd,hw3⟩;rw [HO9.out];have HW3:=iH hw3;clear hw3)
      go_ret
      rw [R.out,HW3.out]
      exact⟨by simp,j4 HB.out nd⟩
theorem qN(w:World):((w.alloc (.cells #[.int .i64 0,.int .i64 0,.int .i64 0,.int .i64 0,.slice none 0 0,.int .i64 0] 32)).alloc (.cells #[.slice none 0 0,.slice none 0 0,.int .i64 0] 29)).heap[w.heap.size]?=some (.cells #[.int .i64 0,.int .i64 0,.int .i64 0,.int .i64 0,.slice none 0 0,.int .i64 0] 32 (0,0))/\((w.alloc (.cells #[.int .i64 0,.int .i64 0,.int .i64 0,.int .i64 0,.slice none 0 0,.int .i64 0] 32)).alloc (.cells #[.slice none 0 0,.slice none 0 0,.int .i64 0] 29)).heap[w.heap.size+1]?=some (.cells #[.slice none 0 0,.slice none 0 0,.int .i64 0] 29 (0,0)):=by
 refine⟨by rw [Below.heap_alloc _ _ _ (by simp)];exact iN,?_⟩
 have h:=heap_alloc_new (w.alloc (.cells #[.int .i64 0,.int .i64 0,.int .i64 0,.int .i64 0,.slice none 0 0,.int .i64 0] 32)) (.cells #[.slice none 0 0,.slice none 0 0,.int .i64 0] 29)
 rwa [show(w.alloc (.cells #[.int .i64 0,.int .i64 0,.int .i64 0,.int .i64 0,.slice none 0 0,.int .i64 0] 32)).heap.size=w.heap.size+1 by simp]at h
theorem Qu(vs vc vd:Value)(k1 k2:List UInt8)(n:Int)(c:Cm)(d:Cm)(w:World)(hs:xp w (·<w.heap.size) vs k1 k2 n)(hc:ye w (·<w.heap.size) vc c)(hd:ye w (·<w.heap.size) vd d):
 Calls Tryz.prog 18 #[vs,vc,vd] w fun e w'=>e=.returned (.bool true)/\Below w.heap.size w w':=by
 obtain⟨ua,ub,rfl,ha,hb⟩:=hs
 obtain⟨A1,d1,hp⟩:=Bs.formL ha;subst hp
 obtain⟨A2,d2,hp⟩:=Bs.formL hb;subst hp
 obtain⟨uc,rfl,hcd⟩:=hc
 obtain⟨ud,rfl,hdd⟩:=hd
 obtain⟨cA,cc,hp⟩:=Bs.formL hcd;subst hp
 obtain⟨dA,dc,hp⟩:=Bs.formL hdd;subst hp
 obtain⟨⟨E,C,K1,K2,M⟩,hr1⟩:∃r,kH k1 k2 n c=r:=⟨_,rfl⟩
 obtain⟨⟨F,D,L1,L2,Q⟩,hr2⟩:∃r,jm k1 k2 n d=r:=⟨_,rfl⟩
 have HR1:=iH hr1;have HR2:=iH hr2
 obtain⟨ws,hws⟩:∃ws,ws=w.alloc (.cells #[.slice A1 k1.length d1,.slice A2 k2.length d2,.int .i64 n] 29):=⟨_,rfl⟩
 obtain⟨wq,hwq⟩:∃wq,wq=ws.alloc (.cells #[.int .i64 c.cl,.int .i64 c.ins,.int .i64 c.p1,.int .i64 c.p2,.slice cA c.data.length cc,.int .i64 c.ex] 32):=⟨_,rfl⟩
 obtain⟨w0,hw0⟩:∃w0,w0=wq.alloc (.cells #[.int .i64 d.cl,.int .i64 d.ins,.int .i64 d.p1,.int .i64 d.p2,.slice dA d.data.length dc,.int .i64 d.ex] 32):=⟨_,rfl⟩
 have zs:ws.heap.size=w.heap.size+1:=by rw [hws];simp
 have zq:wq.heap.size=w.heap.size+1+1:=by rw [hwq];simp [zs]
 have b1:Below w.heap.size w ws:=by rw [hws];exact iA
 have b2:Below ws.heap.size ws wq:=by rw [hwq];exact iA
 have b3:Below wq.heap.size wq w0:=by rw [hw0];exact iA
 have z0:w0.heap.size=w.heap.size+1+1+1:=by rw [hw0];simp [zq]
 have q1:ws.heap[w.heap.size]?=some (.cells #[.slice A1 k1.length d1,.slice A2 k2.length d2,.int .i64 n] 29 (0,0)):=by rw [hws];exact iN
 have q2:wq.heap[w.heap.size+1]?=some (.cells #[.int .i64 c.cl,.int .i64 c.ins,.int .i64 c.p1,.int .i64 c.p2,.slice cA c.data.length cc,.int .i64 c.ex] 32 (0,0)):=by rw [hwq,<-zs];exact iN
 have q3:w0.heap[w.heap.size+1+1]?=some (.cells #[.int .i64 d.cl,.int .i64 d.ins,.int .i64 d.p1,.int .i64 d.p2,.slice dA d.data.length dc,.int .i64 d.ex] 32 (0,0)):=by rw [hw0,<-zq];exact iN
 have e2:=(b3.block (w.heap.size+1) (by omega)).trans q2
 have e1:=(b3.block w.heap.size (by omega)).trans ((b2.block w.heap.size (by omega)).trans q1)
 have hB:Below w.heap.size w w0:=b1.trans ((b2.trans (b3.mono b2.size)).mono b1.size)
 have CS:Hid (∀W,Below w0.heap.size w0 W->W.cell? ⟨w.heap.size,0,none⟩=some (.slice A1 k1.length d1)/\W.cell? ⟨w.heap.size,1,none⟩=some (.slice A2 k2.length d2)/\W.cell? ⟨w.heap.size,2,none⟩=some (.int .i64 n)):=iH fun W h=>(by obtain⟨a,b,c,_⟩:=jc ((h.block w.heap.size (by omega)).trans e1);exact⟨a,b,c⟩)
 have CC:Hid (∀W,Below w0.heap.size w0 W->W.cell? ⟨w.heap.size+1,0,none⟩=some (.int .i64 c.cl)/\W.cell? ⟨w.heap.size+1,1,none⟩=some (.int .i64 c.ins)/\W.cell? ⟨w.heap.size+1,2,none⟩=some (.int .i64 c.p1)/\W.cell? ⟨w.heap.size+1,3,none⟩=some (.int .i64 c.p2)/\W.cell? ⟨w.heap.size+1,4,none⟩=some (.slice cA c.data.length cc)/\W.cell? ⟨w.heap.size+1,5,none⟩=some (.int .i64 c.ex)):=iH fun W h=>(by obtain⟨a,b,c,d,e,f,_⟩:=j5 ((h.block (w.heap.size+1) (by omega)).trans e2);exact⟨a,b,c,d,e,f⟩)
 have CD:Hid (∀W,Below w0.heap.size w0 W->W.cell? ⟨w.heap.size+1+1,0,none⟩=some (.int .i64 d.cl)/\W.cell? ⟨w.heap.size+1+1,1,none⟩=some (.int .i64 d.ins)/\W.cell? ⟨w.heap.size+1+1,2,none⟩=some (.int .i64 d.p1)/\W.cell? ⟨w.heap.size+1+1,3,none⟩=some (.int .i64 d.p2)/\W.cell? ⟨w.heap.size+1+1,4,none⟩=some (.slice dA d.data.length dc)/\W.cell? ⟨w.heap.size+1+1,5,none⟩=some (.int .i64 d.ex)):=iH fun W h=>(by obtain⟨a,b,c,d,e,f,_⟩:=j5 ((h.block (w.heap.size+1+1) (by omega)).trans q3);exact⟨a,b,c,d,e,f⟩)
 have HB0:=iH hB;have HWS:=iH hws;have HWQ:=iH hwq;have HW0:=iH hw0
 have HK1:=iH (Bs.lift ha hB);have HK2:=iH (Bs.lift hb hB);have HCD:=iH (Bs.lift hcd hB);have HDD:=iH (Bs.lift hdd hB)
 have HSV:Hid (∀W,Below w0.heap.size w0 W->xp W (·<W.heap.size) (.agg #[.slice A1 k1.length d1,.slice A2 k2.length d2,.int .i64 n]) k1 k2 n):=iH fun W h=>⟨_,_,rfl,HK1.out.lift h,HK2.out.lift h⟩
 have HCV:Hid (∀W,Below w0.heap.size w0 W->ye W (·<W.heap.size) (.agg #[.int .i64 c.cl,.int .i64 c.ins,.int .i64 c.p1,.int .i64 c.p2,.slice cA c.data.length cc,.int .i64 c.ex]) c):=iH fun W h=>⟨_,rfl,HCD.out.lift h⟩
 have HDV:Hid (∀W,Below w0.heap.size w0 W->ye W (·<W.heap.size) (.agg #[.int .i64 d.cl,.int .i64 d.ins,.int .i64 d.p1,.int .i64 d.p2,.slice dA d.data.length dc,.int .i64 d.ex]) d):=iH fun W h=>⟨_,rfl,HDD.out.lift h⟩
 clear ha hb hcd hdd hr1 hr2 hws hwq hw0 zs zq z0 b1 b2 b3 q1 q2 q3 e1 e2 hB
 go_enter Tryz.func18,Tryz.ntmps18
 go_upto_region 1 with fail
 rw [<-HWS.out,<-HWQ.out,<-HW0.out]
 obtain⟨s0,s1,s2⟩:=CS.out w0 iB
 obtain⟨c0,c1,c2,c3,c4,c5⟩:=CC.out w0 iB
 go_upto_region 2 with (go_at_call 23;refine(Qr _ _ k1 k2 n c w0 (HSV.out w0 iB) (HCV.out w0 iB)).mono ?_;rw [HR1.out];rintro e w1 ⟨v,s,rfl,⟨d1,rfl,hd⟩,⟨x1,y1,rfl,hx,hy⟩,hb⟩;obtain⟨dA1,dc1,hp⟩:=Bs.formL hd;subst hp;obtain⟨xA1,xc1,hp⟩:=Bs.formL hx;subst hp;obtain⟨yA1,yc1,hp⟩:=Bs.formL hy;subst hp;have HV1:Hid (VW w1 [(.slice dA1 C.data.length dc1,C.data),(.slice xA1 K1.length xc1,K1),(.slice yA1 K2.length yc1,K2)]):=iH (((VW.nil.add (S:=(·<w1.heap.size)) (fun _ h=>h) hy).add (S:=(·<w1.heap.size)) (fun _ h=>h) hx).add (S:=(·<w1.heap.size)) (fun _ h=>h) hd);have HB1:=iH hb;obtain⟨hz,hs0⟩:=qN w1;obtain⟨n0,n1,n2,n3,n4,n5,nf⟩:=j5 hz;have nf0:=nf 0;have nf1:=nf 1;have nf2:=nf 2;have nf3:=nf 3;have nf4:=nf 4;have nf5:=nf 5;obtain⟨m0,m1,m2,mf⟩:=jc hs0;have mf0:=mf 0;have mf1:=mf 1;have mf2:=mf 2;clear nf mf hz hs0 hd hx hy hb)
 clear s0 s1 s2 c0 c1 c2 c3 c4 c5 n0 n1 n2 n3 n4 n5 nf0 nf1 nf2 nf3 nf4 nf5 m0 m1 m2 mf0 mf1 mf2
 obtain⟨u1,hu1⟩:∃u,u=(w1.alloc (.cells #[.int .i64 C.cl,.int .i64 C.ins,.int .i64 C.p1,.int .i64 C.p2,.slice dA1 C.data.length dc1,.int .i64 C.ex] 32)).alloc (.cells #[.slice xA1 K1.length xc1,.slice yA1 K2.length yc1,.int .i64 M] 29):=⟨_,rfl⟩
 rw [<-hu1]
 have hwu:Below w1.heap.size w1 u1:=by rw [hu1];exact(iA).alloc (by simp) _
 have hcr:u1.heap[w1.heap.size]?=some (.cells #[.int .i64 C.cl,.int .i64 C.ins,.int .i64 C.p1,.int .i64 C.p2,.slice dA1 C.data.length dc1,.int .i64 C.ex] 32 (0,0)):=by rw [hu1,Below.heap_alloc _ _ _ (by simp)];exact iN
 have hsr:u1.heap[w1.heap.size+1]?=some (.cells #[.slice xA1 K1.length xc1,.slice yA1 K2.length yc1,.int .i64 M] 29 (0,0)):=by
  rw [hu1]
  have h:=heap_alloc_new (w1.alloc (.cells #[.int .i64 C.cl,.int .i64 C.ins,.int .i64 C.p1,.int .i64 C.p2,.slice dA1 C.data.length dc1,.int .i64 C.ex] 32)) (.cells #[.slice xA1 K1.length xc1,.slice yA1 K2.length yc1,.int .i64 M] 29)
  rwa [show(w1.alloc (.cells #[.int .i64 C.cl,.int .i64 C.ins,.int .i64 C.p1,.int .i64 C.p2,.slice dA1 C.data.length dc1,.int .i64 C.ex] 32)).heap.size=w1.heap.size+1 by simp]at h
 have RC1:Hid (∀W,Below u1.heap.size u1 W->W.heap[w1.heap.size]?=some (.cells #[.int .i64 C.cl,.int .i64 C.ins,.int .i64 C.p1,.int .i64 C.p2,.slice dA1 C.data.length dc1,.int .i64 C.ex] 32 (0,0))):=iH fun W h=>(h.block _ (iG hcr)).trans hcr
 have RS1:Hid (∀W,Below u1.heap.size u1 W->W.heap[w1.heap.size+1]?=some (.cells #[.slice xA1 K1.length xc1,.slice yA1 K2.length yc1,.int .i64 M] 29 (0,0))):=iH fun W h=>(h.block _ (iG hsr)).trans hsr
 have VU1:=iH (HV1.out.on hwu)
 have HX1:=iH (HB1.out.trans (hwu.mono HB1.out.size))
 have HU1:Hid (Below w0.heap.size w0 u1):=iH HX1.out
 clear hwu hcr hsr hu1
 obtain⟨s0,s1,s2⟩:=CS.out u1 HU1.out
 obtain⟨c0,c1,c2,c3,c4,c5⟩:=CC.out u1 HU1.out
 go_upto_region 3 with (go_at_call 14;refine(Xk _ _ k1 k2 n c u1 (HSV.out u1 HU1.out) (HCV.out u1 HU1.out)).mono ?_;rw [HR1.out];rintro e w2 ⟨v,s,rfl,⟨d2,rfl,hd⟩,⟨x2,y2,rfl,hx,hy⟩,hb⟩;obtain⟨dA2,dc2,hp⟩:=Bs.formL hd;subst hp;obtain⟨xA2,xc2,hp⟩:=Bs.formL hx;subst hp;obtain⟨yA2,yc2,hp⟩:=Bs.formL hy;subst hp;have HV2:Hid (VW w2 [(.slice dA2 C.data.length dc2,C.data),(.slice xA2 K1.length xc2,K1),(.slice yA2 K2.length yc2,K2)]):=iH (((VW.nil.add (S:=(·<w2.heap.size)) (fun _ h=>h) hy).add (S:=(·<w2.heap.size)) (fun _ h=>h) hx).add (S:=(·<w2.heap.size)) (fun _ h=>h) hd);have HB2:=iH hb;obtain⟨hz,hs0⟩:=qN w2;obtain⟨n0,n1,n2,n3,n4,n5,nf⟩:=j5 hz;have nf0:=nf 0;have nf1:=nf 1;have nf2:=nf 2;have nf3:=nf 3;have nf4:=nf 4;have nf5:=nf 5;obtain⟨m0,m1,m2,mf⟩:=jc hs0;have mf0:=mf 0;have mf1:=mf 1;have mf2:=mf 2;clear nf mf hz hs0 hd hx hy hb)
 clear s0 s1 s2 c0 c1 c2 c3 c4 c5 n0 n1 n2 n3 n4 n5 nf0 nf1 nf2 nf3 nf4 nf5 m0 m1 m2 mf0 mf1 mf2
 obtain⟨u2,hu2⟩:∃u,u=(w2.alloc (.cells #[.int .i64 C.cl,.int .i64 C.ins,.int .i64 C.p1,.int .i64 C.p2,.slice dA2 C.data.length dc2,.int .i64 C.ex] 32)).alloc (.cells #[.slice xA2 K1.length xc2,.slice yA2 K2.length yc2,.int .i64 M] 29):=⟨_,rfl⟩
 rw [<-hu2]
 have hwu:Below w2.heap.size w2 u2:=by rw [hu2];exact(iA).alloc (by simp) _
 have hcr:u2.heap[w2.heap.size]?=some (.cells #[.int .i64 C.cl,.int .i64 C.ins,.int .i64 C.p1,.int .i64 C.p2,.slice dA2 C.data.length dc2,.int .i64 C.ex] 32 (0,0)):=by rw [hu2,Below.heap_alloc _ _ _ (by simp)];exact iN
 have hsr:u2.heap[w2.heap.size+1]?=some (.cells #[.slice xA2 K1.length xc2,.slice yA2 K2.length yc2,.int .i64 M] 29 (0,0)):=by
  rw [hu2]
  have h:=heap_alloc_new (w2.alloc (.cells #[.int .i64 C.cl,.int .i64 C.ins,.int .i64 C.p1,.int .i64 C.p2,.slice dA2 C.data.length dc2,.int .i64 C.ex] 32)) (.cells #[.slice xA2 K1.length xc2,.slice yA2 K2.length yc2,.int .i64 M] 29)
  rwa [show(w2.alloc (.cells #[.int .i64 C.cl,.int .i64 C.ins,.int .i64 C.p1,.int .i64 C.p2,.slice dA2 C.data.length dc2,.int .i64 C.ex] 32)).heap.size=w2.heap.size+1 by simp]at h
 have RC2:Hid (∀W,Below u2.heap.size u2 W->W.heap[w2.heap.size]?=some (.cells #[.int .i64 C.cl,.int .i64 C.ins,.int .i64 C.p1,.int .i64 C.p2,.slice dA2 C.data.length dc2,.int .i64 C.ex] 32 (0,0))):=iH fun W h=>(h.block _ (iG hcr)).trans hcr
 have RS2:Hid (∀W,Below u2.heap.size u2 W->W.heap[w2.heap.size+1]?=some (.cells #[.slice xA2 K1.length xc2,.slice yA2 K2.length yc2,.int .i64 M] 29 (0,0))):=iH fun W h=>(h.block _ (iG hsr)).trans hsr
 have VU2:=iH (HV2.out.on hwu)
 have HX2:=iH (HB2.out.trans (hwu.mono HB2.out.size))
 have HU2:Hid (Below w0.heap.size w0 u2):=iH (HU1.out.trans (HX2.out.mono HU1.out.size))
 clear hwu hcr hsr hu2
 obtain⟨s0,s1,s2⟩:=CS.out u2 HU2.out
 obtain⟨c0,c1,c2,c3,c4,c5⟩:=CD.out u2 HU2.out
 go_upto_region 4 with (go_at_call 25;refine(JH _ _ k1 k2 n d u2 (HSV.out u2 HU2.out) (HDV.out u2 HU2.out)).mono ?_;rw [HR2.out];rintro e w3 ⟨v,s,rfl,⟨d3,rfl,hd⟩,⟨x3,y3,rfl,hx,hy⟩,hb⟩;obtain⟨dA3,dc3,hp⟩:=Bs.formL hd;subst hp;obtain⟨xA3,xc3,hp⟩:=Bs.formL hx;subst hp;obtain⟨yA3,yc3,hp⟩:=Bs.formL hy;subst hp;have HV3:Hid (VW w3 [(.slice dA3 D.data.length dc3,D.data),(.slice xA3 L1.length xc3,L1),(.slice yA3 L2.length yc3,L2)]):=iH (((VW.nil.add (S:=(·<w3.heap.size)) (fun _ h=>h) hy).add (S:=(·<w3.heap.size)) (fun _ h=>h) hx).add (S:=(·<w3.heap.size)) (fun _ h=>h) hd);have HB3:=iH hb;obtain⟨hz,hs0⟩:=qN w3;obtain⟨n0,n1,n2,n3,n4,n5,nf⟩:=j5 hz;have nf0:=nf 0;have nf1:=nf 1;have nf2:=nf 2;have nf3:=nf 3;have nf4:=nf 4;have nf5:=nf 5;obtain⟨m0,m1,m2,mf⟩:=jc hs0;have mf0:=mf 0;have mf1:=mf 1;have mf2:=mf 2;clear nf mf hz hs0 hd hx hy hb)
 clear s0 s1 s2 c0 c1 c2 c3 c4 c5 n0 n1 n2 n3 n4 n5 nf0 nf1 nf2 nf3 nf4 nf5 m0 m1 m2 mf0 mf1 mf2
 obtain⟨u3,hu3⟩:∃u,u=(w3.alloc (.cells #[.int .i64 D.cl,.int .i64 D.ins,.int .i64 D.p1,.int .i64 D.p2,.slice dA3 D.data.length dc3,.int .i64 D.ex] 32)).alloc (.cells #[.slice xA3 L1.length xc3,.slice yA3 L2.length yc3,.int .i64 Q] 29):=⟨_,rfl⟩
 rw [<-hu3]
 have hwu:Below w3.heap.size w3 u3:=by rw [hu3];exact(iA).alloc (by simp) _
 have hcr:u3.heap[w3.heap.size]?=some (.cells #[.int .i64 D.cl,.int .i64 D.ins,.int .i64 D.p1,.int .i64 D.p2,.slice dA3 D.data.length dc3,.int .i64 D.ex] 32 (0,0)):=by rw [hu3,Below.heap_alloc _ _ _ (by simp)];exact iN
 have hsr:u3.heap[w3.heap.size+1]?=some (.cells #[.slice xA3 L1.length xc3,.slice yA3 L2.length yc3,.int .i64 Q] 29 (0,0)):=by
  rw [hu3]
  have h:=heap_alloc_new (w3.alloc (.cells #[.int .i64 D.cl,.int .i64 D.ins,.int .i64 D.p1,.int .i64 D.p2,.slice dA3 D.data.length dc3,.int .i64 D.ex] 32)) (.cells #[.slice xA3 L1.length xc3,.slice yA3 L2.length yc3,.int .i64 Q] 29)
  rwa [show(w3.alloc (.cells #[.int .i64 D.cl,.int .i64 D.ins,.int .i64 D.p1,.int .i64 D.p2,.slice dA3 D.data.length dc3,.int .i64 D.ex] 32)).heap.size=w3.heap.size+1 by simp]at h
 have RC3:Hid (∀W,Below u3.heap.size u3 W->W.heap[w3.heap.size]?=some (.cells #[.int .i64 D.cl,.int .i64 D.ins,.int .i64 D.p1,.int .i64 D.p2,.slice dA3 D.data.length dc3,.int .i64 D.ex] 32 (0,0))):=iH fun W h=>(h.block _ (iG hcr)).trans hcr
 have RS3:Hid (∀W,Below u3.heap.size u3 W->W.heap[w3.heap.size+1]?=some (.cells #[.slice xA3 L1.length xc3,.slice yA3 L2.length yc3,.int .i64 Q] 29 (0,0))):=iH fun W h=>(h.block _ (iG hsr)).trans hsr
 have VU3:=iH (HV3.out.on hwu)
 have HX3:=iH (HB3.out.trans (hwu.mono HB3.out.size))
 have HU3:Hid (Below w0.heap.size w0 u3):=iH (HU2.out.trans (HX3.out.mono HU2.out.size))
 clear hwu hcr hsr hu3
 obtain⟨s0,s1,s2⟩:=CS.out u3 HU3.out
 obtain⟨c0,c1,c2,c3,c4,c5⟩:=CD.out u3 HU3.out
 go_upto_region 5 with (go_at_call 37;refine(XG _ _ k1 k2 n d u3 (HSV.out u3 HU3.out) (HDV.out u3 HU3.out)).mono ?_;rw [HR2.out];rintro e w4 ⟨v,s,rfl,⟨d4,rfl,hd⟩,⟨x4,y4,rfl,hx,hy⟩,hb⟩;obtain⟨dA4,dc4,hp⟩:=Bs.formL hd;subst hp;obtain⟨xA4,xc4,hp⟩:=Bs.formL hx;subst hp;obtain⟨yA4,yc4,hp⟩:=Bs.formL hy;subst hp;have HV4:Hid (VW w4 [(.slice dA4 D.data.length dc4,D.data),(.slice xA4 L1.length xc4,L1),(.slice yA4 L2.length yc4,L2)]):=iH (((VW.nil.add (S:=(·<w4.heap.size)) (fun _ h=>h) hy).add (S:=(·<w4.heap.size)) (fun _ h=>h) hx).add (S:=(·<w4.heap.size)) (fun _ h=>h) hd);have HB4:=iH hb;obtain⟨hz,hs0⟩:=qN w4;obtain⟨n0,n1,n2,n3,n4,n5,nf⟩:=j5 hz;have nf0:=nf 0;have nf1:=nf 1;have nf2:=nf 2;have nf3:=nf 3;have nf4:=nf 4;have nf5:=nf 5;obtain⟨m0,m1,m2,mf⟩:=jc hs0;have mf0:=mf 0;have mf1:=mf 1;have mf2:=mf 2;clear nf mf hz hs0 hd hx hy hb)
 clear s0 s1 s2 c0 c1 c2 c3 c4 c5 n0 n1 n2 n3 n4 n5 nf0 nf1 nf2 nf3 nf4 nf5 m0 m1 m2 mf0 mf1 mf2
 obtain⟨u4,hu4⟩:∃u,u=(w4.alloc (.cells #[.int .i64 D.cl,.int .i64 D.ins,.int .i64 D.p1,.int .i64 D.p2,.slice dA4 D.data.length dc4,.int .i64 D.ex] 32)).alloc (.cells #[.slice xA4 L1.length xc4,.slice yA4 L2.length yc4,.int .i64 Q] 29):=⟨_,rfl⟩
 rw [<-hu4]
 have hwu:Below w4.heap.size w4 u4:=by rw [hu4];exact(iA).alloc (by simp) _
 have hcr:u4.heap[w4.heap.size]?=some (.cells #[.int .i64 D.cl,.int .i64 D.ins,.int .i64 D.p1,.int .i64 D.p2,.slice dA4 D.data.length dc4,.int .i64 D.ex] 32 (0,0)):=by rw [hu4,Below.heap_alloc _ _ _ (by simp)];exact iN
 have hsr:u4.heap[w4.heap.size+1]?=some (.cells #[.slice xA4 L1.length xc4,.slice yA4 L2.length yc4,.int .i64 Q] 29 (0,0)):=by
  rw [hu4]
  have h:=heap_alloc_new (w4.alloc (.cells #[.int .i64 D.cl,.int .i64 D.ins,.int .i64 D.p1,.int .i64 D.p2,.slice dA4 D.data.length dc4,.int .i64 D.ex] 32)) (.cells #[.slice xA4 L1.length xc4,.slice yA4 L2.length yc4,.int .i64 Q] 29)
  rwa [show(w4.alloc (.cells #[.int .i64 D.cl,.int .i64 D.ins,.int .i64 D.p1,.int .i64 D.p2,.slice dA4 D.data.length dc4,.int .i64 D.ex] 32)).heap.size=w4.heap.size+1 by simp]at h
 have RC4:Hid (∀W,Below u4.heap.size u4 W->W.heap[w4.heap.size]?=some (.cells #[.int .i64 D.cl,.int .i64 D.ins,.int .i64 D.p1,.int .i64 D.p2,.slice dA4 D.data.length dc4,.int .i64 D.ex] 32 (0,0))):=iH fun W h=>(h.block _ (iG hcr)).trans hcr
 have RS4:Hid (∀W,Below u4.heap.size u4 W->W.heap[w4.heap.size+1]?=some (.cells #[.slice xA4 L1.length xc4,.slice yA4 L2.length yc4,.int .i64 Q] 29 (0,0))):=iH fun W h=>(h.block _ (iG hsr)).trans hsr
 have VU4:=iH (HV4.out.on hwu)
 have HX4:=iH (HB4.out.trans (hwu.mono HB4.out.size))
 have HU4:Hid (Below w0.heap.size w0 u4):=iH (HU3.out.trans (HX4.out.mono HU3.out.size))
 clear hwu hcr hsr hu4
 have H44:Hid (Below u4.heap.size u4 u4):=iH iB
 have H34:=iH HX4.out
 have H24:=iH (HX3.out.trans (HX4.out.mono HX3.out.size))
 have H14:=iH (HX2.out.trans (H24.out.mono HX2.out.size))
 obtain⟨a10,a11,a12,a13,a14,a15,_⟩:=j5 (RC1.out u4 H14.out);obtain⟨b10,b11,b12,_⟩:=jc (RS1.out u4 H14.out)
 obtain⟨a20,a21,a22,a23,a24,a25,_⟩:=j5 (RC2.out u4 H24.out);obtain⟨b20,b21,b22,_⟩:=jc (RS2.out u4 H24.out)
 obtain⟨a30,a31,a32,a33,a34,a35,_⟩:=j5 (RC3.out u4 H34.out);obtain⟨b30,b31,b32,_⟩:=jc (RS3.out u4 H34.out)
 obtain⟨a40,a41,a42,a43,a44,a45,_⟩:=j5 (RC4.out u4 H44.out);obtain⟨b40,b41,b42,_⟩:=jc (RS4.out u4 H44.out)
 have tE:(E==E)=true:=by simp
 have tF:(F==F)=true:=by simp
 go_wp2_with(first
  |(go_at_call 39;have MMz4:=z3B;refine(QL _ _ L1 L2 L1 L2 Q Q (·<z3.heap.size) (·<z3.heap.size) z3 ⟨_,_,rfl,((VU3.out.on (H34.out.trans (z3B.out.mono H34.out.size))).at 1 rfl),((VU3.out.on (H34.out.trans (z3B.out.mono H34.out.size))).at 2 rfl)⟩ ⟨_,_,rfl,((VU4.out.on (H44.out.trans (z3B.out.mono H44.out.size))).at 1 rfl),((VU4.out.on (H44.out.trans (z3B.out.mono H44.out.size))).at 2 rfl)⟩).mono ?_;rintro e z4 ⟨rfl,hb⟩;rw [decide_eq_true (show Q=Q/\L1=L1/\L2=L2 from⟨rfl,rfl,rfl⟩)];have z4B:Hid (Below u4.heap.size u4 z4):=iH (z3B.out.trans (hb.mono z3B.out.size));clear a10 a11 a12 a13 a14 a15 b10 b11 b12 a20 a21 a22 a23 a24 a25 b20 b21 b22 a30 a31 a32 a33 a34 a35 b30 b31 b32 a40 a41 a42 a43 a44 a45 b40 b41 b42;obtain⟨a10,a11,a12,a13,a14,a15,_⟩:=j5 (RC1.out z4 (H14.out.trans (z4B.out.mono H14.out.size)));obtain⟨b10,b11,b12,_⟩:=jc (RS1.out z4 (H14.out.trans (z4B.out.mono H14.out.size)));obtain⟨a20,a21,a22,a23,a24,a25,_⟩:=j5 (RC2.out z4 (H24.out.trans (z4B.out.mono H24.out.size)));obtain⟨b20,b21,b22,_⟩:=jc (RS2.out z4 (H24.out.trans (z4B.out.mono H24.out.size)));obtain⟨a30,a31,a32,a33,a34,a35,_⟩:=j5 (RC3.out z4 (H34.out.trans (z4B.out.mono H34.out.size)));obtain⟨b30,b31,b32,_⟩:=jc (RS3.out z4 (H34.out.trans (z4B.out.mono H34.out.size)));obtain⟨a40,a41,a42,a43,a44,a45,_⟩:=j5 (RC4.out z4 (H44.out.trans (z4B.out.mono H44.out.size)));obtain⟨b40,b41,b42,_⟩:=jc (RS4.out z4 (H44.out.trans (z4B.out.mono H44.out.size)));clear hb)
  |(go_at_call 38;have MMz3:=z2B;refine(Jt _ _ D D (·<z2.heap.size) (·<z2.heap.size) z2 ⟨_,rfl,((VU3.out.on (H34.out.trans (z2B.out.mono H34.out.size))).at 0 rfl)⟩ ⟨_,rfl,((VU4.out.on (H44.out.trans (z2B.out.mono H44.out.size))).at 0 rfl)⟩).mono ?_;rintro e z3 ⟨rfl,hb⟩;rw [decide_eq_true (show D.cl=D.cl/\D.ins=D.ins/\D.p1=D.p1/\D.p2=D.p2/\D.ex=D.ex/\D.data=D.data from⟨rfl,rfl,rfl,rfl,rfl,rfl⟩)];have z3B:Hid (Below u4.heap.size u4 z3):=iH (z2B.out.trans (hb.mono z2B.out.size));clear a10 a11 a12 a13 a14 a15 b10 b11 b12 a20 a21 a22 a23 a24 a25 b20 b21 b22 a30 a31 a32 a33 a34 a35 b30 b31 b32 a40 a41 a42 a43 a44 a45 b40 b41 b42;obtain⟨a10,a11,a12,a13,a14,a15,_⟩:=j5 (RC1.out z3 (H14.out.trans (z3B.out.mono H14.out.size)));obtain⟨b10,b11,b12,_⟩:=jc (RS1.out z3 (H14.out.trans (z3B.out.mono H14.out.size)));obtain⟨a20,a21,a22,a23,a24,a25,_⟩:=j5 (RC2.out z3 (H24.out.trans (z3B.out.mono H24.out.size)));obtain⟨b20,b21,b22,_⟩:=jc (RS2.out z3 (H24.out.trans (z3B.out.mono H24.out.size)));obtain⟨a30,a31,a32,a33,a34,a35,_⟩:=j5 (RC3.out z3 (H34.out.trans (z3B.out.mono H34.out.size)));obtain⟨b30,b31,b32,_⟩:=jc (RS3.out z3 (H34.out.trans (z3B.out.mono H34.out.size)));obtain⟨a40,a41,a42,a43,a44,a45,_⟩:=j5 (RC4.out z3 (H44.out.trans (z3B.out.mono H44.out.size)));obtain⟨b40,b41,b42,_⟩:=jc (RS4.out z3 (H44.out.trans (z3B.out.mono H44.out.size)));clear hb)
  |(go_at_call 39;have MMz2:=z1B;refine(QL _ _ K1 K2 K1 K2 M M (·<z1.heap.size) (·<z1.heap.size) z1 ⟨_,_,rfl,((VU1.out.on (H14.out.trans (z1B.out.mono H14.out.size))).at 1 rfl),((VU1.out.on (H14.out.trans (z1B.out.mono H14.out.size))).at 2 rfl)⟩ ⟨_,_,rfl,((VU2.out.on (H24.out.trans (z1B.out.mono H24.out.size))).at 1 rfl),((VU2.out.on (H24.out.trans (z1B.out.mono H24.out.size))).at 2 rfl)⟩).mono ?_;rintro e z2 ⟨rfl,hb⟩;rw [decide_eq_true (show M=M/\K1=K1/\K2=K2 from⟨rfl,rfl,rfl⟩)];have z2B:Hid (Below u4.heap.size u4 z2):=iH (z1B.out.trans (hb.mono z1B.out.size));clear a10 a11 a12 a13 a14 a15 b10 b11 b12 a20 a21 a22 a23 a24 a25 b20 b21 b22 a30 a31 a32 a33 a34 a35 b30 b31 b32 a40 a41 a42 a43 a44 a45 b40 b41 b42;obtain⟨a10,a11,a12,a13,a14,a15,_⟩:=j5 (RC1.out z2 (H14.out.trans (z2B.out.mono H14.out.size)));obtain⟨b10,b11,b12,_⟩:=jc (RS1.out z2 (H14.out.trans (z2B.out.mono H14.out.size)));obtain⟨a20,a21,a22,a23,a24,a25,_⟩:=j5 (RC2.out z2 (H24.out.trans (z2B.out.mono H24.out.size)));obtain⟨b20,b21,b22,_⟩:=jc (RS2.out z2 (H24.out.trans (z2B.out.mono H24.out.size)));obtain⟨a30,a31,a32,a33,a34,a35,_⟩:=j5 (RC3.out z2 (H34.out.trans (z2B.out.mono H34.out.size)));obtain⟨b30,b31,b32,_⟩:=jc (RS3.out z2 (H34.out.trans (z2B.out.mono H34.out.size)));obtain⟨a40,a41,a42,a43,a44,a45,_⟩:=j5 (RC4.out z2 (H44.out.trans (z2B.out.mono H44.out.size)));obtain⟨b40,b41,b42,_⟩:=jc (RS4.out z2 (H44.out.trans (z2B.out.mono H44.out.size)));clear hb)
  |(go_at_call 38;have MMz1:=H44;refine(Jt _ _ C C (·<u4.heap.size) (·<u4.heap.size) u4 ⟨_,rfl,((VU1.out.on H14.out).at 0 rfl)⟩ ⟨_,rfl,((VU2.out.on H24.out).at 0 rfl)⟩).mono ?_;rintro e z1 ⟨rfl,hb⟩;rw [decide_eq_true (show C.cl=C.cl/\C.ins=C.ins/\C.p1=C.p1/\C.p2=C.p2/\C.ex=C.ex/\C.data=C.data from⟨rfl,rfl,rfl,rfl,rfl,rfl⟩)];have z1B:Hid (Below u4.heap.size u4 z1):=iH hb;clear a10 a11 a12 a13 a14 a15 b10 b11 b12 a20 a21 a22 a23 a24 a25 b20 b21 b22 a30 a31 a32 a33 a34 a35 b30 b31 b32 a40 a41 a42 a43 a44 a45 b40 b41 b42;obtain⟨a10,a11,a12,a13,a14,a15,_⟩:=j5 (RC1.out z1 (H14.out.trans (z1B.out.mono H14.out.size)));obtain⟨b10,b11,b12,_⟩:=jc (RS1.out z1 (H14.out.trans (z1B.out.mono H14.out.size)));obtain⟨a20,a21,a22,a23,a24,a25,_⟩:=j5 (RC2.out z1 (H24.out.trans (z1B.out.mono H24.out.size)));obtain⟨b20,b21,b22,_⟩:=jc (RS2.out z1 (H24.out.trans (z1B.out.mono H24.out.size)));obtain⟨a30,a31,a32,a33,a34,a35,_⟩:=j5 (RC3.out z1 (H34.out.trans (z1B.out.mono H34.out.size)));obtain⟨b30,b31,b32,_⟩:=jc (RS3.out z1 (H34.out.trans (z1B.out.mono H34.out.size)));obtain⟨a40,a41,a42,a43,a44,a45,_⟩:=j5 (RC4.out z1 (H44.out.trans (z1B.out.mono H44.out.size)));obtain⟨b40,b41,b42,_⟩:=jc (RS4.out z1 (H44.out.trans (z1B.out.mono H44.out.size)));clear hb))
 go_ret
 exact⟨rfl,HB0.out.trans ((HU4.out.trans (z4B.out.mono HU4.out.size)).mono HB0.out.size)⟩
theorem j32:(kY 151 (exV 8)).enc.length=3:=by decide
theorem Xz:∃b:List UInt8,b.length=13/\kH Z16 Z16 0 ⟨0,176,0,0,[],8⟩=(0,⟨12,176,0,0,b,65536⟩,Z16,Z16,1)/\jm Z16 Z16 0 ⟨12,176,0,0,b,65536⟩=(0,⟨0,176,0,0,[],8⟩,Z16,Z16,1):=by
 have h1:vS Z16 Z16 0=true:=decide_eq_true ⟨q7,q7,by decide,by decide⟩
 have h2:vC ⟨0,176,0,0,[],8⟩=true:=by decide
 have h3:yP 0=true:=by decide
 obtain⟨b,hb,hl⟩:=j10 (k2:=Z16) (N:=K4 (0+1)) (head:=qY (0+12) 176 0 0) (V:=Xp Z16 (K4 (0+1)) []) (M:=exV 8) (tg:=151) q7 (by decide) (by decide) (by decide) (by simp [Xp]) (by decide)
 rw [<-Km,<-ZD]at hb
 refine⟨b,?_,?_,?_⟩
 ·rw [hl,j32];rfl
 ·unfold kH
  rw [if_neg (by rw [h1];simp),if_neg (by rw [h2];simp),if_neg (by rw [show(⟨0,176,0,0,[],8⟩:Cm).cl=0 from rfl,h3];simp),if_neg (by decide)]
  simp only
  rw [hb]
  rfl
 ·have:=Xs (c:=⟨0,176,0,0,[],8⟩) h1 h2 h3 (by decide) (by simp) hb
  exact this
def Qk(w:World)(q:Nat):Prop:=w.heap[q]?=some (.cells #[.int .i64 0,.int .i64 0,.int .i64 0,.int .i64 0,.slice none 0 0,.int .i64 0] 32 (0,0))
def Xa(w:World)(q:Nat):Prop:=w.heap[q]?=some (.cells #[.slice none 0 0,.slice none 0 0,.int .i64 0] 29 (0,0))
theorem Ud{w:World}{q:Nat}(h:Qk w q)(g:Xa w q):False:=by
 unfold Qk at h
 unfold Xa at g
 rw [h]at g
 simp at g
structure RZ2 (w0 w1 w2:World):Prop where
 size:w1.heap.size<=w2.heap.size
 at_:∀k,k<w1.heap.size->w2.heap[k]?=w1.heap[k]? \/Qk w1 k\/Xa w1 k
theorem RZ2.of{w0 w1 w2:World}(h:Below w1.heap.size w1 w2):RZ2 w0 w1 w2:=⟨h.size,fun k hk=>.inl (h.block k hk)⟩
theorem RZ2.refl{w0 w1:World}:RZ2 w0 w1 w1:=⟨Nat.le_refl _,fun _ _=>.inl rfl⟩
theorem RZ2.set3{w0 w1:World}{q:Nat}(hrow:Xa w1 q)(a b c:Value):RZ2 w0 w1 (set3 w1 q a b c):=⟨by rw [yq];exact Nat.le_refl _,fun k _=>by
 by_cases h:k=q
 ·subst h;exact .inr (.inr hrow)
 ·exact .inl (jR h)⟩
theorem RZ2.set6{w0 w1:World}{q:Nat}(hrow:Qk w1 q)(a b c d e f:Value):RZ2 w0 w1 (set6 w1 q a b c d e f):=⟨by rw [qM];exact Nat.le_refl _,fun k _=>by
 by_cases h:k=q
 ·subst h;exact .inr (.inl hrow)
 ·exact .inl (jI h)⟩
theorem RZ2.row3{w0 w1 w2:World}(h:RZ2 w0 w1 w2){q:Nat}{a b c:Value}(hr:w1.heap[q]?=some (.cells #[a,b,c] 29 (0,0)))(hn:c≠ .int .i64 0):w2.heap[q]?=some (.cells #[a,b,c] 29 (0,0)):=by
 rcases h.at_ q (iG hr)with e|e|e
 ·rw [e,hr]
 ·unfold Qk at e
  rw [hr]at e
  simp at e
 ·unfold Xa at e
  rw [hr]at e
  simp at e
  exact absurd e.2.2 hn
theorem RZ2.row6{w0 w1 w2:World}(h:RZ2 w0 w1 w2){q:Nat}{a b c d e f:Value}(hr:w1.heap[q]?=some (.cells #[a,b,c,d,e,f] 32 (0,0)))(hn:b≠ .int .i64 0):w2.heap[q]?=some (.cells #[a,b,c,d,e,f] 32 (0,0)):=by
 rcases h.at_ q (iG hr)with e|e|e
 ·rw [e,hr]
 ·unfold Qk at e
  rw [hr]at e
  simp at e
  exact absurd e.2.1 hn
 ·unfold Xa at e
  rw [hr]at e
  simp at e
theorem BsS.rz2{w0 w1 w2:World}{v:Value}{l:List UInt8}(h:Bs w1 w1.heap.size v l)(hr:RZ2 w0 w1 w2):Bs w2 w2.heap.size v l:=by
 obtain⟨a,c,hv,h1,h2,h3,h4⟩:=h
 refine⟨a,c,hv,h1,h2,h3,fun h0=> ?_⟩
 obtain⟨b,off,e,hS,hc⟩:=h4 h0
 refine⟨b,off,e,iZ hS hr.size,fun j hj=> ?_⟩
 rcases hr.at_ b hS with hb|hb|hb
 ·rw [World.cell?_of_block (a:=⟨b,off+j,none⟩) hb];exact hc j hj
 ·exfalso
  have hc0:=hc j hj
  rw [cell_of_row _ _ _ _ _ _ hb]at hc0
  exact yl (A:=none) (n:=0) (k:=0) (off+j) _ hc0
 ·exfalso
  have hc0:=hc j hj
  rw [cell_of_row _ _ _ _ _ _ hb]at hc0
  exact j4k none none 0 0 0 0 0 (off+j) _ hc0
def JZ2(w0:World)(a s c t:Nat)(L:Nat->Bool)(v:Nat->Value)(w1:World):Prop:=
 Below w0.heap.size w0 w1/\(L s=false->L a=true->∃q,v a=.pointer (some ⟨q,0,none⟩)/\w0.heap.size<=q/\q<w1.heap.size/\Qk w1 q)/\(L t=false->L c=true->∃q,v c=.pointer (some ⟨q,0,none⟩)/\w0.heap.size<=q/\q<w1.heap.size/\Xa w1 q)
section
variable {w0 w1 w2:World} {a s c t:Nat} {L:Nat->Bool} {v:Nat->Value} {y:Value}
theorem JZ2.start:JZ2 w0 a s c t (fun _=>false) v w0.drew:=by
 refine⟨iB.drew,fun _ h=> ?_,fun _ h=> ?_⟩<;>exact absurd h (by simp)
theorem JZ2.step(h:JZ2 w0 a s c t L v w1)(hb:Below w1.heap.size w1 w2)(i:Nat)(ha:i≠a)(hs:i≠s)(hc:i≠c)(ht:i≠t):JZ2 w0 a s c t (jY L i) (kz v i y) w2:=by
 refine⟨h.1.trans (hb.mono h.1.size),fun h1 h2=> ?_,fun h1 h2=> ?_⟩
 ·simp only [jY]at h1 h2
  rw [if_neg (Ne.symm hs)]at h1
  rw [if_neg (Ne.symm ha)]at h2
  obtain⟨q,e,hq,hl,hz⟩:=h.2.1 h1 h2
  exact⟨q,by simp only [kz];rw [if_neg (Ne.symm ha)];exact e,hq,iZ hl hb.size,(hb.block q hl).trans hz⟩
 ·simp only [jY]at h1 h2
  rw [if_neg (Ne.symm ht)]at h1
  rw [if_neg (Ne.symm hc)]at h2
  obtain⟨q,e,hq,hl,hz⟩:=h.2.2 h1 h2
  exact⟨q,by simp only [kz];rw [if_neg (Ne.symm hc)];exact e,hq,iZ hl hb.size,(hb.block q hl).trans hz⟩
theorem JZ2.alloc6(h:JZ2 w0 a s c t L v w1)(_:a≠s)(hc:c≠a)(ht:t≠a):JZ2 w0 a s c t (jY L a) (kz v a (.pointer (some ⟨w1.heap.size,0,none⟩))) (w1.alloc (.cells #[.int .i64 0,.int .i64 0,.int .i64 0,.int .i64 0,.slice none 0 0,.int .i64 0] 32)):=by
 refine⟨h.1.alloc h.1.size _,fun _ _=>⟨w1.heap.size,by simp [kz],h.1.size,by simp,iN⟩,fun h1 h2=> ?_⟩
 simp only [jY]at h1 h2
 rw [if_neg ht]at h1
 rw [if_neg hc]at h2
 obtain⟨q,e,hq,hl,hz⟩:=h.2.2 h1 h2
 exact⟨q,by simp only [kz];rw [if_neg hc];exact e,hq,iZ hl (by simp),(Below.heap_alloc _ _ _ hl).trans hz⟩
theorem JZ2.alloc3(h:JZ2 w0 a s c t L v w1)(_:c≠t)(ha:a≠c)(hs:s≠c):JZ2 w0 a s c t (jY L c) (kz v c (.pointer (some ⟨w1.heap.size,0,none⟩))) (w1.alloc (.cells #[.slice none 0 0,.slice none 0 0,.int .i64 0] 29)):=by
 refine⟨h.1.alloc h.1.size _,fun h1 h2=> ?_,fun _ _=>⟨w1.heap.size,by simp [kz],h.1.size,by simp,iN⟩⟩
 simp only [jY]at h1 h2
 rw [if_neg hs]at h1
 rw [if_neg ha]at h2
 obtain⟨q,e,hq,hl,hz⟩:=h.2.1 h1 h2
 exact⟨q,by simp only [kz];rw [if_neg ha];exact e,hq,iZ hl (by simp),(Below.heap_alloc _ _ _ hl).trans hz⟩
theorem JZ2.store6(h:JZ2 w0 a s c t L v w1){q:Nat}(hq:w0.heap.size<=q)(hrow:Qk w1 q)(_:a≠s)(hc:c≠s)(ht:t≠s){b1 b2 b3 b4 b5 b6:Value}:JZ2 w0 a s c t (jY L s) (kz v s y) (set6 w1 q b1 b2 b3 b4 b5 b6):=by
 refine⟨Kh h.1 hq,fun h1=>by simp [jY]at h1,fun h1 h2=> ?_⟩
 simp only [jY]at h1 h2
 rw [if_neg ht]at h1
 rw [if_neg hc]at h2
 obtain⟨p,e,hp,hl,hz⟩:=h.2.2 h1 h2
 have hne:p≠q:=fun e=>by subst e;exact Ud hrow hz
 exact⟨p,by simp only [kz];rw [if_neg hc];exact e,hp,by rw [qM];exact hl,(jI hne).trans hz⟩
theorem JZ2.store3(h:JZ2 w0 a s c t L v w1){q:Nat}(hq:w0.heap.size<=q)(hrow:Xa w1 q)(_:c≠t)(ha:a≠t)(hs:s≠t){b1 b2 b3:Value}:JZ2 w0 a s c t (jY L t) (kz v t y) (set3 w1 q b1 b2 b3):=by
 refine⟨qs h.1 hq,fun h1 h2=> ?_,fun h1=>by simp [jY]at h1⟩
 simp only [jY]at h1 h2
 rw [if_neg hs]at h1
 rw [if_neg ha]at h2
 obtain⟨p,e,hp,hl,hz⟩:=h.2.1 h1 h2
 have hne:p≠q:=fun e=>by subst e;exact Ud hz hrow
 exact⟨p,by simp only [kz];rw [if_neg ha];exact e,hp,by rw [yq];exact hl,(jR hne).trans hz⟩
end
theorem Zi(w:World):Calls Tryz.prog 24 #[] w fun e w'=>∃X1 x1 X2 x2,e=.returned (.agg #[.slice X1 16 x1,.slice X2 16 x2,.int .i64 0])/\Bs w' w'.heap.size (.slice X1 16 x1) Z16/\Bs w' w'.heap.size (.slice X2 16 x2) Z16/\Below w.heap.size w w':=by
 have hmx:Tryz.prog.follows .mixedOrders=true:=by kernel_rfl
 obtain⟨w0,hw0⟩:∃w0,w0=w.alloc (.cells #[.slice none 0 0,.slice none 0 0,.int .i64 0] 29):=⟨_,rfl⟩
 have hB0:Below w.heap.size w w0:=by rw [hw0];exact iA
 have hh0:w0.heap[w.heap.size]?=some (.cells #[.slice none 0 0,.slice none 0 0,.int .i64 0] 29 (0,0)):=by rw [hw0];exact iN
 have HB:=iH hB0;have HR:=iH hh0;have HLT:=iH (iG hh0);have HW0:=iH hw0
 clear hB0 hh0 hw0
 go_enter Tryz.func24,Tryz.ntmps24
 go_upto_region 1 with fail
 rw [<-HW0.out]
 refine jg 3 [some 1,some 2,some 3] [[],[],[0,1]]
  (fun _ _ w1=>Below w0.heap.size w0 w1) (fun w1 w2=>Below w1.heap.size w1 w2)
  [fun v w1=>∃q,v 0=.slice (some ⟨q,0,none⟩) 16 16/\Bs w1 w1.heap.size (.slice (some ⟨q,0,none⟩) 16 16) Z16,
   fun v w1=>∃q,v 1=.slice (some ⟨q,0,none⟩) 16 16/\Bs w1 w1.heap.size (.slice (some ⟨q,0,none⟩) 16 16) Z16,
   fun v w1=>∃q0 q1,v 2=.agg #[.slice (some ⟨q0,0,none⟩) 16 16,.slice (some ⟨q1,0,none⟩) 16 16,.int .i64 0]/\Bs w1 w1.heap.size (.slice (some ⟨q0,0,none⟩) 16 16) Z16/\Bs w1 w1.heap.size (.slice (some ⟨q1,0,none⟩) 16 16) Z16]
  (by kernel_rfl) (by kernel_rfl) (fun _=>iB.drew) ?st ?steps ?tail
 case st=>
  exact(.cons (fun _ _ _ _ _ hr ⟨q,e,h⟩=>⟨q,e,h.lift hr⟩) (.cons (fun _ _ _ _ _ hr ⟨q,e,h⟩=>⟨q,e,h.lift hr⟩) (.cons (fun _ _ _ _ _ hr ⟨q0,q1,e,h,g⟩=>⟨q0,q1,e,h.lift hr,g.lift hr⟩) .nil)))
 case steps=>
  simp only [List.take_succ_cons,List.take_zero]
  refine(.cons ?_ (.cons ?_ (.cons ?_ .nil)))
  all_goals(intro L v w1 hJ hL hA hF K hK;simp only [jf,Act.put,Nat.zero_add,Nat.reduceAdd,List.setIfInBounds_toArray,List.set_cons_zero,List.set_cons_succ]at hK |-)
  ·have Hm:=Jl
   go_simp
   exact hK _ _ (hJ.trans ((jB w1).mono hJ.size)) (jB w1) ⟨_,rfl,BsS.keep (zO w1) fun g hs _=>⟨rfl,hs.2⟩⟩
  ·have Hm:=Jl
   go_simp
   exact hK _ _ (hJ.trans ((jB w1).mono hJ.size)) (jB w1) ⟨_,rfl,BsS.keep (zO w1) fun g hs _=>⟨rfl,hs.2⟩⟩
  ·obtain⟨q0,e0,h0⟩:∃q,v 0=.slice (some ⟨q,0,none⟩) 16 16/\Bs w1 w1.heap.size (.slice (some ⟨q,0,none⟩) 16 16) Z16:=hF 0 (hA 0 (by simp))
   obtain⟨q1,e1,h1⟩:∃q,v 1=.slice (some ⟨q,0,none⟩) 16 16/\Bs w1 w1.heap.size (.slice (some ⟨q,0,none⟩) 16 16) Z16:=hF 1 (hA 1 (by simp))
   simp only [e0,e1]at hK
   go_simp
   exact hK _ _ hJ iB ⟨_,_,rfl,h0,h1⟩
 case tail=>
  intro v w1 hJ hF
  obtain⟨q0,q1,e2,h0,h1⟩:∃q0 q1,v 2=.agg #[.slice (some ⟨q0,0,none⟩) 16 16,.slice (some ⟨q1,0,none⟩) 16 16,.int .i64 0]/\Bs w1 w1.heap.size (.slice (some ⟨q0,0,none⟩) 16 16) Z16/\Bs w1 w1.heap.size (.slice (some ⟨q1,0,none⟩) 16 16) Z16:=hF 2 (by simp)
  simp only [List.drop_succ_cons,List.drop_zero,jf,Act.put,Nat.zero_add,Nat.reduceAdd,List.setIfInBounds_toArray,List.set_cons_zero,List.set_cons_succ]
  simp only [e2]
  have hr:=(hJ.block w.heap.size HLT.out).trans HR.out
  obtain⟨z0,z1,z2,zf⟩:=jc hr
  have zf0:=zf 0;have zf1:=zf 1;have zf2:=zf 2
  obtain⟨y0,y1,y2,_⟩:=jc (kB (.slice (some ⟨q0,0,none⟩) 16 16) (.slice (some ⟨q1,0,none⟩) 16 16) (.int .i64 0) hr)
  have HRR:=iH hr;have H0:=iH h0;have H1:=iH h1;have HJ:=iH hJ
  clear zf hr h0 h1 hJ hF e2
  go_wp2_with fail
  refine bodyPost_ret (v:=.agg #[.slice (some ⟨q0,0,none⟩) 16 16,.slice (some ⟨q1,0,none⟩) 16 16,.int .i64 0]) (by simp only [set3]at y0 y1 y2;simp [results,Tryz.results24,go_sem,y0,y1,y2]) rfl ?_
  refine⟨_,_,_,_,rfl,?_,?_,qs (HB.out.trans (HJ.out.mono HB.out.size)) iL⟩
  ·exact BsS.keep (BsS.off H0.out HRR.out (j4k none none 0 0 0 0 0)) fun g hg _=>⟨jR hg.2,by simpa [set3]using hg.1⟩
  ·exact BsS.keep (BsS.off H1.out HRR.out (j4k none none 0 0 0 0 0)) fun g hg _=>⟨jR hg.2,by simpa [set3]using hg.1⟩
theorem KA(w:World):Calls Tryz.prog 8 #[] w fun e w'=>e=.returned (.bool true)/\Below w.heap.size w w':=by
 have hmx:Tryz.prog.follows .mixedOrders=true:=by kernel_rfl
 obtain⟨b,hb,hwr,hun⟩:=Xz
 have LD2:Hid (b.length=13):=iH hb
 have LD3:Hid (([]:List UInt8).length=0):=iH rfl
 have HWR:Hid (∀(x y:Value) (w:World),Bs w w.heap.size x Z16->Bs w w.heap.size y Z16->Calls Tryz.prog 23 #[.agg #[x,y,.int .i64 0],.agg #[.int .i64 0,.int .i64 176,.int .i64 0,.int .i64 0,.slice none 0 0,.int .i64 8]] w (yg (0,⟨12,176,0,0,b,65536⟩,Z16,Z16,1) w)):=iH (fun x y w h1 h2=>by rw [<-hwr];exact Qr _ _ Z16 Z16 0 ⟨0,176,0,0,[],8⟩ w ⟨x,y,rfl,h1,h2⟩ ⟨_,rfl,BsS.nil0 _ _⟩)
 have HUN:Hid (∀(x y d:Value) (w:World),Bs w w.heap.size x Z16->Bs w w.heap.size y Z16->Bs w w.heap.size d b->Calls Tryz.prog 25 #[.agg #[x,y,.int .i64 0],.agg #[.int .i64 12,.int .i64 176,.int .i64 0,.int .i64 0,d,.int .i64 65536]] w (yg (0,⟨0,176,0,0,[],8⟩,Z16,Z16,1) w)):=iH (fun x y d w h1 h2 h3=>by rw [<-hun];exact JH _ _ Z16 Z16 0 ⟨12,176,0,0,b,65536⟩ w ⟨x,y,rfl,h1,h2⟩ ⟨d,rfl,h3⟩)
 clear hb hwr hun
 obtain⟨n0,n1,n2,n3,n4,n5,nf⟩:=j5 (qV w)
 have nf0:=nf 0;have nf1:=nf 1;have nf2:=nf 2;have nf3:=nf 3;have nf4:=nf 4;have nf5:=nf 5
 clear nf
 go_enter Tryz.func8,Tryz.ntmps8
 go_upto_region 2 with fail
 obtain⟨w1r,hw1⟩:∃w1r,w1r=w.alloc (.cells #[.int .i64 0,.int .i64 176,.int .i64 0,.int .i64 0,.slice none 0 0,.int .i64 8] 32):=⟨_,rfl⟩
 rw [<-hw1]
 have HBW1:Hid (Below w.heap.size w w1r):=iH (by rw [hw1];exact iA)
 have HR1:Hid (w1r.heap[w.heap.size]?=some (.cells #[.int .i64 0,.int .i64 176,.int .i64 0,.int .i64 0,.slice none 0 0,.int .i64 8] 32 (0,0))):=iH (by rw [hw1];exact iN)
 clear hw1 n0 n1 n2 n3 n4 n5 nf0 nf1 nf2 nf3 nf4 nf5
 refine jg 12 [some 10,some 11,some 12,some 9,some 13,some 14,some 15,some 2,some 3,none,none,some 4] [[],[],[0,1],[0,1,2],[0,1,2,3],[0,1,2,3],[0,1,2,3],[],[],[0,1,2,3,4,7,8],[0,1,2,3,4,5,7,8,9],[0,1,2,3,4,5,6,7,8,9,10]]
  (JZ2 w1r 7 9 8 10) (RZ2 w1r)
  [fun v w1=>∃X1 x1 X2 x2,v 0=.agg #[.slice X1 16 x1,.slice X2 16 x2,.int .i64 0]/\Bs w1 w1.heap.size (.slice X1 16 x1) Z16/\Bs w1 w1.heap.size (.slice X2 16 x2) Z16,
   fun v _=>v 1=.agg #[.int .i64 0,.int .i64 176,.int .i64 0,.int .i64 0,.slice none 0 0,.int .i64 8],
   fun v w1=>∃dA dc X1 x1 X2 x2,v 2=.tuple #[.agg #[.int .i64 12,.int .i64 176,.int .i64 0,.int .i64 0,.slice dA 13 dc,.int .i64 65536],.agg #[.slice X1 16 x1,.slice X2 16 x2,.int .i64 1],.int .i64 0]/\Bs w1 w1.heap.size (.slice dA 13 dc) b/\Bs w1 w1.heap.size (.slice X1 16 x1) Z16/\Bs w1 w1.heap.size (.slice X2 16 x2) Z16,
   fun v w1=>∃dA dc X1 x1 X2 x2,v 3=.tuple #[.agg #[.int .i64 12,.int .i64 176,.int .i64 0,.int .i64 0,.slice dA 13 dc,.int .i64 65536],.agg #[.slice X1 16 x1,.slice X2 16 x2,.int .i64 1],.int .i64 0]/\Bs w1 w1.heap.size (.slice dA 13 dc) b/\Bs w1 w1.heap.size (.slice X1 16 x1) Z16/\Bs w1 w1.heap.size (.slice X2 16 x2) Z16,
   fun v w1=>∃dA dc,v 4=.agg #[.int .i64 12,.int .i64 176,.int .i64 0,.int .i64 0,.slice dA 13 dc,.int .i64 65536]/\Bs w1 w1.heap.size (.slice dA 13 dc) b,
   fun v w1=>∃X1 x1 X2 x2,v 5=.agg #[.slice X1 16 x1,.slice X2 16 x2,.int .i64 1]/\Bs w1 w1.heap.size (.slice X1 16 x1) Z16/\Bs w1 w1.heap.size (.slice X2 16 x2) Z16,
   fun v _=>v 6=.int .i64 0,
   fun v w1=>True,
   fun v w1=>True,
   fun v w1=>∃q dA dc,v 7=.pointer (some ⟨q,0,none⟩)/\w1r.heap.size<=q/\w1.heap[q]?=some (.cells #[.int .i64 12,.int .i64 176,.int .i64 0,.int .i64 0,.slice dA 13 dc,.int .i64 65536] 32 (0,0))/\Bs w1 w1.heap.size (.slice dA 13 dc) b,
   fun v w1=>∃q X1 x1 X2 x2,v 8=.pointer (some ⟨q,0,none⟩)/\w1r.heap.size<=q/\w1.heap[q]?=some (.cells #[.slice X1 16 x1,.slice X2 16 x2,.int .i64 1] 29 (0,0))/\Bs w1 w1.heap.size (.slice X1 16 x1) Z16/\Bs w1 w1.heap.size (.slice X2 16 x2) Z16,
   fun v _=>v 11=.int .i64 0]
  (by kernel_rfl) (by kernel_rfl) (fun _=>JZ2.start) ?st2 ?steps2 ?tail2
 case st2=>
  exact(.cons (fun _ _ _ _ _ hr ⟨X1,x1,X2,x2,e,h1,h2⟩=>⟨X1,x1,X2,x2,e,h1.rz2 hr,h2.rz2 hr⟩) (.cons (fun _ _ _ _ _ _ h=>h) (.cons (fun _ _ _ _ _ hr ⟨dA,dc,X1,x1,X2,x2,e,h0,h1,h2⟩=>⟨dA,dc,X1,x1,X2,x2,e,h0.rz2 hr,h1.rz2 hr,h2.rz2 hr⟩) (.cons (fun _ _ _ _ _ hr ⟨dA,dc,X1,x1,X2,x2,e,h0,h1,h2⟩=>⟨dA,dc,X1,x1,X2,x2,e,h0.rz2 hr,h1.rz2 hr,h2.rz2 hr⟩) (.cons (fun _ _ _ _ _ hr ⟨dA,dc,e,h⟩=>⟨dA,dc,e,h.rz2 hr⟩) (.cons (fun _ _ _ _ _ hr ⟨X1,x1,X2,x2,e,h1,h2⟩=>⟨X1,x1,X2,x2,e,h1.rz2 hr,h2.rz2 hr⟩) (.cons (fun _ _ _ _ _ _ h=>h) (.cons (fun _ _ _ _ _ _ h=>h) (.cons (fun _ _ _ _ _ _ h=>h) (.cons (fun _ _ _ _ _ hr ⟨q,dA,dc,e,hq,hw,h⟩=>⟨q,dA,dc,e,hq,hr.row6 hw (by simp),h.rz2 hr⟩) (.cons (fun _ _ _ _ _ hr ⟨q,X1,x1,X2,x2,e,hq,hw,h1,h2⟩=>⟨q,X1,x1,X2,x2,e,hq,hr.row3 hw (by simp),h1.rz2 hr,h2.rz2 hr⟩) (.cons (fun _ _ _ _ _ _ h=>h) .nil))))))))))))
 case steps2=>
  simp only [List.take_succ_cons,List.take_zero]
  refine(.cons ?_ (.cons ?_ (.cons ?_ (.cons ?_ (.cons ?_ (.cons ?_ (.cons ?_ (.cons ?_ (.cons ?_ (.cons ?_ (.cons ?_ (.cons ?_ .nil))))))))))))
  all_goals(intro L v w1 hJ hL hA hF K hK;simp only [jf,Act.put,Nat.zero_add,Nat.reduceAdd,List.setIfInBounds_toArray,List.set_cons_zero,List.set_cons_succ]at hK |-)
  ·go_simp
   refine(Zi w1).mono ?_
   rintro e w5 ⟨X1,x1,X2,x2,rfl,h1,h2,hb⟩
   exact hK _ _ (hJ.step hb 0 (by decide) (by decide) (by decide) (by decide)) (RZ2.of hb) ⟨_,_,_,_,rfl,h1,h2⟩
  ·obtain⟨c0,c1,c2,c3,c4,c5,_⟩:=j5 ((hJ.1.block w.heap.size (iG HR1.out)).trans HR1.out)
   go_simp
   refine hK _ _ (hJ.step iB 1 (by decide) (by decide) (by decide) (by decide)) RZ2.refl ?_
   first|exact rfl|exact j6 _
  ·have e1:v 1=.agg #[.int .i64 0,.int .i64 176,.int .i64 0,.int .i64 0,.slice none 0 0,.int .i64 8]:=hF 1 (hA 1 (by simp))
   simp only [e1]at hK
   obtain⟨X1,x1,X2,x2,e0,h1,h2⟩:∃X1 x1 X2 x2,v 0=.agg #[.slice X1 16 x1,.slice X2 16 x2,.int .i64 0]/\Bs w1 w1.heap.size (.slice X1 16 x1) Z16/\Bs w1 w1.heap.size (.slice X2 16 x2) Z16:=hF 0 (hA 0 (by simp))
   simp only [e0]at hK
   go_simp
   refine(HWR.out (.slice X1 16 x1) (.slice X2 16 x2) w1 h1 h2).mono ?_
   rintro e w5 ⟨cv,sv,rfl,⟨dd,rfl,hd⟩,⟨y1,y2,rfl,g1,g2⟩,hb⟩
   obtain⟨dA,dc,hp⟩:∃A c,dd=.slice A 13 c:=(by obtain⟨a,c,e,_⟩:=hd;exact⟨a,c,by rw [e,LD2.out]⟩)
   obtain⟨Y1,c1,hp1⟩:∃A c,y1=.slice A 16 c:=(by obtain⟨a,c,e,_⟩:=g1;exact⟨a,c,by rw [e,q7]⟩)
   obtain⟨Y2,c2,hp2⟩:∃A c,y2=.slice A 16 c:=(by obtain⟨a,c,e,_⟩:=g2;exact⟨a,c,by rw [e,q7]⟩)
   subst hp;subst hp1;subst hp2
   exact hK _ _ (hJ.step hb 2 (by decide) (by decide) (by decide) (by decide)) (RZ2.of hb) ⟨_,_,_,_,_,_,rfl,hd,g1,g2⟩
  ·obtain⟨dA,dc,X1,x1,X2,x2,e2,h0,h1,h2⟩:∃dA dc X1 x1 X2 x2,v 2=.tuple #[.agg #[.int .i64 12,.int .i64 176,.int .i64 0,.int .i64 0,.slice dA 13 dc,.int .i64 65536],.agg #[.slice X1 16 x1,.slice X2 16 x2,.int .i64 1],.int .i64 0]/\Bs w1 w1.heap.size (.slice dA 13 dc) b/\Bs w1 w1.heap.size (.slice X1 16 x1) Z16/\Bs w1 w1.heap.size (.slice X2 16 x2) Z16:=hF 2 (hA 2 (by simp))
   simp only [e2]at hK
   go_simp
   exact hK _ _ (hJ.step iB 3 (by decide) (by decide) (by decide) (by decide)) RZ2.refl ⟨_,_,_,_,_,_,rfl,h0,h1,h2⟩
  ·obtain⟨dA,dc,X1,x1,X2,x2,e3,h0,h1,h2⟩:∃dA dc X1 x1 X2 x2,v 3=.tuple #[.agg #[.int .i64 12,.int .i64 176,.int .i64 0,.int .i64 0,.slice dA 13 dc,.int .i64 65536],.agg #[.slice X1 16 x1,.slice X2 16 x2,.int .i64 1],.int .i64 0]/\Bs w1 w1.heap.size (.slice dA 13 dc) b/\Bs w1 w1.heap.size (.slice X1 16 x1) Z16/\Bs w1 w1.heap.size (.slice X2 16 x2) Z16:=hF 3 (hA 3 (by simp))
   simp only [e3]at hK
   go_simp
   exact hK _ _ (hJ.step iB 4 (by decide) (by decide) (by decide) (by decide)) RZ2.refl ⟨_,_,rfl,h0⟩
  ·obtain⟨dA,dc,X1,x1,X2,x2,e3,h0,h1,h2⟩:∃dA dc X1 x1 X2 x2,v 3=.tuple #[.agg #[.int .i64 12,.int .i64 176,.int .i64 0,.int .i64 0,.slice dA 13 dc,.int .i64 65536],.agg #[.slice X1 16 x1,.slice X2 16 x2,.int .i64 1],.int .i64 0]/\Bs w1 w1.heap.size (.slice dA 13 dc) b/\Bs w1 w1.heap.size (.slice X1 16 x1) Z16/\Bs w1 w1.heap.size (.slice X2 16 x2) Z16:=hF 3 (hA 3 (by simp))
   simp only [e3]at hK
   go_simp
   exact hK _ _ (hJ.step iB 5 (by decide) (by decide) (by decide) (by decide)) RZ2.refl ⟨_,_,_,_,rfl,h1,h2⟩
  ·obtain⟨dA,dc,X1,x1,X2,x2,e3,h0,h1,h2⟩:∃dA dc X1 x1 X2 x2,v 3=.tuple #[.agg #[.int .i64 12,.int .i64 176,.int .i64 0,.int .i64 0,.slice dA 13 dc,.int .i64 65536],.agg #[.slice X1 16 x1,.slice X2 16 x2,.int .i64 1],.int .i64 0]/\Bs w1 w1.heap.size (.slice dA 13 dc) b/\Bs w1 w1.heap.size (.slice X1 16 x1) Z16/\Bs w1 w1.heap.size (.slice X2 16 x2) Z16:=hF 3 (hA 3 (by simp))
   simp only [e3]at hK
   go_simp
   exact hK _ _ (hJ.step iB 6 (by decide) (by decide) (by decide) (by decide)) RZ2.refl rfl
  ·go_simp
   exact hK _ _ (hJ.alloc6 (by decide) (by decide) (by decide)) (RZ2.of (iA)) trivial
  ·go_simp
   exact hK _ _ (hJ.alloc3 (by decide) (by decide) (by decide)) (RZ2.of (iA)) trivial
  ·obtain⟨q,e7,hq0,hq1,hrow⟩:=hJ.2.1 hL (hA 7 (by simp))
   obtain⟨dA,dc,e4,hd⟩:∃dA dc,v 4=.agg #[.int .i64 12,.int .i64 176,.int .i64 0,.int .i64 0,.slice dA 13 dc,.int .i64 65536]/\Bs w1 w1.heap.size (.slice dA 13 dc) b:=hF 4 (hA 4 (by simp))
   simp only [e7,e4]at hK |-
   obtain⟨z0,z1,z2,z3,z4,z5,zf⟩:=j5 hrow
   have zf0:=zf 0;have zf1:=zf 1;have zf2:=zf 2;have zf3:=zf 3;have zf4:=zf 4;have zf5:=zf 5
   clear zf
   go_simp
   exact hK undef _ (hJ.store6 hq0 hrow (by decide) (by decide) (by decide)) (RZ2.set6 hrow _ _ _ _ _ _) ⟨q,dA,dc,e7,hq0,kJ _ _ _ _ _ _ hrow,hd.rz2 (RZ2.set6 (w0:=w1r) hrow _ _ _ _ _ _)⟩
  ·obtain⟨q,e8,hq0,hq1,hrow⟩:=hJ.2.2 hL (hA 8 (by simp))
   obtain⟨X1,x1,X2,x2,e5,h1,h2⟩:∃X1 x1 X2 x2,v 5=.agg #[.slice X1 16 x1,.slice X2 16 x2,.int .i64 1]/\Bs w1 w1.heap.size (.slice X1 16 x1) Z16/\Bs w1 w1.heap.size (.slice X2 16 x2) Z16:=hF 5 (hA 5 (by simp))
   simp only [e8,e5]at hK |-
   obtain⟨z0,z1,z2,zf⟩:=jc hrow
   have zf0:=zf 0;have zf1:=zf 1;have zf2:=zf 2
   clear zf
   go_simp
   exact hK undef _ (hJ.store3 hq0 hrow (by decide) (by decide) (by decide)) (RZ2.set3 hrow _ _ _) ⟨q,X1,x1,X2,x2,e8,hq0,kB _ _ _ hrow,h1.rz2 (RZ2.set3 (w0:=w1r) hrow _ _ _),h2.rz2 (RZ2.set3 (w0:=w1r) hrow _ _ _)⟩
  ·have e6:v 6=.int .i64 0:=hF 6 (hA 6 (by simp))
   simp only [e6]at hK
   go_simp
   refine hK _ _ (hJ.step iB 11 (by decide) (by decide) (by decide) (by decide)) RZ2.refl ?_
   first|exact rfl|exact j6 _
 case tail2=>
  intro v w1 hJ hF
  have e1:v 1=.agg #[.int .i64 0,.int .i64 176,.int .i64 0,.int .i64 0,.slice none 0 0,.int .i64 8]:=hF 1 (by simp)
  have e6:v 6=.int .i64 0:=hF 6 (by simp)
  have e11:v 11=.int .i64 0:=hF 11 (by simp)
  obtain⟨qc2,dA2,dc2,e7,hqc,hrc,hdc⟩:∃q dA dc,v 7=.pointer (some ⟨q,0,none⟩)/\w1r.heap.size<=q/\w1.heap[q]?=some (.cells #[.int .i64 12,.int .i64 176,.int .i64 0,.int .i64 0,.slice dA 13 dc,.int .i64 65536] 32 (0,0))/\Bs w1 w1.heap.size (.slice dA 13 dc) b:=hF 9 (by simp)
  obtain⟨qs2,X1,x1,X2,x2,e8,hqs,hrs,hx1,hx2⟩:∃q X1 x1 X2 x2,v 8=.pointer (some ⟨q,0,none⟩)/\w1r.heap.size<=q/\w1.heap[q]?=some (.cells #[.slice X1 16 x1,.slice X2 16 x2,.int .i64 1] 29 (0,0))/\Bs w1 w1.heap.size (.slice X1 16 x1) Z16/\Bs w1 w1.heap.size (.slice X2 16 x2) Z16:=hF 10 (by simp)
  simp only [List.drop_succ_cons,List.drop_zero,jf,Act.put,Nat.zero_add,Nat.reduceAdd,List.setIfInBounds_toArray,List.set_cons_zero,List.set_cons_succ]
  simp only [e7,e8,e11]
  clear e1 e6 e7 e8 e11
  obtain⟨w2r,hw2⟩:∃w2r,w2r=w1:=⟨_,rfl⟩
  rw [<-hw2]at hJ hrc hrs hdc |-
  have HRC2:=iH hrc;have HRS2:=iH hrs;have HD2:=iH hdc
  have HBW2:=iH (HBW1.out.trans (hJ.1.mono HBW1.out.size))
  clear hJ hF hrc hrs hdc hx1 hx2 hqc hqs hw2
  go_upto_region 3 with fail
  refine jg 12 [some 17,some 18,some 19,some 16,some 20,some 21,some 22,some 5,some 6,none,none,some 7] [[],[],[0,1],[0,1,2],[0,1,2,3],[0,1,2,3],[0,1,2,3],[],[],[0,1,2,3,4,7,8],[0,1,2,3,4,5,7,8,9],[0,1,2,3,4,5,6,7,8,9,10]]
   (JZ2 w2r 7 9 8 10) (RZ2 w2r)
   [fun v w1=>∃X1 x1 X2 x2,v 0=.agg #[.slice X1 16 x1,.slice X2 16 x2,.int .i64 0]/\Bs w1 w1.heap.size (.slice X1 16 x1) Z16/\Bs w1 w1.heap.size (.slice X2 16 x2) Z16,
    fun v _=>v 1=.agg #[.int .i64 12,.int .i64 176,.int .i64 0,.int .i64 0,.slice dA2 13 dc2,.int .i64 65536],
    fun v w1=>∃dA dc X1 x1 X2 x2,v 2=.tuple #[.agg #[.int .i64 0,.int .i64 176,.int .i64 0,.int .i64 0,.slice dA 0 dc,.int .i64 8],.agg #[.slice X1 16 x1,.slice X2 16 x2,.int .i64 1],.int .i64 0]/\Bs w1 w1.heap.size (.slice dA 0 dc) []/\Bs w1 w1.heap.size (.slice X1 16 x1) Z16/\Bs w1 w1.heap.size (.slice X2 16 x2) Z16,
    fun v w1=>∃dA dc X1 x1 X2 x2,v 3=.tuple #[.agg #[.int .i64 0,.int .i64 176,.int .i64 0,.int .i64 0,.slice dA 0 dc,.int .i64 8],.agg #[.slice X1 16 x1,.slice X2 16 x2,.int .i64 1],.int .i64 0]/\Bs w1 w1.heap.size (.slice dA 0 dc) []/\Bs w1 w1.heap.size (.slice X1 16 x1) Z16/\Bs w1 w1.heap.size (.slice X2 16 x2) Z16,
    fun v w1=>∃dA dc,v 4=.agg #[.int .i64 0,.int .i64 176,.int .i64 0,.int .i64 0,.slice dA 0 dc,.int .i64 8]/\Bs w1 w1.heap.size (.slice dA 0 dc) [],
    fun v w1=>∃X1 x1 X2 x2,v 5=.agg #[.slice X1 16 x1,.slice X2 16 x2,.int .i64 1]/\Bs w1 w1.heap.size (.slice X1 16 x1) Z16/\Bs w1 w1.heap.size (.slice X2 16 x2) Z16,
    fun v _=>v 6=.int .i64 0,
    fun v w1=>True,
    fun v w1=>True,
    fun v w1=>∃q dA dc,v 7=.pointer (some ⟨q,0,none⟩)/\w2r.heap.size<=q/\w1.heap[q]?=some (.cells #[.int .i64 0,.int .i64 176,.int .i64 0,.int .i64 0,.slice dA 0 dc,.int .i64 8] 32 (0,0))/\Bs w1 w1.heap.size (.slice dA 0 dc) [],
    fun v w1=>∃q X1 x1 X2 x2,v 8=.pointer (some ⟨q,0,none⟩)/\w2r.heap.size<=q/\w1.heap[q]?=some (.cells #[.slice X1 16 x1,.slice X2 16 x2,.int .i64 1] 29 (0,0))/\Bs w1 w1.heap.size (.slice X1 16 x1) Z16/\Bs w1 w1.heap.size (.slice X2 16 x2) Z16,
    fun v _=>v 11=.int .i64 0]
   (by kernel_rfl) (by kernel_rfl) (fun _=>JZ2.start) ?st3 ?steps3 ?tail3
  case st3=>
   exact(.cons (fun _ _ _ _ _ hr ⟨X1,x1,X2,x2,e,h1,h2⟩=>⟨X1,x1,X2,x2,e,h1.rz2 hr,h2.rz2 hr⟩) (.cons (fun _ _ _ _ _ _ h=>h) (.cons (fun _ _ _ _ _ hr ⟨dA,dc,X1,x1,X2,x2,e,h0,h1,h2⟩=>⟨dA,dc,X1,x1,X2,x2,e,h0.rz2 hr,h1.rz2 hr,h2.rz2 hr⟩) (.cons (fun _ _ _ _ _ hr ⟨dA,dc,X1,x1,X2,x2,e,h0,h1,h2⟩=>⟨dA,dc,X1,x1,X2,x2,e,h0.rz2 hr,h1.rz2 hr,h2.rz2 hr⟩) (.cons (fun _ _ _ _ _ hr ⟨dA,dc,e,h⟩=>⟨dA,dc,e,h.rz2 hr⟩) (.cons (fun _ _ _ _ _ hr ⟨X1,x1,X2,x2,e,h1,h2⟩=>⟨X1,x1,X2,x2,e,h1.rz2 hr,h2.rz2 hr⟩) (.cons (fun _ _ _ _ _ _ h=>h) (.cons (fun _ _ _ _ _ _ h=>h) (.cons (fun _ _ _ _ _ _ h=>h) (.cons (fun _ _ _ _ _ hr ⟨q,dA,dc,e,hq,hw,h⟩=>⟨q,dA,dc,e,hq,hr.row6 hw (by simp),h.rz2 hr⟩) (.cons (fun _ _ _ _ _ hr ⟨q,X1,x1,X2,x2,e,hq,hw,h1,h2⟩=>⟨q,X1,x1,X2,x2,e,hq,hr.row3 hw (by simp),h1.rz2 hr,h2.rz2 hr⟩) (.cons (fun _ _ _ _ _ _ h=>h) .nil))))))))))))
  case steps3=>
   simp only [List.take_succ_cons,List.take_zero]
   refine(.cons ?_ (.cons ?_ (.cons ?_ (.cons ?_ (.cons ?_ (.cons ?_ (.cons ?_ (.cons ?_ (.cons ?_ (.cons ?_ (.cons ?_ (.cons ?_ .nil))))))))))))
   all_goals(intro L v w1 hJ hL hA hF K hK;simp only [jf,Act.put,Nat.zero_add,Nat.reduceAdd,List.setIfInBounds_toArray,List.set_cons_zero,List.set_cons_succ]at hK |-)
   ·go_simp
    refine(Zi w1).mono ?_
    rintro e w5 ⟨X1,x1,X2,x2,rfl,h1,h2,hb⟩
    exact hK _ _ (hJ.step hb 0 (by decide) (by decide) (by decide) (by decide)) (RZ2.of hb) ⟨_,_,_,_,rfl,h1,h2⟩
   ·obtain⟨c0,c1,c2,c3,c4,c5,_⟩:=j5 ((hJ.1.block qc2 (iG HRC2.out)).trans HRC2.out)
    go_simp
    refine hK _ _ (hJ.step iB 1 (by decide) (by decide) (by decide) (by decide)) RZ2.refl ?_
    first|exact rfl|exact j6 _
   ·have e1:v 1=.agg #[.int .i64 12,.int .i64 176,.int .i64 0,.int .i64 0,.slice dA2 13 dc2,.int .i64 65536]:=hF 1 (hA 1 (by simp))
    simp only [e1]at hK
    obtain⟨X1,x1,X2,x2,e0,h1,h2⟩:∃X1 x1 X2 x2,v 0=.agg #[.slice X1 16 x1,.slice X2 16 x2,.int .i64 0]/\Bs w1 w1.heap.size (.slice X1 16 x1) Z16/\Bs w1 w1.heap.size (.slice X2 16 x2) Z16:=hF 0 (hA 0 (by simp))
    simp only [e0]at hK
    go_simp
    refine(HUN.out (.slice X1 16 x1) (.slice X2 16 x2) (.slice dA2 13 dc2) w1 h1 h2 (HD2.out.lift hJ.1)).mono ?_
    rintro e w5 ⟨cv,sv,rfl,⟨dd,rfl,hd⟩,⟨y1,y2,rfl,g1,g2⟩,hb⟩
    obtain⟨dA,dc,hp⟩:∃A c,dd=.slice A 0 c:=(by obtain⟨a,c,e,_⟩:=hd;exact⟨a,c,by rw [e,LD3.out]⟩)
    obtain⟨Y1,c1,hp1⟩:∃A c,y1=.slice A 16 c:=(by obtain⟨a,c,e,_⟩:=g1;exact⟨a,c,by rw [e,q7]⟩)
    obtain⟨Y2,c2,hp2⟩:∃A c,y2=.slice A 16 c:=(by obtain⟨a,c,e,_⟩:=g2;exact⟨a,c,by rw [e,q7]⟩)
    subst hp;subst hp1;subst hp2
    exact hK _ _ (hJ.step hb 2 (by decide) (by decide) (by decide) (by decide)) (RZ2.of hb) ⟨_,_,_,_,_,_,rfl,hd,g1,g2⟩
   ·obtain⟨dA,dc,X1,x1,X2,x2,e2,h0,h1,h2⟩:∃dA dc X1 x1 X2 x2,v 2=.tuple #[.agg #[.int .i64 0,.int .i64 176,.int .i64 0,.int .i64 0,.slice dA 0 dc,.int .i64 8],.agg #[.slice X1 16 x1,.slice X2 16 x2,.int .i64 1],.int .i64 0]/\Bs w1 w1.heap.size (.slice dA 0 dc) []/\Bs w1 w1.heap.size (.slice X1 16 x1) Z16/\Bs w1 w1.heap.size (.slice X2 16 x2) Z16:=hF 2 (hA 2 (by simp))
    simp only [e2]at hK
    go_simp
    exact hK _ _ (hJ.step iB 3 (by decide) (by decide) (by decide) (by decide)) RZ2.refl ⟨_,_,_,_,_,_,rfl,h0,h1,h2⟩
   ·obtain⟨dA,dc,X1,x1,X2,x2,e3,h0,h1,h2⟩:∃dA dc X1 x1 X2 x2,v 3=.tuple #[.agg #[.int .i64 0,.int .i64 176,.int .i64 0,.int .i64 0,.slice dA 0 dc,.int .i64 8],.agg #[.slice X1 16 x1,.slice X2 16 x2,.int .i64 1],.int .i64 0]/\Bs w1 w1.heap.size (.slice dA 0 dc) []/\Bs w1 w1.heap.size (.slice X1 16 x1) Z16/\Bs w1 w1.heap.size (.slice X2 16 x2) Z16:=hF 3 (hA 3 (by simp))
    simp only [e3]at hK
    go_simp
    exact hK _ _ (hJ.step iB 4 (by decide) (by decide) (by decide) (by decide)) RZ2.refl ⟨_,_,rfl,h0⟩
   ·obtain⟨dA,dc,X1,x1,X2,x2,e3,h0,h1,h2⟩:∃dA dc X1 x1 X2 x2,v 3=.tuple #[.agg #[.int .i64 0,.int .i64 176,.int .i64 0,.int .i64 0,.slice dA 0 dc,.int .i64 8],.agg #[.slice X1 16 x1,.slice X2 16 x2,.int .i64 1],.int .i64 0]/\Bs w1 w1.heap.size (.slice dA 0 dc) []/\Bs w1 w1.heap.size (.slice X1 16 x1) Z16/\Bs w1 w1.heap.size (.slice X2 16 x2) Z16:=hF 3 (hA 3 (by simp))
    simp only [e3]at hK
    go_simp
    exact hK _ _ (hJ.step iB 5 (by decide) (by decide) (by decide) (by decide)) RZ2.refl ⟨_,_,_,_,rfl,h1,h2⟩
   ·obtain⟨dA,dc,X1,x1,X2,x2,e3,h0,h1,h2⟩:∃dA dc X1 x1 X2 x2,v 3=.tuple #[.agg #[.int .i64 0,.int .i64 176,.int .i64 0,.int .i64 0,.slice dA 0 dc,.int .i64 8],.agg #[.slice X1 16 x1,.slice X2 16 x2,.int .i64 1],.int .i64 0]/\Bs w1 w1.heap.size (.slice dA 0 dc) []/\Bs w1 w1.heap.size (.slice X1 16 x1) Z16/\Bs w1 w1.heap.size (.slice X2 16 x2) Z16:=hF 3 (hA 3 (by simp))
    simp only [e3]at hK
    go_simp
    exact hK _ _ (hJ.step iB 6 (by decide) (by decide) (by decide) (by decide)) RZ2.refl rfl
   ·go_simp
    exact hK _ _ (hJ.alloc6 (by decide) (by decide) (by decide)) (RZ2.of (iA)) trivial
   ·go_simp
    exact hK _ _ (hJ.alloc3 (by decide) (by decide) (by decide)) (RZ2.of (iA)) trivial
   ·obtain⟨q,e7,hq0,hq1,hrow⟩:=hJ.2.1 hL (hA 7 (by simp))
    obtain⟨dA,dc,e4,hd⟩:∃dA dc,v 4=.agg #[.int .i64 0,.int .i64 176,.int .i64 0,.int .i64 0,.slice dA 0 dc,.int .i64 8]/\Bs w1 w1.heap.size (.slice dA 0 dc) []:=hF 4 (hA 4 (by simp))
    simp only [e7,e4]at hK |-
    obtain⟨z0,z1,z2,z3,z4,z5,zf⟩:=j5 hrow
    have zf0:=zf 0;have zf1:=zf 1;have zf2:=zf 2;have zf3:=zf 3;have zf4:=zf 4;have zf5:=zf 5
    clear zf
    go_simp
    exact hK undef _ (hJ.store6 hq0 hrow (by decide) (by decide) (by decide)) (RZ2.set6 hrow _ _ _ _ _ _) ⟨q,dA,dc,e7,hq0,kJ _ _ _ _ _ _ hrow,hd.rz2 (RZ2.set6 (w0:=w2r) hrow _ _ _ _ _ _)⟩
   ·obtain⟨q,e8,hq0,hq1,hrow⟩:=hJ.2.2 hL (hA 8 (by simp))
    obtain⟨X1,x1,X2,x2,e5,h1,h2⟩:∃X1 x1 X2 x2,v 5=.agg #[.slice X1 16 x1,.slice X2 16 x2,.int .i64 1]/\Bs w1 w1.heap.size (.slice X1 16 x1) Z16/\Bs w1 w1.heap.size (.slice X2 16 x2) Z16:=hF 5 (hA 5 (by simp))
    simp only [e8,e5]at hK |-
    obtain⟨z0,z1,z2,zf⟩:=jc hrow
    have zf0:=zf 0;have zf1:=zf 1;have zf2:=zf 2
    clear zf
    go_simp
    exact hK undef _ (hJ.store3 hq0 hrow (by decide) (by decide) (by decide)) (RZ2.set3 hrow _ _ _) ⟨q,X1,x1,X2,x2,e8,hq0,kB _ _ _ hrow,h1.rz2 (RZ2.set3 (w0:=w2r) hrow _ _ _),h2.rz2 (RZ2.set3 (w0:=w2r) hrow _ _ _)⟩
   ·have e6:v 6=.int .i64 0:=hF 6 (hA 6 (by simp))
    simp only [e6]at hK
    go_simp
    refine hK _ _ (hJ.step iB 11 (by decide) (by decide) (by decide) (by decide)) RZ2.refl ?_
    first|exact rfl|exact j6 _
  case tail3=>
   intro v w1 hJ hF
   have e1:v 1=.agg #[.int .i64 12,.int .i64 176,.int .i64 0,.int .i64 0,.slice dA2 13 dc2,.int .i64 65536]:=hF 1 (by simp)
   have e6:v 6=.int .i64 0:=hF 6 (by simp)
   have e11:v 11=.int .i64 0:=hF 11 (by simp)
   obtain⟨qc3,dA3,dc3,e7,hqc,hrc,hdc⟩:∃q dA dc,v 7=.pointer (some ⟨q,0,none⟩)/\w2r.heap.size<=q/\w1.heap[q]?=some (.cells #[.int .i64 0,.int .i64 176,.int .i64 0,.int .i64 0,.slice dA 0 dc,.int .i64 8] 32 (0,0))/\Bs w1 w1.heap.size (.slice dA 0 dc) []:=hF 9 (by simp)
   obtain⟨qs3,X1,x1,X2,x2,e8,hqs,hrs,hx1,hx2⟩:∃q X1 x1 X2 x2,v 8=.pointer (some ⟨q,0,none⟩)/\w2r.heap.size<=q/\w1.heap[q]?=some (.cells #[.slice X1 16 x1,.slice X2 16 x2,.int .i64 1] 29 (0,0))/\Bs w1 w1.heap.size (.slice X1 16 x1) Z16/\Bs w1 w1.heap.size (.slice X2 16 x2) Z16:=hF 10 (by simp)
   simp only [List.drop_succ_cons,List.drop_zero,jf,Act.put,Nat.zero_add,Nat.reduceAdd,List.setIfInBounds_toArray,List.set_cons_zero,List.set_cons_succ]
   simp only [e7,e8,e11]
   clear e1 e6 e7 e8 e11
   obtain⟨w3r,hw3⟩:∃w3r,w3r=w1:=⟨_,rfl⟩
   rw [<-hw3]at hJ hrc hrs |-
   obtain⟨y0,y1,y2,_⟩:=jc hrs
   obtain⟨z0,z1,z2,z3,z4,z5,_⟩:=j5 hrc
   obtain⟨x0,x1',x2',x3,x4,x5,_⟩:=j5 ((hJ.1.block qc2 (iG HRC2.out)).trans HRC2.out)
   obtain⟨u0,u1,u2,_⟩:=jc ((hJ.1.block qs2 (iG HRS2.out)).trans HRS2.out)
   have HB3:=iH (HBW2.out.trans (hJ.1.mono HBW2.out.size))
   clear hJ hF hrc hrs hdc hx1 hx2 hqc hqs hw3
   go_wp2_with fail
   go_ret
   exact⟨rfl,HB3.out⟩
theorem OwnB.slot{w:World}{base:Nat}{A:Option Addr}{c:Nat}{l:List UInt8}(h:OwnB w base (.slice A l.length c) l)(hl:0<l.length):
 ∃g,A=some ⟨g,0,none⟩/\base<=g/\g<w.heap.size/\l.length<=c/\c<=9223372036854775807/\(∀j,j<l.length->w.cell? ⟨g,j,none⟩=some (U8 (gb l j)))/\∀j,w.frozen? ⟨g,j,none⟩=false:=by
 have hc:=fun g=>World.ownsRow.cells h (g:=g)
 rcases h.2 with ⟨e,h0⟩|⟨g,cap,cur,hv,hb,hh,hn,hm,r⟩
 ·omega
 ·injection hv with e1 _ e3
  subst e1 e3
  refine⟨g,rfl,hb,(iG hh),hn,hm,fun j hj=> ?_,fun j=>by simp [World.frozen?,hh]⟩
  have:=hc g rfl j (U8 (gb l j)) (jM l j hj)
  have e:(⟨g,0,none⟩:Addr).add j=⟨g,0+j,none⟩:=by unfold Addr.add;split<;>simp_all
  rwa [e,Nat.zero_add]at this
theorem BsS.set{w:World}{S:Nat->Prop}{g c k:Nat}{l:List UInt8}(h:BsS w S (.slice (some ⟨g,0,none⟩) l.length c) l)(hk:k<l.length)(u:UInt8):BsS (w.setCell ⟨g,k,none⟩ (U8 u)) S (.slice (some ⟨g,0,none⟩) l.length c) (l.set k u):=by
 obtain⟨a,c',hv,h1,h2,h3,h4⟩:=h
 injection hv with e1 e2 e3
 subst e1 e3
 have hll:(l.set k u).length=l.length:=by simp
 refine⟨_,c,by rw [hll],by omega,h2,by omega,fun hp=> ?_⟩
 rw [hll]at hp
 obtain⟨b,off,ha,hb,hc⟩:=h4 hp
 injection ha with ha
 injection ha with ha1 ha2
 subst ha1 ha2
 refine⟨g,0,rfl,hb,fun j hj=> ?_⟩
 rw [hll]at hj
 by_cases e:j=k
 ·subst e
  rw [Nat.zero_add]
  have:=hc j hj
  rw [Nat.zero_add]at this
  rw [World.cell?_setCell_same (h:=this)]
  congr 2
  unfold gb
  simp [hj]
 ·rw [World.cell?_setCell_other (h:=by intro h;injection h with _ h;omega),hc j hj]
  congr 2
  unfold gb
  simp [show ¬k=j by omega]
theorem UB{x:Int}(h0:0<=x)(h1:x<256):∃u:UInt8,Value.int .u8 x=U8 u:=⟨ofI x,by rw [<-j6,Int.emod_eq_of_lt h0 h1]⟩
def Qb(B:Nat)(w:World)(p n:Nat)(l:List UInt8)(e:Ending)(w':World):Prop:=∃v' l',e=.returned v'/\BsS w' (New w w') v' l'/\l'.length<=l.length+1/\DiePost B w p n w'
theorem Qq{B:Nat}{w wi:World}{p n g c k:Nat}{l:List UInt8}(h:DRow B w wi p n (.slice (some ⟨g,0,none⟩) l.length c) l)(hl:l.length<=1000000000)(hk:k<l.length){x:Int}(h0:0<=x)(h1:x<256):
 Qb B w p n l (.returned (.slice (some ⟨g,0,none⟩) l.length c)) (wi.setCell ⟨g,k,none⟩ (.int .u8 x)):=by
 obtain⟨u,hu⟩:=UB h0 h1
 rw [hu]
 have hg:=(h.own.lt g rfl)
 have hb:=h.own.out (by omega) w iL
 have hB:=h.2.2
 refine⟨_,l.set k u,rfl,(hb.set hk u).keep fun b hs _=>⟨rfl,hs.1,by simpa [World.setCell]using hs.2⟩,by simp,h.die.keep (by simp [World.setCell]) fun b hb=>Below.heap_setCell _ _ _ _ (by show b≠g;omega),?_⟩
 have h2:=h.2.1.2
 exact⟨h2.os,h2.tape,h2.output,by simpa [World.setCell]using h2.size,fun i hi hne=>(Below.heap_setCell _ _ _ _ (by show i≠g;omega)).trans (h2.block i hi hne)⟩
theorem Qa(g:Nat):∀(vs:List Value) (o:Nat) (w:World),(w.setCells g o vs).heap.size=w.heap.size/\(w.setCells g o vs).os=w.os/\(w.setCells g o vs).tape=w.tape/\(w.setCells g o vs).output=w.output/\∀i,i≠g->(w.setCells g o vs).heap[i]?=w.heap[i]? :=by
 intro vs
 induction vs with
 |nil=>intro o w;exact⟨rfl,rfl,rfl,rfl,fun _ _=>rfl⟩
 |cons v vs ih=>
  intro o w
  obtain⟨h1,h2,h3,h4,h5⟩:=ih (o+1) (w.setCell ⟨g,o,none⟩ v)
  exact⟨h1.trans (by simp [World.setCell]),h2,h3,h4,fun i hi=>(h5 i hi).trans (Below.heap_setCell _ _ _ _ hi)⟩
theorem VT{B:Nat}{w wi:World}{p n g c k:Nat}{l:List UInt8}(h:DRow B w wi p n (.slice (some ⟨g,0,none⟩) l.length c) l)(hl:l.length<=1000000000)(hk:k<l.length)(hc:l.length<=c)(sc:∀j,j<l.length->wi.cell? ⟨g,j,none⟩=some (U8 (gb l j))):
 Qb B w p n l (.returned (.slice (some ⟨g,0,none⟩) (k+(l.length - (k+1))) c)) (wi.drew.setCells g (0+k*1) ((l.drop (k+1)).map U8)):=by
 have hg:=(h.own.lt g rfl)
 have hB:=h.2.2
 obtain⟨_,_,hv,_,hcm,_,_⟩:=h.own.out (by omega) w iL
 injection hv with _ _ hv
 subst hv
 obtain⟨e1,e2,e3,e4,e5⟩:=Qa g ((l.drop (k+1)).map U8) (0+k*1) wi.drew
 rw [Nat.zero_add,Nat.mul_one]at e1 e2 e3 e4 e5 |-
 have h2:=h.2.1.2
 have hln:(l.take k++l.drop (k+1)).length=k+(l.length - (k+1)):=by simp;omega
 refine⟨_,l.take k++l.drop (k+1),rfl,⟨_,c,by rw [hln],by omega,hcm,by omega,fun _=>⟨g,0,rfl,⟨hg.1,by rw [e1];exact hg.2⟩,fun j hj=> ?_⟩⟩,by omega,h.die.keep (by rw [e1];exact Nat.le_refl _) fun b hb=>e5 b (by omega),⟨e2.trans h2.os,e3.trans h2.tape,e4.trans h2.output,by rw [e1];exact h2.size,fun i hi hne=>(e5 i (by omega)).trans (h2.block i hi hne)⟩⟩
 rw [hln]at hj
 rw [Nat.zero_add]
 by_cases hjk:j<k
 ·rw [World.cell?_setCells_out g _ k wi.drew ⟨g,j,none⟩ (fun _ _=>.inl hjk)]
  refine(sc j (by omega)).trans ?_
  congr 2
  unfold gb
  have hlt:min k l.length=k:=by omega
  simp [List.getElem?_append,hjk,hlt,show j<l.length by omega]
 ·have hvl:j - k<((l.drop (k+1)).map U8).length:=by simp;omega
  have:=World.cell?_setCells_in g ((l.drop (k+1)).map U8) k wi.drew (fun q hq=>by
   have hq:q<l.length - (k+1):=by simpa using hq
   show(wi.cell? _).isSome=true
   rw [sc (k+q) (by omega)];rfl) (j - k) hvl
  rw [show k+(j - k)=j by omega]at this
  rw [this]
  congr 1
  simp only [List.getElem_map,List.getElem_drop]
  congr 1
  unfold gb
  have hlt:min k l.length=k:=by omega
  simp [List.getElem?_append,hjk,hlt,show k+1+(j - k)<l.length by omega]
theorem UJ(B p n:Nat)(l:List UInt8)(v:Value)(w:World)(hv:BsS w (fun b=>b<w.heap.size/\b≠p) v l)(hl:l.length<=1000000000)(hd:Die B w p n):
 Calls Tryz.prog 16 #[.pointer (some ⟨p,0,none⟩),v] w (Qb B w p n l):=by
 have H0:=iH (DRow.start hd)
 obtain⟨va,vc,rfl⟩:=hv.form2
 have HV:=iH hv
 clear hv hd
 rcases Nat.eq_zero_or_pos l.length with hl0|hl0
 ·have e:l= []:=List.eq_nil_of_length_eq_zero hl0
  subst e
  clear hl0
  go_enter Tryz.func16,Tryz.ntmps16
  go_wp2_with(first
   |(at_builtin;(with_reducible refine jb rfl (.const (.slice none 0 0)) (.tmp 7) rfl w.heap.size (.slice none 0 0) [] rfl H0.out.own va ([]:List UInt8).length vc [] _ rfl HV.out (by simp) iL ?_);intro v1 w1 hgr;have H1:=iH (H0.out.grew hgr);obtain⟨a1,c1,rfl⟩:=H1.out.own.form;clear hgr)
   |(go_at_call 15;refine(jr B p n _ _ H1.out.die (by decide) (by decide)).mono ?_;rintro e w2 ⟨z,rfl,hz,hd⟩;have H2:=iH (H1.out.call hd);clear hd))
  go_ret
  obtain⟨u,hu⟩:=UB (x:=(z:Int)) (by omega) (by omega)
  rw [hu]
  have hH:=H2.out
  refine⟨_,[u],rfl,(Jy w2 [u] _ (by simp) _ rfl).keep fun b hs _=>⟨rfl,by have:=hs.1;have:=hH.size;omega,hs.2⟩,by simp,(hH.alloc _).2.1⟩
 ·have HX:=iH hl
  go_enter Tryz.func16,Tryz.ntmps16
  go_upto_region 7 with (first
   |(at_builtin;(with_reducible refine jb rfl (.const (.slice none 0 0)) (.tmp 7) rfl w.heap.size (.slice none 0 0) [] rfl H0.out.own va l.length vc l _ rfl HV.out (by simp;omega) iL ?_);intro v1 w1 hgr;rw [List.nil_append]at hgr;have H1:=iH (H0.out.grew hgr);obtain⟨a1,c1,rfl⟩:=H1.out.own.form;clear hgr)
   |(go_at_call 15;refine(jr B p n _ _ H2.out.die (by decide) (by decide)).mono ?_;rintro e w3 ⟨q,rfl,hq,hd⟩;have H3:=iH (H2.out.call hd);clear hd)
   |(go_at_call 15;refine(jr B p n _ _ H1.out.die (by omega) (by omega)).mono ?_;rintro e w2 ⟨k,rfl,hk,hd⟩;have H2:=iH (H1.out.call hd);clear hd))
  have hkl:k<l.length:=by omega
  obtain⟨g,rfl,hg1,hg2,hg3,hg4,sc,sf⟩:=H3.out.own.slot hl0
  have hpg:p≠g:=by have:=H3.out.die.lt;have:=H3.out.2.2;omega
  have ck:=sc k hkl;have fk:=sf k
  have SC:=iH sc;have SF:=iH sf
  clear sc sf H0 HV
  obtain rfl|rfl|rfl|rfl:q=0\/q=1\/q=2\/q=3:=by omega
  ·have ih5:=iH (fun(w4:World) (h:DRow B w w4 p n (.slice (some ⟨g,0,none⟩) l.length c1) l)=>h.own.slot hl0)
   go_wp2_with(go_at_call 15;refine(jr B p n _ _ H3.out.die (by decide) (by decide)).mono ?_;rintro e w4 ⟨z,rfl,hz,hd⟩;have H4:=iH (H3.out.call hd);obtain⟨g',e1,_,_,_,_,sc,sf⟩:=ih5.out w4 H4.out;obtain rfl:g=g':=(by injection e1 with e1;injection e1);have c4:=sc k hkl;have f4:=sf k;clear hd e1 sc sf)
   go_ret
   exact Qq H4.out HX.out hkl (by omega) (by omega)
  ·have D4:Hid (Die B w3.drew p n):=(show Die B w3.drew p n from H3.out.die)
   have ih5:=iH (fun(w4:World) (h:DRow B w w4 p n (.slice (some ⟨g,0,none⟩) l.length c1) l)=>h.own.slot hl0)
   go_upto_region 10 with fail
   go_region_with (go_at_call 15;refine(jr B p n _ _ D4.out (by decide) (by decide)).mono ?_;rintro e w4 ⟨z,rfl,hz,hd⟩;have H4:=iH (H3.out.call (show DiePost B w3 p n w4 from⟨hd.1,⟨hd.2.os,hd.2.tape,hd.2.output,hd.2.size,hd.2.block⟩⟩));obtain⟨g',e1,_,_,_,_,sc,sf⟩:=ih5.out w4 H4.out;obtain rfl:g=g':=(by injection e1 with e1;injection e1);have c4:=sc k hkl;have f4:=sf k;clear hd e1 sc sf)
   all_goals go_wp2_with fail
   all_goals go_ret
   all_goals exact Qq H4.out HX.out hkl (jL _) (jP _)
  ·obtain⟨A,hA,hnews⟩:∃A:Addr,(if c1=k+1 then some (⟨g,0,none⟩:Addr)else some ⟨g,k+1,none⟩)=some A/\Hid (∀j u,((l.drop (k+1)).map U8)[j]?=some u->w3.drew.cell? (A.add j)=some u):=by
    by_cases h:c1=k+1
    ·refine⟨⟨g,0,none⟩,by simp [h],fun j u hu=> ?_⟩
     have h0:((l.drop (k+1)).map U8)= []:=by rw [List.drop_eq_nil_of_le (by omega)];rfl
     rw [h0]at hu
     simp at hu
    ·refine⟨⟨g,k+1,none⟩,by simp [h],fun j u hu=> ?_⟩
     have hj:j<l.length - (k+1):=by
      have:=(List.getElem?_eq_some_iff.1 hu).1
      simpa using this
     rw [jM _ j (by simpa using hj)]at hu
     injection hu with hu
     subst hu
     rw [Addr.add_lit,XE]
     exact SC.out (k+1+j) (by omega)
   have s1:Hid (((l.drop (k+1)).map U8).length=(l.length - (k+1))*1):=by show _=_;simp
   have s2:Hid (∀u∈(l.drop (k+1)).map U8,u.oneCell'=true):=by
    intro u hu
    obtain⟨x,_,rfl⟩:=List.mem_map.1 hu
    rfl
   have s3:Hid (∀j,j<((l.drop (k+1)).map U8).length->(w3.drew.cell? ⟨g,0+k*1+j,none⟩).isSome=true/\w3.drew.frozen? ⟨g,0+k*1+j,none⟩=false):=by
    intro j hj
    have hj:j<l.length - (k+1):=by simpa using hj
    rw [Nat.zero_add,Nat.mul_one]
    exact⟨by show(w3.cell? _).isSome=true;rw [SC.out (k+j) (by omega)];rfl,SF.out (k+j)⟩
   have hic:k<=c1:=by omega
   have hwr:IntKind.i64.wrap ((k:Int)+1)=(k:Int)+1:=by rw [IntKind.wrap_i64];omega
   have hp0:(0:Int)<=(k:Int)+1:=by omega
   have hp1:(k:Int)+1<=(l.length:Int):=by omega
   have hp2:((k:Int)+1).toNat=k+1:=by omega
   obtain⟨i0,hinfo,hzz⟩:=Option.map_eq_some_iff.1 ku
   simp only [Prod.mk.injEq]at hzz
   obtain⟨hz,hsize,hbb⟩:=hzz
   have HI:=iH hinfo;have HZ:=iH hsize
   clear hinfo hsize hz hbb ck fk
   go_upto_region 12 with fail
   go_region_law (refine step_append_room rfl (.tmp 52) (.tmp 56) 27 rfl 5 i0 1 Tryz.underlying27 HI.out HZ.out g 0 k c1 (by simp [Act.eval,Act.put]) A (l.length - (k+1)) (c1 - (k+1)) ((l.drop (k+1)).map U8) (by simp [Act.eval,Act.put]) s1.out hnews.out s2.out (by omega) s3.out ?_)
   go_wp2_with fail
   go_ret
   have e:=VT H3.out HX.out hkl hg3 SC.out
   rw [Nat.zero_add,Nat.mul_one,List.map_drop]at e
   exact e
  ·go_wp2_with(first
    |(at_builtin;(with_reducible refine xd rfl (.tmp 22) (.tmp 26) rfl w.heap.size (.slice (some ⟨g,0,none⟩) l.length c1) l rfl H4.out.own (z:Int) (by omega) (by omega) _ w4.heap.size rfl rfl (by omega) H4.out.size ?_);intro v5 w5 hgr;obtain⟨l5,E5,k5⟩:=jZ (l++ [ofI (z:Int)]) (l.length+1) (by simp);rw [E5.out]at hgr;have H5:=iH (H4.out.grew hgr);obtain⟨a5,c5,rfl⟩:=H5.out.own.form;clear hgr)
    |(go_at_call 15;refine(jr B p n _ _ H3.out.die (by decide) (by decide)).mono ?_;rintro e w4 ⟨z,rfl,hz,hd⟩;have H4:=iH (H3.out.call hd);clear hd))
   go_ret
   exact⟨_,l5,rfl,H5.out.own.out (by omega) w iL,by omega,H5.out.2.1⟩
theorem YQ(k1 k2:List UInt8)(n:Int)(c:Cm):(kH k1 k2 n c).2.1.data.length<=4096:=by
 unfold kH
 split
 ·simp [zC]
 split
 ·simp [zC]
 split
 ·simp [zC]
 split
 ·simp [zC]
 cases h:qJ k2 (K4 (n+1)) (qY (c.cl+12) c.ins c.p1 c.p2) ((jd k1 (K4 (n+1)) c.data).app (kV c.ex))with
 |error e=>simp [zC]
 |ok b=>
  show b.length<=4096
  unfold qJ at h
  split at h
  ·cases h
  ·exact Q2 h
theorem xB(v:Value)(n:Nat)(w:World)(hv:IntsS w (·<w.heap.size) v n):Calls Tryz.prog 3 #[v] w fun e w'=>e=.returned (.bool true)/\Below w.heap.size w w':=by
 have HL:=iH (VP _ v n w hv)
 have HR:=iH (j1v v n w hv)
 obtain⟨va,vc,rfl⟩:=hv.form
 clear hv
 by_cases hn:(n:Int)<=400
 ·have hn1:decide ((n:Int)<=400)=true:=decide_eq_true hn
  rw [hn1]at HL
  clear hn hn1
  obtain⟨p,hp⟩:∃p,w.heap.size=p:=⟨_,rfl⟩
  obtain⟨B,hB⟩:∃B,p+1=B:=⟨_,rfl⟩
  have HR:Hid (Calls Tryz.prog 9 #[.slice va n vc] w fun e w'=>e=.returned (.pointer (some ⟨p,0,none⟩))/\Die B w' p n/\Below p w w'):=iH (by rw [<-hB,<-hp];exact HR.out)
  have HW:=iH hp
  rw [hp]
  clear hp
  go_enter Tryz.func3,Tryz.ntmps3
  go_upto_region 5 with (first
   |(go_at_call 7;refine HL.out.mono ?_;rintro e w' ⟨rfl,hw'⟩;rw [hw'];clear hw' w')
   |(go_at_call 9;refine HR.out.mono ?_;rintro e w1 ⟨rfl,hd,hb⟩;have D1:Hid (DiePost B w1 p n w1):=iH (DiePost.refl hd);have B1:=iH hb;have L1:=hd.le;have L2:=hd.lt;clear hd hb)
   |(go_at_call 11;refine(QE B p n w2 D2.out.1).mono ?_;rintro e w3 ⟨v,c,rfl,⟨ud,rfl,hc⟩,hmc,hd⟩;obtain⟨A3,d3,hp⟩:=Bs.formL hc;subst hp;have D3:=iH (D2.out.trans hd);have X3:=iH (X2.out.rollO hd);have Y3:=iH (Y2.out.rollO hd);have Z3:=iH (hc.newO (p:=p) (by omega));have z3:=hd.2.size;clear hc hd)
   |(go_at_call 10;refine(Qh B p n w1 D1.out.1).mono ?_;rintro e w2 ⟨v,k1,k2,m,rfl,⟨ua,ub,rfl,ha,hb⟩,hvs,hd⟩;obtain⟨A1,d1,hp⟩:=Bs.formL ha;subst hp;obtain⟨A2,d2,hp⟩:=Bs.formL hb;subst hp;have D2:=iH hd;have X2:=iH (ha.newO (p:=p) (by omega));have Y2:=iH (hb.newO (p:=p) (by omega));have z2:=hd.2.size;clear ha hb hd))
  obtain⟨wa,hwa⟩:∃u,u=(w3.alloc (.cells #[.slice A1 k1.length d1,.slice A2 k2.length d2,.int .i64 m] 29)).alloc (.cells #[.int .i64 c.cl,.int .i64 c.ins,.int .i64 c.p1,.int .i64 c.p2,.slice A3 c.data.length d3,.int .i64 c.ex] 32):=⟨_,rfl⟩
  rw [<-hwa]
  have hr1:wa.heap[w3.heap.size]?=some (.cells #[.slice A1 k1.length d1,.slice A2 k2.length d2,.int .i64 m] 29 (0,0)):=by rw [hwa,Below.heap_alloc _ _ _ (by simp)];exact iN
  have hr2:wa.heap[w3.heap.size+1]?=some (.cells #[.int .i64 c.cl,.int .i64 c.ins,.int .i64 c.p1,.int .i64 c.p2,.slice A3 c.data.length d3,.int .i64 c.ex] 32 (0,0)):=by
   rw [hwa]
   have h:=heap_alloc_new (w3.alloc (.cells #[.slice A1 k1.length d1,.slice A2 k2.length d2,.int .i64 m] 29)) (.cells #[.int .i64 c.cl,.int .i64 c.ins,.int .i64 c.p1,.int .i64 c.p2,.slice A3 c.data.length d3,.int .i64 c.ex] 32)
   rwa [xW]at h
  have hbw:Below w3.heap.size w3 wa:=by rw [hwa];exact(iA).alloc (by simp) _
  clear hwa
  have S0:Hid (SesAt p wa w3.heap.size k1 k2 m):=iH ⟨_,_,_,_,hr1,X3.out.rollO ((DiePost.refl D3.out.1).below hbw),Y3.out.rollO ((DiePost.refl D3.out.1).below hbw)⟩
  have C0:Hid (CmdAt p wa (w3.heap.size+1) c):=iH ⟨_,_,hr2,Z3.out.rollO ((DiePost.refl D3.out.1).below hbw)⟩
  have D0:Hid (DiePost B w1 p n wa):=iH (D3.out.below hbw)
  obtain⟨gs,hgs⟩:∃g,w3.heap.size=g:=⟨_,rfl⟩
  obtain⟨gc,hgc⟩:∃g,gs+1=g:=⟨_,rfl⟩
  rw [hgs]at S0 C0 |-
  rw [hgc]at C0 |-
  have gs1:gs≠p:=by omega
  have gc1:gc≠p:=by omega
  have gn:gs≠gc:=by omega
  have gn2:gc≠gs:=by omega
  have gs2:w1.heap.size<=gs:=by omega
  have gc2:w1.heap.size<=gc:=by omega
  clear hr1 hr2 hbw D2 D3 X2 Y2 X3 Y3 Z3 hvs hmc hgs hgc z2 z3
  go_upto_if 20 with (go_at_call 12;refine(KD B p n 5 wa D0.out.1 (by decide) (by decide)).mono ?_;rintro e w5 ⟨b5,rfl,hd⟩;have E5:=iH hd;have D5:=iH (D0.out.trans hd);have S5:=iH (S0.out.roll hd gs1);have C5:=iH (C0.out.roll hd gc1);clear hd)
  go_cut [] from 19 to 23 (fun wx=>DiePost B w1 p n wx/\SesAt p wx gs k1 k2 m/\∃c,CmdAt p wx gc c)
  case first=>
   cases b5
   ·go_wp2_with fail
    go_meet
    exact⟨D5.out,S5.out,_,C5.out⟩
   ·obtain⟨cA,cC,hr,hx⟩:=C5.out;obtain⟨c0,c1,c2,c3,c4,c5,cf⟩:=j5 hr;have cf0:=cf 0;have cf1:=cf 1;have cf2:=cf 2;have cf3:=cf 3;have cf4:=cf 4;have cf5:=cf 5;have Xc:=iH hx;have Rc:=iH hr;clear cf hr hx
    go_wp2_with(go_at_call 13;refine(Zq B p n _ c w5 D5.out.1 ⟨_,rfl,Xc.out⟩).mono ?_;rintro e w6 ⟨v,c6,rfl,⟨u6,rfl,hc6⟩,hd⟩;obtain⟨A6,d6,hp⟩:=Bs.formL hc6;subst hp;have D6:=iH (D5.out.trans hd);have S6:=iH (S5.out.roll hd gs1);have C6:=iH (C5.out.roll hd gc1);have X6:=iH hc6;clear c0 cf0 c1 cf1 c2 cf2 c3 cf3 c4 cf4 c5 cf5;clear hc6 hd Rc Xc;obtain⟨cA,cC,hr,hx⟩:=C6.out;obtain⟨c0,c1,c2,c3,c4,c5,cf⟩:=j5 hr;have cf0:=cf 0;have cf1:=cf 1;have cf2:=cf 2;have cf3:=cf 3;have cf4:=cf 4;have cf5:=cf 5;have Xc:=iH hx;have Rc:=iH hr;clear cf hr hx)
    go_meet
    exact⟨D6.out.set6 (by omega) gc2 _ _ _ _ _ _,S6.out.other6 C6.out gn _ _ _ _ _ _,c6,CmdAt.fill Rc.out yl X6.out⟩
  case rest=>
   obtain⟨hd,hs,c,hc⟩:=hcut
   have D7:=iH hd;have S7:=iH hs;have C7:=iH hc
   clear hd hs hc S0 C0 D0 S5 C5 D5 E5 b5
   obtain⟨sA,sa,sB,sb,hr,hx,hy⟩:=S7.out;obtain⟨s0,s1,s2,sf⟩:=jc hr;have sf0:=sf 0;have sf1:=sf 1;have sf2:=sf 2;have XS:=iH hx;have YS:=iH hy;have RS:=iH hr;clear sf hr hx hy
   obtain⟨cA,cC,hr,hx⟩:=C7.out;obtain⟨c0,c1,c2,c3,c4,c5,cf⟩:=j5 hr;have cf0:=cf 0;have cf1:=cf 1;have cf2:=cf 2;have cf3:=cf 3;have cf4:=cf 4;have cf5:=cf 5;have Xc:=iH hx;have Rc:=iH hr;clear cf hr hx
   obtain⟨⟨E,C,K1,K2,M⟩,hr1⟩:∃r,kH k1 k2 m c=r:=⟨_,rfl⟩
   have HRW:=iH hr1
   have HCL:Hid (C.data.length<=1000000000):=iH (by have:=YQ k1 k2 m c;rw [hr1]at this;simp only at this;omega)
   clear hr1
   go_upto_region 8 with (go_at_call 14;refine(Xk _ _ k1 k2 m c wc ⟨_,_,rfl,XS.out.lo,YS.out.lo⟩ ⟨_,rfl,Xc.out.lo⟩).mono ?_;rw [HRW.out];rintro e w2 ⟨v,s,rfl,⟨d2,rfl,hd⟩,⟨x2,y2,rfl,hx,hy⟩,hb⟩;obtain⟨dA2,dc2,hp⟩:=Bs.formL hd;subst hp;obtain⟨xA2,xc2,hp⟩:=Bs.formL hx;subst hp;obtain⟨yA2,yc2,hp⟩:=Bs.formL hy;subst hp;have HB2:=iH hb;have HD2:=iH hd;obtain⟨hz,hs0⟩:=qN w2;obtain⟨n0,n1,n2,n3,n4,n5,nf⟩:=j5 hz;have nf0:=nf 0;have nf1:=nf 1;have nf2:=nf 2;have nf3:=nf 3;have nf4:=nf 4;have nf5:=nf 5;obtain⟨m0,m1,m2,mf⟩:=jc hs0;have mf0:=mf 0;have mf1:=mf 1;have mf2:=mf 2;clear nf mf hz hs0 hd hx hy hb)
   clear n0 n1 n2 n3 n4 n5 nf0 nf1 nf2 nf3 nf4 nf5 m0 m1 m2 mf0 mf1 mf2
   clear s0 s1 s2 sf0 sf1 sf2
   clear c0 cf0 c1 cf1 c2 cf2 c3 cf3 c4 cf4 c5 cf5
   clear XS YS RS Xc Rc
   obtain⟨wb,hwb⟩:∃u,u=(w2.alloc (.cells #[.int .i64 C.cl,.int .i64 C.ins,.int .i64 C.p1,.int .i64 C.p2,.slice dA2 C.data.length dc2,.int .i64 C.ex] 32)).alloc (.cells #[.slice xA2 K1.length xc2,.slice yA2 K2.length yc2,.int .i64 M] 29):=⟨_,rfl⟩
   rw [<-hwb]
   have hr1:wb.heap[w2.heap.size]?=some (.cells #[.int .i64 C.cl,.int .i64 C.ins,.int .i64 C.p1,.int .i64 C.p2,.slice dA2 C.data.length dc2,.int .i64 C.ex] 32 (0,0)):=by rw [hwb,Below.heap_alloc _ _ _ (by simp)];exact iN
   have hr2:wb.heap[w2.heap.size+1]?=some (.cells #[.slice xA2 K1.length xc2,.slice yA2 K2.length yc2,.int .i64 M] 29 (0,0)):=by
    rw [hwb]
    have h:=heap_alloc_new (w2.alloc (.cells #[.int .i64 C.cl,.int .i64 C.ins,.int .i64 C.p1,.int .i64 C.p2,.slice dA2 C.data.length dc2,.int .i64 C.ex] 32)) (.cells #[.slice xA2 K1.length xc2,.slice yA2 K2.length yc2,.int .i64 M] 29)
    rwa [xW]at h
   have hbw:Below w2.heap.size w2 wb:=by rw [hwb];exact(iA).alloc (by simp) _
   clear hwb
   have hbb:=HB2.out.trans (hbw.mono HB2.out.size)
   have E8:Hid (DiePost B wc p n wb):=iH ((DiePost.refl D7.out.1).below hbb)
   have D8:=iH (D7.out.trans E8.out);have S8:=iH (S7.out.roll E8.out gs1);have C8:=iH (C7.out.roll E8.out gc1)
   have W8:Hid (CmdAt p wb w2.heap.size C):=iH ⟨_,_,hr1,(Bs.lift HD2.out hbw).offD D8.out.1⟩
   obtain⟨gw,hgw⟩:∃g,w2.heap.size=g:=⟨_,rfl⟩
   have l1:gs<w2.heap.size:=by
    obtain⟨_,_,_,_,h,_⟩:=S7.out
    exact iZ (iG h) HB2.out.size
   have l2:gc<w2.heap.size:=by
    obtain⟨_,_,h,_⟩:=C7.out
    exact iZ (iG h) HB2.out.size
   rw [hgw]at W8 l1 l2 |-
   have gw1:gw≠p:=by omega
   have gw2:w1.heap.size<=gw:=by omega
   have gw3:gw≠gs:=by omega
   have gw4:gw≠gc:=by omega
   have gw5:gs≠gw:=by omega
   have gw6:gc≠gw:=by omega
   clear hr1 hr2 hbw hbb hgw l1 l2 HB2 HD2 S7 C7 D7 E8
   go_upto_block 0 with (go_at_call 15;refine(jr B p n 6 wb D8.out.1 (by decide) (by decide)).mono ?_;rintro e w9 ⟨z,rfl,hz,hd⟩;have D9:=iH (D8.out.trans hd);have S9:=iH (S8.out.roll hd gs1);have C9:=iH (C8.out.roll hd gc1);have W9:=iH (W8.out.roll hd gw1);clear hd)
   clear S8 C8 D8 W8
   go_cut [] from 31 to 61 (fun wx=>DiePost B w1 p n wx/\(∃k1 k2 m,SesAt p wx gs k1 k2 m)/\CmdAt p wx gc c/\∃c,CmdAt p wx gw c)
   case first=>
    have HB1:B<=w1.heap.size:=by omega
    obtain rfl|rfl|rfl|rfl|rfl|rfl:z=0\/z=1\/z=2\/z=3\/z=4\/z=5:=by omega
    ·clear hz
     obtain⟨cA,cC,hr,hx⟩:=W9.out;obtain⟨c0,c1,c2,c3,c4,c5,cf⟩:=j5 hr;have cf0:=cf 0;have cf1:=cf 1;have cf2:=cf 2;have cf3:=cf 3;have cf4:=cf 4;have cf5:=cf 5;have Xc:=iH hx;have Rc:=iH hr;clear cf hr hx
     go_wp2_with(go_at_call 16;refine(UJ B p n C.data _ w9 Xc.out HCL.out D9.out.1).mono ?_;rintro e w10 ⟨v,l,rfl,hv,_,hd⟩;obtain⟨A6,d6,hp⟩:=Bs.formL hv;subst hp;have X6:=iH (hv.newO (p:=p) (by have:=D9.out.1.le;omega));have D6:=iH (D9.out.trans hd);have S6:=iH (S9.out.roll hd gs1);have C6:=iH (C9.out.roll hd gc1);have W6:=iH (W9.out.roll hd gw1);clear c0 cf0 c1 cf1 c2 cf2 c3 cf3 c4 cf4 c5 cf5;clear hv hd Xc Rc;obtain⟨cA,cC,hr,hx⟩:=W6.out;obtain⟨c0,c1,c2,c3,c4,c5,cf⟩:=j5 hr;have cf0:=cf 0;have cf1:=cf 1;have cf2:=cf 2;have cf3:=cf 3;have cf4:=cf 4;have cf5:=cf 5;have Xc:=iH hx;have Rc:=iH hr;clear cf hr hx)
     go_meet
     exact⟨D6.out.set HB1 gw2 _,⟨_,_,_,S6.out.other Rc.out yl gw5 _⟩,C6.out.other Rc.out yl gw6 _,_,W6.out.setD X6.out⟩
    ·clear hz
     obtain⟨cA,cC,hr,hx⟩:=W9.out;obtain⟨c0,c1,c2,c3,c4,c5,cf⟩:=j5 hr;have cf0:=cf 0;have cf1:=cf 1;have cf2:=cf 2;have cf3:=cf 3;have cf4:=cf 4;have cf5:=cf 5;have Xc:=iH hx;have Rc:=iH hr;clear cf hr hx
     go_wp2_with fail
     go_meet
     exact⟨D9.out.set HB1 gw2 _,⟨_,_,_,S9.out.other Rc.out yl gw5 _⟩,C9.out.other Rc.out yl gw6 _,_,W9.out.setP2 _⟩
    ·clear hz
     obtain⟨sA,sa,sB,sb,hr,hx,hy⟩:=S9.out;obtain⟨s0,s1,s2,sf⟩:=jc hr;have sf0:=sf 0;have sf1:=sf 1;have sf2:=sf 2;have XS:=iH hx;have YS:=iH hy;have RS:=iH hr;clear sf hr hx hy
     go_wp2_with fail
     go_meet
     exact⟨D9.out.set HB1 gs2 _,⟨_,_,_,S9.out.setN _⟩,C9.out.other RS.out zZ gn2 _,_,W9.out.other RS.out zZ gw3 _⟩
    ·clear hz
     obtain⟨sA,sa,sB,sb,hr,hx,hy⟩:=S9.out;obtain⟨s0,s1,s2,sf⟩:=jc hr;have sf0:=sf 0;have sf1:=sf 1;have sf2:=sf 2;have XS:=iH hx;have YS:=iH hy;have RS:=iH hr;clear sf hr hx hy
     go_wp2_with(go_at_call 17;refine(j0s B p n _ k1 k2 m w9 D9.out.1 ⟨_,_,rfl,XS.out,YS.out⟩).mono ?_;rintro e w10 ⟨v,l1,l2,m2,rfl,⟨u6,v6,rfl,hx6,hy6⟩,hd⟩;obtain⟨A6,d6,hp⟩:=Bs.formL hx6;subst hp;obtain⟨A7,d7,hp⟩:=Bs.formL hy6;subst hp;have D6:=iH (D9.out.trans hd);have S6:=iH (S9.out.roll hd gs1);have C6:=iH (C9.out.roll hd gc1);have W6:=iH (W9.out.roll hd gw1);have X6:=iH hx6;have Y6:=iH hy6;clear s0 s1 s2 sf0 sf1 sf2;clear hx6 hy6 hd RS XS YS;obtain⟨sA,sa,sB,sb,hr,hx,hy⟩:=S6.out;obtain⟨s0,s1,s2,sf⟩:=jc hr;have sf0:=sf 0;have sf1:=sf 1;have sf2:=sf 2;have XS:=iH hx;have YS:=iH hy;have RS:=iH hr;clear sf hr hx hy)
     go_meet
     exact⟨D6.out.set3 HB1 gs2 _ _ _,⟨_,_,_,SesAt.fill RS.out zZ X6.out Y6.out⟩,C6.out.other3 S6.out gn2 _ _ _,_,W6.out.other3 S6.out gw3 _ _ _⟩
    ·clear hz
     obtain⟨cA,cC,hr,hx⟩:=W9.out;obtain⟨c0,c1,c2,c3,c4,c5,cf⟩:=j5 hr;have cf0:=cf 0;have cf1:=cf 1;have cf2:=cf 2;have cf3:=cf 3;have cf4:=cf 4;have cf5:=cf 5;have Xc:=iH hx;have Rc:=iH hr;clear cf hr hx
     go_wp2_with(go_at_call 13;refine(Zq B p n _ C w9 D9.out.1 ⟨_,rfl,Xc.out⟩).mono ?_;rintro e w10 ⟨v,c6,rfl,⟨u6,rfl,hc6⟩,hd⟩;obtain⟨A6,d6,hp⟩:=Bs.formL hc6;subst hp;have D6:=iH (D9.out.trans hd);have S6:=iH (S9.out.roll hd gs1);have C6:=iH (C9.out.roll hd gc1);have W6:=iH (W9.out.roll hd gw1);have X6:=iH hc6;clear c0 cf0 c1 cf1 c2 cf2 c3 cf3 c4 cf4 c5 cf5;clear hc6 hd Rc Xc;obtain⟨cA,cC,hr,hx⟩:=W6.out;obtain⟨c0,c1,c2,c3,c4,c5,cf⟩:=j5 hr;have cf0:=cf 0;have cf1:=cf 1;have cf2:=cf 2;have cf3:=cf 3;have cf4:=cf 4;have cf5:=cf 5;have Xc:=iH hx;have Rc:=iH hr;clear cf hr hx)
     go_meet
     exact⟨D6.out.set6 HB1 gw2 _ _ _ _ _ _,⟨_,_,_,S6.out.other6 W6.out gw5 _ _ _ _ _ _⟩,C6.out.other6 W6.out gw6 _ _ _ _ _ _,c6,CmdAt.fill Rc.out yl X6.out⟩
    ·clear hz
     go_wp2_with fail
     go_meet
     exact⟨D9.out,⟨_,_,_,S9.out⟩,C9.out,_,W9.out⟩
   case rest=>
    obtain⟨hd,⟨l1,l2,m9,hs⟩,hc,c9,hw⟩:=hcut
    have D10:=iH hd;have S10:=iH hs;have C10:=iH hc;have W10:=iH hw
    clear hd hs hc hw S9 C9 W9 D9 hz HCL HRW
    go_wp2_with(first
     |(go_at_call 18;refine(Qu _ _ _ l1 l2 m9 c c9 w12 ⟨_,_,rfl,XS.out.lo,YS.out.lo⟩ ⟨_,rfl,Xc.out.lo⟩ ⟨_,rfl,Xd.out.lo⟩).mono ?_;rintro e w13 ⟨rfl,hb⟩;have B13:=iH (D12.out.below hb);clear hb c0 cf0 c1 cf1 c2 cf2 c3 cf3 c4 cf4 c5 cf5 d0 df0 d1 df1 d2 df2 d3 df3 d4 df4 d5 df5 s0 s1 s2 sf0 sf1 sf2)
     |(go_at_call 8;refine(KA _).mono ?_;rintro e w12 ⟨rfl,hb⟩;have E12:=iH ((DiePost.refl D10.out.1).below hb);have D12:=iH (D10.out.trans E12.out);obtain⟨sA,sa,sB,sb,hr,hx,hy⟩:=(S10.out.roll E12.out gs1);obtain⟨s0,s1,s2,sf⟩:=jc hr;have sf0:=sf 0;have sf1:=sf 1;have sf2:=sf 2;have XS:=iH hx;have YS:=iH hy;have RS:=iH hr;clear sf hr hx hy;obtain⟨cA,cC,hr,hx⟩:=(C10.out.roll E12.out gc1);obtain⟨c0,c1,c2,c3,c4,c5,cf⟩:=j5 hr;have cf0:=cf 0;have cf1:=cf 1;have cf2:=cf 2;have cf3:=cf 3;have cf4:=cf 4;have cf5:=cf 5;have Xc:=iH hx;have Rc:=iH hr;clear cf hr hx;obtain⟨dA,dC,hr,hx⟩:=(W10.out.roll E12.out gw1);obtain⟨d0,d1,d2,d3,d4,d5,cf⟩:=j5 hr;have df0:=cf 0;have df1:=cf 1;have df2:=cf 2;have df3:=cf 3;have df4:=cf 4;have df5:=cf 5;have Xd:=iH hx;have Rd:=iH hr;clear cf hr hx;clear hb))
    go_ret
    exact⟨rfl,B1.out.grown B13.out.2 (by omega) (fun k e=>by injection e with e;omega)⟩
 ·have hn1:decide ((n:Int)<=400)=false:=decide_eq_false hn
  rw [hn1]at HL
  clear hn hn1
  go_enter Tryz.func3,Tryz.ntmps3
  go_wp2_with(first
   |(go_at_call 7;refine HL.out.mono ?_;rintro e w' ⟨rfl,hw'⟩;rw [hw'];clear hw' w')
   |(go_at_call 8;refine(KA _).mono ?_;rintro e w1 ⟨rfl,hb⟩;have HB:=iH hb;clear hb))
  go_ret
  exact⟨by simp,HB.out⟩
end Go.Proofs.YtadndhgebgjlaaaGreat
