/- Equal commands and responses -/
import Derived.Test.YtadndhgebgjlaaaGreatPBd
import Derived.Test.YtadndhgebgjlaaaGreatPu
set_option linter.all false
set_option maxRecDepth 100000
set_option maxHeartbeats 2000000
namespace Go.Proofs.YtadndhgebgjlaaaGreat
open Go.RowKit Go.Deep
theorem mt{P:Prop}(h:P:=by
 go_enter Tryz.func38,Tryz.ntmps38
 go_upto_region 1 with fail
 rw [<-HW1.out,<-HW2.out]
 go_wp2_with fail
 go_ret
 rw [R.out]
 exact⟨by simp,HB.out⟩):P:=h
theorem m1k{P:Prop}(h:P:=by
 go_upto_region 1 with fail
 rw [<-HW1.out,<-HW2.out]
 go_wp2_with(go_at_call 73;refine(xD _ _ DA DB _ _ w2 H1.out G1.out).mono ?_;rintro e w3 ⟨rfl,nd,hw3⟩;rw [HO9.out];have HW3:=iH hw3;clear hw3)
 go_ret
 rw [R.out,HW3.out]
 exact⟨by simp,j4 HB.out nd⟩):P:=h
theorem JL(va vb:Value)(a b:Cm)(S S':Nat->Prop)(w:World)(ha:Jm w S va a)(hb:Jm w S' vb b):
 Calls Tryz.prog 38 #[va,vb] w fun e w'=>e=.returned (.bool (decide (a.cl=b.cl/\a.ins=b.ins/\a.p1=b.p1/\a.p2=b.p2/\a.ex=b.ex/\a.data=b.data)))/\Below w.heap.size w w':=by
 obtain⟨u1,rfl,h1⟩:=ha
 obtain⟨t1,rfl,k1⟩:=hb
 obtain⟨w1,hw1⟩:∃w1,w1=w.alloc (.cells #[.int .i64 a.cl,.int .i64 a.ins,.int .i64 a.p1,.int .i64 a.p2,u1,.int .i64 a.ex] 32):=⟨_,rfl⟩
 obtain⟨w2,hw2⟩:∃w2,w2=w1.alloc (.cells #[.int .i64 b.cl,.int .i64 b.ins,.int .i64 b.p1,.int .i64 b.p2,t1,.int .i64 b.ex] 32):=⟨_,rfl⟩
 have hz1:w1.heap.size=w.heap.size+1:=by rw [hw1];simp
 have hB1:Below w.heap.size w w1:=by rw [hw1];exact iA
 have hB2:Below w1.heap.size w1 w2:=by rw [hw2];exact iA
 have hh1:w1.heap[w.heap.size]?=some (.cells #[.int .i64 a.cl,.int .i64 a.ins,.int .i64 a.p1,.int .i64 a.p2,u1,.int .i64 a.ex] 32 (0,0)):=by rw [hw1];exact iN
 have hh2:w2.heap[w1.heap.size]?=some (.cells #[.int .i64 b.cl,.int .i64 b.ins,.int .i64 b.p1,.int .i64 b.p2,t1,.int .i64 b.ex] 32 (0,0)):=by rw [hw2];exact iN
 rw [hz1]at hh2
 have hB:Below w.heap.size w w2:=hB1.trans (hB2.mono hB1.size)
 have hh3:=(hB2.block w.heap.size (by omega)).trans hh1
 have x0:w2.cell? ⟨w.heap.size,0,none⟩=some (.int .i64 a.cl):=by rw [cell_of_row _ _ _ _ _ _ hh3]<;>rfl
 have x1:w2.cell? ⟨w.heap.size,1,none⟩=some (.int .i64 a.ins):=by rw [cell_of_row _ _ _ _ _ _ hh3]<;>rfl
 have x2:w2.cell? ⟨w.heap.size,2,none⟩=some (.int .i64 a.p1):=by rw [cell_of_row _ _ _ _ _ _ hh3]<;>rfl
 have x3:w2.cell? ⟨w.heap.size,3,none⟩=some (.int .i64 a.p2):=by rw [cell_of_row _ _ _ _ _ _ hh3]<;>rfl
 have x4:w2.cell? ⟨w.heap.size,4,none⟩=some u1:=by rw [cell_of_row _ _ _ _ _ _ hh3]<;>rfl
 have x5:w2.cell? ⟨w.heap.size,5,none⟩=some (.int .i64 a.ex):=by rw [cell_of_row _ _ _ _ _ _ hh3]<;>rfl
 have y0:w2.cell? ⟨w.heap.size+1,0,none⟩=some (.int .i64 b.cl):=by rw [cell_of_row _ _ _ _ _ _ hh2]<;>rfl
 have y1:w2.cell? ⟨w.heap.size+1,1,none⟩=some (.int .i64 b.ins):=by rw [cell_of_row _ _ _ _ _ _ hh2]<;>rfl
 have y2:w2.cell? ⟨w.heap.size+1,2,none⟩=some (.int .i64 b.p1):=by rw [cell_of_row _ _ _ _ _ _ hh2]<;>rfl
 have y3:w2.cell? ⟨w.heap.size+1,3,none⟩=some (.int .i64 b.p2):=by rw [cell_of_row _ _ _ _ _ _ hh2]<;>rfl
 have y4:w2.cell? ⟨w.heap.size+1,4,none⟩=some t1:=by rw [cell_of_row _ _ _ _ _ _ hh2]<;>rfl
 have y5:w2.cell? ⟨w.heap.size+1,5,none⟩=some (.int .i64 b.ex):=by rw [cell_of_row _ _ _ _ _ _ hh2]<;>rfl
 have ol:∀ {S:Nat->Prop} {v:Value} {l:List UInt8},BsS w S v l->BsS w2 (fun _=>True) v l:=fun h=>BsS.keep h fun g _ hl=>⟨hB.block g hl,trivial⟩
 have H1:=iH (ol h1);have G1:=iH (ol k1)
 obtain⟨DA,hDA⟩:∃d,a.data=d:=⟨_,rfl⟩
 obtain⟨DB,hDB⟩:∃d,b.data=d:=⟨_,rfl⟩
 rw [hDA]at H1
 rw [hDB]at G1
 obtain⟨o0,ho0⟩:∃o,(a.cl==b.cl)=o:=⟨_,rfl⟩
 obtain⟨o1,ho1⟩:∃o,(a.ins==b.ins)=o:=⟨_,rfl⟩
 obtain⟨o2,ho2⟩:∃o,(a.p1==b.p1)=o:=⟨_,rfl⟩
 obtain⟨o3,ho3⟩:∃o,(a.p2==b.p2)=o:=⟨_,rfl⟩
 obtain⟨o4,ho4⟩:∃o,(a.ex==b.ex)=o:=⟨_,rfl⟩
 obtain⟨o9,ho9⟩:∃o,decide (DA=DB)=o:=⟨_,rfl⟩
 have R:Hid (decide (a.cl=b.cl/\a.ins=b.ins/\a.p1=b.p1/\a.p2=b.p2/\a.ex=b.ex/\a.data=b.data)=(o0&&(o1&&(o2&&(o3&&(o4&&o9)))))):=iH (by
  rw [<-ho0,<-ho1,<-ho2,<-ho3,<-ho4,<-ho9,hDA,hDB,Bool.eq_iff_iff]
  simp)
 have HO9:=iH ho9
 have HB:=iH hB;have HW1:=iH hw1;have HW2:=iH hw2
 clear h1 k1 ol hB1 hB2 hh1 hh2 hh3 hB hw1 hw2 hz1 ho9 hDA hDB
 cases o0 with
 |false=>
  exact mt
 |true=>
  cases o1 with
  |false=>
   exact mt
  |true=>
   cases o2 with
   |false=>
    exact mt
   |true=>
    cases o3 with
    |false=>
     exact mt
    |true=>
     cases o4 with
     |false=>
      exact mt
     |true=>
      go_enter Tryz.func38,Tryz.ntmps38
      exact m1k
theorem Kk(va vb:Value)(da db:List UInt8)(sa sb:Int)(S S':Nat->Prop)(w:World)(ha:QU w S va da sa)(hb:QU w S' vb db sb):
 Calls Tryz.prog 43 #[va,vb] w fun e w'=>e=.returned (.bool (decide (sa=sb/\da=db)))/\Below w.heap.size w w':=by
 obtain⟨u1,rfl,h1⟩:=ha
 obtain⟨t1,rfl,k1⟩:=hb
 obtain⟨w1,hw1⟩:∃w1,w1=w.alloc (.cells #[u1,.int .i64 sa] 44):=⟨_,rfl⟩
 obtain⟨w2,hw2⟩:∃w2,w2=w1.alloc (.cells #[t1,.int .i64 sb] 44):=⟨_,rfl⟩
 have hz1:w1.heap.size=w.heap.size+1:=by rw [hw1];simp
 have hB1:Below w.heap.size w w1:=by rw [hw1];exact iA
 have hB2:Below w1.heap.size w1 w2:=by rw [hw2];exact iA
 have hh1:w1.heap[w.heap.size]?=some (.cells #[u1,.int .i64 sa] 44 (0,0)):=by rw [hw1];exact iN
 have hh2:w2.heap[w1.heap.size]?=some (.cells #[t1,.int .i64 sb] 44 (0,0)):=by rw [hw2];exact iN
 rw [hz1]at hh2
 have hB:Below w.heap.size w w2:=hB1.trans (hB2.mono hB1.size)
 have hh3:=(hB2.block w.heap.size (by omega)).trans hh1
 have x0:w2.cell? ⟨w.heap.size,0,none⟩=some u1:=by rw [cell_of_row _ _ _ _ _ _ hh3]<;>rfl
 have x1:w2.cell? ⟨w.heap.size,1,none⟩=some (.int .i64 sa):=by rw [cell_of_row _ _ _ _ _ _ hh3]<;>rfl
 have y0:w2.cell? ⟨w.heap.size+1,0,none⟩=some t1:=by rw [cell_of_row _ _ _ _ _ _ hh2]<;>rfl
 have y1:w2.cell? ⟨w.heap.size+1,1,none⟩=some (.int .i64 sb):=by rw [cell_of_row _ _ _ _ _ _ hh2]<;>rfl
 have ol:∀ {S:Nat->Prop} {v:Value} {l:List UInt8},BsS w S v l->BsS w2 (fun _=>True) v l:=fun h=>BsS.keep h fun g _ hl=>⟨hB.block g hl,trivial⟩
 have H1:=iH (ol h1);have G1:=iH (ol k1)
 obtain⟨DA,hDA⟩:∃d,da=d:=⟨_,rfl⟩
 obtain⟨DB,hDB⟩:∃d,db=d:=⟨_,rfl⟩
 rw [hDA]at H1
 rw [hDB]at G1
 obtain⟨o0,ho0⟩:∃o,(sa==sb)=o:=⟨_,rfl⟩
 obtain⟨o9,ho9⟩:∃o,decide (DA=DB)=o:=⟨_,rfl⟩
 have R:Hid (decide (sa=sb/\da=db)=(o0&&o9)):=iH (by
  rw [<-ho0,<-ho9,hDA,hDB,Bool.eq_iff_iff]
  simp)
 have HO9:=iH ho9
 have HB:=iH hB;have HW1:=iH hw1;have HW2:=iH hw2
 clear h1 k1 ol hB1 hB2 hh1 hh2 hh3 hB hw1 hw2 hz1 ho9 hDA hDB
 cases o0 with
 |false=>
  go_enter Tryz.func43,Tryz.ntmps43
  go_upto_region 1 with fail
  rw [<-HW1.out,<-HW2.out]
  go_wp2_with fail
  go_ret
  rw [R.out]
  exact⟨by simp,HB.out⟩
 |true=>
  go_enter Tryz.func43,Tryz.ntmps43
  exact m1k
end Go.Proofs.YtadndhgebgjlaaaGreat
