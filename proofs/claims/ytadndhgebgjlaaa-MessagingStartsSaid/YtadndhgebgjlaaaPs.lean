/- Sessions and commands: which are valid, both sides -/
import Derived.Test.YtadndhgebgjlaaaPq
set_option linter.unusedVariables false
set_option linter.unusedSimpArgs false
set_option maxRecDepth 100000
set_option maxHeartbeats 4000000
namespace Go.Proofs.Ytadndhgebgjlaaa
open Go.RowKit Go.Deep
def vS(k1 k2:List UInt8)(n:Int):Bool:=decide (k1.length=16/\k2.length=16/\0<=n/\n<=1099511627776)
def xb(n:Int):Bool:=decide (0<=n/\n<=255)
def vC(c:Cm):Bool:=decide (0<=c.cl/\c.cl<=254/\(0<=c.ins/\c.ins<=255)/\(0<=c.p1/\c.p1<=255)/\(0<=c.p2/\c.p2<=255)/\c.data.length<=4096/\(c.ex= -1\/(1<=c.ex/\c.ex<=65536)))
theorem jn(v:Value)(k1 k2:List UInt8)(n:Int)(S:Nat->Prop)(w:World)(h:yk w S v k1 k2 n):
 Calls Try.prog 25 #[v] w fun e w'=>e=.returned (.bool (vS k1 k2 n))/\Below w.heap.size w w':=by
 obtain⟨u1,u2,rfl,h1,h2⟩:=h
 obtain⟨A1,n1,c1,rfl⟩:=h1.form
 obtain⟨A2,n2,c2,rfl⟩:=h2.form
 obtain rfl:=Bs.lenEq h1
 obtain rfl:=Bs.lenEq h2
 have hb:Below w.heap.size w (w.alloc (.cells #[.slice A1 k1.length c1,.slice A2 k2.length c2,.int .i64 n] 29)):=iA
 have HB:=iH hb
 clear hb h1 h2
 by_cases a1:k1.length=16
 ·have t1:((k1.length:Int)==16)=true:=by simp;omega
  by_cases a2:k2.length=16
  ·have t2:((k2.length:Int)==16)=true:=by simp;omega
   by_cases a3:0<=n
   ·by_cases a4:n<=1099511627776
    ·have R:Hid (vS k1 k2 n=true):=iH (decide_eq_true ⟨a1,a2,a3,a4⟩)
     clear a1 a2
     go_enter Try.func25,Try.ntmps25
     go_wp2_with fail
     go_ret
     rw [R.out]
     exact⟨rfl,HB.out⟩
    ·have R:Hid (vS k1 k2 n=false):=iH (decide_eq_false fun h=>a4 h.2.2.2)
     clear a1 a2
     go_enter Try.func25,Try.ntmps25
     go_wp2_with fail
     go_ret
     rw [R.out]
     exact⟨rfl,HB.out⟩
   ·have R:Hid (vS k1 k2 n=false):=iH (decide_eq_false fun h=>a3 h.2.2.1)
    clear a1 a2
    go_enter Try.func25,Try.ntmps25
    go_wp2_with fail
    go_ret
    rw [R.out]
    exact⟨rfl,HB.out⟩
  ·have t2:((k2.length:Int)==16)=false:=by simp;omega
   have R:Hid (vS k1 k2 n=false):=iH (decide_eq_false fun h=>a2 h.2.1)
   clear a1 a2
   go_enter Try.func25,Try.ntmps25
   go_wp2_with fail
   go_ret
   rw [R.out]
   exact⟨rfl,HB.out⟩
 ·have t1:((k1.length:Int)==16)=false:=by simp;omega
  have R:Hid (vS k1 k2 n=false):=iH (decide_eq_false fun h=>a1 h.1)
  clear a1
  go_enter Try.func25,Try.ntmps25
  go_wp2_with fail
  go_ret
  rw [R.out]
  exact⟨rfl,HB.out⟩
theorem jG(v:Value)(c:Cm)(S:Nat->Prop)(w:World)(h:XW w S v c):Calls Try.prog 26 #[v] w fun e w'=>e=.returned (.bool (vC c))/\Below w.heap.size w w':=by
 obtain⟨u,rfl,h1⟩:=h
 obtain⟨A,m,k,rfl⟩:=h1.form
 obtain rfl:=Bs.lenEq h1
 obtain⟨w0,hw0⟩:∃w0,w0=w.alloc (.cells #[.int .i64 c.cl,.int .i64 c.ins,.int .i64 c.p1,.int .i64 c.p2,.slice A c.data.length k,.int .i64 c.ex] 32):=⟨_,rfl⟩
 have hh0:w0.heap[w.heap.size]?=some (.cells #[.int .i64 c.cl,.int .i64 c.ins,.int .i64 c.p1,.int .i64 c.p2,.slice A c.data.length k,.int .i64 c.ex] 32 (0,0)):=by rw [hw0];exact iN
 have hb0:Below w.heap.size w w0:=by rw [hw0];exact iA
 have HB:=iH hb0;have HW:=iH hw0
 have FC:Hid (∀W,Below w0.heap.size w0 W->W.cell? ⟨w.heap.size,0,none⟩=some (.int .i64 c.cl)/\W.cell? ⟨w.heap.size,1,none⟩=some (.int .i64 c.ins)/\W.cell? ⟨w.heap.size,2,none⟩=some (.int .i64 c.p1)/\W.cell? ⟨w.heap.size,3,none⟩=some (.int .i64 c.p2)/\W.cell? ⟨w.heap.size,4,none⟩=some (.slice A c.data.length k)/\W.cell? ⟨w.heap.size,5,none⟩=some (.int .i64 c.ex)):=iH fun W hb=>by
  have hr:=(hb.block w.heap.size (iG hh0)).trans hh0
  refine⟨?_,?_,?_,?_,?_,?_⟩<;>(rw [cell_of_row _ _ _ _ _ _ hr];rfl)
 clear h1 hw0 hh0 hb0
 obtain⟨w1,hw1⟩:∃w1,w1=w0.alloc (.cells #[.int .i64 c.ins,.int .i64 c.p1,.int .i64 c.p2] 3):=⟨_,rfl⟩
 have hb1:Below w0.heap.size w0 w1:=by rw [hw1];exact iA
 have hr1:w1.heap[w0.heap.size]?=some (.cells #[.int .i64 c.ins,.int .i64 c.p1,.int .i64 c.p2] 3 (0,0)):=by rw [hw1];exact iN
 have S3:=iH (jb hr1)
 have HB1:=iH hb1;have HW1:=iH hw1
 have HBW:=iH (HB.out.trans (hb1.mono HB.out.size))
 clear hb1 hr1 hw1
 obtain⟨vc,hvc⟩:∃vc,vC c=vc:=⟨_,rfl⟩
 have HV:=iH hvc
 rw [hvc]
 clear hvc
 go_enter Try.func26,Try.ntmps26
 go_upto_region 1 with fail
 rw [<-HW.out]
 obtain⟨f0,f1,f2,f3,f4,f5⟩:=FC.out w0 iB
 go_wp2_with fail
 rw [<-HW1.out]
 clear f0 f1 f2 f3 f4 f5
 go_loopg [4,14] 3 (fun q _ i wr=>∃j:Nat,j+q=3/\i=.int .i64 j/\w1=wr/\Hid ((0<j->xb c.ins=true)/\(1<j->xb c.p1=true)/\(2<j->xb c.p2=true)))
 case atStart=>exact⟨0,rfl,rfl,rfl,iH ⟨fun h=>absurd h (by decide),fun h=>absurd h (by decide),fun h=>absurd h (by decide)⟩⟩
 case round=>
  obtain⟨j,hj,rfl,rfl,HO⟩:=hrel
  obtain⟨s0,s1,s2,_⟩:=S3.out
  obtain rfl|rfl|rfl|rfl:j=0\/j=1\/j=2\/j=3:=by omega
  ·obtain rfl:gk=3:=by omega
   by_cases b1:c.ins<0
   ·have R:Hid (vc=false):=iH (by rw [<-HV.out];exact decide_eq_false fun h=>absurd h.2.2.1 (by omega))
    clear hj
    go_wp2_with fail
    go_ret
    rw [R.out]
    exact⟨rfl,HBW.out⟩
   ·by_cases b2:c.ins>255
    ·have R:Hid (vc=false):=iH (by rw [<-HV.out];exact decide_eq_false fun h=>absurd h.2.2.1 (by omega))
     clear hj
     go_wp2_with fail
     go_ret
     rw [R.out]
     exact⟨rfl,HBW.out⟩
    ·have HO2:Hid ((0<1->xb c.ins=true)/\(1<1->xb c.p1=true)/\(2<1->xb c.p2=true)):=iH ⟨fun _=>decide_eq_true ⟨by omega,by omega⟩,fun h=>absurd h (by decide),fun h=>absurd h (by decide)⟩
     clear hj
     go_wp2_with fail
     go_roundg 2
     case measure=>omega
     case rel=>exact⟨1,rfl,rfl,rfl,HO2⟩
  ·obtain rfl:gk=2:=by omega
   by_cases b1:c.p1<0
   ·have R:Hid (vc=false):=iH (by rw [<-HV.out];exact decide_eq_false fun h=>absurd h.2.2.2.1 (by omega))
    clear hj
    go_wp2_with fail
    go_ret
    rw [R.out]
    exact⟨rfl,HBW.out⟩
   ·by_cases b2:c.p1>255
    ·have R:Hid (vc=false):=iH (by rw [<-HV.out];exact decide_eq_false fun h=>absurd h.2.2.2.1 (by omega))
     clear hj
     go_wp2_with fail
     go_ret
     rw [R.out]
     exact⟨rfl,HBW.out⟩
    ·have HO2:Hid ((0<2->xb c.ins=true)/\(1<2->xb c.p1=true)/\(2<2->xb c.p2=true)):=iH ⟨fun _=>HO.out.1 (by decide),fun _=>decide_eq_true ⟨by omega,by omega⟩,fun h=>absurd h (by decide)⟩
     clear hj
     go_wp2_with fail
     go_roundg 1
     case measure=>omega
     case rel=>exact⟨2,rfl,rfl,rfl,HO2⟩
  ·obtain rfl:gk=1:=by omega
   by_cases b1:c.p2<0
   ·have R:Hid (vc=false):=iH (by rw [<-HV.out];exact decide_eq_false fun h=>absurd h.2.2.2.2.1 (by omega))
    clear hj
    go_wp2_with fail
    go_ret
    rw [R.out]
    exact⟨rfl,HBW.out⟩
   ·by_cases b2:c.p2>255
    ·have R:Hid (vc=false):=iH (by rw [<-HV.out];exact decide_eq_false fun h=>absurd h.2.2.2.2.1 (by omega))
     clear hj
     go_wp2_with fail
     go_ret
     rw [R.out]
     exact⟨rfl,HBW.out⟩
    ·have HO2:Hid ((0<3->xb c.ins=true)/\(1<3->xb c.p1=true)/\(2<3->xb c.p2=true)):=iH ⟨fun _=>HO.out.1 (by decide),fun _=>HO.out.2.1 (by decide),fun _=>decide_eq_true ⟨by omega,by omega⟩⟩
     clear hj
     go_wp2_with fail
     go_roundg 0
     case measure=>omega
     case rel=>exact⟨3,rfl,rfl,rfl,HO2⟩
  ·obtain rfl:gk=0:=by omega
   clear hj s0 s1 s2
   have i1:=of_decide_eq_true (HO.out.1 (by decide))
   have i2:=of_decide_eq_true (HO.out.2.1 (by decide))
   have i3:=of_decide_eq_true (HO.out.2.2 (by decide))
   obtain⟨f0,f1,f2,f3,f4,f5⟩:=FC.out w1 HB1.out
   by_cases b6:c.ex= -1
   ·have t6:(c.ex== -1)=true:=by simp [b6]
    have H6:=iH b6
    clear b6
    by_cases b1:0<=c.cl
    ·by_cases b2:c.cl<=254
     ·by_cases b3:c.data.length<=4096
      ·have t3:decide ((c.data.length:Int)<=4096)=true:=decide_eq_true (by omega)
       have R:Hid (vc=true):=iH (by rw [<-HV.out];exact decide_eq_true ⟨b1,b2,i1,i2,i3,b3,.inl H6.out⟩)
       go_wp2_with fail
       go_ret
       rw [R.out]
       exact⟨rfl,HBW.out⟩
      ·have t3:decide ((c.data.length:Int)<=4096)=false:=decide_eq_false (by omega)
       have R:Hid (vc=false):=iH (by rw [<-HV.out];exact decide_eq_false fun h=>b3 h.2.2.2.2.2.1)
       go_wp2_with fail
       go_ret
       rw [R.out]
       exact⟨rfl,HBW.out⟩
     ·have R:Hid (vc=false):=iH (by rw [<-HV.out];exact decide_eq_false fun h=>b2 h.2.1)
      go_wp2_with fail
      go_ret
      rw [R.out]
      exact⟨rfl,HBW.out⟩
    ·have R:Hid (vc=false):=iH (by rw [<-HV.out];exact decide_eq_false fun h=>b1 h.1)
     go_wp2_with fail
     go_ret
     rw [R.out]
     exact⟨rfl,HBW.out⟩
   ·have t6:(c.ex== -1)=false:=by simpa using b6
    by_cases b7:1<=c.ex
    ·by_cases b8:c.ex<=65536
     ·by_cases b1:0<=c.cl
      ·by_cases b2:c.cl<=254
       ·by_cases b3:c.data.length<=4096
        ·have t3:decide ((c.data.length:Int)<=4096)=true:=decide_eq_true (by omega)
         have R:Hid (vc=true):=iH (by rw [<-HV.out];exact decide_eq_true ⟨b1,b2,i1,i2,i3,b3,.inr ⟨b7,b8⟩⟩)
         go_wp2_with fail
         go_ret
         rw [R.out]
         exact⟨rfl,HBW.out⟩
        ·have t3:decide ((c.data.length:Int)<=4096)=false:=decide_eq_false (by omega)
         have R:Hid (vc=false):=iH (by rw [<-HV.out];exact decide_eq_false fun h=>b3 h.2.2.2.2.2.1)
         go_wp2_with fail
         go_ret
         rw [R.out]
         exact⟨rfl,HBW.out⟩
       ·have R:Hid (vc=false):=iH (by rw [<-HV.out];exact decide_eq_false fun h=>b2 h.2.1)
        go_wp2_with fail
        go_ret
        rw [R.out]
        exact⟨rfl,HBW.out⟩
      ·have R:Hid (vc=false):=iH (by rw [<-HV.out];exact decide_eq_false fun h=>b1 h.1)
       go_wp2_with fail
       go_ret
       rw [R.out]
       exact⟨rfl,HBW.out⟩
     ·by_cases b1:0<=c.cl
      ·by_cases b2:c.cl<=254
       ·by_cases b3:c.data.length<=4096
        ·have t3:decide ((c.data.length:Int)<=4096)=true:=decide_eq_true (by omega)
         have R:Hid (vc=false):=iH (by rw [<-HV.out];exact decide_eq_false fun h=>h.2.2.2.2.2.2.elim b6 (fun h=>b8 h.2))
         go_wp2_with fail
         go_ret
         rw [R.out]
         exact⟨rfl,HBW.out⟩
        ·have t3:decide ((c.data.length:Int)<=4096)=false:=decide_eq_false (by omega)
         have R:Hid (vc=false):=iH (by rw [<-HV.out];exact decide_eq_false fun h=>b3 h.2.2.2.2.2.1)
         go_wp2_with fail
         go_ret
         rw [R.out]
         exact⟨rfl,HBW.out⟩
       ·have R:Hid (vc=false):=iH (by rw [<-HV.out];exact decide_eq_false fun h=>b2 h.2.1)
        go_wp2_with fail
        go_ret
        rw [R.out]
        exact⟨rfl,HBW.out⟩
      ·have R:Hid (vc=false):=iH (by rw [<-HV.out];exact decide_eq_false fun h=>b1 h.1)
       go_wp2_with fail
       go_ret
       rw [R.out]
       exact⟨rfl,HBW.out⟩
    ·by_cases b1:0<=c.cl
     ·by_cases b2:c.cl<=254
      ·by_cases b3:c.data.length<=4096
       ·have t3:decide ((c.data.length:Int)<=4096)=true:=decide_eq_true (by omega)
        have R:Hid (vc=false):=iH (by rw [<-HV.out];exact decide_eq_false fun h=>h.2.2.2.2.2.2.elim b6 (fun h=>b7 h.1))
        go_wp2_with fail
        go_ret
        rw [R.out]
        exact⟨rfl,HBW.out⟩
       ·have t3:decide ((c.data.length:Int)<=4096)=false:=decide_eq_false (by omega)
        have R:Hid (vc=false):=iH (by rw [<-HV.out];exact decide_eq_false fun h=>b3 h.2.2.2.2.2.1)
        go_wp2_with fail
        go_ret
        rw [R.out]
        exact⟨rfl,HBW.out⟩
      ·have R:Hid (vc=false):=iH (by rw [<-HV.out];exact decide_eq_false fun h=>b2 h.2.1)
       go_wp2_with fail
       go_ret
       rw [R.out]
       exact⟨rfl,HBW.out⟩
     ·have R:Hid (vc=false):=iH (by rw [<-HV.out];exact decide_eq_false fun h=>b1 h.1)
      go_wp2_with fail
      go_ret
      rw [R.out]
      exact⟨rfl,HBW.out⟩
end Go.Proofs.Ytadndhgebgjlaaa
