/- Sessions and commands: which are valid, both sides; A region that draws its order, by what each operation leaves behind: one walk, whatever the order; no pro... -/
import Derived.Lib.BitFns
import Derived.Lib.Slices
import Derived.Lib.Small
import Derived.Lib.Strings
import Derived.Lib.Walk
import Derived.Test.YtadndhgebgjlaaaGreatChecked
import Derived.Test.YtadndhgebgjlaaaGreatPu
set_option linter.all false
set_option maxRecDepth 100000
set_option maxHeartbeats 4000000
namespace Go.Proofs.YtadndhgebgjlaaaGreat
open Go.RowKit Go.Deep
theorem m6{P:Prop}(h:P:=by
 go_simp
 refine hK _ _ hJ iB ?_
 first|exact rfl|exact j5 _):P:=h
theorem m7{P:Prop}(h:P:=by
 obtain⟨A5,C5,hv5⟩:=Bs.formL hx
 subst hv5
 exact hK _ _ (hJ.trans (hb.mono hJ.size)) hb ⟨_,_,rfl,hx⟩):P:=h
theorem m8{P:Prop}(h:P:=by
 go_wp2_with fail
 go_ret
 rw [R.out]
 exact⟨rfl,HBW.out⟩):P:=h
theorem mn{P:Prop}(h:P:=by
 go_enter Tryz.func29,Tryz.ntmps29
 go_upto_region 1 with fail
 rw [<-HW.out]
 obtain⟨f0,f1,f2,f3,f4,f5⟩:=FC.out w0 iB
 go_wp2_with(first|(go_at_call 60;(with_reducible refine(B4.out _).mono ?_);rintro e w' ⟨rfl,hw'⟩;rw [hw'];clear hw' w')|(go_at_call 60;(with_reducible refine(B3.out _).mono ?_);rintro e w' ⟨rfl,hw'⟩;rw [hw'];clear hw' w')|(go_at_call 60;(with_reducible refine(B2.out _).mono ?_);rintro e w' ⟨rfl,hw'⟩;rw [hw'];clear hw' w')|(go_at_call 60;(with_reducible refine(B1.out _).mono ?_);rintro e w' ⟨rfl,hw'⟩;rw [hw'];clear hw' w'))
 go_ret
 rw [R.out]
 exact⟨rfl,HB.out⟩):P:=h
theorem m1f{P:Prop}(h:P:=by
 go_enter Tryz.func29,Tryz.ntmps29
 go_upto_region 1 with fail
 rw [<-HW.out]
 obtain⟨f0,f1,f2,f3,f4,f5⟩:=FC.out w0 iB
 go_wp2_with(first|(go_at_call 60;(with_reducible refine(B1.out _).mono ?_);rintro e w' ⟨rfl,hw'⟩;rw [hw'];clear hw' w'))
 go_ret
 rw [R.out]
 exact⟨rfl,HB.out⟩):P:=h
theorem m1w{P:Prop}(h:P:=by
 subst h0
 have hj':j=l.length:=by omega
 have HXE:Hid ((X:Int)=JZ l):=iH (by have:=hX.out;rwa [hj',List.take_length]at this)
 subst hj'
 clear hX
 go_wp2_with fail
 go_ret2
 rw [HXE.out]
 exact⟨rfl,rfl⟩):P:=h
theorem m25{P:Prop}(h:P:=by
 obtain⟨a',c',e,_,_,_,h4⟩:=HV.out
 injection e with e1 e2 e3
 subst e1
 obtain⟨b,off,e2,_,hc⟩:=h4 (by omega)
 exact⟨b,off,e2,by rw [hy];exact hc j hlt⟩):P:=h
theorem m30{P:Prop}(h:P:=by
 have hr:=(hb.block w.heap.size (iG hh0)).trans hh0
 refine⟨?_,?_,?_,?_,?_,?_⟩<;>(rw [cell_of_row _ _ _ _ _ _ hr]<;>rfl)):P:=h
theorem m49{P:Prop}(h:P:=by
 obtain⟨_,o,ho,_⟩:=mem_ready.1 hr
 have:=(iG ho)
 omega):P:=h
def vS(k1 k2:List UInt8)(n:Int):Bool:=decide (k1.length=16/\k2.length=16/\0<=n/\n<=1099511627776)
def ql(n:Int):Bool:=decide (0<=n/\n<=255)
def vC(c:Cm):Bool:=decide (0<=c.cl/\c.cl<=254/\(0<=c.ins/\c.ins<=255)/\(0<=c.p1/\c.p1<=255)/\(0<=c.p2/\c.p2<=255)/\c.data.length<=4096/\(c.ex= -1\/(1<=c.ex/\c.ex<=65536)))
section
variable(v:Value)(k1 k2:List UInt8)(n:Int)(S:Nat->Prop)(w:World)(h:qs w S v k1 k2 n)
include v k1 k2 n S w h
theorem js:
 Calls Tryz.prog 47 #[v] w fun e w'=>e=.returned (.bool (vS k1 k2 n))/\Below w.heap.size w w':=by
 obtain⟨u1,u2,rfl,h1,h2⟩:=h
 obtain⟨A1,n1,c1,rfl⟩:=h1.form
 obtain⟨A2,n2,c2,rfl⟩:=h2.form
 obtain rfl:=Bs.lenEq h1
 obtain rfl:=Bs.lenEq h2
 have hb:Below w.heap.size w (w.alloc (.cells #[.slice A1 k1.length c1,.slice A2 k2.length c2,.int .i64 n] 29)):=iA
 have HB:=iH hb
 clear hb h1 h2
 by_cases a1:k1.length=16
 ·have t1:((k1.length:Int)==16)=true:=by simp;omega
  by_cases a2:k2.length=16
  ·have t2:((k2.length:Int)==16)=true:=by simp;omega
   by_cases a3:0<=n
   ·by_cases a4:n<=1099511627776
    ·have R:Hid (vS k1 k2 n=true):=iH (decide_eq_true ⟨a1,a2,a3,a4⟩)
     clear a1 a2
     go_enter Tryz.func47,Tryz.ntmps47
     exact m9
    ·have R:Hid (vS k1 k2 n=false):=iH (decide_eq_false fun h=>a4 h.2.2.2)
     clear a1 a2
     go_enter Tryz.func47,Tryz.ntmps47
     exact m9
   ·have R:Hid (vS k1 k2 n=false):=iH (decide_eq_false fun h=>a3 h.2.2.1)
    clear a1 a2
    go_enter Tryz.func47,Tryz.ntmps47
    exact m9
  ·have t2:((k2.length:Int)==16)=false:=by simp;omega
   have R:Hid (vS k1 k2 n=false):=iH (decide_eq_false fun h=>a2 h.2.1)
   clear a1 a2
   go_enter Tryz.func47,Tryz.ntmps47
   go_wp2_with fail
   go_ret
   rw [R.out]
   exact⟨rfl,HB.out⟩
 ·have t1:((k1.length:Int)==16)=false:=by simp;omega
  have R:Hid (vS k1 k2 n=false):=iH (decide_eq_false fun h=>a1 h.1)
  clear a1
  go_enter Tryz.func47,Tryz.ntmps47
  go_wp2_with fail
  go_ret
  rw [R.out]
  exact⟨rfl,HB.out⟩
theorem jt:
 Calls Tryz.prog 28 #[v] w fun e w'=>e=.returned (.bool (vS k1 k2 n))/\Below w.heap.size w w':=by
 obtain⟨u1,u2,rfl,h1,h2⟩:=h
 obtain⟨A1,n1,c1,rfl⟩:=h1.form
 obtain⟨A2,n2,c2,rfl⟩:=h2.form
 obtain rfl:=Bs.lenEq h1
 obtain rfl:=Bs.lenEq h2
 have hb:Below w.heap.size w (w.alloc (.cells #[.slice A1 k1.length c1,.slice A2 k2.length c2,.int .i64 n] 29)):=iA
 have HB:=iH hb
 clear hb h1 h2
 by_cases a1:k1.length=16
 ·have t1:((k1.length:Int)==16)=true:=by simp;omega
  by_cases a2:k2.length=16
  ·have t2:((k2.length:Int)==16)=true:=by simp;omega
   by_cases a3:0<=n
   ·by_cases a4:n<=1099511627776
    ·have R:Hid (vS k1 k2 n=true):=iH (decide_eq_true ⟨a1,a2,a3,a4⟩)
     clear a1 a2
     go_enter Tryz.func28,Tryz.ntmps28
     exact m9
    ·have R:Hid (vS k1 k2 n=false):=iH (decide_eq_false fun h=>a4 h.2.2.2)
     clear a1 a2
     go_enter Tryz.func28,Tryz.ntmps28
     exact m9
   ·have R:Hid (vS k1 k2 n=false):=iH (decide_eq_false fun h=>a3 h.2.2.1)
    clear a1 a2
    go_enter Tryz.func28,Tryz.ntmps28
    exact m9
  ·have t2:((k2.length:Int)==16)=false:=by simp;omega
   have R:Hid (vS k1 k2 n=false):=iH (decide_eq_false fun h=>a2 h.2.1)
   clear a1 a2
   go_enter Tryz.func28,Tryz.ntmps28
   go_wp2_with fail
   go_ret
   rw [R.out]
   exact⟨rfl,HB.out⟩
 ·have t1:((k1.length:Int)==16)=false:=by simp;omega
  have R:Hid (vS k1 k2 n=false):=iH (decide_eq_false fun h=>a1 h.1)
  clear a1
  go_enter Tryz.func28,Tryz.ntmps28
  go_wp2_with fail
  go_ret
  rw [R.out]
  exact⟨rfl,HB.out⟩
end
theorem qo(n:Int)(w:World):Calls Tryz.prog 60 #[.int .i64 n] w fun e w'=>e=.returned (.bool (ql n))/\w'=w:=by
 have e8:ql n=(decide (0<=n)&&decide (n<=255)):=by unfold ql;rw [Bool.decide_and]
 rw [e8]
 go_enter Tryz.func60,Tryz.ntmps60
 by_cases h:0<=n<;>by_cases h2:n<=255<;>(go_wp2_with fail;go_ret;exact⟨by simp [h,h2],rfl⟩)
section
variable(v:Value)(c:Cm)(S:Nat->Prop)(w:World)(h:Jm w S v c)
include v c S w h
theorem kt:Calls Tryz.prog 29 #[v] w fun e w'=>e=.returned (.bool (vC c))/\Below w.heap.size w w':=by
 obtain⟨u,rfl,h1⟩:=h
 obtain⟨A,m,k,rfl⟩:=h1.form
 obtain rfl:=Bs.lenEq h1
 obtain⟨w0,hw0⟩:∃w0,w0=w.alloc (.cells #[.int .i64 c.cl,.int .i64 c.ins,.int .i64 c.p1,.int .i64 c.p2,.slice A c.data.length k,.int .i64 c.ex] 32):=⟨_,rfl⟩
 have hh0:w0.heap[w.heap.size]?=some (.cells #[.int .i64 c.cl,.int .i64 c.ins,.int .i64 c.p1,.int .i64 c.p2,.slice A c.data.length k,.int .i64 c.ex] 32 (0,0)):=by rw [hw0];exact iN
 have hb0:Below w.heap.size w w0:=by rw [hw0];exact iA
 have HB:=iH hb0;have HW:=iH hw0
 have FC:Hid (∀W,Below w0.heap.size w0 W->W.cell? ⟨w.heap.size,0,none⟩=some (.int .i64 c.cl)/\W.cell? ⟨w.heap.size,1,none⟩=some (.int .i64 c.ins)/\W.cell? ⟨w.heap.size,2,none⟩=some (.int .i64 c.p1)/\W.cell? ⟨w.heap.size,3,none⟩=some (.int .i64 c.p2)/\W.cell? ⟨w.heap.size,4,none⟩=some (.slice A c.data.length k)/\W.cell? ⟨w.heap.size,5,none⟩=some (.int .i64 c.ex)):=iH fun W hb=>by
  exact m30
 clear h1 hw0 hh0 hb0
 by_cases b1:ql c.cl=true
 ·have B1:Hid (∀w,Calls Tryz.prog 60 #[.int .i64 c.cl] w fun e w'=>e=.returned (.bool true)/\w'=w):=iH (fun w=>by have h:=qo c.cl w;rw [b1]at h;exact h)
  have iB1:=of_decide_eq_true b1
  by_cases b9:c.cl=255
  ·have t9:(c.cl != 255)=false:=by simp [b9]
   have R:Hid (vC c=false):=iH (decide_eq_false fun h=>by have:=h.2.1;omega)
   clear b1 b9
   exact m1f
  ·have t9:(c.cl != 255)=true:=by simpa using b9
   by_cases b2:ql c.ins=true
   ·have B2:Hid (∀w,Calls Tryz.prog 60 #[.int .i64 c.ins] w fun e w'=>e=.returned (.bool true)/\w'=w):=iH (fun w=>by have h:=qo c.ins w;rw [b2]at h;exact h)
    have iB2:=of_decide_eq_true b2
    by_cases b3:ql c.p1=true
    ·have B3:Hid (∀w,Calls Tryz.prog 60 #[.int .i64 c.p1] w fun e w'=>e=.returned (.bool true)/\w'=w):=iH (fun w=>by have h:=qo c.p1 w;rw [b3]at h;exact h)
     have iB3:=of_decide_eq_true b3
     by_cases b4:ql c.p2=true
     ·have B4:Hid (∀w,Calls Tryz.prog 60 #[.int .i64 c.p2] w fun e w'=>e=.returned (.bool true)/\w'=w):=iH (fun w=>by have h:=qo c.p2 w;rw [b4]at h;exact h)
      have iB4:=of_decide_eq_true b4
      by_cases b5:c.data.length<=4096
      ·have t5:decide ((c.data.length:Int)<=4096)=true:=decide_eq_true (by omega)
       by_cases b6:c.ex= -1
       ·have t6:(c.ex== -1)=true:=by simp [b6]
        have R:Hid (vC c=true):=iH (decide_eq_true ⟨iB1.1,by omega,iB2,iB3,iB4,b5,.inl b6⟩)
        clear b1 b9 b2 b3 b4 b5 b6
        exact mn
       ·have t6:(c.ex== -1)=false:=by simpa using b6
        by_cases b7:1<=c.ex
        ·by_cases b8:c.ex<=65536
         ·have R:Hid (vC c=true):=iH (decide_eq_true ⟨iB1.1,by omega,iB2,iB3,iB4,b5,.inr ⟨b7,b8⟩⟩)
          clear b1 b9 b2 b3 b4 b5 b6
          exact mn
         ·have t8:decide (c.ex<=65536)=false:=decide_eq_false b8
          have R:Hid (vC c=false):=iH (decide_eq_false fun h=>h.2.2.2.2.2.2.elim b6 (fun h=>b8 h.2))
          clear b1 b9 b2 b3 b4 b5 b6
          exact mn
        ·have R:Hid (vC c=false):=iH (decide_eq_false fun h=>h.2.2.2.2.2.2.elim b6 (fun h=>b7 h.1))
         clear b1 b9 b2 b3 b4 b5 b6
         exact mn
      ·have t5:decide ((c.data.length:Int)<=4096)=false:=decide_eq_false (by omega)
       have R:Hid (vC c=false):=iH (decide_eq_false fun h=>b5 h.2.2.2.2.2.1)
       clear b1 b9 b2 b3 b4 b5
       exact mn
     ·have b4':ql c.p2=false:=by simpa using b4
      have B4:Hid (∀w,Calls Tryz.prog 60 #[.int .i64 c.p2] w fun e w'=>e=.returned (.bool false)/\w'=w):=iH (fun w=>by have h:=qo c.p2 w;rw [b4']at h;exact h)
      have R:Hid (vC c=false):=iH (decide_eq_false fun h=>b4 (decide_eq_true h.2.2.2.2.1))
      clear b1 b9 b2 b3 b4 b4'
      exact mn
    ·have b3':ql c.p1=false:=by simpa using b3
     have B3:Hid (∀w,Calls Tryz.prog 60 #[.int .i64 c.p1] w fun e w'=>e=.returned (.bool false)/\w'=w):=iH (fun w=>by have h:=qo c.p1 w;rw [b3']at h;exact h)
     have R:Hid (vC c=false):=iH (decide_eq_false fun h=>b3 (decide_eq_true h.2.2.2.1))
     clear b1 b9 b2 b3 b3'
     go_enter Tryz.func29,Tryz.ntmps29
     go_upto_region 1 with fail
     rw [<-HW.out]
     obtain⟨f0,f1,f2,f3,f4,f5⟩:=FC.out w0 iB
     go_wp2_with(first|(go_at_call 60;(with_reducible refine(B3.out _).mono ?_);rintro e w' ⟨rfl,hw'⟩;rw [hw'];clear hw' w')|(go_at_call 60;(with_reducible refine(B2.out _).mono ?_);rintro e w' ⟨rfl,hw'⟩;rw [hw'];clear hw' w')|(go_at_call 60;(with_reducible refine(B1.out _).mono ?_);rintro e w' ⟨rfl,hw'⟩;rw [hw'];clear hw' w'))
     go_ret
     rw [R.out]
     exact⟨rfl,HB.out⟩
   ·have b2':ql c.ins=false:=by simpa using b2
    have B2:Hid (∀w,Calls Tryz.prog 60 #[.int .i64 c.ins] w fun e w'=>e=.returned (.bool false)/\w'=w):=iH (fun w=>by have h:=qo c.ins w;rw [b2']at h;exact h)
    have R:Hid (vC c=false):=iH (decide_eq_false fun h=>b2 (decide_eq_true h.2.2.1))
    clear b1 b9 b2 b2'
    go_enter Tryz.func29,Tryz.ntmps29
    go_upto_region 1 with fail
    rw [<-HW.out]
    obtain⟨f0,f1,f2,f3,f4,f5⟩:=FC.out w0 iB
    go_wp2_with(first|(go_at_call 60;(with_reducible refine(B2.out _).mono ?_);rintro e w' ⟨rfl,hw'⟩;rw [hw'];clear hw' w')|(go_at_call 60;(with_reducible refine(B1.out _).mono ?_);rintro e w' ⟨rfl,hw'⟩;rw [hw'];clear hw' w'))
    go_ret
    rw [R.out]
    exact⟨rfl,HB.out⟩
 ·have b1':ql c.cl=false:=by simpa using b1
  have B1:Hid (∀w,Calls Tryz.prog 60 #[.int .i64 c.cl] w fun e w'=>e=.returned (.bool false)/\w'=w):=iH (fun w=>by have h:=qo c.cl w;rw [b1']at h;exact h)
  have R:Hid (vC c=false):=iH (decide_eq_false fun h=>b1 (decide_eq_true ⟨h.1,by have:=h.2.1;omega⟩))
  clear b1 b1'
  exact m1f
theorem kN:Calls Tryz.prog 48 #[v] w fun e w'=>e=.returned (.bool (vC c))/\Below w.heap.size w w':=by
 obtain⟨u,rfl,h1⟩:=h
 obtain⟨A,m,k,rfl⟩:=h1.form
 obtain rfl:=Bs.lenEq h1
 obtain⟨w0,hw0⟩:∃w0,w0=w.alloc (.cells #[.int .i64 c.cl,.int .i64 c.ins,.int .i64 c.p1,.int .i64 c.p2,.slice A c.data.length k,.int .i64 c.ex] 32):=⟨_,rfl⟩
 have hh0:w0.heap[w.heap.size]?=some (.cells #[.int .i64 c.cl,.int .i64 c.ins,.int .i64 c.p1,.int .i64 c.p2,.slice A c.data.length k,.int .i64 c.ex] 32 (0,0)):=by rw [hw0];exact iN
 have hb0:Below w.heap.size w w0:=by rw [hw0];exact iA
 have HB:=iH hb0;have HW:=iH hw0
 have FC:Hid (∀W,Below w0.heap.size w0 W->W.cell? ⟨w.heap.size,0,none⟩=some (.int .i64 c.cl)/\W.cell? ⟨w.heap.size,1,none⟩=some (.int .i64 c.ins)/\W.cell? ⟨w.heap.size,2,none⟩=some (.int .i64 c.p1)/\W.cell? ⟨w.heap.size,3,none⟩=some (.int .i64 c.p2)/\W.cell? ⟨w.heap.size,4,none⟩=some (.slice A c.data.length k)/\W.cell? ⟨w.heap.size,5,none⟩=some (.int .i64 c.ex)):=iH fun W hb=>by
  exact m30
 clear h1 hw0 hh0 hb0
 obtain⟨w1,hw1⟩:∃w1,w1=w0.alloc (.cells #[.int .i64 c.ins,.int .i64 c.p1,.int .i64 c.p2] 3):=⟨_,rfl⟩
 have hb1:Below w0.heap.size w0 w1:=by rw [hw1];exact iA
 have hr1:w1.heap[w0.heap.size]?=some (.cells #[.int .i64 c.ins,.int .i64 c.p1,.int .i64 c.p2] 3 (0,0)):=by rw [hw1];exact iN
 have S3:=iH (j7 hr1)
 have HB1:=iH hb1;have HW1:=iH hw1
 have HBW:=iH (HB.out.trans (hb1.mono HB.out.size))
 clear hb1 hr1 hw1
 obtain⟨vc,hvc⟩:∃vc,vC c=vc:=⟨_,rfl⟩
 have HV:=iH hvc
 rw [hvc]
 clear hvc
 go_enter Tryz.func48,Tryz.ntmps48
 go_upto_region 1 with fail
 rw [<-HW.out]
 obtain⟨f0,f1,f2,f3,f4,f5⟩:=FC.out w0 iB
 go_wp2_with fail
 rw [<-HW1.out]
 clear f0 f1 f2 f3 f4 f5
 go_loopg [4,14] 3 (fun q _ i wr=>∃j:Nat,j+q=3/\i=.int .i64 j/\w1=wr/\Hid ((0<j->ql c.ins=true)/\(1<j->ql c.p1=true)/\(2<j->ql c.p2=true)))
 case atStart=>exact⟨0,rfl,rfl,rfl,iH ⟨fun h=>absurd h (by decide),fun h=>absurd h (by decide),fun h=>absurd h (by decide)⟩⟩
 case round=>
  obtain⟨j,hj,rfl,rfl,HO⟩:=hrel
  obtain⟨s0,s1,s2,_⟩:=S3.out
  obtain rfl|rfl|rfl|rfl:j=0\/j=1\/j=2\/j=3:=by omega
  ·obtain rfl:gk=3:=by omega
   by_cases b1:c.ins<0
   ·have R:Hid (vc=false):=iH (by rw [<-HV.out];exact decide_eq_false fun h=>absurd h.2.2.1 (by omega))
    clear hj
    exact m8
   ·by_cases b2:c.ins>255
    ·have R:Hid (vc=false):=iH (by rw [<-HV.out];exact decide_eq_false fun h=>absurd h.2.2.1 (by omega))
     clear hj
     exact m8
    ·have HO2:Hid ((0<1->ql c.ins=true)/\(1<1->ql c.p1=true)/\(2<1->ql c.p2=true)):=iH ⟨fun _=>decide_eq_true ⟨by omega,by omega⟩,fun h=>absurd h (by decide),fun h=>absurd h (by decide)⟩
     clear hj
     go_wp2_with fail
     go_roundg 2
     case measure=>omega
     case rel=>exact⟨1,rfl,rfl,rfl,HO2⟩
  ·obtain rfl:gk=2:=by omega
   by_cases b1:c.p1<0
   ·have R:Hid (vc=false):=iH (by rw [<-HV.out];exact decide_eq_false fun h=>absurd h.2.2.2.1 (by omega))
    clear hj
    exact m8
   ·by_cases b2:c.p1>255
    ·have R:Hid (vc=false):=iH (by rw [<-HV.out];exact decide_eq_false fun h=>absurd h.2.2.2.1 (by omega))
     clear hj
     exact m8
    ·have HO2:Hid ((0<2->ql c.ins=true)/\(1<2->ql c.p1=true)/\(2<2->ql c.p2=true)):=iH ⟨fun _=>HO.out.1 (by decide),fun _=>decide_eq_true ⟨by omega,by omega⟩,fun h=>absurd h (by decide)⟩
     clear hj
     go_wp2_with fail
     go_roundg 1
     case measure=>omega
     case rel=>exact⟨2,rfl,rfl,rfl,HO2⟩
  ·obtain rfl:gk=1:=by omega
   by_cases b1:c.p2<0
   ·have R:Hid (vc=false):=iH (by rw [<-HV.out];exact decide_eq_false fun h=>absurd h.2.2.2.2.1 (by omega))
    clear hj
    exact m8
   ·by_cases b2:c.p2>255
    ·have R:Hid (vc=false):=iH (by rw [<-HV.out];exact decide_eq_false fun h=>absurd h.2.2.2.2.1 (by omega))
     clear hj
     exact m8
    ·have HO2:Hid ((0<3->ql c.ins=true)/\(1<3->ql c.p1=true)/\(2<3->ql c.p2=true)):=iH ⟨fun _=>HO.out.1 (by decide),fun _=>HO.out.2.1 (by decide),fun _=>decide_eq_true ⟨by omega,by omega⟩⟩
     clear hj
     go_wp2_with fail
     go_roundg 0
     case measure=>omega
     case rel=>exact⟨3,rfl,rfl,rfl,HO2⟩
  ·obtain rfl:gk=0:=by omega
   clear hj s0 s1 s2
   have i1:=of_decide_eq_true (HO.out.1 (by decide))
   have i2:=of_decide_eq_true (HO.out.2.1 (by decide))
   have i3:=of_decide_eq_true (HO.out.2.2 (by decide))
   obtain⟨f0,f1,f2,f3,f4,f5⟩:=FC.out w1 HB1.out
   by_cases b6:c.ex= -1
   ·have t6:(c.ex== -1)=true:=by simp [b6]
    have H6:=iH b6
    clear b6
    by_cases b1:0<=c.cl
    ·by_cases b2:c.cl<=254
     ·by_cases b3:c.data.length<=4096
      ·have t3:decide ((c.data.length:Int)<=4096)=true:=decide_eq_true (by omega)
       have R:Hid (vc=true):=iH (by rw [<-HV.out];exact decide_eq_true ⟨b1,b2,i1,i2,i3,b3,.inl H6.out⟩)
       exact m8
      ·have t3:decide ((c.data.length:Int)<=4096)=false:=decide_eq_false (by omega)
       have R:Hid (vc=false):=iH (by rw [<-HV.out];exact decide_eq_false fun h=>b3 h.2.2.2.2.2.1)
       exact m8
     ·have R:Hid (vc=false):=iH (by rw [<-HV.out];exact decide_eq_false fun h=>b2 h.2.1)
      exact m8
    ·have R:Hid (vc=false):=iH (by rw [<-HV.out];exact decide_eq_false fun h=>b1 h.1)
     exact m8
   ·have t6:(c.ex== -1)=false:=by simpa using b6
    by_cases b7:1<=c.ex
    ·by_cases b8:c.ex<=65536
     ·by_cases b1:0<=c.cl
      ·by_cases b2:c.cl<=254
       ·by_cases b3:c.data.length<=4096
        ·have t3:decide ((c.data.length:Int)<=4096)=true:=decide_eq_true (by omega)
         have R:Hid (vc=true):=iH (by rw [<-HV.out];exact decide_eq_true ⟨b1,b2,i1,i2,i3,b3,.inr ⟨b7,b8⟩⟩)
         exact m8
        ·have t3:decide ((c.data.length:Int)<=4096)=false:=decide_eq_false (by omega)
         have R:Hid (vc=false):=iH (by rw [<-HV.out];exact decide_eq_false fun h=>b3 h.2.2.2.2.2.1)
         exact m8
       ·have R:Hid (vc=false):=iH (by rw [<-HV.out];exact decide_eq_false fun h=>b2 h.2.1)
        exact m8
      ·have R:Hid (vc=false):=iH (by rw [<-HV.out];exact decide_eq_false fun h=>b1 h.1)
       exact m8
     ·by_cases b1:0<=c.cl
      ·by_cases b2:c.cl<=254
       ·by_cases b3:c.data.length<=4096
        ·have t3:decide ((c.data.length:Int)<=4096)=true:=decide_eq_true (by omega)
         have R:Hid (vc=false):=iH (by rw [<-HV.out];exact decide_eq_false fun h=>h.2.2.2.2.2.2.elim b6 (fun h=>b8 h.2))
         exact m8
        ·have t3:decide ((c.data.length:Int)<=4096)=false:=decide_eq_false (by omega)
         have R:Hid (vc=false):=iH (by rw [<-HV.out];exact decide_eq_false fun h=>b3 h.2.2.2.2.2.1)
         exact m8
       ·have R:Hid (vc=false):=iH (by rw [<-HV.out];exact decide_eq_false fun h=>b2 h.2.1)
        exact m8
      ·have R:Hid (vc=false):=iH (by rw [<-HV.out];exact decide_eq_false fun h=>b1 h.1)
       exact m8
    ·by_cases b1:0<=c.cl
     ·by_cases b2:c.cl<=254
      ·by_cases b3:c.data.length<=4096
       ·have t3:decide ((c.data.length:Int)<=4096)=true:=decide_eq_true (by omega)
        have R:Hid (vc=false):=iH (by rw [<-HV.out];exact decide_eq_false fun h=>h.2.2.2.2.2.2.elim b6 (fun h=>b7 h.1))
        exact m8
       ·have t3:decide ((c.data.length:Int)<=4096)=false:=decide_eq_false (by omega)
        have R:Hid (vc=false):=iH (by rw [<-HV.out];exact decide_eq_false fun h=>b3 h.2.2.2.2.2.1)
        exact m8
      ·have R:Hid (vc=false):=iH (by rw [<-HV.out];exact decide_eq_false fun h=>b2 h.2.1)
       exact m8
     ·have R:Hid (vc=false):=iH (by rw [<-HV.out];exact decide_eq_false fun h=>b1 h.1)
      exact m8
end
theorem YW(w:World)(o:Obj):(w.alloc o).heap.size=w.heap.size+1:=by simp
def jf:List (Option Tmp)->Nat->(Nat->Value)->Act->Act
 |[],_,_,a=>a
 |d :: ds,k,v,a=>jf ds (k+1) v (a.put d (v k))
def jy(v:Nat->Value)(i:Nat)(y:Value):Nat->Value:=fun k=>if k=i then y else v k
def ji(L:Nat->Bool)(i:Nat):Nat->Bool:=fun k=>if k=i then true else L k
def ZH(s:List Nat)(v:Nat->Value):Nat->Value:=fun k=>if k∈s then v k else undef
def Xp(a:Act):Option Tmp->Value
 |some d=>a.tmps.getD d undef
 |none=>undef
theorem Act.put_get(a:Act)(d:Option Tmp):a.put d (Xp a d)=a:=by
 cases d with
 |none=>rfl
 |some d=>
  obtain⟨t,de⟩:=a
  simp only [Act.put,Xp]
  congr 1
  apply Array.ext
  ·simp
  ·intro i h1 h2
   by_cases h:d=i
   ·subst h;simp [h2]
   ·rw [Array.getElem_setIfInBounds_ne _ h]
theorem Act.put_put(a:Act)(d:Option Tmp)(u v:Value):(a.put d u).put d v=a.put d v:=by
 cases d with
 |none=>rfl
 |some d=>
  obtain⟨t,de⟩:=a
  simp only [Act.put]
  congr 1
  apply Array.ext
  ·simp
  ·intro i h1 h2
   by_cases h:d=i
   ·subst h;simp
   ·simp
theorem Ud:∀(ds:List (Option Tmp)) (k:Nat) (a:Act),jf ds k (fun j=>Xp a (ds.getD (j - k) none)) a=a:=by
 intro ds
 induction ds with
 |nil=>intros;rfl
 |cons d ds ih=>
  intro k a
  unfold jf
  simp only [Nat.sub_self,List.getD_cons_zero]
  rw [Act.put_get]
  have:∀(b:Act),jf ds (k+1) (fun j=>Xp a ((d :: ds).getD (j - k) none)) b=jf ds (k+1) (fun j=>Xp a (ds.getD (j - (k+1)) none)) b:=by
   suffices h:∀(l:List (Option Tmp)) (m:Nat),k<m->∀b,jf l m (fun j=>Xp a ((d :: ds).getD (j - k) none)) b=jf l m (fun j=>Xp a (ds.getD (j - (k+1)) none)) b from h ds (k+1) (by omega)
   intro l
   induction l with
   |nil=>intros;rfl
   |cons e l ihl=>
    intro m hm b
    unfold jf
    rw [ihl (m+1) (by omega)]
    obtain⟨q,hq⟩:∃q,m - k=q+1:=⟨m - k - 1,by omega⟩
    have hq':m - (k+1)=q:=by omega
    simp only [hq,hq',List.getD_cons_succ]
  rw [this,ih]
def zM:List (Option Tmp)->Bool
 |[]=>true
 |none :: ds=>zM ds
 |some d :: ds=> !ds.contains (some d)&&zM ds
theorem Ue(x:Option Tmp)(y:Value):∀(ds:List (Option Tmp)) (k:Nat) (v:Nat->Value) (a:Act),(∀d,x=some d->some d ∉ ds)->(jf ds k v a).put x y=jf ds k v (a.put x y):=by
 intro ds
 induction ds with
 |nil=>intros;rfl
 |cons d ds ih=>
  intro k v a h
  unfold jf
  rw [ih _ _ _ (fun e he hm=>h e he (List.mem_cons_of_mem _ hm)),Act.put_comm a (v k) y (fun e he hx=>h e hx (he▸List.mem_cons_self))]
theorem Xm:∀(ds:List (Option Tmp)) (k:Nat) (v u:Nat->Value) (a:Act),(∀j,k<=j->v j=u j)->jf ds k v a=jf ds k u a:=by
 intro ds
 induction ds with
 |nil=>intros;rfl
 |cons d ds ih=>intro k v u a h;unfold jf;rw [h k iL,ih _ v u _ (fun j hj=>h j (by omega))]
theorem Uf(y:Value):∀(ds:List (Option Tmp)) (k:Nat) (v:Nat->Value) (a:Act) (i:Nat),zM ds=true->i<ds.length->
 (jf ds k v a).put (ds.getD i none) y=jf ds k (jy v (k+i) y) a:=by
 intro ds
 induction ds with
 |nil=>intro k v a i _ h;cases h
 |cons d ds ih=>
  intro k v a i hap hi
  have hap2:zM ds=true:=by
   cases d with
   |none=>exact hap
   |some d=>simp only [zM,Bool.and_eq_true]at hap;exact hap.2
  have hd:∀e,d=some e->some e ∉ ds:=by
   intro e he;subst he
   simp only [zM,Bool.and_eq_true,Bool.not_eq_true',List.contains_eq_mem,decide_eq_false_iff_not]at hap
   exact hap.1
  cases i with
  |zero=>
   simp only [List.getD_cons_zero,Nat.add_zero]
   show(jf ds (k+1) v (a.put d (v k))).put d y=jf ds (k+1) (jy v k y) (a.put d (jy v k y k))
   rw [Ue d y ds _ _ _ hd,Act.put_put,Xm ds (k+1) v (jy v k y) _ (fun j hj=>by simp only [jy];rw [iF (by omega)])]
   simp [jy]
  |succ i=>
   simp only [List.getD_cons_succ]
   show(jf ds (k+1) v (a.put d (v k))).put _ y=jf ds (k+1) (jy v (k+(i+1)) y) (a.put d (jy v (k+(i+1)) y k))
   rw [ih (k+1) v _ i hap2 (by simpa using hi)]
   have e1:jy v (k+(i+1)) y k=v k:=by simp only [jy];rw [iF (by omega)]
   rw [e1,show k+1+i=k+(i+1)by omega]
section
variable {P:Program} {Q:Exit->Act->World->Prop}
def j6h(P:Program)(ops:Array Oper)(Q:Exit->Act->World->Prop)(ds:List (Option Tmp))(anc:List (List Nat))(J:(Nat->Bool)->(Nat->Value)->World->Prop)(R:World->World->Prop)(F:List ((Nat->Value)->World->Prop))(a0:Act)(i:Nat)(o:Oper):Prop:=
 ∀(L:Nat->Bool) (v:Nat->Value) (w:World),J L v w->L i=false->(∀k,k∈anc.getD i []->L k=true)->(∀k,L k=true->(F.getD k fun _ _=>True) (ZH (k :: anc.getD k []) v) w)->∀K:Act->World->Prop,
  (∀y w',J (ji L i) (jy v i y) w'->R w w'->(F.getD i fun _ _=>True) (ZH (i :: anc.getD i []) (jy v i y)) w'->K ((jf ds 0 v a0).put o.dst y) w')->
  if Region.wanted o (yielded ops (jf ds 0 v a0).tmps)=true then Oper.wp P o (jf ds 0 v a0) w K Q else K ((jf ds 0 v a0).put o.dst undef) w
def StepsRG(S:Nat->Oper->Prop):List Oper->Nat->Prop
 |[],_=>True
 |o :: l,i=>S i o/\StepsRG S l (i+1)
section
variable{S:Nat->Oper->Prop}
include S
theorem StepsRG.cons{o:Oper}{l:List Oper}{i:Nat}(h:S i o)(hs:StepsRG S l (i+1)):StepsRG S (o :: l) i:=⟨h,hs⟩
theorem StepsRG.nil{i:Nat}:StepsRG S [] i:=trivial
theorem StepsRG.get:∀ {l:List Oper} {k:Nat},StepsRG S l k->∀i o,l[i]?=some o->S (k+i) o:=by
 intro l
 induction l with
 |nil=>intro k _ i o h;simp at h
 |cons x l ih=>
  intro k h i o ho
  cases i with
  |zero=>simp at ho;subst ho;exact h.1
  |succ i=>have:=ih h.2 i o (by simpa using ho);rwa [show k+1+i=k+(i+1)by omega]at this
end
def UY(J:(Nat->Bool)->(Nat->Value)->World->Prop)(R:World->World->Prop)(f:(Nat->Value)->World->Prop):Prop:=∀v w w',(∃L u,J L u w)->(∃L u,J L u w')->R w w'->f v w->f v w'
def StabsRG(J:(Nat->Bool)->(Nat->Value)->World->Prop)(R:World->World->Prop):List ((Nat->Value)->World->Prop)->Prop
 |[]=>True
 |f :: l=>UY J R f/\StabsRG J R l
section
variable{J:(Nat->Bool)->(Nat->Value)->World->Prop}{R:World->World->Prop}
include J R
theorem StabsRG.cons{f:(Nat->Value)->World->Prop}{l:List ((Nat->Value)->World->Prop)}(h:UY J R f)(hs:StabsRG J R l):StabsRG J R (f :: l):=⟨h,hs⟩
theorem StabsRG.nil:StabsRG J R []:=trivial
theorem StabsRG.get:∀ {l:List ((Nat->Value)->World->Prop)},StabsRG J R l->∀i,UY J R (l.getD i fun _ _=>True):=by
 intro l
 induction l with
 |nil=>intro _ i v w w' _ _ _ _;simp
 |cons x l ih=>
  intro h i
  cases i with
  |zero=>exact h.1
  |succ i=>exact ih h.2 i
end
def Vf(ops:Array Oper)(n:Nat)(ds:List (Option Tmp))(anc:List (List Nat)):Bool:=
 decide (n<=ops.size)&&decide (ds=(ops.toList.take n).map (·.dst))&&zM ds&&
 ((List.range n).all fun i=>match ops[i]? with
   |some o=>(o.after.all fun e=> !Region.binds .any e||decide (e.on<i))&&(anc.getD i []).all fun k=>o.after.any fun e=>Region.binds .any e&&(e.on==k||(anc.getD e.on []).contains k)
   |none=>false)&&
 (decide (n=ops.size)||(Region.sinkB .any ops n&&Region.chainB .any ops n))&&
 Region.seqB .any ops (ops.size - n) n ((List.replicate n true++List.replicate (ops.size - n) false).toArray)
theorem Zs(p q:Nat->Bool)(i:Nat):∀n,i<n->(∀j,j≠i->q j=p j)->p i=true->q i=false->(List.range n).countP q+1=(List.range n).countP p:=by
 intro n
 induction n with
 |zero=>intro h;cases h
 |succ n ih=>
  intro hi hj hp hq
  rw [List.range_succ,List.countP_append,List.countP_append]
  by_cases h:i=n
  ·subst h
   have:(List.range i).countP q=(List.range i).countP p:=List.countP_congr fun x hx=>by rw [hj x (by have:=List.mem_range.1 hx;omega)]
   simp [hp,hq,this]
  ·have:=ih (by omega) hj hp hq
   simp only [List.countP_cons,List.countP_nil,hj n (Ne.symm h)]
   omega
structure j7d (ops:Array Oper) (n:Nat) (ds:List (Option Tmp)) (anc:List (List Nat)) (J:(Nat->Bool)->(Nat->Value)->World->Prop) (F:List ((Nat->Value)->World->Prop)) (a0:Act) (L:Array Bool) (a:Act) (w:World):Prop where
 hd:HeadInv .any ops n L
 f:∃v,a=jf ds 0 v a0/\J (fun k=>L.getD k false) v w/\∀k,L.getD k false=true->(F.getD k fun _ _=>True) (ZH (k :: anc.getD k []) v) w
theorem jc{id:Nat}{l:List Oper}{a0:Act}{w:World}(n:Nat)(ds:List (Option Tmp))(anc:List (List Nat))(J:(Nat->Bool)->(Nat->Value)->World->Prop)(R:World->World->Prop)(F:List ((Nat->Value)->World->Prop))(hm:P.follows .mixedOrders=true)(hc:Vf l.toArray n ds anc=true)(hG:∀v,J (fun _=>false) v w.drew)(hst:StabsRG J R F)(hs:StepsRG (j6h P l.toArray Q ds anc J R F a0) (l.take n) 0)(ht:∀v w,J (fun k=>decide (k<n)) v w->(∀k,k<n->(F.getD k fun _ _=>True) (ZH (k :: anc.getD k []) v) w)->wpList P l.toArray Q (l.drop n) (jf ds 0 v a0) w):
 (Code.region id l.toArray true).wp P Q a0 w:=by
 simp only [Vf,Bool.and_eq_true,decide_eq_true_eq,Bool.or_eq_true]at hc
 obtain⟨⟨⟨⟨⟨hn,hds⟩,hap⟩,hed⟩,htl⟩,hsq⟩:=hc
 have hn':n<=l.length:=by simpa using hn
 have hlen:ds.length=n:=by rw [hds];simp;omega
 have hops:∀i (o:Oper),l.toArray[i]?=some o->i<n->(l.take n)[i]?=some o/\ds.getD i none=o.dst:=by
  intro i o ho hi
  have h1:(l.take n)[i]?=some o:=by rw [List.getElem?_take];simp only [hi,if_true];simpa using ho
  refine⟨h1,?_⟩
  rw [hds]
  have h2:(l.take n)[i]?=some o:=h1
  simp only [List.getD_eq_getElem?_getD,List.getElem?_map]
  rw [show(l.toArray.toList.take n)[i]?=some o from h2]
  rfl
 have hedge:∀i o,l.toArray[i]?=some o->i<n->(∀e∈o.after,Region.binds .any e=true->e.on<i)/\∀k,k∈anc.getD i []->∃e∈o.after,Region.binds .any e=true/\(e.on=k\/k∈anc.getD e.on []):=by
  intro i o ho hi
  have h:=List.all_eq_true.1 hed i (List.mem_range.2 hi)
  simp only [ho,Bool.and_eq_true]at h
  refine⟨fun e he hb=> ?_,fun k hk=> ?_⟩
  ·have:=Array.all_eq_true_iff_forall_mem.1 h.1 e he
   simpa [hb]using this
  ·have:=List.all_eq_true.1 h.2 k hk
   obtain⟨e,he,hb⟩:=Array.any_eq_true'.1 this
   simp only [Bool.and_eq_true,Bool.or_eq_true,beq_iff_eq,List.contains_eq_mem,decide_eq_true_eq]at hb
   exact⟨e,he,hb.1,hb.2⟩
 have hanc:∀(L:Array Bool),HeadInv .any l.toArray n L->∀i,∀j,j<=i->j<n->∀o,l.toArray[j]?=some o->(∀e∈o.after,Region.binds .any e=true->L.getD e.on false=true)->∀k,k∈anc.getD j []->k<n/\L.getD k false=true:=by
  intro L hL i
  induction i with
  |zero=>
   intro j hj hjn o ho hall k hk
   obtain⟨e,he,hb,_⟩:=(hedge j o ho hjn).2 k hk
   have:=(hedge j o ho hjn).1 e he hb
   omega
  |succ i ih=>
   intro j hj hjn o ho hall k hk
   obtain⟨e,he,hb,hek⟩:=(hedge j o ho hjn).2 k hk
   have hlt:=(hedge j o ho hjn).1 e he hb
   rcases hek with rfl|hek
   ·exact⟨by omega,hall e he hb⟩
   ·have hsz:e.on<l.toArray.size:=iZ (Nat.lt_trans hlt hjn) hn
    exact ih e.on (by omega) (by omega) _ (Array.getElem?_eq_getElem hsz) (fun e' he' hb'=>hL.closed e.on _ (Array.getElem?_eq_getElem hsz) (hall e he hb) e' he' hb') k hek
 have hprog:∀(L:Array Bool),HeadInv .any l.toArray n L->∀i,i<n->L.getD i true=false->(∃j,j<n/\j∈Region.ready .any l.toArray L)/\∀t,n<=t->t ∉ Region.ready .any l.toArray L:=by
  intro L hL i hi hun
  constructor
  ·induction i using Nat.strongRecOn with
   |_ i ih=>
    have hsz:i<l.toArray.size:=iZ hi hn
    rcases Classical.em (∀e∈l.toArray[i].after,Region.binds .any e=true->L.getD e.on false=true)with h|h
    ·exact⟨i,hi,mem_ready.2 ⟨hun,_,Array.getElem?_eq_getElem hsz,h⟩⟩
    ·have⟨e,h1⟩:=Classical.not_forall.1 h
     have⟨he,h2⟩:=Classical.not_imp.1 h1
     have⟨hb,h3⟩:=Classical.not_imp.1 h2
     have hlt:=(hedge i _ (Array.getElem?_eq_getElem hsz) hi).1 e he hb
     exact ih e.on hlt (by omega) (getD_in (by rw [hL.size];omega) (by simpa using h3))
  ·intro t htn hr
   rcases htl with h|h
   ·exact m49
   ·rcases Nat.lt_or_ge n l.toArray.size with h'|h'
    ·exact tail_waits h.1 h.2 h' hL (n - i) i rfl hi hun t htn hr
    ·exact m49
 have hfull:∀(L:Array Bool),HeadInv .any l.toArray n L->(∀i,i<n->L.getD i false=true)->L=(List.replicate n true++List.replicate (l.toArray.size - n) false).toArray:=by
  intro L hL hall
  apply Array.ext
  ·rw [hL.size];simp;simp at hn;omega
  ·intro i h1 h2
   rcases Nat.lt_or_ge i n with h|h
   ·have:=hall i h
    simp [h1]at this
    simp [h,this]
   ·have:=hL.tail i h (by rw [<-hL.size];exact h1)
    simp [h1]at this
    simp [List.getElem_append,Nat.not_lt.2 h,this]
 have main:∀c (L:Array Bool) (a:Act) (w:World),(List.range n).countP (fun j=> !L.getD j false)=c->j7d l.toArray n ds anc J F a0 L a w->wpAny P .any l.toArray Q (c+(l.toArray.size - n)) L a w:=by
  intro c
  induction c with
  |zero=>
   intro L a w hcnt hI
   have hall:∀i,i<n->L.getD i false=true:=fun i hi=>by
    have:=List.countP_eq_zero.1 hcnt i (List.mem_range.2 hi)
    simpa using this
   obtain⟨v,ha,hJ,hF⟩:=hI.f
   have hL:=hfull L hI.hd hall
   have hLd:(fun k=>L.getD k false)=fun k=>decide (k<n):=by
    funext k
    rcases Nat.lt_or_ge k n with h|h
    ·rw [hall k h,decide_eq_true h]
    ·rw [decide_eq_false (Nat.not_lt.2 h)]
     rcases Nat.lt_or_ge k l.toArray.size with h'|h'
     ·exact getD_both (hI.hd.tail k h h')
     ·have:L.size<=k:=by rw [hI.hd.size];exact h'
      simp [Array.getElem?_eq_none this]
   rw [hLd]at hJ
   have h2:=ht v w hJ (fun k hk=>hF k (hall k hk))
   rw [<-ha]at h2
   rw [Nat.zero_add]
   have hdl:(l.drop n).length=l.toArray.size - n:=by simp
   have:=wpAny_of_seq (md:=.any) (ops:=l.toArray) (Q':=Q) (l.drop n) n L a w (fun j=>by simp [List.getElem?_drop]) (by rw [hdl,hL];exact hsq) h2
   rwa [hdl]at this
  |succ c ih=>
   intro L a w hcnt hI
   have hex:∃i,i<n/\L.getD i false=false:=by
    rcases Classical.em (∃i,i<n/\L.getD i false=false)with h|h
    ·exact h
    ·have:(List.range n).countP (fun j=> !L.getD j false)=0:=List.countP_eq_zero.2 fun j hj hb=>h ⟨j,List.mem_range.1 hj,by simpa using hb⟩
     omega
   obtain⟨i0,hi0,hun0⟩:=hex
   have hP:=hprog L hI.hd i0 hi0 (getD_in (by rw [hI.hd.size];omega) hun0)
   rw [show c+1+(l.toArray.size - n)=(c+(l.toArray.size - n))+1 by omega]
   refine⟨fun h=> ?_,fun i hi=> ?_⟩
   ·obtain⟨j,_,hj⟩:=hP.1
    rw [h]at hj;cases hj
   ·have hin:i<n:=by
     rcases Nat.lt_or_ge i n with h|h
     ·exact h
     ·exact absurd hi (hP.2 i h)
    obtain⟨hun,o,ho,hall⟩:=mem_ready.1 hi
    obtain⟨v,ha,hJ,hF⟩:=hI.f
    obtain⟨h1,h2⟩:=hops i o ho hin
    have hA:=hanc L hI.hd i i iL hin o ho hall
    have hstep:=hs.get i o h1
    rw [Nat.zero_add]at hstep
    rw [ha]
    refine wpOp_step ho fun K hK=>hstep (fun k=>L.getD k false) v w hJ (getD_both hun) (fun k hk=>(hA k hk).2) hF K fun y w' hg' hr' hf'=>hK _ _ (ih _ _ _ ?_ ⟨hI.hd.set hi hin,jy v i y,?_,?_,?_⟩)
    ·have:=Zs (fun j=> !L.getD j false) (fun j=> !(L.setIfInBounds i true).getD j false) i n hin (fun j hj=>by simp only [getD_set_ne false (Ne.symm hj)]) (by simp only [getD_both hun,Bool.not_false]) (by
      have hls:i<L.size:=by rw [hI.hd.size];omega
      simp [hls])
     omega
    ·rw [<-h2]
     have:=Uf y ds 0 v a0 i hap (by omega)
     rwa [Nat.zero_add]at this
    ·have hls:i<L.size:=by rw [hI.hd.size];omega
     have:(fun k=>(L.setIfInBounds i true).getD k false)=ji (fun k=>L.getD k false) i:=by
      funext k
      unfold ji
      by_cases h:k=i
      ·subst h;simp [hls]
      ·rw [iF h,getD_set_ne false (Ne.symm h)]
     rw [this]
     exact hg'
    ·intro k hl
     by_cases hki:k=i
     ·subst hki;exact hf'
     ·rw [getD_set_ne false (Ne.symm hki)]at hl
      have hk:k<n:=by
       rcases Nat.lt_or_ge k n with h|h
       ·exact h
       ·rcases Nat.lt_or_ge k l.toArray.size with h'|h'
        ·rw [getD_both (hI.hd.tail k h h')]at hl;cases hl
        ·have:L.size<=k:=by rw [hI.hd.size];exact h'
         simp [Array.getElem?_eq_none this]at hl
      have hne:∀m,m∈k :: anc.getD k []->m≠i:=by
       intro m hm he
       subst he
       rcases List.mem_cons.1 hm with h|h
       ·exact hki h.symm
       ·have hsz:k<l.toArray.size:=iZ hk hn
        have:=(hanc L hI.hd k k iL hk _ (Array.getElem?_eq_getElem hsz) (fun e he hb=>hI.hd.closed k _ (Array.getElem?_eq_getElem hsz) hl e he hb) m h).2
        rw [getD_both hun]at this
        cases this
      have hres:ZH (k :: anc.getD k []) (jy v i y)=ZH (k :: anc.getD k []) v:=by
       funext m
       unfold ZH jy
       split
       ·rename_i hm
        rw [iF (hne m hm)]
       ·rfl
      rw [hres]
      exact hst.get k _ _ _ ⟨_,_,hJ⟩ ⟨_,_,hg'⟩ hr' (hF k hl)
 refine wp_region_any hm ?_
 have inv0:HeadInv .any l.toArray n (Array.replicate l.toArray.size false):=
  ⟨by simp,fun j oj _ hl=>(by rw [getD_replicate_false]at hl;cases hl),fun t _ ht=>getD_in (by simpa using ht) (getD_replicate_false _ _)⟩
 have h0:=main n (Array.replicate l.toArray.size false) a0 w.drew (by
  have:(List.range n).countP (fun j=> !(Array.replicate l.toArray.size false).getD j false)=(List.range n).length:=List.countP_eq_length.2 fun j _=>by rw [getD_replicate_false]<;>rfl
  rw [this,List.length_range]) ⟨inv0,fun j=>Xp a0 (ds.getD (j - 0) none),(Ud ds 0 a0).symm,by simp only [getD_replicate_false];exact hG _,fun k hl=>by rw [getD_replicate_false]at hl;cases hl⟩
 rw [show n+(l.toArray.size - n)=l.toArray.size by omega]at h0
 exact h0
end
section
variable {J:(Nat->Bool)->(Nat->Value)->World->Prop} {R:World->World->Prop}
end
section
variable {P:Program} {Q:Exit->Act->World->Prop}
end
def j7f(w:World)(S:Nat->Prop)(v:Value)(k1 k2:List UInt8)(n:Int):Prop:=∃A c B d,v=.agg #[.slice A 16 c,.slice B 16 d,.int .i64 n]/\BsS w S (.slice A 16 c) k1/\BsS w S (.slice B 16 d) k2
theorem ZM(va vb:Value)(k1 k2:List UInt8)(n:Int)(w:World)(ha:Bs w w.heap.size va k1)(hb:Bs w w.heap.size vb k2)(h1:k1.length=16)(h2:k2.length=16)(h0:0<=n)(hn:n<=1099511627776):
 Calls Tryz.prog 61 #[va,vb,.int .i64 n] w fun e w'=>∃v,e=.returned (.tuple #[v,.int .i64 0])/\j7f w' (New w w') v k1 k2 n/\Below w.heap.size w w':=by
 obtain⟨w0,hw0⟩:∃w0,w0=w.alloc (.cells #[.slice none 0 0,.slice none 0 0,.int .i64 0] 29):=⟨_,rfl⟩
 have hB0:Below w.heap.size w w0:=by rw [hw0];exact iA
 have hh0:w0.heap[w.heap.size]?=some (.cells #[.slice none 0 0,.slice none 0 0,.int .i64 0] 29 (0,0)):=by rw [hw0];exact iN
 have HA:=iH ha;have HB:=iH hb;have H1:=iH h1;have H2:=iH h2
 obtain⟨A,na,ca,rfl⟩:=ha.form
 obtain⟨B,nb,cb,rfl⟩:=hb.form
 obtain rfl:na=16:=by rw [Bs.lenEq ha];exact h1
 obtain rfl:nb=16:=by rw [Bs.lenEq hb];exact h2
 have HW0:=iH hw0;have HB0:=iH hB0;have HH0:=iH hh0
 have HA0:=iH (HA.out.lift hB0);have HBB0:=iH (HB.out.lift hB0)
 have g1:decide (n<0)=false:=decide_eq_false (by omega)
 have g2:decide (n>1099511627776)=false:=decide_eq_false (by omega)
 clear ha hb h1 h2 hw0 hB0 hh0
 go_enter Tryz.func61,Tryz.ntmps61
 go_upto_region 1 with fail
 rw [<-HW0.out]
 clear HW0
 go_upto_region 5 with fail
 have s0:=HB0.out.size
 have hlt0:=(iG HH0.out)
 go_wp2_with(first
  |(at_builtin;(with_reducible refine je rfl (.const (.slice none 0 0)) (.tmp 26) rfl w1.heap.size (.slice none 0 0) [] rfl (OwnB.nil _ _) B 16 cb k2 (fun g=>g<w1.heap.size) rfl HK2.out (by simp only [List.length_nil];rw [H2.out];omega) iL ?_);intro v2 w2 hG;rw [List.nil_append]at hG;obtain⟨A2,c2,hv2⟩:=hG.1.form;rw [H2.out]at hv2;subst hv2;have HO2:=iH (OwnB.out hG.1 (by rw [H2.out];omega) w1 iL);have HB2:=iH hG.2.1;have hz2:=(HB2.out.block w.heap.size (iZ hlt0 HB1.out.size)).trans ((HB1.out.block w.heap.size hlt0).trans HH0.out);have HZ2:=iH hz2;obtain⟨z0,z1,z2,zf⟩:=j7 hz2;have zf0:=zf 0;have zf1:=zf 1;have zf2:=zf 2;clear hG hz2 zf)
  |(at_builtin;(with_reducible refine je rfl (.const (.slice none 0 0)) (.tmp 24) rfl w0.heap.size (.slice none 0 0) [] rfl (OwnB.nil _ _) A 16 ca k1 (fun g=>g<w0.heap.size) rfl HA0.out (by simp only [List.length_nil];rw [H1.out];omega) iL ?_);intro v1 w1 hG;rw [List.nil_append]at hG;obtain⟨A1,c1,hv1⟩:=hG.1.form;rw [H1.out]at hv1;subst hv1;have HO1:=iH (OwnB.out hG.1 (by rw [H1.out];omega) w0 iL);have HB1:=iH hG.2.1;have HK2:=iH (HBB0.out.lift hG.2.1);clear hG))
 obtain⟨y0,y1,y2,_⟩:=j7 (qa (.slice A1 16 c1) (.slice A2 16 c2) (.int .i64 n) HZ2.out)
 refine bodyPost_ret (v:=.tuple #[.agg #[.slice A1 16 c1,.slice A2 16 c2,.int .i64 n],.int .i64 0]) (by simp only [set3]at y0 y1 y2;simp [results,Tryz.results61,go_sem,y0,y1,y2]) rfl ?_
 have s1:=HB1.out.size;have s2:=HB2.out.size
 have hb02:Below w.heap.size w w2:=HB0.out.trans ((HB1.out.trans (HB2.out.mono s1)).mono s0)
 have hsz:(set3 w2 w.heap.size (.slice A1 16 c1) (.slice A2 16 c2) (.int .i64 n)).heap.size=w2.heap.size:=by simp [set3]
 refine⟨_,rfl,⟨A1,c1,A2,c2,rfl,?_,?_⟩,kV hb02 iL⟩
 ·refine BsS.keep HO1.out fun g hg hl=>⟨(jC (by have:=hg.1;omega)).trans (HB2.out.block g hg.2),by have:=hg.1;omega,?_⟩
  show g<(set3 w2 w.heap.size (.slice A1 16 c1) (.slice A2 16 c2) (.int .i64 n)).heap.size
  rw [hsz];have:=hg.2;omega
 ·refine BsS.keep HO2.out fun g hg hl=>⟨jC (by have:=hg.1;omega),by have:=hg.1;omega,?_⟩
  show g<(set3 w2 w.heap.size (.slice A1 16 c1) (.slice A2 16 c2) (.int .i64 n)).heap.size
  rw [hsz];exact hg.2
def Ux(k:Int):List UInt8:=[ofI (k)]
theorem j6u(w:World):(Instr.makeSlice 27 (.int .i64 1) (.int .i64 1)).run Tryz.prog w=.ok (.slice (some ⟨w.heap.size,0,none⟩) 1 1) (w.alloc (.cells #[.int .u8 0] 5)):=by kernel_rfl
def j2s(k:Int)(j:Nat):Array Value:=#[U8 (if 1<=j then ofI (k)else 0)]
theorem j2v(k:Int)(w:World)(h0:0<=k)(h1:k<256):Calls Tryz.prog 51 #[.int .i64 k,.int .i64 1] w fun e w'=>∃v',e=.returned (.tuple #[v',.int .i64 0])/\OwnB w' w.heap.size v' (Ux k)/\Below w.heap.size w w':=by
 have g1:decide (k<0)=false:=decide_eq_false (by omega)
 have g2:(k / 256 != 0)=false:=by simp;omega
 have hm:=j6u w
 have hB0:Below w.heap.size w (w.alloc (.cells #[.int .u8 0] 5)):=iA
 have HB0:=iH hB0
 clear hB0
 go_enter Tryz.func51,Tryz.ntmps51
 go_wp2_with fail
 go_loopg [26] 1 (fun m i wr=>∃j n:Nat,n=m/\j+n=1/\i=.int .i64 j/\wr.heap[w.heap.size]?=some (.cells (j2s k j) 5 (0,0))/\Below w.heap.size w wr)
 case atStart=>exact⟨0,1,rfl,rfl,rfl,iN,HB0.out⟩
 case round=>
  obtain⟨j,n,rfl,hj,rfl,hr,hb⟩:=hrel
  have HB:=iH hb;have HR:=iH hr
  have hf:∀o,wr.frozen? ⟨w.heap.size,o,none⟩=false:=fun o=>by simp [World.frozen?,hr]
  have hc:∀o,o<1->wr.cell? ⟨w.heap.size,o,none⟩=(j2s k j)[o]? :=fun o ho=>by rw [cell_of_row _ _ _ _ _ _ hr]
  clear hr hb
  obtain rfl|rfl:j=0\/j=1:=by omega
  ·obtain rfl:n=1:=by omega
   go_wp2_with fail
   go_roundg 0
   case measure=>omega
   case rel=>
    have hs:=jg (o:=0) (v:=.int .u8 (k)) HR.out
    rw [show(j2s k 0).set! 0 (.int .u8 (k))=j2s k 1 by rw [show Value.int .u8 (k)=U8 (ofI (k))by rw [<-j5,Int.emod_eq_of_lt (by omega) (by omega)]]<;>rfl]at hs
    exact⟨1,0,rfl,rfl,rfl,hs,HB.out.setCell iL _⟩
  ·obtain rfl:n=0:=by omega
   go_wp2_with fail
   go_ret2
   exact⟨_,rfl,⟨by simp [Ux],.inr ⟨w.heap.size,1,_,rfl,Nat.le_refl _,HR.out,Nat.le_refl _,by decide,rfl,rfl⟩⟩,HB.out⟩
def zI(k:Int):List UInt8:=[ofI (k / 256),ofI (k)]
theorem j6v(w:World):(Instr.makeSlice 27 (.int .i64 2) (.int .i64 2)).run Tryz.prog w=.ok (.slice (some ⟨w.heap.size,0,none⟩) 2 2) (w.alloc (.cells #[.int .u8 0,.int .u8 0] 5)):=by kernel_rfl
def j2t(k:Int)(j:Nat):Array Value:=#[U8 (if 2<=j then ofI (k / 256)else 0),U8 (if 1<=j then ofI (k)else 0)]
theorem Qw(k:Int)(w:World)(h0:0<=k)(h1:k<65536):Calls Tryz.prog 51 #[.int .i64 k,.int .i64 2] w fun e w'=>∃v',e=.returned (.tuple #[v',.int .i64 0])/\OwnB w' w.heap.size v' (zI k)/\Below w.heap.size w w':=by
 have g1:decide (k<0)=false:=decide_eq_false (by omega)
 have g2:(k / 65536 != 0)=false:=by simp;omega
 have hm:=j6v w
 have hB0:Below w.heap.size w (w.alloc (.cells #[.int .u8 0,.int .u8 0] 5)):=iA
 have HB0:=iH hB0
 clear hB0
 go_enter Tryz.func51,Tryz.ntmps51
 go_wp2_with fail
 go_loopg [26] 2 (fun m i wr=>∃j n:Nat,n=m/\j+n=2/\i=.int .i64 j/\wr.heap[w.heap.size]?=some (.cells (j2t k j) 5 (0,0))/\Below w.heap.size w wr)
 case atStart=>exact⟨0,2,rfl,rfl,rfl,iN,HB0.out⟩
 case round=>
  obtain⟨j,n,rfl,hj,rfl,hr,hb⟩:=hrel
  have HB:=iH hb;have HR:=iH hr
  have hf:∀o,wr.frozen? ⟨w.heap.size,o,none⟩=false:=fun o=>by simp [World.frozen?,hr]
  have hc:∀o,o<2->wr.cell? ⟨w.heap.size,o,none⟩=(j2t k j)[o]? :=fun o ho=>by rw [cell_of_row _ _ _ _ _ _ hr]
  clear hr hb
  obtain rfl|rfl|rfl:j=0\/j=1\/j=2:=by omega
  ·obtain rfl:n=2:=by omega
   go_wp2_with fail
   go_roundg 1
   case measure=>omega
   case rel=>
    have hs:=jg (o:=1) (v:=.int .u8 (k % 256)) HR.out
    rw [show Value.int .u8 (k % 256)=U8 (ofI (k)) from j5 (k)]at hs
    exact⟨1,1,rfl,rfl,rfl,hs,HB.out.setCell iL _⟩
  ·obtain rfl:n=1:=by omega
   go_wp2_with fail
   go_roundg 0
   case measure=>omega
   case rel=>
    have hs:=jg (o:=0) (v:=.int .u8 (k / 256)) HR.out
    rw [show(j2t k 1).set! 0 (.int .u8 (k / 256))=j2t k 2 by rw [show Value.int .u8 (k / 256)=U8 (ofI (k / 256))by rw [<-j5,Int.emod_eq_of_lt (by omega) (by omega)]]<;>rfl]at hs
    exact⟨2,0,rfl,rfl,rfl,hs,HB.out.setCell iL _⟩
  ·obtain rfl:n=0:=by omega
   go_wp2_with fail
   go_ret2
   exact⟨_,rfl,⟨by simp [zI],.inr ⟨w.heap.size,2,_,rfl,Nat.le_refl _,HR.out,Nat.le_refl _,by decide,rfl,rfl⟩⟩,HB.out⟩
def j6c(k:Int):List UInt8:=[ofI (k / 281474976710656),ofI (k / 1099511627776),ofI (k / 4294967296),ofI (k / 16777216),ofI (k / 65536),ofI (k / 256),ofI (k)]
theorem Jv(k:Int):(j6c k).length=7:=rfl
theorem j6w(w:World):(Instr.makeSlice 27 (.int .i64 7) (.int .i64 7)).run Tryz.prog w=.ok (.slice (some ⟨w.heap.size,0,none⟩) 7 7) (w.alloc (.cells #[.int .u8 0,.int .u8 0,.int .u8 0,.int .u8 0,.int .u8 0,.int .u8 0,.int .u8 0] 5)):=by kernel_rfl
def j2u(k:Int)(j:Nat):Array Value:=#[U8 (if 7<=j then ofI (k / 281474976710656)else 0),U8 (if 6<=j then ofI (k / 1099511627776)else 0),U8 (if 5<=j then ofI (k / 4294967296)else 0),U8 (if 4<=j then ofI (k / 16777216)else 0),U8 (if 3<=j then ofI (k / 65536)else 0),U8 (if 2<=j then ofI (k / 256)else 0),U8 (if 1<=j then ofI (k)else 0)]
theorem j2w(k:Int)(w:World)(h0:0<=k)(h1:k<72057594037927936):Calls Tryz.prog 51 #[.int .i64 k,.int .i64 7] w fun e w'=>∃v',e=.returned (.tuple #[v',.int .i64 0])/\OwnB w' w.heap.size v' (j6c k)/\Below w.heap.size w w':=by
 have g1:decide (k<0)=false:=decide_eq_false (by omega)
 have g2:(k / 72057594037927936 != 0)=false:=by simp;omega
 have hm:=j6w w
 have hB0:Below w.heap.size w (w.alloc (.cells #[.int .u8 0,.int .u8 0,.int .u8 0,.int .u8 0,.int .u8 0,.int .u8 0,.int .u8 0] 5)):=iA
 have HB0:=iH hB0
 clear hB0
 go_enter Tryz.func51,Tryz.ntmps51
 go_wp2_with fail
 go_loopg [26] 7 (fun m i wr=>∃j n:Nat,n=m/\j+n=7/\i=.int .i64 j/\wr.heap[w.heap.size]?=some (.cells (j2u k j) 5 (0,0))/\Below w.heap.size w wr)
 case atStart=>exact⟨0,7,rfl,rfl,rfl,iN,HB0.out⟩
 case round=>
  obtain⟨j,n,rfl,hj,rfl,hr,hb⟩:=hrel
  have HB:=iH hb;have HR:=iH hr
  have hf:∀o,wr.frozen? ⟨w.heap.size,o,none⟩=false:=fun o=>by simp [World.frozen?,hr]
  have hc:∀o,o<7->wr.cell? ⟨w.heap.size,o,none⟩=(j2u k j)[o]? :=fun o ho=>by rw [cell_of_row _ _ _ _ _ _ hr]
  clear hr hb
  obtain rfl|rfl|rfl|rfl|rfl|rfl|rfl|rfl:j=0\/j=1\/j=2\/j=3\/j=4\/j=5\/j=6\/j=7:=by omega
  ·obtain rfl:n=7:=by omega
   go_wp2_with fail
   go_roundg 6
   case measure=>omega
   case rel=>
    have hs:=jg (o:=6) (v:=.int .u8 (k % 256)) HR.out
    rw [show Value.int .u8 (k % 256)=U8 (ofI (k)) from j5 (k)]at hs
    exact⟨1,6,rfl,rfl,rfl,hs,HB.out.setCell iL _⟩
  ·obtain rfl:n=6:=by omega
   go_wp2_with fail
   go_roundg 5
   case measure=>omega
   case rel=>
    have hs:=jg (o:=5) (v:=.int .u8 (k / 256 % 256)) HR.out
    rw [show Value.int .u8 (k / 256 % 256)=U8 (ofI (k / 256)) from j5 (k / 256)]at hs
    exact⟨2,5,rfl,rfl,rfl,hs,HB.out.setCell iL _⟩
  ·obtain rfl:n=5:=by omega
   go_wp2_with fail
   go_roundg 4
   case measure=>omega
   case rel=>
    have hs:=jg (o:=4) (v:=.int .u8 (k / 65536 % 256)) HR.out
    rw [show Value.int .u8 (k / 65536 % 256)=U8 (ofI (k / 65536)) from j5 (k / 65536)]at hs
    exact⟨3,4,rfl,rfl,rfl,hs,HB.out.setCell iL _⟩
  ·obtain rfl:n=4:=by omega
   go_wp2_with fail
   go_roundg 3
   case measure=>omega
   case rel=>
    have hs:=jg (o:=3) (v:=.int .u8 (k / 16777216 % 256)) HR.out
    rw [show Value.int .u8 (k / 16777216 % 256)=U8 (ofI (k / 16777216)) from j5 (k / 16777216)]at hs
    exact⟨4,3,rfl,rfl,rfl,hs,HB.out.setCell iL _⟩
  ·obtain rfl:n=3:=by omega
   go_wp2_with fail
   go_roundg 2
   case measure=>omega
   case rel=>
    have hs:=jg (o:=2) (v:=.int .u8 (k / 4294967296 % 256)) HR.out
    rw [show Value.int .u8 (k / 4294967296 % 256)=U8 (ofI (k / 4294967296)) from j5 (k / 4294967296)]at hs
    exact⟨5,2,rfl,rfl,rfl,hs,HB.out.setCell iL _⟩
  ·obtain rfl:n=2:=by omega
   go_wp2_with fail
   go_roundg 1
   case measure=>omega
   case rel=>
    have hs:=jg (o:=1) (v:=.int .u8 (k / 1099511627776 % 256)) HR.out
    rw [show Value.int .u8 (k / 1099511627776 % 256)=U8 (ofI (k / 1099511627776)) from j5 (k / 1099511627776)]at hs
    exact⟨6,1,rfl,rfl,rfl,hs,HB.out.setCell iL _⟩
  ·obtain rfl:n=1:=by omega
   go_wp2_with fail
   go_roundg 0
   case measure=>omega
   case rel=>
    have hs:=jg (o:=0) (v:=.int .u8 (k / 281474976710656)) HR.out
    rw [show(j2u k 6).set! 0 (.int .u8 (k / 281474976710656))=j2u k 7 by rw [show Value.int .u8 (k / 281474976710656)=U8 (ofI (k / 281474976710656))by rw [<-j5,Int.emod_eq_of_lt (by omega) (by omega)]]<;>rfl]at hs
    exact⟨7,0,rfl,rfl,rfl,hs,HB.out.setCell iL _⟩
  ·obtain rfl:n=0:=by omega
   go_wp2_with fail
   go_ret2
   exact⟨_,rfl,⟨by simp [j6c],.inr ⟨w.heap.size,7,_,rfl,Nat.le_refl _,HR.out,Nat.le_refl _,by decide,rfl,rfl⟩⟩,HB.out⟩
def JZ(v:List UInt8):Int:=v.foldl (fun n b=>256*n+bv b) 0
theorem j32(n b:Nat)(hn:n<36028797018963968)(hb:b<256):bits .or .i64 ((n:Int)*256) (b:Int)=(n:Int)*256+b:=by
 exact m0z
theorem K0{l:List UInt8}{j:Nat}(h:j<l.length):JZ (l.take (j+1))=JZ (l.take j)*256+bv (gb l j):=by
 unfold JZ
 rw [List.take_succ_eq_append_getElem h,List.foldl_append]
 simp [gb,h]
 omega
theorem VU(l:List UInt8):∀j,j<=l.length->0<=JZ (l.take j)/\JZ (l.take j)<256 ^ j:=by
 intro j
 induction j with
 |zero=>intro _;exact⟨Int.le_refl _,show(0:Int)<1 by decide⟩
 |succ j ih=>
  intro h
  have:=ih (by omega)
  have b0:=jU (gb l j);have b1:=jX (gb l j)
  rw [K0 (by omega),Int.pow_succ]
  omega
def xJ(l:List UInt8):Int×Int:=if 7<l.length then(0,2)else(JZ l,0)
section
variable(l:List UInt8)(v:Value)(S:Nat->Prop)(w:World)(hv:BsS w S v l)
include l v S w hv
theorem Zm:Calls Tryz.prog 59 #[v] w fun e w'=>e=.returned (.tuple #[.int .i64 (xJ l).1,.int .i64 (xJ l).2])/\w'=w:=by
 obtain⟨a,c,rfl⟩:=hv.form2
 have hll:=hv.len
 have HV:=iH hv
 clear hv
 by_cases h7:7<l.length
 ·have E:Hid (xJ l=(0,2)):=by show _=_;unfold xJ;rw [iT h7]
  rw [E.out]
  go_enter Tryz.func59,Tryz.ntmps59
  go_wp2_with fail
  go_ret2
  exact⟨rfl,rfl⟩
 ·have E:Hid (xJ l=(JZ l,0)):=by show _=_;unfold xJ;rw [iF h7]
  rw [E.out]
  clear E
  go_enter Tryz.func59,Tryz.ntmps59
  go_wp2_with fail
  go_loopg [12,4] l.length (fun m i n wr=>∃j X r:Nat,r=m/\j+r=l.length/\i=.int .i64 j/\n=.int .i64 X/\Hid ((X:Int)=JZ (l.take j))/\wr=w)
  case atStart=>exact⟨0,0,l.length,rfl,by omega,rfl,rfl,iH rfl,rfl⟩
  case round=>
   obtain⟨j,X,m,rfl,hj,rfl,rfl,hX,rfl⟩:=hrel
   rcases Nat.eq_zero_or_pos m with h0|h0
   ·exact m1w
   ·obtain⟨m,rfl⟩:∃k,m=k+1:=⟨m - 1,by omega⟩
    have hlt:j<l.length:=by omega
    have hin:=VU l j (by omega)
    have hxb:(X:Int)<256 ^ j:=by rw [hX.out];exact hin.2
    have hp:(256:Int) ^ j<=256 ^ 6:=by exact_mod_cast Nat.pow_le_pow_right (by decide) (show j<=6 by omega)
    have hx6:X<281474976710656:=by have:(256:Int) ^ 6=281474976710656:=by decide
                                   omega
    obtain⟨y,hy⟩:∃y:Nat,y=(gb l j).toNat:=⟨_,rfl⟩
    have hyl:y<256:=by rw [hy];exact UInt8.toNat_lt _
    have q1:∃b off,a=some ⟨b,off,none⟩/\wr.cell? ⟨b,off+j,none⟩=some (.int .u8 (y:Int)):=by
     exact m25
    obtain⟨b,off,rfl,q2⟩:=q1
    have o1:=j32 X y (by omega) hyl
    have HN:Hid (((X*256+y:Nat):Int)=JZ (l.take (j+1))):=iH (by rw [K0 hlt,<-hX.out];show _=_+((gb l j).toNat:Int);rw [<-hy];omega)
    clear hX hin hxb hp hy
    go_wp2_with fail
    go_roundg m
    case measure=>omega
    case rel=>exact⟨j+1,X*256+y,m,rfl,by omega,by go_num,by first|rfl|(congr 1),HN,rfl⟩
theorem Kg:Calls Tryz.prog 75 #[v] w fun e w'=>e=.returned (.tuple #[.int .i64 (xJ l).1,.int .i64 (xJ l).2])/\w'=w:=by
 obtain⟨a,c,rfl⟩:=hv.form2
 have hll:=hv.len
 have HV:=iH hv
 clear hv
 by_cases h7:7<l.length
 ·have E:Hid (xJ l=(0,2)):=by show _=_;unfold xJ;rw [iT h7]
  rw [E.out]
  go_enter Tryz.func75,Tryz.ntmps75
  go_wp2_with fail
  go_ret2
  exact⟨rfl,rfl⟩
 ·have E:Hid (xJ l=(JZ l,0)):=by show _=_;unfold xJ;rw [iF h7]
  rw [E.out]
  clear E
  go_enter Tryz.func75,Tryz.ntmps75
  go_wp2_with fail
  go_loopg [5,4] l.length (fun m i n wr=>∃j X r:Nat,r=m/\j+r=l.length/\i=.int .i64 j/\n=.int .i64 X/\Hid ((X:Int)=JZ (l.take j))/\wr=w)
  case atStart=>exact⟨0,0,l.length,rfl,by omega,rfl,rfl,iH rfl,rfl⟩
  case round=>
   obtain⟨j,X,m,rfl,hj,rfl,rfl,hX,rfl⟩:=hrel
   rcases Nat.eq_zero_or_pos m with h0|h0
   ·exact m1w
   ·obtain⟨m,rfl⟩:∃k,m=k+1:=⟨m - 1,by omega⟩
    have hlt:j<l.length:=by omega
    have hin:=VU l j (by omega)
    have hxb:(X:Int)<256 ^ j:=by rw [hX.out];exact hin.2
    have hp:(256:Int) ^ j<=256 ^ 6:=by exact_mod_cast Nat.pow_le_pow_right (by decide) (show j<=6 by omega)
    have hx6:X<281474976710656:=by have:(256:Int) ^ 6=281474976710656:=by decide
                                   omega
    obtain⟨y,hy⟩:∃y:Nat,y=(gb l j).toNat:=⟨_,rfl⟩
    have hyl:y<256:=by rw [hy];exact UInt8.toNat_lt _
    have q1:∃b off,a=some ⟨b,off,none⟩/\wr.cell? ⟨b,off+j,none⟩=some (.int .u8 (y:Int)):=by
     exact m25
    obtain⟨b,off,rfl,q2⟩:=q1
    have HN:Hid (((X*256+y:Nat):Int)=JZ (l.take (j+1))):=iH (by rw [K0 hlt,<-hX.out];show _=_+((gb l j).toNat:Int);rw [<-hy];omega)
    clear hX hin hxb hp hy
    go_wp2_with fail
    go_roundg m
    case measure=>omega
    case rel=>exact⟨j+1,X*256+y,m,rfl,by omega,by go_num,by congr 1;omega,HN,rfl⟩
end
def Jh(n:Int):List UInt8:=List.replicate 9 0++j6c n
theorem Yu(n:Int):(Jh n).length=16:=rfl
def wz9(w:World):World:=w.alloc (.cells (kO 9 fun _=>0) 5)
theorem j7o(w:World):(Instr.makeSlice 27 (.int .i64 9) (.int .i64 9)).run Tryz.prog w=.ok (.slice (some ⟨w.heap.size,0,none⟩) 9 9) (wz9 w):=by kernel_rfl
theorem j42(w:World):Below w.heap.size w (wz9 w):=iA
theorem j83(w:World):OwnB (wz9 w) w.heap.size (.slice (some ⟨w.heap.size,0,none⟩) 9 9) (List.replicate 9 0):=
 ⟨rfl,.inr ⟨w.heap.size,9,_,rfl,Nat.le_refl _,iN,Nat.le_refl _,by decide,rfl,rfl⟩⟩
theorem yo(va vb:Value)(k1 k2:List UInt8)(n:Int)(h0:0<=n)(h1:n<=1099511627776)(w:World)(ha:Bs w w.heap.size va k1)(hb:Bs w w.heap.size vb k2):
 Calls Tryz.prog 49 #[.agg #[va,vb,.int .i64 n]] w fun e w'=>∃x y z,e=.returned (.agg #[x,y,.int .i64 (n+1),z])/\Bs w' w'.heap.size x k1/\Bs w' w'.heap.size y k2/\Bs w' w'.heap.size z (Jh (n+1))/\Below w.heap.size w w':=by
 obtain⟨A1,n1,d1,rfl⟩:=ha.form
 obtain⟨A2,n2,d2,rfl⟩:=hb.form
 obtain⟨w0,hw0⟩:∃w0,w0=w.alloc (.cells #[.slice A1 n1 d1,.slice A2 n2 d2,.int .i64 n] 29):=⟨_,rfl⟩
 have hB0:Below w.heap.size w w0:=by rw [hw0];exact iA
 have hz0:w0.heap.size=w.heap.size+1:=by rw [hw0];simp
 have hh0:w0.heap[w.heap.size]?=some (.cells #[.slice A1 n1 d1,.slice A2 n2 d2,.int .i64 n] 29 (0,0)):=by rw [hw0];exact iN
 obtain⟨wa,hwa⟩:∃wa,wa=w0.alloc (.cells #[.slice none 0 0,.slice none 0 0,.int .i64 0,.slice none 0 0] 77):=⟨_,rfl⟩
 have hBa:Below w0.heap.size w0 wa:=by rw [hwa];exact iA
 have hra:wa.heap[w.heap.size+1]?=some (.cells #[.slice none 0 0,.slice none 0 0,.int .i64 0,.slice none 0 0] 77 (0,0)):=by rw [hwa,<-hz0];exact iN
 have hh1:=(hBa.block w.heap.size (by omega)).trans hh0
 have hlt:=(iG hh1)
 have CS:Hid (∀W,Below wa.heap.size wa W->W.cell? ⟨w.heap.size,0,none⟩=some (.slice A1 n1 d1)/\W.cell? ⟨w.heap.size,1,none⟩=some (.slice A2 n2 d2)/\W.cell? ⟨w.heap.size,2,none⟩=some (.int .i64 n)):=iH fun W h=>(by obtain⟨a,b,c,_⟩:=j7 ((h.block w.heap.size hlt).trans hh1);exact⟨a,b,c⟩)
 have HB:=iH (hB0.trans (hBa.mono hB0.size))
 have H1:=iH ha;have H2:=iH hb;have HRA:=iH hra
 have WN:Hid (IntKind.i64.wrap (n+1)=n+1):=iH (IntWalk.i64_in _ (by omega))
 have HW0:=iH hw0;have HWA:=iH hwa
 clear ha hb hw0 hB0 hh0 hwa hBa hra hh1 hlt hz0
 go_enter Tryz.func49,Tryz.ntmps49
 go_upto_region 1 with fail
 rw [<-HW0.out,<-HWA.out]
 refine jc 12 [some 6,some 7,some 8,some 9,some 10,some 11,some 12,some 13,some 14,some 15,some 16,some 3] [[],[0],[0,1],[],[3],[0,1,2,3,4],[],[6],[6,7],[0,1,2,3,4,5,6,7,8],[0,1,2,3,4,5,6,7,8,9],[]]
  (fun _ _ w1=>Below wa.heap.size wa w1) (fun w1 w2=>Below w1.heap.size w1 w2)
  [fun v _=>v 0=.pointer (some ⟨w.heap.size,0,none⟩),
   fun v _=>v 1=.slice A1 n1 d1,
   fun v w1=>∃a c,v 2=.slice a (k1).length c/\Bs w1 w1.heap.size (.slice a (k1).length c) (k1),
   fun v _=>v 3=.pointer (some ⟨w.heap.size,1,none⟩),
   fun v _=>v 4=.slice A2 n2 d2,
   fun v w1=>∃a c,v 5=.slice a (k2).length c/\Bs w1 w1.heap.size (.slice a (k2).length c) (k2),
   fun v _=>v 6=.pointer (some ⟨w.heap.size,2,none⟩),
   fun v _=>v 7=.int .i64 n,
   fun v _=>v 8=.int .i64 (n+1),
   fun v w1=>∃a c a' c',v 9=.agg #[.slice a k1.length c,.slice a' k2.length c',.int .i64 (n+1)]/\Bs w1 w1.heap.size (.slice a k1.length c) k1/\Bs w1 w1.heap.size (.slice a' k2.length c') k2,
   fun v w1=>∃a c a' c',v 10=.agg #[.slice a k1.length c,.slice a' k2.length c',.int .i64 (n+1),.slice none 0 0]/\Bs w1 w1.heap.size (.slice a k1.length c) k1/\Bs w1 w1.heap.size (.slice a' k2.length c') k2,
   fun v w1=>∃g,v 11=.pointer (some ⟨g,0,none⟩)/\w1.heap[g]?=some (.cells #[.slice none 0 0,.slice none 0 0,.int .i64 0,.slice none 0 0] 77 (0,0))/\wa.heap.size<=g]
  (by kernel_rfl) (by kernel_rfl) (fun _=>iB.drew) ?st ?steps ?tail
 case st=>
  exact(.cons (fun _ _ _ _ _ _ h=>h) (.cons (fun _ _ _ _ _ _ h=>h) (.cons (fun _ _ _ _ _ hr ⟨a,c,e,h⟩=>⟨a,c,e,h.lift hr⟩) (.cons (fun _ _ _ _ _ _ h=>h) (.cons (fun _ _ _ _ _ _ h=>h) (.cons (fun _ _ _ _ _ hr ⟨a,c,e,h⟩=>⟨a,c,e,h.lift hr⟩) (.cons (fun _ _ _ _ _ _ h=>h) (.cons (fun _ _ _ _ _ _ h=>h) (.cons (fun _ _ _ _ _ _ h=>h) (.cons (fun _ _ _ _ _ hr ⟨a,c,a',c',e,h,h'⟩=>⟨a,c,a',c',e,h.lift hr,h'.lift hr⟩) (.cons (fun _ _ _ _ _ hr ⟨a,c,a',c',e,h,h'⟩=>⟨a,c,a',c',e,h.lift hr,h'.lift hr⟩) (.cons (fun _ _ _ _ _ hr ⟨g,e,h,hg⟩=>⟨g,e,(hr.block g (iG h)).trans h,hg⟩) .nil))))))))))))
 case steps=>
  simp only [List.take_succ_cons,List.take_zero]
  refine(.cons ?_ (.cons ?_ (.cons ?_ (.cons ?_ (.cons ?_ (.cons ?_ (.cons ?_ (.cons ?_ (.cons ?_ (.cons ?_ (.cons ?_ (.cons ?_ .nil))))))))))))
  all_goals(intro L v w1 hJ hL hA hF K hK;simp only [jf,Act.put,Nat.zero_add,Nat.reduceAdd,List.setIfInBounds_toArray,List.set_cons_zero,List.set_cons_succ]at hK |-)
  ·exact m6
  ·have e0:v 0=_:=hF 0 (hA 0 (by simp))
   obtain⟨c0,c1,c2⟩:=CS.out _ hJ
   simp only [e0]at hK
   exact m6
  ·have e1:v 1=_:=hF 1 (hA 1 (by simp))
   simp only [e1]at hK
   go_simp
   refine(kR _ k1 w1 ((H1.out.lift HB.out).lift hJ)).mono ?_
   rintro e w5 ⟨v5,rfl,ho,hb⟩
   have hx:Bs w5 w5.heap.size v5 k1:=OwnB.rd ho (H1.out.len)
   exact m7
  ·exact m6
  ·have e3:v 3=_:=hF 3 (hA 3 (by simp))
   obtain⟨c0,c1,c2⟩:=CS.out _ hJ
   simp only [e3]at hK
   exact m6
  ·have e4:v 4=_:=hF 4 (hA 4 (by simp))
   simp only [e4]at hK
   go_simp
   refine(kR _ k2 w1 ((H2.out.lift HB.out).lift hJ)).mono ?_
   rintro e w5 ⟨v5,rfl,ho,hb⟩
   have hx:Bs w5 w5.heap.size v5 k2:=OwnB.rd ho (H2.out.len)
   exact m7
  ·exact m6
  ·have e6:v 6=_:=hF 6 (hA 6 (by simp))
   obtain⟨c0,c1,c2⟩:=CS.out _ hJ
   simp only [e6]at hK
   exact m6
  ·have e7:v 7=_:=hF 7 (hA 7 (by simp))
   simp only [e7]at hK
   go_simp
   refine hK _ _ hJ iB ?_
   show Value.int .i64 (IntKind.i64.wrap (n+1))=_
   rw [WN.out]
  ·have e8:v 8=_:=hF 8 (hA 8 (by simp))
   simp only [e8]at hK
   obtain⟨a2,c2,e2,h2⟩:∃a c,v 2=_/\_:=hF 2 (hA 2 (by simp))
   obtain⟨a5,c5,e5,h5⟩:∃a c,v 5=_/\_:=hF 5 (hA 5 (by simp))
   simp only [e2,e5]at hK
   go_simp
   exact hK _ _ hJ iB ⟨_,_,_,_,rfl,h2,h5⟩
  ·obtain⟨a,c,a',c',e9,h9,h9'⟩:∃a c a' c',v 9=.agg #[.slice a k1.length c,.slice a' k2.length c',.int .i64 (n+1)]/\Bs w1 w1.heap.size (.slice a k1.length c) k1/\Bs w1 w1.heap.size (.slice a' k2.length c') k2:=hF 9 (hA 9 (by simp))
   simp only [e9]at hK
   go_simp
   exact hK _ _ hJ iB ⟨_,_,_,_,rfl,h9,h9'⟩
  ·go_simp
   have hz:=(Below.refl w1.heap.size w1).alloc iL (.cells #[.slice none 0 0,.slice none 0 0,.int .i64 0,.slice none 0 0] 77)
   exact hK _ _ (hJ.trans (hz.mono hJ.size)) hz ⟨_,rfl,iN,hJ.size⟩
 case tail=>
  intro v w1 hJ hF
  have e0:v 0=_:=hF 0 (by simp)
  have e1:v 1=_:=hF 1 (by simp)
  have e3:v 3=_:=hF 3 (by simp)
  have e4:v 4=_:=hF 4 (by simp)
  have e6:v 6=_:=hF 6 (by simp)
  have e7:v 7=_:=hF 7 (by simp)
  have e8:v 8=_:=hF 8 (by simp)
  obtain⟨a,c,a',c',e10,h10,h10'⟩:∃a c a' c',v 10=.agg #[.slice a k1.length c,.slice a' k2.length c',.int .i64 (n+1),.slice none 0 0]/\Bs w1 w1.heap.size (.slice a k1.length c) k1/\Bs w1 w1.heap.size (.slice a' k2.length c') k2:=hF 10 (by simp)
  obtain⟨g,e11,hg,hgs⟩:∃g,v 11=.pointer (some ⟨g,0,none⟩)/\w1.heap[g]?=some (.cells #[.slice none 0 0,.slice none 0 0,.int .i64 0,.slice none 0 0] 77 (0,0))/\wa.heap.size<=g:=hF 11 (by simp)
  simp only [List.drop_succ_cons,List.drop_zero,jf,Act.put,Nat.zero_add,Nat.reduceAdd,List.setIfInBounds_toArray,List.set_cons_zero,List.set_cons_succ]
  simp only [e10,e11]
  clear e0 e1 e3 e4 e6 e7 e8 e10 e11
  have HX:=iH h10;have HY:=iH h10';have HG:=iH hg;have HGS:=iH hgs;have HJ:=iH hJ
  obtain⟨z0,z1,z2,z3,zf⟩:=ki hg
  have zf0:=zf 0;have zf1:=zf 1;have zf2:=zf 2;have zf3:=zf 3;clear zf
  clear h10 h10' hg hgs hJ hF
  go_upto_region 2 with fail
  obtain⟨w2,hw2⟩:∃w2,w2=j0t w1 g (.slice a k1.length c) (.slice a' k2.length c') (.int .i64 (n+1)) (.slice none 0 0):=⟨_,rfl⟩
  have hw3:=hw2
  simp only [j0t]at hw3
  rw [<-hw3]
  clear hw3
  have NB:=iH (j7q (a:=.slice none 0 0) (b:=.slice none 0 0) (c:=.int .i64 0) (d:=.slice none 0 0) (by simp) (by simp) (by simp) (by simp))
  have HX2:Hid (Bs w2 w2.heap.size (.slice a k1.length c) k1):=iH (by rw [hw2];exact(BsS.keep (HX.out.off HG.out NB.out) fun j hs _=>⟨J7 hs.2,by rw [Kn];exact hs.1⟩))
  have HY2:Hid (Bs w2 w2.heap.size (.slice a' k2.length c') k2):=iH (by rw [hw2];exact(BsS.keep (HY.out.off HG.out NB.out) fun j hs _=>⟨J7 hs.2,by rw [Kn];exact hs.1⟩))
  have HG2:Hid (w2.heap[g]?=some (.cells #[.slice a k1.length c,.slice a' k2.length c',.int .i64 (n+1),.slice none 0 0] 77 (0,0))):=iH (by rw [hw2];exact YK _ _ _ _ HG.out)
  have HJ2:Hid (Below wa.heap.size wa w2):=iH (by rw [hw2];exact Q1 HJ.out HGS.out)
  clear hw2 z0 z1 z2 z3 zf0 zf1 zf2 zf3
  obtain⟨z0,z1,z2,z3,zf⟩:=ki HG2.out
  clear zf
  have O7:=iH (j2w (n+1) w2 (by omega) (by omega))
  go_upto_region 4 with (first
   |(go_at_call 51;refine O7.out.mono ?_;rintro e w3 ⟨v3,rfl,ho,hb⟩;obtain⟨oA,oc,hv3⟩:=ho.form;rw [Jv]at hv3;subst hv3;have HO3:Hid (Bs w3 w3.heap.size (.slice oA 7 oc) (j6c (n+1))):=iH (OwnB.rd ho (by rw [Jv];omega));have HB3:=iH hb;have H9:=iH (j83 w3);have hm9:=j7o w3;clear ho hb z0 z1 z2 z3)
   |(at_builtin;go_loud((with_reducible refine je rfl (.tmp 24) (.tmp 25) rfl w3.heap.size (.slice (some ⟨w3.heap.size,0,none⟩) 9 9) (List.replicate 9 0) rfl H9.out oA 7 oc (j6c (n+1)) (·<(wz9 w3).heap.size) rfl (HO3.out.lift (j42 w3)) (by rw [Jv];simp) (j42 w3).size ?_);intro v4 w4 hgr;have hb4:Below w3.heap.size w3 w4:=(iA).trans hgr.2.1;have HN4:Hid (Bs w4 w4.heap.size v4 (Jh (n+1))):=iH (OwnB.rd (w:=w3) (l:=Jh (n+1)) hgr.1 (by rw [Yu];omega));obtain⟨nA,nc,hv4⟩:=hgr.1.form;rw [List.length_append,Jv,List.length_replicate]at hv4;subst hv4;have hg4:w4.heap[g]?=some (.cells #[.slice a k1.length c,.slice a' k2.length c',.int .i64 (n+1),.slice none 0 0] 77 (0,0)):=(hb4.block g (iZ (iG HG2.out) HB3.out.size)).trans ((HB3.out.block g (iG HG2.out)).trans HG2.out);have HG4:=iH hg4;have H34:=iH hb4;have HB4:=iH (HB3.out.trans (hb4.mono HB3.out.size));obtain⟨z0,z1,z2,z3,zf⟩:=ki hg4;have zf3:=zf 3;clear zf hg4 hb4 hgr hm9)))
  have NB2:=iH (j7q (a:=.slice a k1.length c) (b:=.slice a' k2.length c') (c:=.int .i64 (n+1)) (d:=.slice none 0 0) (by simp) (by simp) (by simp) (by simp))
  obtain⟨w5,hw5⟩:∃w5,w5=w4.setCell ⟨g,3,none⟩ (.slice nA (9+7) nc):=⟨_,rfl⟩
  rw [<-hw5]
  have NX5:∀ {v l},Bs w4 w4.heap.size v l->Bs w5 w5.heap.size v l:=fun h=>by rw [hw5];exact Bs.setr h _ HG4.out NB2.out
  have HX5:=iH (NX5 ((HX2.out.lift HB3.out).lift H34.out));have HY5:=iH (NX5 ((HY2.out.lift HB3.out).lift H34.out));have HN5:=iH (NX5 HN4.out)
  have HG5:Hid (w5.heap[g]?=some (.cells #[.slice a k1.length c,.slice a' k2.length c',.int .i64 (n+1),.slice nA (9+7) nc] 77 (0,0))):=iH (by rw [hw5];exact jg (o:=3) HG4.out)
  have HJ5:Hid (Below wa.heap.size wa w5):=iH (by rw [hw5];exact(HJ2.out.trans (HB4.out.mono HJ2.out.size)).setCell HGS.out _)
  clear hw5 z0 z1 z2 z3 zf3 NX5
  obtain⟨z0,z1,z2,z3,zf⟩:=ki HG5.out
  clear zf
  have HR5:Hid (w5.heap[w.heap.size+1]?=some (.cells #[.slice none 0 0,.slice none 0 0,.int .i64 0,.slice none 0 0] 77 (0,0))):=iH ((HJ5.out.block _ (iG HRA.out)).trans HRA.out)
  obtain⟨r0,r1,r2,r3,rf⟩:=ki HR5.out
  have rf0:=rf 0;have rf1:=rf 1;have rf2:=rf 2;have rf3:=rf 3;clear rf
  obtain⟨y0,y1,y2,y3,_⟩:=ki (YK (.slice a k1.length c) (.slice a' k2.length c') (.int .i64 (n+1)) (.slice nA (9+7) nc) HR5.out)
  have NB0:=iH (j7q (a:=.slice none 0 0) (b:=.slice none 0 0) (c:=.int .i64 0) (d:=.slice none 0 0) (by simp) (by simp) (by simp) (by simp))
  go_wp2_with fail
  refine bodyPost_ret (v:=.agg #[.slice a k1.length c,.slice a' k2.length c',.int .i64 (n+1),.slice nA (9+7) nc]) (by simp only [j0t]at y0 y1 y2 y3;simp [results,Tryz.results49,go_sem,y0,y1,y2,y3]) rfl ?_
  have hk:∀ {v l},Bs w5 w5.heap.size v l->Bs (j0t w5 (w.heap.size+1) (.slice a k1.length c) (.slice a' k2.length c') (.int .i64 (n+1)) (.slice nA (9+7) nc)) (j0t w5 (w.heap.size+1) (.slice a k1.length c) (.slice a' k2.length c') (.int .i64 (n+1)) (.slice nA (9+7) nc)).heap.size v l:=fun h=>BsS.keep (h.off HR5.out NB0.out) fun j hs _=>⟨J7 hs.2,by rw [Kn];exact hs.1⟩
  exact⟨_,_,_,rfl,hk HX5.out,hk HY5.out,hk HN5.out,Q1 (HB.out.trans (HJ5.out.mono HB.out.size)) (by omega)⟩
def j6b(k:Int)(j:Nat):Array Value:=#[U8 0,U8 0,U8 0,U8 0,U8 0,U8 0,U8 0,U8 0,U8 0,U8 (if 7<=j then ofI (k / 281474976710656)else 0),U8 (if 6<=j then ofI (k / 1099511627776)else 0),U8 (if 5<=j then ofI (k / 4294967296)else 0),U8 (if 4<=j then ofI (k / 16777216)else 0),U8 (if 3<=j then ofI (k / 65536)else 0),U8 (if 2<=j then ofI (k / 256)else 0),U8 (if 1<=j then ofI (k)else 0)]
theorem j5b(w:World):(Instr.makeSlice 27 (.int .i64 16) (.int .i64 16)).run Tryz.prog w=.ok (.slice (some ⟨w.heap.size,0,none⟩) 16 16) (w.alloc (.cells #[.int .u8 0,.int .u8 0,.int .u8 0,.int .u8 0,.int .u8 0,.int .u8 0,.int .u8 0,.int .u8 0,.int .u8 0,.int .u8 0,.int .u8 0,.int .u8 0,.int .u8 0,.int .u8 0,.int .u8 0,.int .u8 0] 5)):=by kernel_rfl
theorem yx(va vb:Value)(k1 k2:List UInt8)(l1:k1.length=16)(l2:k2.length=16)(n:Int)(h0:0<=n)(h1:n<1099511627776)(w:World)(ha:Bs w w.heap.size va k1)(hb:Bs w w.heap.size vb k2):
 Calls Tryz.prog 30 #[.agg #[va,vb,.int .i64 n]] w fun e w'=>∃x y z,e=.returned (.tuple #[.agg #[x,y,.int .i64 (n+1)],z])/\Bs w' w'.heap.size x k1/\Bs w' w'.heap.size y k2/\Bs w' w'.heap.size z (Jh (n+1))/\Below w.heap.size w w':=by
 obtain⟨m,hm⟩:∃m,n+1=m:=⟨_,rfl⟩
 have m0:0<=m:=by omega
 have m1:m<=1099511627776:=by omega
 obtain⟨w0,hw0⟩:∃w0,w0=w.alloc (.cells #[va,vb,.int .i64 n] 29):=⟨_,rfl⟩
 have hB0:Below w.heap.size w w0:=by rw [hw0];exact iA
 have hh0:w0.heap[w.heap.size]?=some (.cells #[va,vb,.int .i64 n] 29 (0,0)):=by rw [hw0];exact iN
 have hz0:w0.heap.size=w.heap.size+1:=by rw [hw0];simp
 obtain⟨wa,hwa⟩:∃wa,wa=w0.alloc (.cells #[.slice none 0 0,.slice none 0 0,.int .i64 0] 29):=⟨_,rfl⟩
 have hBa:Below w0.heap.size w0 wa:=by rw [hwa];exact iA
 have hra:wa.heap[w.heap.size+1]?=some (.cells #[.slice none 0 0,.slice none 0 0,.int .i64 0] 29 (0,0)):=by rw [hwa,<-hz0];exact iN
 obtain⟨q0,q1,q2,_⟩:=j7 ((hBa.block w.heap.size (by omega)).trans hh0)
 have HB:=iH (hB0.trans (hBa.mono hB0.size))
 have HRA:=iH hra
 have HST:=iH (ZM va vb k1 k2 m wa (ha.lift HB.out) (hb.lift HB.out) l1 l2 m0 m1)
 have WN:wrap64 (n+1)=m:=by rw [IntWalk.wrap64_in _ (by omega)];exact hm
 have HM:=iH hm
 have HW0:=iH hw0;have HWA:=iH hwa
 clear ha hb hw0 hB0 hh0 hwa hBa hra l1 l2 hz0 hm h0 h1
 go_enter Tryz.func30,Tryz.ntmps30
 go_upto_region 1 with fail
 rw [<-HW0.out,<-HWA.out]
 go_upto_region 2 with (go_at_call 61;refine HST.out.mono ?_;rintro e ws ⟨s1,rfl,⟨A1,c1,B1,d1,rfl,h1,h2⟩,hb⟩;have H1:=iH h1;have H2:=iH h2;have HBs:=iH hb;obtain⟨n0,n1,n2,nf⟩:=j7 (xP ws);have nf0:=nf 0;have nf1:=nf 1;have nf2:=nf 2;clear nf;clear h1 h2 hb q0 q1 q2)
 have hbs:Below ws.heap.size ws (ws.alloc (.cells #[.slice A1 16 c1,.slice B1 16 d1,.int .i64 m] 29)):=Zi ws (.slice A1 16 c1) (.slice B1 16 d1) (.int .i64 m)
 have hrow:(ws.alloc (.cells #[.slice A1 16 c1,.slice B1 16 d1,.int .i64 m] 29)).heap[ws.heap.size]?=some (.cells #[.slice A1 16 c1,.slice B1 16 d1,.int .i64 m] 29 (0,0)):=j20 ws (.slice A1 16 c1) (.slice B1 16 d1) (.int .i64 m)
 have hzb:(ws.alloc (.cells #[.slice A1 16 c1,.slice B1 16 d1,.int .i64 m] 29)).heap.size=ws.heap.size+1:=by simp
 obtain⟨wb,hwb⟩:∃wb,wb=ws.alloc (.cells #[.slice A1 16 c1,.slice B1 16 d1,.int .i64 m] 29):=⟨_,rfl⟩
 rw [<-hwb]at hbs hrow hzb |-
 have HZB:=iH hzb;have HROW:=iH hrow;have HBS:=iH hbs
 have hm16:=j5b wb
 rw [hzb]at hm16
 clear hbs hrow hzb hwb n0 n1 n2 nf0 nf1 nf2 WN
 go_wp2_with fail
 go_loopg [7] 7 (fun q i wr=>∃j:Nat,j+q=7/\i=.int .i64 j/\wr.heap[ws.heap.size+1]?=some (.cells (j6b m j) 5 (0,0))/\Below (ws.heap.size+1) wb wr)
 case atStart=>exact⟨0,rfl,rfl,by rw [<-HZB.out];exact iN,iB.alloc (by rw [HZB.out];exact Nat.le_refl _) _⟩
 case round=>
  obtain⟨j,hj,rfl,hr,hs⟩:=hrel
  have HR:=iH hr;have HS:=iH hs
  have hf:∀o,wr.frozen? ⟨ws.heap.size+1,o,none⟩=false:=fun o=>by simp [World.frozen?,hr]
  have hc:∀o,o<16->wr.cell? ⟨ws.heap.size+1,o,none⟩=(j6b m j)[o]? :=fun o ho=>by rw [cell_of_row _ _ _ _ _ _ hr]
  obtain⟨z0,z1,z2,_⟩:=j7 ((hs.block ws.heap.size (by omega)).trans HROW.out)
  clear hr hs hm16
  obtain rfl|rfl|rfl|rfl|rfl|rfl|rfl|rfl:j=0\/j=1\/j=2\/j=3\/j=4\/j=5\/j=6\/j=7:=by omega
  ·obtain rfl:gk=7:=by omega
   go_wp2_with fail
   go_roundg 6
   case measure=>omega
   case rel=>
    have hs:=jg (o:=15) (v:=U8 (ofI (m))) HR.out
    exact⟨1,rfl,rfl,hs,HS.out.setCell (p:=⟨ws.heap.size+1,15,none⟩) iL _⟩
  ·obtain rfl:gk=6:=by omega
   go_wp2_with fail
   go_roundg 5
   case measure=>omega
   case rel=>
    have hs:=jg (o:=14) (v:=U8 (ofI (m / 256))) HR.out
    exact⟨2,rfl,rfl,hs,HS.out.setCell (p:=⟨ws.heap.size+1,14,none⟩) iL _⟩
  ·obtain rfl:gk=5:=by omega
   go_wp2_with fail
   go_roundg 4
   case measure=>omega
   case rel=>
    have hs:=jg (o:=13) (v:=U8 (ofI (m / 65536))) HR.out
    exact⟨3,rfl,rfl,hs,HS.out.setCell (p:=⟨ws.heap.size+1,13,none⟩) iL _⟩
  ·obtain rfl:gk=4:=by omega
   go_wp2_with fail
   go_roundg 3
   case measure=>omega
   case rel=>
    have hs:=jg (o:=12) (v:=U8 (ofI (m / 16777216))) HR.out
    exact⟨4,rfl,rfl,hs,HS.out.setCell (p:=⟨ws.heap.size+1,12,none⟩) iL _⟩
  ·obtain rfl:gk=3:=by omega
   go_wp2_with fail
   go_roundg 2
   case measure=>omega
   case rel=>
    have hs:=jg (o:=11) (v:=U8 (ofI (m / 4294967296))) HR.out
    exact⟨5,rfl,rfl,hs,HS.out.setCell (p:=⟨ws.heap.size+1,11,none⟩) iL _⟩
  ·obtain rfl:gk=2:=by omega
   go_wp2_with fail
   go_roundg 1
   case measure=>omega
   case rel=>
    have hs:=jg (o:=10) (v:=U8 (ofI (m / 1099511627776))) HR.out
    have hv:Value.int .u8 (m / 1099511627776)=U8 (ofI (m / 1099511627776)):=by rw [<-j5,Int.emod_eq_of_lt (by omega) (by omega)]
    rw [show(j6b m 5).set! 10 (U8 (ofI (m / 1099511627776)))=j6b m 6 from rfl,<-hv]at hs
    exact⟨6,rfl,rfl,hs,HS.out.setCell (p:=⟨ws.heap.size+1,10,none⟩) iL _⟩
  ·obtain rfl:gk=1:=by omega
   go_wp2_with fail
   go_roundg 0
   case measure=>omega
   case rel=>
    have hs:=jg (o:=9) (v:=U8 (ofI (m / 281474976710656))) HR.out
    have hv:Value.int .u8 (m / 281474976710656)=U8 (ofI (m / 281474976710656)):=by rw [<-j5,Int.emod_eq_of_lt (by omega) (by omega)]
    rw [show(j6b m 6).set! 9 (U8 (ofI (m / 281474976710656)))=j6b m 7 from rfl,<-hv]at hs
    exact⟨7,rfl,rfl,hs,HS.out.setCell (p:=⟨ws.heap.size+1,9,none⟩) iL _⟩
  ·obtain rfl:gk=0:=by omega
   have hw:Below wa.heap.size wa wr:=((HBs.out.trans (HBS.out.mono HBs.out.size))).trans (HS.out.mono (by have:=HBs.out.size;omega))
   have HWR:=iH hw
   have HR5:Hid (wr.heap[w.heap.size+1]?=some (.cells #[.slice none 0 0,.slice none 0 0,.int .i64 0] 29 (0,0))):=iH ((hw.block _ (iG HRA.out)).trans HRA.out)
   obtain⟨r0,r1,r2,rf⟩:=j7 HR5.out
   have rf0:=rf 0;have rf1:=rf 1;have rf2:=rf 2
   obtain⟨y0,y1,y2,_⟩:=j7 (qa (.slice A1 16 c1) (.slice B1 16 d1) (.int .i64 m) HR5.out)
   clear rf hf hc hw
   go_wp2_with fail
   refine bodyPost_ret (v:=.tuple #[.agg #[.slice A1 16 c1,.slice B1 16 d1,.int .i64 m],.slice (some ⟨ws.heap.size+1,0,none⟩) 16 16]) (by simp only [set3]at y0 y1 y2;simp [results,Tryz.results30,go_sem,y0,y1,y2]) rfl ?_
   have NB0:noB #[.slice none 0 0,.slice none 0 0,.int .i64 0]:=j5e none none 0 0 0 0 0
   have hk:∀ {v l},Bs wr wr.heap.size v l->Bs (set3 wr (w.heap.size+1) (.slice A1 16 c1) (.slice B1 16 d1) (.int .i64 m)) (set3 wr (w.heap.size+1) (.slice A1 16 c1) (.slice B1 16 d1) (.int .i64 m)).heap.size v l:=fun h=>BsS.keep (h.off HR5.out NB0) fun j hs _=>⟨jC hs.2,by simpa [set3]using hs.1⟩
   have hold:∀ {v l},BsS ws (New wa ws) v l->Bs wr wr.heap.size v l:=fun h=>BsS.keep h fun g hg hl=>⟨(HS.out.block g (by omega)).trans (HBS.out.block g hl),iZ hl (Nat.le_trans HBS.out.size HS.out.size)⟩
   have hn:Bs wr wr.heap.size (.slice (some ⟨ws.heap.size+1,0,none⟩) 16 16) (Jh m):=by
    have ho:OwnB wr (ws.heap.size+1) (.slice (some ⟨ws.heap.size+1,0,none⟩) 16 16) (Jh m):=⟨rfl,.inr ⟨ws.heap.size+1,16,_,rfl,Nat.le_refl _,HR.out,Nat.le_refl _,by decide,rfl,rfl⟩⟩
    exact(BsS.of_own ho (by rw [Yu];omega)).keep fun _ hg _=>⟨rfl,hg.2⟩
   rw [HM.out]
   exact⟨_,_,_,rfl,hk (hold H1.out),hk (hold H2.out),hk hn,kV (HB.out.trans (HWR.out.mono HB.out.size)) (by omega)⟩
end Go.Proofs.YtadndhgebgjlaaaGreat
