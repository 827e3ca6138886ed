/- Sessions started, both sides; Sessions and commands: which are valid, both sides; octets.Octets for 1, 2 and 7 bytes, in a row of its own; Layer 14, plain: w... -/
import Derived.Lib.BitFns
import Derived.Lib.Slices
import Derived.Lib.Small
import Derived.Lib.Strings
import Derived.Lib.Walk
import Derived.Test.YtadndhgebgjlaaaGreatPl
import Derived.Test.YtadndhgebgjlaaaGreatPo
set_option linter.all false
set_option maxRecDepth 100000
set_option maxHeartbeats 4000000
namespace Go.Proofs.YtadndhgebgjlaaaGreat
open Go.RowKit Go.Deep
def j5x(w:World)(S:Nat->Prop)(v:Value)(k1 k2:List UInt8)(n:Int):Prop:=∃A c B d,v=.agg #[.slice A 16 c,.slice B 16 d,.int .i64 n]/\BsS w S (.slice A 16 c) k1/\BsS w S (.slice B 16 d) k2
theorem Zk(va vb:Value)(k1 k2:List UInt8)(n:Int)(w:World)(ha:Bs w w.heap.size va k1)(hb:Bs w w.heap.size vb k2)(h1:k1.length=16)(h2:k2.length=16)(h0:0<=n)(hn:n<=1099511627776):
 Calls Tryz.prog 61 #[va,vb,.int .i64 n] w fun e w'=>∃v,e=.returned (.tuple #[v,.int .i64 0])/\j5x w' (New w w') v k1 k2 n/\Below w.heap.size w w':=by
 obtain⟨w0,hw0⟩:∃w0,w0=w.alloc (.cells #[.slice none 0 0,.slice none 0 0,.int .i64 0] 29):=⟨_,rfl⟩
 have hB0:Below w.heap.size w w0:=by rw [hw0];exact iA
 have hh0:w0.heap[w.heap.size]?=some (.cells #[.slice none 0 0,.slice none 0 0,.int .i64 0] 29 (0,0)):=by rw [hw0];exact iN
 have HA:=iH ha;have HB:=iH hb;have H1:=iH h1;have H2:=iH h2
 obtain⟨A,na,ca,rfl⟩:=ha.form
 obtain⟨B,nb,cb,rfl⟩:=hb.form
 obtain rfl:na=16:=by rw [Bs.lenEq ha];exact h1
 obtain rfl:nb=16:=by rw [Bs.lenEq hb];exact h2
 have HW0:=iH hw0;have HB0:=iH hB0;have HH0:=iH hh0
 have HA0:=iH (HA.out.lift hB0);have HBB0:=iH (HB.out.lift hB0)
 have g1:decide (n<0)=false:=decide_eq_false (by omega)
 have g2:decide (n>1099511627776)=false:=decide_eq_false (by omega)
 clear ha hb h1 h2 hw0 hB0 hh0
 go_enter Tryz.func61,Tryz.ntmps61
 go_upto_region 1 with fail
 rw [<-HW0.out]
 clear HW0
 go_upto_region 5 with fail
 have s0:=HB0.out.size
 have hlt0:=(iG HH0.out)
 go_wp2_with(first
  |(at_builtin;(with_reducible refine jc rfl (.const (.slice none 0 0)) (.tmp 26) rfl w1.heap.size (.slice none 0 0) [] rfl (OwnB.nil _ _) B 16 cb k2 (fun g=>g<w1.heap.size) rfl HK2.out (by simp only [List.length_nil];rw [H2.out];omega) iL ?_);intro v2 w2 hG;rw [List.nil_append]at hG;obtain⟨A2,c2,hv2⟩:=hG.1.form;rw [H2.out]at hv2;subst hv2;have HO2:=iH (OwnB.out hG.1 (by rw [H2.out];omega) w1 iL);have HB2:=iH hG.2.1;have hz2:=(HB2.out.block w.heap.size (iZ hlt0 HB1.out.size)).trans ((HB1.out.block w.heap.size hlt0).trans HH0.out);have HZ2:=iH hz2;obtain⟨z0,z1,z2,zf⟩:=j7 hz2;have zf0:=zf 0;have zf1:=zf 1;have zf2:=zf 2;clear hG hz2 zf)
  |(at_builtin;(with_reducible refine jc rfl (.const (.slice none 0 0)) (.tmp 24) rfl w0.heap.size (.slice none 0 0) [] rfl (OwnB.nil _ _) A 16 ca k1 (fun g=>g<w0.heap.size) rfl HA0.out (by simp only [List.length_nil];rw [H1.out];omega) iL ?_);intro v1 w1 hG;rw [List.nil_append]at hG;obtain⟨A1,c1,hv1⟩:=hG.1.form;rw [H1.out]at hv1;subst hv1;have HO1:=iH (OwnB.out hG.1 (by rw [H1.out];omega) w0 iL);have HB1:=iH hG.2.1;have HK2:=iH (HBB0.out.lift hG.2.1);clear hG))
 obtain⟨y0,y1,y2,_⟩:=j7 (qu (.slice A1 16 c1) (.slice A2 16 c2) (.int .i64 n) HZ2.out)
 refine bodyPost_ret (v:=.tuple #[.agg #[.slice A1 16 c1,.slice A2 16 c2,.int .i64 n],.int .i64 0]) (by simp only [set3]at y0 y1 y2;simp [results,Tryz.results61,go_sem,y0,y1,y2]) rfl ?_
 have s1:=HB1.out.size;have s2:=HB2.out.size
 have hb02:Below w.heap.size w w2:=HB0.out.trans ((HB1.out.trans (HB2.out.mono s1)).mono s0)
 have hsz:(set3 w2 w.heap.size (.slice A1 16 c1) (.slice A2 16 c2) (.int .i64 n)).heap.size=w2.heap.size:=by simp [set3]
 refine⟨_,rfl,⟨A1,c1,A2,c2,rfl,?_,?_⟩,kQ hb02 iL⟩
 ·refine BsS.keep HO1.out fun g hg hl=>⟨(jS (by have:=hg.1;omega)).trans (HB2.out.block g hg.2),by have:=hg.1;omega,?_⟩
  show g<(set3 w2 w.heap.size (.slice A1 16 c1) (.slice A2 16 c2) (.int .i64 n)).heap.size
  rw [hsz];have:=hg.2;omega
 ·refine BsS.keep HO2.out fun g hg hl=>⟨jS (by have:=hg.1;omega),by have:=hg.1;omega,?_⟩
  show g<(set3 w2 w.heap.size (.slice A1 16 c1) (.slice A2 16 c2) (.int .i64 n)).heap.size
  rw [hsz];exact hg.2
def vS(k1 k2:List UInt8)(n:Int):Bool:=decide (k1.length=16/\k2.length=16/\0<=n/\n<=1099511627776)
def qg(n:Int):Bool:=decide (0<=n/\n<=255)
def vC(c:Cm):Bool:=decide (0<=c.cl/\c.cl<=254/\(0<=c.ins/\c.ins<=255)/\(0<=c.p1/\c.p1<=255)/\(0<=c.p2/\c.p2<=255)/\c.data.length<=4096/\(c.ex= -1\/(1<=c.ex/\c.ex<=65536)))
theorem jr(v:Value)(k1 k2:List UInt8)(n:Int)(S:Nat->Prop)(w:World)(h:qa w S v k1 k2 n):
 Calls Tryz.prog 47 #[v] w fun e w'=>e=.returned (.bool (vS k1 k2 n))/\Below w.heap.size w w':=by
 obtain⟨u1,u2,rfl,h1,h2⟩:=h
 obtain⟨A1,n1,c1,rfl⟩:=h1.form
 obtain⟨A2,n2,c2,rfl⟩:=h2.form
 obtain rfl:=Bs.lenEq h1
 obtain rfl:=Bs.lenEq h2
 have hb:Below w.heap.size w (w.alloc (.cells #[.slice A1 k1.length c1,.slice A2 k2.length c2,.int .i64 n] 29)):=iA
 have HB:=iH hb
 clear hb h1 h2
 by_cases a1:k1.length=16
 ·have t1:((k1.length:Int)==16)=true:=by simp;omega
  by_cases a2:k2.length=16
  ·have t2:((k2.length:Int)==16)=true:=by simp;omega
   by_cases a3:0<=n
   ·by_cases a4:n<=1099511627776
    ·have R:Hid (vS k1 k2 n=true):=iH (decide_eq_true ⟨a1,a2,a3,a4⟩)
     clear a1 a2
     go_enter Tryz.func47,Tryz.ntmps47
     go_wp2_with fail
     go_ret
     rw [R.out]
     exact⟨rfl,HB.out⟩
    ·have R:Hid (vS k1 k2 n=false):=iH (decide_eq_false fun h=>a4 h.2.2.2)
     clear a1 a2
     go_enter Tryz.func47,Tryz.ntmps47
     go_wp2_with fail
     go_ret
     rw [R.out]
     exact⟨rfl,HB.out⟩
   ·have R:Hid (vS k1 k2 n=false):=iH (decide_eq_false fun h=>a3 h.2.2.1)
    clear a1 a2
    go_enter Tryz.func47,Tryz.ntmps47
    go_wp2_with fail
    go_ret
    rw [R.out]
    exact⟨rfl,HB.out⟩
  ·have t2:((k2.length:Int)==16)=false:=by simp;omega
   have R:Hid (vS k1 k2 n=false):=iH (decide_eq_false fun h=>a2 h.2.1)
   clear a1 a2
   go_enter Tryz.func47,Tryz.ntmps47
   go_wp2_with fail
   go_ret
   rw [R.out]
   exact⟨rfl,HB.out⟩
 ·have t1:((k1.length:Int)==16)=false:=by simp;omega
  have R:Hid (vS k1 k2 n=false):=iH (decide_eq_false fun h=>a1 h.1)
  clear a1
  go_enter Tryz.func47,Tryz.ntmps47
  go_wp2_with fail
  go_ret
  rw [R.out]
  exact⟨rfl,HB.out⟩
theorem js(v:Value)(k1 k2:List UInt8)(n:Int)(S:Nat->Prop)(w:World)(h:qa w S v k1 k2 n):
 Calls Tryz.prog 28 #[v] w fun e w'=>e=.returned (.bool (vS k1 k2 n))/\Below w.heap.size w w':=by
 obtain⟨u1,u2,rfl,h1,h2⟩:=h
 obtain⟨A1,n1,c1,rfl⟩:=h1.form
 obtain⟨A2,n2,c2,rfl⟩:=h2.form
 obtain rfl:=Bs.lenEq h1
 obtain rfl:=Bs.lenEq h2
 have hb:Below w.heap.size w (w.alloc (.cells #[.slice A1 k1.length c1,.slice A2 k2.length c2,.int .i64 n] 29)):=iA
 have HB:=iH hb
 clear hb h1 h2
 by_cases a1:k1.length=16
 ·have t1:((k1.length:Int)==16)=true:=by simp;omega
  by_cases a2:k2.length=16
  ·have t2:((k2.length:Int)==16)=true:=by simp;omega
   by_cases a3:0<=n
   ·by_cases a4:n<=1099511627776
    ·have R:Hid (vS k1 k2 n=true):=iH (decide_eq_true ⟨a1,a2,a3,a4⟩)
     clear a1 a2
     go_enter Tryz.func28,Tryz.ntmps28
     go_wp2_with fail
     go_ret
     rw [R.out]
     exact⟨rfl,HB.out⟩
    ·have R:Hid (vS k1 k2 n=false):=iH (decide_eq_false fun h=>a4 h.2.2.2)
     clear a1 a2
     go_enter Tryz.func28,Tryz.ntmps28
     go_wp2_with fail
     go_ret
     rw [R.out]
     exact⟨rfl,HB.out⟩
   ·have R:Hid (vS k1 k2 n=false):=iH (decide_eq_false fun h=>a3 h.2.2.1)
    clear a1 a2
    go_enter Tryz.func28,Tryz.ntmps28
    go_wp2_with fail
    go_ret
    rw [R.out]
    exact⟨rfl,HB.out⟩
  ·have t2:((k2.length:Int)==16)=false:=by simp;omega
   have R:Hid (vS k1 k2 n=false):=iH (decide_eq_false fun h=>a2 h.2.1)
   clear a1 a2
   go_enter Tryz.func28,Tryz.ntmps28
   go_wp2_with fail
   go_ret
   rw [R.out]
   exact⟨rfl,HB.out⟩
 ·have t1:((k1.length:Int)==16)=false:=by simp;omega
  have R:Hid (vS k1 k2 n=false):=iH (decide_eq_false fun h=>a1 h.1)
  clear a1
  go_enter Tryz.func28,Tryz.ntmps28
  go_wp2_with fail
  go_ret
  rw [R.out]
  exact⟨rfl,HB.out⟩
theorem qi(n:Int)(w:World):Calls Tryz.prog 60 #[.int .i64 n] w fun e w'=>e=.returned (.bool (qg n))/\w'=w:=by
 have e8:qg n=(decide (0<=n)&&decide (n<=255)):=by unfold qg;rw [Bool.decide_and]
 rw [e8]
 go_enter Tryz.func60,Tryz.ntmps60
 by_cases h:0<=n<;>by_cases h2:n<=255<;>(go_wp2_with fail;go_ret;exact⟨by simp [h,h2],rfl⟩)
theorem kg(v:Value)(c:Cm)(S:Nat->Prop)(w:World)(h:yx w S v c):Calls Tryz.prog 29 #[v] w fun e w'=>e=.returned (.bool (vC c))/\Below w.heap.size w w':=by
 obtain⟨u,rfl,h1⟩:=h
 obtain⟨A,m,k,rfl⟩:=h1.form
 obtain rfl:=Bs.lenEq h1
 obtain⟨w0,hw0⟩:∃w0,w0=w.alloc (.cells #[.int .i64 c.cl,.int .i64 c.ins,.int .i64 c.p1,.int .i64 c.p2,.slice A c.data.length k,.int .i64 c.ex] 32):=⟨_,rfl⟩
 have hh0:w0.heap[w.heap.size]?=some (.cells #[.int .i64 c.cl,.int .i64 c.ins,.int .i64 c.p1,.int .i64 c.p2,.slice A c.data.length k,.int .i64 c.ex] 32 (0,0)):=by rw [hw0];exact iN
 have hb0:Below w.heap.size w w0:=by rw [hw0];exact iA
 have HB:=iH hb0;have HW:=iH hw0
 have FC:Hid (∀W,Below w0.heap.size w0 W->W.cell? ⟨w.heap.size,0,none⟩=some (.int .i64 c.cl)/\W.cell? ⟨w.heap.size,1,none⟩=some (.int .i64 c.ins)/\W.cell? ⟨w.heap.size,2,none⟩=some (.int .i64 c.p1)/\W.cell? ⟨w.heap.size,3,none⟩=some (.int .i64 c.p2)/\W.cell? ⟨w.heap.size,4,none⟩=some (.slice A c.data.length k)/\W.cell? ⟨w.heap.size,5,none⟩=some (.int .i64 c.ex)):=iH fun W hb=>by
  have hr:=(hb.block w.heap.size (iG hh0)).trans hh0
  refine⟨?_,?_,?_,?_,?_,?_⟩<;>(rw [cell_of_row _ _ _ _ _ _ hr]<;>rfl)
 clear h1 hw0 hh0 hb0
 by_cases b1:qg c.cl=true
 ·have B1:Hid (∀w,Calls Tryz.prog 60 #[.int .i64 c.cl] w fun e w'=>e=.returned (.bool true)/\w'=w):=iH (fun w=>by have h:=qi c.cl w;rw [b1]at h;exact h)
  have iB1:=of_decide_eq_true b1
  by_cases b9:c.cl=255
  ·have t9:(c.cl != 255)=false:=by simp [b9]
   have R:Hid (vC c=false):=iH (decide_eq_false fun h=>by have:=h.2.1;omega)
   clear b1 b9
   go_enter Tryz.func29,Tryz.ntmps29
   go_upto_region 1 with fail
   rw [<-HW.out]
   obtain⟨f0,f1,f2,f3,f4,f5⟩:=FC.out w0 iB
   go_wp2_with(first|(go_at_call 60;(with_reducible refine(B1.out _).mono ?_);rintro e w' ⟨rfl,hw'⟩;rw [hw'];clear hw' w'))
   go_ret
   rw [R.out]
   exact⟨rfl,HB.out⟩
  ·have t9:(c.cl != 255)=true:=by simpa using b9
   by_cases b2:qg c.ins=true
   ·have B2:Hid (∀w,Calls Tryz.prog 60 #[.int .i64 c.ins] w fun e w'=>e=.returned (.bool true)/\w'=w):=iH (fun w=>by have h:=qi c.ins w;rw [b2]at h;exact h)
    have iB2:=of_decide_eq_true b2
    by_cases b3:qg c.p1=true
    ·have B3:Hid (∀w,Calls Tryz.prog 60 #[.int .i64 c.p1] w fun e w'=>e=.returned (.bool true)/\w'=w):=iH (fun w=>by have h:=qi c.p1 w;rw [b3]at h;exact h)
     have iB3:=of_decide_eq_true b3
     by_cases b4:qg c.p2=true
     ·have B4:Hid (∀w,Calls Tryz.prog 60 #[.int .i64 c.p2] w fun e w'=>e=.returned (.bool true)/\w'=w):=iH (fun w=>by have h:=qi c.p2 w;rw [b4]at h;exact h)
      have iB4:=of_decide_eq_true b4
      by_cases b5:c.data.length<=4096
      ·have t5:decide ((c.data.length:Int)<=4096)=true:=decide_eq_true (by omega)
       by_cases b6:c.ex= -1
       ·have t6:(c.ex== -1)=true:=by simp [b6]
        have R:Hid (vC c=true):=iH (decide_eq_true ⟨iB1.1,by omega,iB2,iB3,iB4,b5,.inl b6⟩)
        clear b1 b9 b2 b3 b4 b5 b6
        go_enter Tryz.func29,Tryz.ntmps29
        go_upto_region 1 with fail
        rw [<-HW.out]
        obtain⟨f0,f1,f2,f3,f4,f5⟩:=FC.out w0 iB
        go_wp2_with(first|(go_at_call 60;(with_reducible refine(B4.out _).mono ?_);rintro e w' ⟨rfl,hw'⟩;rw [hw'];clear hw' w')|(go_at_call 60;(with_reducible refine(B3.out _).mono ?_);rintro e w' ⟨rfl,hw'⟩;rw [hw'];clear hw' w')|(go_at_call 60;(with_reducible refine(B2.out _).mono ?_);rintro e w' ⟨rfl,hw'⟩;rw [hw'];clear hw' w')|(go_at_call 60;(with_reducible refine(B1.out _).mono ?_);rintro e w' ⟨rfl,hw'⟩;rw [hw'];clear hw' w'))
        go_ret
        rw [R.out]
        exact⟨rfl,HB.out⟩
       ·have t6:(c.ex== -1)=false:=by simpa using b6
        by_cases b7:1<=c.ex
        ·by_cases b8:c.ex<=65536
         ·have R:Hid (vC c=true):=iH (decide_eq_true ⟨iB1.1,by omega,iB2,iB3,iB4,b5,.inr ⟨b7,b8⟩⟩)
          clear b1 b9 b2 b3 b4 b5 b6
          go_enter Tryz.func29,Tryz.ntmps29
          go_upto_region 1 with fail
          rw [<-HW.out]
          obtain⟨f0,f1,f2,f3,f4,f5⟩:=FC.out w0 iB
          go_wp2_with(first|(go_at_call 60;(with_reducible refine(B4.out _).mono ?_);rintro e w' ⟨rfl,hw'⟩;rw [hw'];clear hw' w')|(go_at_call 60;(with_reducible refine(B3.out _).mono ?_);rintro e w' ⟨rfl,hw'⟩;rw [hw'];clear hw' w')|(go_at_call 60;(with_reducible refine(B2.out _).mono ?_);rintro e w' ⟨rfl,hw'⟩;rw [hw'];clear hw' w')|(go_at_call 60;(with_reducible refine(B1.out _).mono ?_);rintro e w' ⟨rfl,hw'⟩;rw [hw'];clear hw' w'))
          go_ret
          rw [R.out]
          exact⟨rfl,HB.out⟩
         ·have t8:decide (c.ex<=65536)=false:=decide_eq_false b8
          have R:Hid (vC c=false):=iH (decide_eq_false fun h=>h.2.2.2.2.2.2.elim b6 (fun h=>b8 h.2))
          clear b1 b9 b2 b3 b4 b5 b6
          go_enter Tryz.func29,Tryz.ntmps29
          go_upto_region 1 with fail
          rw [<-HW.out]
          obtain⟨f0,f1,f2,f3,f4,f5⟩:=FC.out w0 iB
          go_wp2_with(first|(go_at_call 60;(with_reducible refine(B4.out _).mono ?_);rintro e w' ⟨rfl,hw'⟩;rw [hw'];clear hw' w')|(go_at_call 60;(with_reducible refine(B3.out _).mono ?_);rintro e w' ⟨rfl,hw'⟩;rw [hw'];clear hw' w')|(go_at_call 60;(with_reducible refine(B2.out _).mono ?_);rintro e w' ⟨rfl,hw'⟩;rw [hw'];clear hw' w')|(go_at_call 60;(with_reducible refine(B1.out _).mono ?_);rintro e w' ⟨rfl,hw'⟩;rw [hw'];clear hw' w'))
          go_ret
          rw [R.out]
          exact⟨rfl,HB.out⟩
        ·have R:Hid (vC c=false):=iH (decide_eq_false fun h=>h.2.2.2.2.2.2.elim b6 (fun h=>b7 h.1))
         clear b1 b9 b2 b3 b4 b5 b6
         go_enter Tryz.func29,Tryz.ntmps29
         go_upto_region 1 with fail
         rw [<-HW.out]
         obtain⟨f0,f1,f2,f3,f4,f5⟩:=FC.out w0 iB
         go_wp2_with(first|(go_at_call 60;(with_reducible refine(B4.out _).mono ?_);rintro e w' ⟨rfl,hw'⟩;rw [hw'];clear hw' w')|(go_at_call 60;(with_reducible refine(B3.out _).mono ?_);rintro e w' ⟨rfl,hw'⟩;rw [hw'];clear hw' w')|(go_at_call 60;(with_reducible refine(B2.out _).mono ?_);rintro e w' ⟨rfl,hw'⟩;rw [hw'];clear hw' w')|(go_at_call 60;(with_reducible refine(B1.out _).mono ?_);rintro e w' ⟨rfl,hw'⟩;rw [hw'];clear hw' w'))
         go_ret
         rw [R.out]
         exact⟨rfl,HB.out⟩
      ·have t5:decide ((c.data.length:Int)<=4096)=false:=decide_eq_false (by omega)
       have R:Hid (vC c=false):=iH (decide_eq_false fun h=>b5 h.2.2.2.2.2.1)
       clear b1 b9 b2 b3 b4 b5
       go_enter Tryz.func29,Tryz.ntmps29
       go_upto_region 1 with fail
       rw [<-HW.out]
       obtain⟨f0,f1,f2,f3,f4,f5⟩:=FC.out w0 iB
       go_wp2_with(first|(go_at_call 60;(with_reducible refine(B4.out _).mono ?_);rintro e w' ⟨rfl,hw'⟩;rw [hw'];clear hw' w')|(go_at_call 60;(with_reducible refine(B3.out _).mono ?_);rintro e w' ⟨rfl,hw'⟩;rw [hw'];clear hw' w')|(go_at_call 60;(with_reducible refine(B2.out _).mono ?_);rintro e w' ⟨rfl,hw'⟩;rw [hw'];clear hw' w')|(go_at_call 60;(with_reducible refine(B1.out _).mono ?_);rintro e w' ⟨rfl,hw'⟩;rw [hw'];clear hw' w'))
       go_ret
       rw [R.out]
       exact⟨rfl,HB.out⟩
     ·have b4':qg c.p2=false:=by simpa using b4
      have B4:Hid (∀w,Calls Tryz.prog 60 #[.int .i64 c.p2] w fun e w'=>e=.returned (.bool false)/\w'=w):=iH (fun w=>by have h:=qi c.p2 w;rw [b4']at h;exact h)
      have R:Hid (vC c=false):=iH (decide_eq_false fun h=>b4 (decide_eq_true h.2.2.2.2.1))
      clear b1 b9 b2 b3 b4 b4'
      go_enter Tryz.func29,Tryz.ntmps29
      go_upto_region 1 with fail
      rw [<-HW.out]
      obtain⟨f0,f1,f2,f3,f4,f5⟩:=FC.out w0 iB
      go_wp2_with(first|(go_at_call 60;(with_reducible refine(B4.out _).mono ?_);rintro e w' ⟨rfl,hw'⟩;rw [hw'];clear hw' w')|(go_at_call 60;(with_reducible refine(B3.out _).mono ?_);rintro e w' ⟨rfl,hw'⟩;rw [hw'];clear hw' w')|(go_at_call 60;(with_reducible refine(B2.out _).mono ?_);rintro e w' ⟨rfl,hw'⟩;rw [hw'];clear hw' w')|(go_at_call 60;(with_reducible refine(B1.out _).mono ?_);rintro e w' ⟨rfl,hw'⟩;rw [hw'];clear hw' w'))
      go_ret
      rw [R.out]
      exact⟨rfl,HB.out⟩
    ·have b3':qg c.p1=false:=by simpa using b3
     have B3:Hid (∀w,Calls Tryz.prog 60 #[.int .i64 c.p1] w fun e w'=>e=.returned (.bool false)/\w'=w):=iH (fun w=>by have h:=qi c.p1 w;rw [b3']at h;exact h)
     have R:Hid (vC c=false):=iH (decide_eq_false fun h=>b3 (decide_eq_true h.2.2.2.1))
     clear b1 b9 b2 b3 b3'
     go_enter Tryz.func29,Tryz.ntmps29
     go_upto_region 1 with fail
     rw [<-HW.out]
     obtain⟨f0,f1,f2,f3,f4,f5⟩:=FC.out w0 iB
     go_wp2_with(first|(go_at_call 60;(with_reducible refine(B3.out _).mono ?_);rintro e w' ⟨rfl,hw'⟩;rw [hw'];clear hw' w')|(go_at_call 60;(with_reducible refine(B2.out _).mono ?_);rintro e w' ⟨rfl,hw'⟩;rw [hw'];clear hw' w')|(go_at_call 60;(with_reducible refine(B1.out _).mono ?_);rintro e w' ⟨rfl,hw'⟩;rw [hw'];clear hw' w'))
     go_ret
     rw [R.out]
     exact⟨rfl,HB.out⟩
   ·have b2':qg c.ins=false:=by simpa using b2
    have B2:Hid (∀w,Calls Tryz.prog 60 #[.int .i64 c.ins] w fun e w'=>e=.returned (.bool false)/\w'=w):=iH (fun w=>by have h:=qi c.ins w;rw [b2']at h;exact h)
    have R:Hid (vC c=false):=iH (decide_eq_false fun h=>b2 (decide_eq_true h.2.2.1))
    clear b1 b9 b2 b2'
    go_enter Tryz.func29,Tryz.ntmps29
    go_upto_region 1 with fail
    rw [<-HW.out]
    obtain⟨f0,f1,f2,f3,f4,f5⟩:=FC.out w0 iB
    go_wp2_with(first|(go_at_call 60;(with_reducible refine(B2.out _).mono ?_);rintro e w' ⟨rfl,hw'⟩;rw [hw'];clear hw' w')|(go_at_call 60;(with_reducible refine(B1.out _).mono ?_);rintro e w' ⟨rfl,hw'⟩;rw [hw'];clear hw' w'))
    go_ret
    rw [R.out]
    exact⟨rfl,HB.out⟩
 ·have b1':qg c.cl=false:=by simpa using b1
  have B1:Hid (∀w,Calls Tryz.prog 60 #[.int .i64 c.cl] w fun e w'=>e=.returned (.bool false)/\w'=w):=iH (fun w=>by have h:=qi c.cl w;rw [b1']at h;exact h)
  have R:Hid (vC c=false):=iH (decide_eq_false fun h=>b1 (decide_eq_true ⟨h.1,by have:=h.2.1;omega⟩))
  clear b1 b1'
  go_enter Tryz.func29,Tryz.ntmps29
  go_upto_region 1 with fail
  rw [<-HW.out]
  obtain⟨f0,f1,f2,f3,f4,f5⟩:=FC.out w0 iB
  go_wp2_with(first|(go_at_call 60;(with_reducible refine(B1.out _).mono ?_);rintro e w' ⟨rfl,hw'⟩;rw [hw'];clear hw' w'))
  go_ret
  rw [R.out]
  exact⟨rfl,HB.out⟩
theorem kF(v:Value)(c:Cm)(S:Nat->Prop)(w:World)(h:yx w S v c):Calls Tryz.prog 48 #[v] w fun e w'=>e=.returned (.bool (vC c))/\Below w.heap.size w w':=by
 obtain⟨u,rfl,h1⟩:=h
 obtain⟨A,m,k,rfl⟩:=h1.form
 obtain rfl:=Bs.lenEq h1
 obtain⟨w0,hw0⟩:∃w0,w0=w.alloc (.cells #[.int .i64 c.cl,.int .i64 c.ins,.int .i64 c.p1,.int .i64 c.p2,.slice A c.data.length k,.int .i64 c.ex] 32):=⟨_,rfl⟩
 have hh0:w0.heap[w.heap.size]?=some (.cells #[.int .i64 c.cl,.int .i64 c.ins,.int .i64 c.p1,.int .i64 c.p2,.slice A c.data.length k,.int .i64 c.ex] 32 (0,0)):=by rw [hw0];exact iN
 have hb0:Below w.heap.size w w0:=by rw [hw0];exact iA
 have HB:=iH hb0;have HW:=iH hw0
 have FC:Hid (∀W,Below w0.heap.size w0 W->W.cell? ⟨w.heap.size,0,none⟩=some (.int .i64 c.cl)/\W.cell? ⟨w.heap.size,1,none⟩=some (.int .i64 c.ins)/\W.cell? ⟨w.heap.size,2,none⟩=some (.int .i64 c.p1)/\W.cell? ⟨w.heap.size,3,none⟩=some (.int .i64 c.p2)/\W.cell? ⟨w.heap.size,4,none⟩=some (.slice A c.data.length k)/\W.cell? ⟨w.heap.size,5,none⟩=some (.int .i64 c.ex)):=iH fun W hb=>by
  have hr:=(hb.block w.heap.size (iG hh0)).trans hh0
  refine⟨?_,?_,?_,?_,?_,?_⟩<;>(rw [cell_of_row _ _ _ _ _ _ hr]<;>rfl)
 clear h1 hw0 hh0 hb0
 obtain⟨w1,hw1⟩:∃w1,w1=w0.alloc (.cells #[.int .i64 c.ins,.int .i64 c.p1,.int .i64 c.p2] 3):=⟨_,rfl⟩
 have hb1:Below w0.heap.size w0 w1:=by rw [hw1];exact iA
 have hr1:w1.heap[w0.heap.size]?=some (.cells #[.int .i64 c.ins,.int .i64 c.p1,.int .i64 c.p2] 3 (0,0)):=by rw [hw1];exact iN
 have S3:=iH (j7 hr1)
 have HB1:=iH hb1;have HW1:=iH hw1
 have HBW:=iH (HB.out.trans (hb1.mono HB.out.size))
 clear hb1 hr1 hw1
 obtain⟨vc,hvc⟩:∃vc,vC c=vc:=⟨_,rfl⟩
 have HV:=iH hvc
 rw [hvc]
 clear hvc
 go_enter Tryz.func48,Tryz.ntmps48
 go_upto_region 1 with fail
 rw [<-HW.out]
 obtain⟨f0,f1,f2,f3,f4,f5⟩:=FC.out w0 iB
 go_wp2_with fail
 rw [<-HW1.out]
 clear f0 f1 f2 f3 f4 f5
 go_loopg [4,14] 3 (fun q _ i wr=>∃j:Nat,j+q=3/\i=.int .i64 j/\w1=wr/\Hid ((0<j->qg c.ins=true)/\(1<j->qg c.p1=true)/\(2<j->qg c.p2=true)))
 case atStart=>exact⟨0,rfl,rfl,rfl,iH ⟨fun h=>absurd h (by decide),fun h=>absurd h (by decide),fun h=>absurd h (by decide)⟩⟩
 case round=>
  obtain⟨j,hj,rfl,rfl,HO⟩:=hrel
  obtain⟨s0,s1,s2,_⟩:=S3.out
  obtain rfl|rfl|rfl|rfl:j=0\/j=1\/j=2\/j=3:=by omega
  ·obtain rfl:gk=3:=by omega
   by_cases b1:c.ins<0
   ·have R:Hid (vc=false):=iH (by rw [<-HV.out];exact decide_eq_false fun h=>absurd h.2.2.1 (by omega))
    clear hj
    go_wp2_with fail
    go_ret
    rw [R.out]
    exact⟨rfl,HBW.out⟩
   ·by_cases b2:c.ins>255
    ·have R:Hid (vc=false):=iH (by rw [<-HV.out];exact decide_eq_false fun h=>absurd h.2.2.1 (by omega))
     clear hj
     go_wp2_with fail
     go_ret
     rw [R.out]
     exact⟨rfl,HBW.out⟩
    ·have HO2:Hid ((0<1->qg c.ins=true)/\(1<1->qg c.p1=true)/\(2<1->qg c.p2=true)):=iH ⟨fun _=>decide_eq_true ⟨by omega,by omega⟩,fun h=>absurd h (by decide),fun h=>absurd h (by decide)⟩
     clear hj
     go_wp2_with fail
     go_roundg 2
     case measure=>omega
     case rel=>exact⟨1,rfl,rfl,rfl,HO2⟩
  ·obtain rfl:gk=2:=by omega
   by_cases b1:c.p1<0
   ·have R:Hid (vc=false):=iH (by rw [<-HV.out];exact decide_eq_false fun h=>absurd h.2.2.2.1 (by omega))
    clear hj
    go_wp2_with fail
    go_ret
    rw [R.out]
    exact⟨rfl,HBW.out⟩
   ·by_cases b2:c.p1>255
    ·have R:Hid (vc=false):=iH (by rw [<-HV.out];exact decide_eq_false fun h=>absurd h.2.2.2.1 (by omega))
     clear hj
     go_wp2_with fail
     go_ret
     rw [R.out]
     exact⟨rfl,HBW.out⟩
    ·have HO2:Hid ((0<2->qg c.ins=true)/\(1<2->qg c.p1=true)/\(2<2->qg c.p2=true)):=iH ⟨fun _=>HO.out.1 (by decide),fun _=>decide_eq_true ⟨by omega,by omega⟩,fun h=>absurd h (by decide)⟩
     clear hj
     go_wp2_with fail
     go_roundg 1
     case measure=>omega
     case rel=>exact⟨2,rfl,rfl,rfl,HO2⟩
  ·obtain rfl:gk=1:=by omega
   by_cases b1:c.p2<0
   ·have R:Hid (vc=false):=iH (by rw [<-HV.out];exact decide_eq_false fun h=>absurd h.2.2.2.2.1 (by omega))
    clear hj
    go_wp2_with fail
    go_ret
    rw [R.out]
    exact⟨rfl,HBW.out⟩
   ·by_cases b2:c.p2>255
    ·have R:Hid (vc=false):=iH (by rw [<-HV.out];exact decide_eq_false fun h=>absurd h.2.2.2.2.1 (by omega))
     clear hj
     go_wp2_with fail
     go_ret
     rw [R.out]
     exact⟨rfl,HBW.out⟩
    ·have HO2:Hid ((0<3->qg c.ins=true)/\(1<3->qg c.p1=true)/\(2<3->qg c.p2=true)):=iH ⟨fun _=>HO.out.1 (by decide),fun _=>HO.out.2.1 (by decide),fun _=>decide_eq_true ⟨by omega,by omega⟩⟩
     clear hj
     go_wp2_with fail
     go_roundg 0
     case measure=>omega
     case rel=>exact⟨3,rfl,rfl,rfl,HO2⟩
  ·obtain rfl:gk=0:=by omega
   clear hj s0 s1 s2
   have i1:=of_decide_eq_true (HO.out.1 (by decide))
   have i2:=of_decide_eq_true (HO.out.2.1 (by decide))
   have i3:=of_decide_eq_true (HO.out.2.2 (by decide))
   obtain⟨f0,f1,f2,f3,f4,f5⟩:=FC.out w1 HB1.out
   by_cases b6:c.ex= -1
   ·have t6:(c.ex== -1)=true:=by simp [b6]
    have H6:=iH b6
    clear b6
    by_cases b1:0<=c.cl
    ·by_cases b2:c.cl<=254
     ·by_cases b3:c.data.length<=4096
      ·have t3:decide ((c.data.length:Int)<=4096)=true:=decide_eq_true (by omega)
       have R:Hid (vc=true):=iH (by rw [<-HV.out];exact decide_eq_true ⟨b1,b2,i1,i2,i3,b3,.inl H6.out⟩)
       go_wp2_with fail
       go_ret
       rw [R.out]
       exact⟨rfl,HBW.out⟩
      ·have t3:decide ((c.data.length:Int)<=4096)=false:=decide_eq_false (by omega)
       have R:Hid (vc=false):=iH (by rw [<-HV.out];exact decide_eq_false fun h=>b3 h.2.2.2.2.2.1)
       go_wp2_with fail
       go_ret
       rw [R.out]
       exact⟨rfl,HBW.out⟩
     ·have R:Hid (vc=false):=iH (by rw [<-HV.out];exact decide_eq_false fun h=>b2 h.2.1)
      go_wp2_with fail
      go_ret
      rw [R.out]
      exact⟨rfl,HBW.out⟩
    ·have R:Hid (vc=false):=iH (by rw [<-HV.out];exact decide_eq_false fun h=>b1 h.1)
     go_wp2_with fail
     go_ret
     rw [R.out]
     exact⟨rfl,HBW.out⟩
   ·have t6:(c.ex== -1)=false:=by simpa using b6
    by_cases b7:1<=c.ex
    ·by_cases b8:c.ex<=65536
     ·by_cases b1:0<=c.cl
      ·by_cases b2:c.cl<=254
       ·by_cases b3:c.data.length<=4096
        ·have t3:decide ((c.data.length:Int)<=4096)=true:=decide_eq_true (by omega)
         have R:Hid (vc=true):=iH (by rw [<-HV.out];exact decide_eq_true ⟨b1,b2,i1,i2,i3,b3,.inr ⟨b7,b8⟩⟩)
         go_wp2_with fail
         go_ret
         rw [R.out]
         exact⟨rfl,HBW.out⟩
        ·have t3:decide ((c.data.length:Int)<=4096)=false:=decide_eq_false (by omega)
         have R:Hid (vc=false):=iH (by rw [<-HV.out];exact decide_eq_false fun h=>b3 h.2.2.2.2.2.1)
         go_wp2_with fail
         go_ret
         rw [R.out]
         exact⟨rfl,HBW.out⟩
       ·have R:Hid (vc=false):=iH (by rw [<-HV.out];exact decide_eq_false fun h=>b2 h.2.1)
        go_wp2_with fail
        go_ret
        rw [R.out]
        exact⟨rfl,HBW.out⟩
      ·have R:Hid (vc=false):=iH (by rw [<-HV.out];exact decide_eq_false fun h=>b1 h.1)
       go_wp2_with fail
       go_ret
       rw [R.out]
       exact⟨rfl,HBW.out⟩
     ·by_cases b1:0<=c.cl
      ·by_cases b2:c.cl<=254
       ·by_cases b3:c.data.length<=4096
        ·have t3:decide ((c.data.length:Int)<=4096)=true:=decide_eq_true (by omega)
         have R:Hid (vc=false):=iH (by rw [<-HV.out];exact decide_eq_false fun h=>h.2.2.2.2.2.2.elim b6 (fun h=>b8 h.2))
         go_wp2_with fail
         go_ret
         rw [R.out]
         exact⟨rfl,HBW.out⟩
        ·have t3:decide ((c.data.length:Int)<=4096)=false:=decide_eq_false (by omega)
         have R:Hid (vc=false):=iH (by rw [<-HV.out];exact decide_eq_false fun h=>b3 h.2.2.2.2.2.1)
         go_wp2_with fail
         go_ret
         rw [R.out]
         exact⟨rfl,HBW.out⟩
       ·have R:Hid (vc=false):=iH (by rw [<-HV.out];exact decide_eq_false fun h=>b2 h.2.1)
        go_wp2_with fail
        go_ret
        rw [R.out]
        exact⟨rfl,HBW.out⟩
      ·have R:Hid (vc=false):=iH (by rw [<-HV.out];exact decide_eq_false fun h=>b1 h.1)
       go_wp2_with fail
       go_ret
       rw [R.out]
       exact⟨rfl,HBW.out⟩
    ·by_cases b1:0<=c.cl
     ·by_cases b2:c.cl<=254
      ·by_cases b3:c.data.length<=4096
       ·have t3:decide ((c.data.length:Int)<=4096)=true:=decide_eq_true (by omega)
        have R:Hid (vc=false):=iH (by rw [<-HV.out];exact decide_eq_false fun h=>h.2.2.2.2.2.2.elim b6 (fun h=>b7 h.1))
        go_wp2_with fail
        go_ret
        rw [R.out]
        exact⟨rfl,HBW.out⟩
       ·have t3:decide ((c.data.length:Int)<=4096)=false:=decide_eq_false (by omega)
        have R:Hid (vc=false):=iH (by rw [<-HV.out];exact decide_eq_false fun h=>b3 h.2.2.2.2.2.1)
        go_wp2_with fail
        go_ret
        rw [R.out]
        exact⟨rfl,HBW.out⟩
      ·have R:Hid (vc=false):=iH (by rw [<-HV.out];exact decide_eq_false fun h=>b2 h.2.1)
       go_wp2_with fail
       go_ret
       rw [R.out]
       exact⟨rfl,HBW.out⟩
     ·have R:Hid (vc=false):=iH (by rw [<-HV.out];exact decide_eq_false fun h=>b1 h.1)
      go_wp2_with fail
      go_ret
      rw [R.out]
      exact⟨rfl,HBW.out⟩
def YV(k:Int):List UInt8:=[ofI (k)]
theorem j5d(w:World):(Instr.makeSlice 27 (.int .i64 1) (.int .i64 1)).run Tryz.prog w=.ok (.slice (some ⟨w.heap.size,0,none⟩) 1 1) (w.alloc (.cells #[.int .u8 0] 5)):=by kernel_rfl
def j1p(k:Int)(j:Nat):Array Value:=#[U8 (if 1<=j then ofI (k)else 0)]
theorem j1s(k:Int)(w:World)(h0:0<=k)(h1:k<256):Calls Tryz.prog 51 #[.int .i64 k,.int .i64 1] w fun e w'=>∃v',e=.returned (.tuple #[v',.int .i64 0])/\OwnB w' w.heap.size v' (YV k)/\Below w.heap.size w w':=by
 have g1:decide (k<0)=false:=decide_eq_false (by omega)
 have g2:(k / 256 != 0)=false:=by simp;omega
 have hm:=j5d w
 have hB0:Below w.heap.size w (w.alloc (.cells #[.int .u8 0] 5)):=iA
 have HB0:=iH hB0
 clear hB0
 go_enter Tryz.func51,Tryz.ntmps51
 go_wp2_with fail
 go_loopg [26] 1 (fun m i wr=>∃j n:Nat,n=m/\j+n=1/\i=.int .i64 j/\wr.heap[w.heap.size]?=some (.cells (j1p k j) 5 (0,0))/\Below w.heap.size w wr)
 case atStart=>exact⟨0,1,rfl,rfl,rfl,iN,HB0.out⟩
 case round=>
  obtain⟨j,n,rfl,hj,rfl,hr,hb⟩:=hrel
  have HB:=iH hb;have HR:=iH hr
  have hf:∀o,wr.frozen? ⟨w.heap.size,o,none⟩=false:=fun o=>by simp [World.frozen?,hr]
  have hc:∀o,o<1->wr.cell? ⟨w.heap.size,o,none⟩=(j1p k j)[o]? :=fun o ho=>by rw [cell_of_row _ _ _ _ _ _ hr]
  clear hr hb
  obtain rfl|rfl:j=0\/j=1:=by omega
  ·obtain rfl:n=1:=by omega
   go_wp2_with fail
   go_roundg 0
   case measure=>omega
   case rel=>
    have hs:=jg (o:=0) (v:=.int .u8 (k)) HR.out
    rw [show(j1p k 0).set! 0 (.int .u8 (k))=j1p k 1 by rw [show Value.int .u8 (k)=U8 (ofI (k))by rw [<-j5,Int.emod_eq_of_lt (by omega) (by omega)]]<;>rfl]at hs
    exact⟨1,0,rfl,rfl,rfl,hs,HB.out.setCell iL _⟩
  ·obtain rfl:n=0:=by omega
   go_wp2_with fail
   go_ret2
   exact⟨_,rfl,⟨by simp [YV],.inr ⟨w.heap.size,1,_,rfl,Nat.le_refl _,HR.out,Nat.le_refl _,by decide,rfl,rfl⟩⟩,HB.out⟩
def zu(k:Int):List UInt8:=[ofI (k / 256),ofI (k)]
theorem j5e(w:World):(Instr.makeSlice 27 (.int .i64 2) (.int .i64 2)).run Tryz.prog w=.ok (.slice (some ⟨w.heap.size,0,none⟩) 2 2) (w.alloc (.cells #[.int .u8 0,.int .u8 0] 5)):=by kernel_rfl
def j1q(k:Int)(j:Nat):Array Value:=#[U8 (if 2<=j then ofI (k / 256)else 0),U8 (if 1<=j then ofI (k)else 0)]
theorem Qh(k:Int)(w:World)(h0:0<=k)(h1:k<65536):Calls Tryz.prog 51 #[.int .i64 k,.int .i64 2] w fun e w'=>∃v',e=.returned (.tuple #[v',.int .i64 0])/\OwnB w' w.heap.size v' (zu k)/\Below w.heap.size w w':=by
 have g1:decide (k<0)=false:=decide_eq_false (by omega)
 have g2:(k / 65536 != 0)=false:=by simp;omega
 have hm:=j5e w
 have hB0:Below w.heap.size w (w.alloc (.cells #[.int .u8 0,.int .u8 0] 5)):=iA
 have HB0:=iH hB0
 clear hB0
 go_enter Tryz.func51,Tryz.ntmps51
 go_wp2_with fail
 go_loopg [26] 2 (fun m i wr=>∃j n:Nat,n=m/\j+n=2/\i=.int .i64 j/\wr.heap[w.heap.size]?=some (.cells (j1q k j) 5 (0,0))/\Below w.heap.size w wr)
 case atStart=>exact⟨0,2,rfl,rfl,rfl,iN,HB0.out⟩
 case round=>
  obtain⟨j,n,rfl,hj,rfl,hr,hb⟩:=hrel
  have HB:=iH hb;have HR:=iH hr
  have hf:∀o,wr.frozen? ⟨w.heap.size,o,none⟩=false:=fun o=>by simp [World.frozen?,hr]
  have hc:∀o,o<2->wr.cell? ⟨w.heap.size,o,none⟩=(j1q k j)[o]? :=fun o ho=>by rw [cell_of_row _ _ _ _ _ _ hr]
  clear hr hb
  obtain rfl|rfl|rfl:j=0\/j=1\/j=2:=by omega
  ·obtain rfl:n=2:=by omega
   go_wp2_with fail
   go_roundg 1
   case measure=>omega
   case rel=>
    have hs:=jg (o:=1) (v:=.int .u8 (k % 256)) HR.out
    rw [show Value.int .u8 (k % 256)=U8 (ofI (k)) from j5 (k)]at hs
    exact⟨1,1,rfl,rfl,rfl,hs,HB.out.setCell iL _⟩
  ·obtain rfl:n=1:=by omega
   go_wp2_with fail
   go_roundg 0
   case measure=>omega
   case rel=>
    have hs:=jg (o:=0) (v:=.int .u8 (k / 256)) HR.out
    rw [show(j1q k 1).set! 0 (.int .u8 (k / 256))=j1q k 2 by rw [show Value.int .u8 (k / 256)=U8 (ofI (k / 256))by rw [<-j5,Int.emod_eq_of_lt (by omega) (by omega)]]<;>rfl]at hs
    exact⟨2,0,rfl,rfl,rfl,hs,HB.out.setCell iL _⟩
  ·obtain rfl:n=0:=by omega
   go_wp2_with fail
   go_ret2
   exact⟨_,rfl,⟨by simp [zu],.inr ⟨w.heap.size,2,_,rfl,Nat.le_refl _,HR.out,Nat.le_refl _,by decide,rfl,rfl⟩⟩,HB.out⟩
def j4v(k:Int):List UInt8:=[ofI (k / 281474976710656),ofI (k / 1099511627776),ofI (k / 4294967296),ofI (k / 16777216),ofI (k / 65536),ofI (k / 256),ofI (k)]
theorem Jk(k:Int):(j4v k).length=7:=rfl
theorem j5f(w:World):(Instr.makeSlice 27 (.int .i64 7) (.int .i64 7)).run Tryz.prog w=.ok (.slice (some ⟨w.heap.size,0,none⟩) 7 7) (w.alloc (.cells #[.int .u8 0,.int .u8 0,.int .u8 0,.int .u8 0,.int .u8 0,.int .u8 0,.int .u8 0] 5)):=by kernel_rfl
def j1r(k:Int)(j:Nat):Array Value:=#[U8 (if 7<=j then ofI (k / 281474976710656)else 0),U8 (if 6<=j then ofI (k / 1099511627776)else 0),U8 (if 5<=j then ofI (k / 4294967296)else 0),U8 (if 4<=j then ofI (k / 16777216)else 0),U8 (if 3<=j then ofI (k / 65536)else 0),U8 (if 2<=j then ofI (k / 256)else 0),U8 (if 1<=j then ofI (k)else 0)]
theorem j1t(k:Int)(w:World)(h0:0<=k)(h1:k<72057594037927936):Calls Tryz.prog 51 #[.int .i64 k,.int .i64 7] w fun e w'=>∃v',e=.returned (.tuple #[v',.int .i64 0])/\OwnB w' w.heap.size v' (j4v k)/\Below w.heap.size w w':=by
 have g1:decide (k<0)=false:=decide_eq_false (by omega)
 have g2:(k / 72057594037927936 != 0)=false:=by simp;omega
 have hm:=j5f w
 have hB0:Below w.heap.size w (w.alloc (.cells #[.int .u8 0,.int .u8 0,.int .u8 0,.int .u8 0,.int .u8 0,.int .u8 0,.int .u8 0] 5)):=iA
 have HB0:=iH hB0
 clear hB0
 go_enter Tryz.func51,Tryz.ntmps51
 go_wp2_with fail
 go_loopg [26] 7 (fun m i wr=>∃j n:Nat,n=m/\j+n=7/\i=.int .i64 j/\wr.heap[w.heap.size]?=some (.cells (j1r k j) 5 (0,0))/\Below w.heap.size w wr)
 case atStart=>exact⟨0,7,rfl,rfl,rfl,iN,HB0.out⟩
 case round=>
  obtain⟨j,n,rfl,hj,rfl,hr,hb⟩:=hrel
  have HB:=iH hb;have HR:=iH hr
  have hf:∀o,wr.frozen? ⟨w.heap.size,o,none⟩=false:=fun o=>by simp [World.frozen?,hr]
  have hc:∀o,o<7->wr.cell? ⟨w.heap.size,o,none⟩=(j1r k j)[o]? :=fun o ho=>by rw [cell_of_row _ _ _ _ _ _ hr]
  clear hr hb
  obtain rfl|rfl|rfl|rfl|rfl|rfl|rfl|rfl:j=0\/j=1\/j=2\/j=3\/j=4\/j=5\/j=6\/j=7:=by omega
  ·obtain rfl:n=7:=by omega
   go_wp2_with fail
   go_roundg 6
   case measure=>omega
   case rel=>
    have hs:=jg (o:=6) (v:=.int .u8 (k % 256)) HR.out
    rw [show Value.int .u8 (k % 256)=U8 (ofI (k)) from j5 (k)]at hs
    exact⟨1,6,rfl,rfl,rfl,hs,HB.out.setCell iL _⟩
  ·obtain rfl:n=6:=by omega
   go_wp2_with fail
   go_roundg 5
   case measure=>omega
   case rel=>
    have hs:=jg (o:=5) (v:=.int .u8 (k / 256 % 256)) HR.out
    rw [show Value.int .u8 (k / 256 % 256)=U8 (ofI (k / 256)) from j5 (k / 256)]at hs
    exact⟨2,5,rfl,rfl,rfl,hs,HB.out.setCell iL _⟩
  ·obtain rfl:n=5:=by omega
   go_wp2_with fail
   go_roundg 4
   case measure=>omega
   case rel=>
    have hs:=jg (o:=4) (v:=.int .u8 (k / 65536 % 256)) HR.out
    rw [show Value.int .u8 (k / 65536 % 256)=U8 (ofI (k / 65536)) from j5 (k / 65536)]at hs
    exact⟨3,4,rfl,rfl,rfl,hs,HB.out.setCell iL _⟩
  ·obtain rfl:n=4:=by omega
   go_wp2_with fail
   go_roundg 3
   case measure=>omega
   case rel=>
    have hs:=jg (o:=3) (v:=.int .u8 (k / 16777216 % 256)) HR.out
    rw [show Value.int .u8 (k / 16777216 % 256)=U8 (ofI (k / 16777216)) from j5 (k / 16777216)]at hs
    exact⟨4,3,rfl,rfl,rfl,hs,HB.out.setCell iL _⟩
  ·obtain rfl:n=3:=by omega
   go_wp2_with fail
   go_roundg 2
   case measure=>omega
   case rel=>
    have hs:=jg (o:=2) (v:=.int .u8 (k / 4294967296 % 256)) HR.out
    rw [show Value.int .u8 (k / 4294967296 % 256)=U8 (ofI (k / 4294967296)) from j5 (k / 4294967296)]at hs
    exact⟨5,2,rfl,rfl,rfl,hs,HB.out.setCell iL _⟩
  ·obtain rfl:n=2:=by omega
   go_wp2_with fail
   go_roundg 1
   case measure=>omega
   case rel=>
    have hs:=jg (o:=1) (v:=.int .u8 (k / 1099511627776 % 256)) HR.out
    rw [show Value.int .u8 (k / 1099511627776 % 256)=U8 (ofI (k / 1099511627776)) from j5 (k / 1099511627776)]at hs
    exact⟨6,1,rfl,rfl,rfl,hs,HB.out.setCell iL _⟩
  ·obtain rfl:n=1:=by omega
   go_wp2_with fail
   go_roundg 0
   case measure=>omega
   case rel=>
    have hs:=jg (o:=0) (v:=.int .u8 (k / 281474976710656)) HR.out
    rw [show(j1r k 6).set! 0 (.int .u8 (k / 281474976710656))=j1r k 7 by rw [show Value.int .u8 (k / 281474976710656)=U8 (ofI (k / 281474976710656))by rw [<-j5,Int.emod_eq_of_lt (by omega) (by omega)]]<;>rfl]at hs
    exact⟨7,0,rfl,rfl,rfl,hs,HB.out.setCell iL _⟩
  ·obtain rfl:n=0:=by omega
   go_wp2_with fail
   go_ret2
   exact⟨_,rfl,⟨by simp [j4v],.inr ⟨w.heap.size,7,_,rfl,Nat.le_refl _,HR.out,Nat.le_refl _,by decide,rfl,rfl⟩⟩,HB.out⟩
def JL(v:List UInt8):Int:=v.foldl (fun n b=>256*n+bv b) 0
theorem j1x(n b:Nat)(hn:n<36028797018963968)(hb:b<256):bits .or .i64 ((n:Int)*256) (b:Int)=(n:Int)*256+b:=by
 have h1:(BitVec.ofInt 64 ((n*256:Nat):Int)).toNat=n*256:=by
  rw [BitVec.ofInt_natCast,BitVec.toNat_ofNat];exact Nat.mod_eq_of_lt (by omega)
 have h2:(BitVec.ofInt 64 (b:Int)).toNat=b:=by
  rw [BitVec.ofInt_natCast,BitVec.toNat_ofNat];exact Nat.mod_eq_of_lt (by omega)
 have h3:n*256 ||| b=n*256+b:=by
  have:=Nat.two_pow_add_eq_or_of_lt (i:=8) (b:=b) (by omega) n
  rw [Nat.mul_comm]at this
  exact this.symm
 have e:(n:Int)*256=((n*256:Nat):Int):=by omega
 rw [e]
 show IntKind.i64.wrap ((BitVec.ofInt 64 ((n*256:Nat):Int) ||| BitVec.ofInt 64 (b:Int)).toNat:Int)=_
 rw [BitVec.toNat_or,h1,h2,h3,IntKind.wrap_i64]
 omega
theorem JM{l:List UInt8}{j:Nat}(h:j<l.length):JL (l.take (j+1))=JL (l.take j)*256+bv (gb l j):=by
 unfold JL
 rw [List.take_succ_eq_append_getElem h,List.foldl_append]
 simp [gb,h]
 omega
theorem Vc(l:List UInt8):∀j,j<=l.length->0<=JL (l.take j)/\JL (l.take j)<256 ^ j:=by
 intro j
 induction j with
 |zero=>intro _;exact⟨Int.le_refl _,show(0:Int)<1 by decide⟩
 |succ j ih=>
  intro h
  have:=ih (by omega)
  have b0:=jP (gb l j);have b1:=jT (gb l j)
  rw [JM (by omega),Int.pow_succ]
  omega
def xC(l:List UInt8):Int×Int:=if 7<l.length then(0,2)else(JL l,0)
theorem XX(l:List UInt8)(v:Value)(S:Nat->Prop)(w:World)(hv:BsS w S v l):Calls Tryz.prog 59 #[v] w fun e w'=>e=.returned (.tuple #[.int .i64 (xC l).1,.int .i64 (xC l).2])/\w'=w:=by
 obtain⟨a,c,rfl⟩:=hv.form2
 have hll:=hv.len
 have HV:=iH hv
 clear hv
 by_cases h7:7<l.length
 ·have E:Hid (xC l=(0,2)):=by show _=_;unfold xC;rw [iT h7]
  rw [E.out]
  go_enter Tryz.func59,Tryz.ntmps59
  go_wp2_with fail
  go_ret2
  exact⟨rfl,rfl⟩
 ·have E:Hid (xC l=(JL l,0)):=by show _=_;unfold xC;rw [iF h7]
  rw [E.out]
  clear E
  go_enter Tryz.func59,Tryz.ntmps59
  go_wp2_with fail
  go_loopg [12,4] l.length (fun m i n wr=>∃j X r:Nat,r=m/\j+r=l.length/\i=.int .i64 j/\n=.int .i64 X/\Hid ((X:Int)=JL (l.take j))/\wr=w)
  case atStart=>exact⟨0,0,l.length,rfl,by omega,rfl,rfl,iH rfl,rfl⟩
  case round=>
   obtain⟨j,X,m,rfl,hj,rfl,rfl,hX,rfl⟩:=hrel
   rcases Nat.eq_zero_or_pos m with h0|h0
   ·subst h0
    have hj':j=l.length:=by omega
    have HXE:Hid ((X:Int)=JL l):=iH (by have:=hX.out;rwa [hj',List.take_length]at this)
    subst hj'
    clear hX
    go_wp2_with fail
    go_ret2
    rw [HXE.out]
    exact⟨rfl,rfl⟩
   ·obtain⟨m,rfl⟩:∃k,m=k+1:=⟨m - 1,by omega⟩
    have hlt:j<l.length:=by omega
    have hin:=Vc l j (by omega)
    have hxb:(X:Int)<256 ^ j:=by rw [hX.out];exact hin.2
    have hp:(256:Int) ^ j<=256 ^ 6:=by exact_mod_cast Nat.pow_le_pow_right (by decide) (show j<=6 by omega)
    have hx6:X<281474976710656:=by have:(256:Int) ^ 6=281474976710656:=by decide
                                   omega
    obtain⟨y,hy⟩:∃y:Nat,y=(gb l j).toNat:=⟨_,rfl⟩
    have hyl:y<256:=by rw [hy];exact UInt8.toNat_lt _
    have q1:∃b off,a=some ⟨b,off,none⟩/\wr.cell? ⟨b,off+j,none⟩=some (.int .u8 (y:Int)):=by
     obtain⟨a',c',e,_,_,_,h4⟩:=HV.out
     injection e with e1 e2 e3
     subst e1
     obtain⟨b,off,e2,_,hc⟩:=h4 (by omega)
     exact⟨b,off,e2,by rw [hy];exact hc j hlt⟩
    obtain⟨b,off,rfl,q2⟩:=q1
    have o1:=j1x X y (by omega) hyl
    have HN:Hid (((X*256+y:Nat):Int)=JL (l.take (j+1))):=iH (by rw [JM hlt,<-hX.out];show _=_+((gb l j).toNat:Int);rw [<-hy];omega)
    clear hX hin hxb hp hy
    go_wp2_with fail
    go_roundg m
    case measure=>omega
    case rel=>exact⟨j+1,X*256+y,m,rfl,by omega,by go_num,by first|rfl|(congr 1),HN,rfl⟩
theorem JZ(l:List UInt8)(v:Value)(S:Nat->Prop)(w:World)(hv:BsS w S v l):Calls Tryz.prog 75 #[v] w fun e w'=>e=.returned (.tuple #[.int .i64 (xC l).1,.int .i64 (xC l).2])/\w'=w:=by
 obtain⟨a,c,rfl⟩:=hv.form2
 have hll:=hv.len
 have HV:=iH hv
 clear hv
 by_cases h7:7<l.length
 ·have E:Hid (xC l=(0,2)):=by show _=_;unfold xC;rw [iT h7]
  rw [E.out]
  go_enter Tryz.func75,Tryz.ntmps75
  go_wp2_with fail
  go_ret2
  exact⟨rfl,rfl⟩
 ·have E:Hid (xC l=(JL l,0)):=by show _=_;unfold xC;rw [iF h7]
  rw [E.out]
  clear E
  go_enter Tryz.func75,Tryz.ntmps75
  go_wp2_with fail
  go_loopg [5,4] l.length (fun m i n wr=>∃j X r:Nat,r=m/\j+r=l.length/\i=.int .i64 j/\n=.int .i64 X/\Hid ((X:Int)=JL (l.take j))/\wr=w)
  case atStart=>exact⟨0,0,l.length,rfl,by omega,rfl,rfl,iH rfl,rfl⟩
  case round=>
   obtain⟨j,X,m,rfl,hj,rfl,rfl,hX,rfl⟩:=hrel
   rcases Nat.eq_zero_or_pos m with h0|h0
   ·subst h0
    have hj':j=l.length:=by omega
    have HXE:Hid ((X:Int)=JL l):=iH (by have:=hX.out;rwa [hj',List.take_length]at this)
    subst hj'
    clear hX
    go_wp2_with fail
    go_ret2
    rw [HXE.out]
    exact⟨rfl,rfl⟩
   ·obtain⟨m,rfl⟩:∃k,m=k+1:=⟨m - 1,by omega⟩
    have hlt:j<l.length:=by omega
    have hin:=Vc l j (by omega)
    have hxb:(X:Int)<256 ^ j:=by rw [hX.out];exact hin.2
    have hp:(256:Int) ^ j<=256 ^ 6:=by exact_mod_cast Nat.pow_le_pow_right (by decide) (show j<=6 by omega)
    have hx6:X<281474976710656:=by have:(256:Int) ^ 6=281474976710656:=by decide
                                   omega
    obtain⟨y,hy⟩:∃y:Nat,y=(gb l j).toNat:=⟨_,rfl⟩
    have hyl:y<256:=by rw [hy];exact UInt8.toNat_lt _
    have q1:∃b off,a=some ⟨b,off,none⟩/\wr.cell? ⟨b,off+j,none⟩=some (.int .u8 (y:Int)):=by
     obtain⟨a',c',e,_,_,_,h4⟩:=HV.out
     injection e with e1 e2 e3
     subst e1
     obtain⟨b,off,e2,_,hc⟩:=h4 (by omega)
     exact⟨b,off,e2,by rw [hy];exact hc j hlt⟩
    obtain⟨b,off,rfl,q2⟩:=q1
    have HN:Hid (((X*256+y:Nat):Int)=JL (l.take (j+1))):=iH (by rw [JM hlt,<-hX.out];show _=_+((gb l j).toNat:Int);rw [<-hy];omega)
    clear hX hin hxb hp hy
    go_wp2_with fail
    go_roundg m
    case measure=>omega
    case rel=>exact⟨j+1,X*256+y,m,rfl,by omega,by go_num,by congr 1;omega,HN,rfl⟩
def J3(n:Int):List UInt8:=List.replicate 9 0++j4v n
theorem ZV(n:Int):(J3 n).length=16:=rfl
def wz9(w:World):World:=w.alloc (.cells (kI 9 fun _=>0) 5)
theorem j61(w:World):(Instr.makeSlice 27 (.int .i64 9) (.int .i64 9)).run Tryz.prog w=.ok (.slice (some ⟨w.heap.size,0,none⟩) 9 9) (wz9 w):=by kernel_rfl
theorem j2o(w:World):Below w.heap.size w (wz9 w):=iA
theorem j6h(w:World):OwnB (wz9 w) w.heap.size (.slice (some ⟨w.heap.size,0,none⟩) 9 9) (List.replicate 9 0):=
 ⟨rfl,.inr ⟨w.heap.size,9,_,rfl,Nat.le_refl _,iN,Nat.le_refl _,by decide,rfl,rfl⟩⟩
theorem yd(va vb:Value)(k1 k2:List UInt8)(n:Int)(h0:0<=n)(h1:n<=1099511627776)(w:World)(ha:Bs w w.heap.size va k1)(hb:Bs w w.heap.size vb k2):
 Calls Tryz.prog 49 #[.agg #[va,vb,.int .i64 n]] w fun e w'=>∃x y z,e=.returned (.agg #[x,y,.int .i64 (n+1),z])/\Bs w' w'.heap.size x k1/\Bs w' w'.heap.size y k2/\Bs w' w'.heap.size z (J3 (n+1))/\Below w.heap.size w w':=by
 obtain⟨A1,n1,d1,rfl⟩:=ha.form
 obtain⟨A2,n2,d2,rfl⟩:=hb.form
 obtain⟨w0,hw0⟩:∃w0,w0=w.alloc (.cells #[.slice A1 n1 d1,.slice A2 n2 d2,.int .i64 n] 29):=⟨_,rfl⟩
 have hB0:Below w.heap.size w w0:=by rw [hw0];exact iA
 have hz0:w0.heap.size=w.heap.size+1:=by rw [hw0];simp
 have hh0:w0.heap[w.heap.size]?=some (.cells #[.slice A1 n1 d1,.slice A2 n2 d2,.int .i64 n] 29 (0,0)):=by rw [hw0];exact iN
 obtain⟨wa,hwa⟩:∃wa,wa=w0.alloc (.cells #[.slice none 0 0,.slice none 0 0,.int .i64 0,.slice none 0 0] 77):=⟨_,rfl⟩
 have hBa:Below w0.heap.size w0 wa:=by rw [hwa];exact iA
 have hra:wa.heap[w.heap.size+1]?=some (.cells #[.slice none 0 0,.slice none 0 0,.int .i64 0,.slice none 0 0] 77 (0,0)):=by rw [hwa,<-hz0];exact iN
 have hh1:=(hBa.block w.heap.size (by omega)).trans hh0
 have hlt:=(iG hh1)
 have CS:Hid (∀W,Below wa.heap.size wa W->W.cell? ⟨w.heap.size,0,none⟩=some (.slice A1 n1 d1)/\W.cell? ⟨w.heap.size,1,none⟩=some (.slice A2 n2 d2)/\W.cell? ⟨w.heap.size,2,none⟩=some (.int .i64 n)):=iH fun W h=>(by obtain⟨a,b,c,_⟩:=j7 ((h.block w.heap.size hlt).trans hh1);exact⟨a,b,c⟩)
 have HB:=iH (hB0.trans (hBa.mono hB0.size))
 have H1:=iH ha;have H2:=iH hb;have HRA:=iH hra
 have WN:Hid (IntKind.i64.wrap (n+1)=n+1):=iH (IntWalk.i64_in _ (by omega))
 have HW0:=iH hw0;have HWA:=iH hwa
 clear ha hb hw0 hB0 hh0 hwa hBa hra hh1 hlt hz0
 go_enter Tryz.func49,Tryz.ntmps49
 go_upto_region 1 with fail
 rw [<-HW0.out,<-HWA.out]
 refine je 12 [some 6,some 7,some 8,some 9,some 10,some 11,some 12,some 13,some 14,some 15,some 16,some 3] [[],[0],[0,1],[],[3],[0,1,2,3,4],[],[6],[6,7],[0,1,2,3,4,5,6,7,8],[0,1,2,3,4,5,6,7,8,9],[]]
  (fun _ _ w1=>Below wa.heap.size wa w1) (fun w1 w2=>Below w1.heap.size w1 w2)
  [fun v _=>v 0=.pointer (some ⟨w.heap.size,0,none⟩),
   fun v _=>v 1=.slice A1 n1 d1,
   fun v w1=>∃a c,v 2=.slice a (k1).length c/\Bs w1 w1.heap.size (.slice a (k1).length c) (k1),
   fun v _=>v 3=.pointer (some ⟨w.heap.size,1,none⟩),
   fun v _=>v 4=.slice A2 n2 d2,
   fun v w1=>∃a c,v 5=.slice a (k2).length c/\Bs w1 w1.heap.size (.slice a (k2).length c) (k2),
   fun v _=>v 6=.pointer (some ⟨w.heap.size,2,none⟩),
   fun v _=>v 7=.int .i64 n,
   fun v _=>v 8=.int .i64 (n+1),
   fun v w1=>∃a c a' c',v 9=.agg #[.slice a k1.length c,.slice a' k2.length c',.int .i64 (n+1)]/\Bs w1 w1.heap.size (.slice a k1.length c) k1/\Bs w1 w1.heap.size (.slice a' k2.length c') k2,
   fun v w1=>∃a c a' c',v 10=.agg #[.slice a k1.length c,.slice a' k2.length c',.int .i64 (n+1),.slice none 0 0]/\Bs w1 w1.heap.size (.slice a k1.length c) k1/\Bs w1 w1.heap.size (.slice a' k2.length c') k2,
   fun v w1=>∃g,v 11=.pointer (some ⟨g,0,none⟩)/\w1.heap[g]?=some (.cells #[.slice none 0 0,.slice none 0 0,.int .i64 0,.slice none 0 0] 77 (0,0))/\wa.heap.size<=g]
  (by kernel_rfl) (by kernel_rfl) (fun _=>iB.drew) ?st ?steps ?tail
 case st=>
  exact(.cons (fun _ _ _ _ _ _ h=>h) (.cons (fun _ _ _ _ _ _ h=>h) (.cons (fun _ _ _ _ _ hr ⟨a,c,e,h⟩=>⟨a,c,e,h.lift hr⟩) (.cons (fun _ _ _ _ _ _ h=>h) (.cons (fun _ _ _ _ _ _ h=>h) (.cons (fun _ _ _ _ _ hr ⟨a,c,e,h⟩=>⟨a,c,e,h.lift hr⟩) (.cons (fun _ _ _ _ _ _ h=>h) (.cons (fun _ _ _ _ _ _ h=>h) (.cons (fun _ _ _ _ _ _ h=>h) (.cons (fun _ _ _ _ _ hr ⟨a,c,a',c',e,h,h'⟩=>⟨a,c,a',c',e,h.lift hr,h'.lift hr⟩) (.cons (fun _ _ _ _ _ hr ⟨a,c,a',c',e,h,h'⟩=>⟨a,c,a',c',e,h.lift hr,h'.lift hr⟩) (.cons (fun _ _ _ _ _ hr ⟨g,e,h,hg⟩=>⟨g,e,(hr.block g (iG h)).trans h,hg⟩) .nil))))))))))))
 case steps=>
  simp only [iI,iK]
  refine(.cons ?_ (.cons ?_ (.cons ?_ (.cons ?_ (.cons ?_ (.cons ?_ (.cons ?_ (.cons ?_ (.cons ?_ (.cons ?_ (.cons ?_ (.cons ?_ .nil))))))))))))
  all_goals(intro L v w1 hJ hL hA hF K hK;simp only [jf,Act.put,iM,Nat.reduceAdd,iS,iC,iD]at hK |-)
  ·go_simp
   refine hK _ _ hJ iB ?_
   first|exact rfl|exact j5 _
  ·have e0:v 0=.pointer (some ⟨w.heap.size,0,none⟩):=hF 0 (hA 0 (by simp))
   obtain⟨c0,c1,c2⟩:=CS.out _ hJ
   simp only [e0]at hK
   go_simp
   refine hK _ _ hJ iB ?_
   first|exact rfl|exact j5 _
  ·have e1:v 1=.slice A1 n1 d1:=hF 1 (hA 1 (by simp))
   simp only [e1]at hK
   go_simp
   refine(kM _ k1 w1 ((H1.out.lift HB.out).lift hJ)).mono ?_
   rintro e w5 ⟨v5,rfl,ho,hb⟩
   have hx:Bs w5 w5.heap.size v5 k1:=OwnB.rd ho (H1.out.len)
   obtain⟨A5,C5,hv5⟩:=Bs.formL hx
   subst hv5
   exact hK _ _ (hJ.trans (hb.mono hJ.size)) hb ⟨_,_,rfl,hx⟩
  ·go_simp
   refine hK _ _ hJ iB ?_
   first|exact rfl|exact j5 _
  ·have e3:v 3=.pointer (some ⟨w.heap.size,1,none⟩):=hF 3 (hA 3 (by simp))
   obtain⟨c0,c1,c2⟩:=CS.out _ hJ
   simp only [e3]at hK
   go_simp
   refine hK _ _ hJ iB ?_
   first|exact rfl|exact j5 _
  ·have e4:v 4=.slice A2 n2 d2:=hF 4 (hA 4 (by simp))
   simp only [e4]at hK
   go_simp
   refine(kM _ k2 w1 ((H2.out.lift HB.out).lift hJ)).mono ?_
   rintro e w5 ⟨v5,rfl,ho,hb⟩
   have hx:Bs w5 w5.heap.size v5 k2:=OwnB.rd ho (H2.out.len)
   obtain⟨A5,C5,hv5⟩:=Bs.formL hx
   subst hv5
   exact hK _ _ (hJ.trans (hb.mono hJ.size)) hb ⟨_,_,rfl,hx⟩
  ·go_simp
   refine hK _ _ hJ iB ?_
   first|exact rfl|exact j5 _
  ·have e6:v 6=.pointer (some ⟨w.heap.size,2,none⟩):=hF 6 (hA 6 (by simp))
   obtain⟨c0,c1,c2⟩:=CS.out _ hJ
   simp only [e6]at hK
   go_simp
   refine hK _ _ hJ iB ?_
   first|exact rfl|exact j5 _
  ·have e7:v 7=.int .i64 n:=hF 7 (hA 7 (by simp))
   simp only [e7]at hK
   go_simp
   refine hK _ _ hJ iB ?_
   show Value.int .i64 (IntKind.i64.wrap (n+1))=_
   rw [WN.out]
  ·have e8:v 8=.int .i64 (n+1):=hF 8 (hA 8 (by simp))
   simp only [e8]at hK
   obtain⟨a2,c2,e2,h2⟩:∃a c,v 2=.slice a (k1).length c/\Bs w1 w1.heap.size (.slice a (k1).length c) (k1):=hF 2 (hA 2 (by simp))
   obtain⟨a5,c5,e5,h5⟩:∃a c,v 5=.slice a (k2).length c/\Bs w1 w1.heap.size (.slice a (k2).length c) (k2):=hF 5 (hA 5 (by simp))
   simp only [e2,e5]at hK
   go_simp
   exact hK _ _ hJ iB ⟨_,_,_,_,rfl,h2,h5⟩
  ·obtain⟨a,c,a',c',e9,h9,h9'⟩:∃a c a' c',v 9=.agg #[.slice a k1.length c,.slice a' k2.length c',.int .i64 (n+1)]/\Bs w1 w1.heap.size (.slice a k1.length c) k1/\Bs w1 w1.heap.size (.slice a' k2.length c') k2:=hF 9 (hA 9 (by simp))
   simp only [e9]at hK
   go_simp
   exact hK _ _ hJ iB ⟨_,_,_,_,rfl,h9,h9'⟩
  ·go_simp
   have hz:=(Below.refl w1.heap.size w1).alloc iL (.cells #[.slice none 0 0,.slice none 0 0,.int .i64 0,.slice none 0 0] 77)
   exact hK _ _ (hJ.trans (hz.mono hJ.size)) hz ⟨_,rfl,iN,hJ.size⟩
 case tail=>
  intro v w1 hJ hF
  have e0:v 0=.pointer (some ⟨w.heap.size,0,none⟩):=hF 0 (by simp)
  have e1:v 1=.slice A1 n1 d1:=hF 1 (by simp)
  have e3:v 3=.pointer (some ⟨w.heap.size,1,none⟩):=hF 3 (by simp)
  have e4:v 4=.slice A2 n2 d2:=hF 4 (by simp)
  have e6:v 6=.pointer (some ⟨w.heap.size,2,none⟩):=hF 6 (by simp)
  have e7:v 7=.int .i64 n:=hF 7 (by simp)
  have e8:v 8=.int .i64 (n+1):=hF 8 (by simp)
  obtain⟨a,c,a',c',e10,h10,h10'⟩:∃a c a' c',v 10=.agg #[.slice a k1.length c,.slice a' k2.length c',.int .i64 (n+1),.slice none 0 0]/\Bs w1 w1.heap.size (.slice a k1.length c) k1/\Bs w1 w1.heap.size (.slice a' k2.length c') k2:=hF 10 (by simp)
  obtain⟨g,e11,hg,hgs⟩:∃g,v 11=.pointer (some ⟨g,0,none⟩)/\w1.heap[g]?=some (.cells #[.slice none 0 0,.slice none 0 0,.int .i64 0,.slice none 0 0] 77 (0,0))/\wa.heap.size<=g:=hF 11 (by simp)
  simp only [iE,iJ,jf,Act.put,iM,Nat.reduceAdd,iS,iC,iD]
  simp only [e10,e11]
  clear e0 e1 e3 e4 e6 e7 e8 e10 e11
  have HX:=iH h10;have HY:=iH h10';have HG:=iH hg;have HGS:=iH hgs;have HJ:=iH hJ
  obtain⟨z0,z1,z2,z3,zf⟩:=kd hg
  have zf0:=zf 0;have zf1:=zf 1;have zf2:=zf 2;have zf3:=zf 3;clear zf
  clear h10 h10' hg hgs hJ hF
  go_upto_region 2 with fail
  obtain⟨w2,hw2⟩:∃w2,w2=VL w1 g (.slice a k1.length c) (.slice a' k2.length c') (.int .i64 (n+1)) (.slice none 0 0):=⟨_,rfl⟩
  have hw3:=hw2
  simp only [VL]at hw3
  rw [<-hw3]
  clear hw3
  have NB:=iH (j63 (a:=.slice none 0 0) (b:=.slice none 0 0) (c:=.int .i64 0) (d:=.slice none 0 0) (by simp) (by simp) (by simp) (by simp))
  have HX2:Hid (Bs w2 w2.heap.size (.slice a k1.length c) k1):=iH (by rw [hw2];exact(BsS.keep (HX.out.off HG.out NB.out) fun j hs _=>⟨yS hs.2,by rw [K9];exact hs.1⟩))
  have HY2:Hid (Bs w2 w2.heap.size (.slice a' k2.length c') k2):=iH (by rw [hw2];exact(BsS.keep (HY.out.off HG.out NB.out) fun j hs _=>⟨yS hs.2,by rw [K9];exact hs.1⟩))
  have HG2:Hid (w2.heap[g]?=some (.cells #[.slice a k1.length c,.slice a' k2.length c',.int .i64 (n+1),.slice none 0 0] 77 (0,0))):=iH (by rw [hw2];exact Ye _ _ _ _ HG.out)
  have HJ2:Hid (Below wa.heap.size wa w2):=iH (by rw [hw2];exact KK HJ.out HGS.out)
  clear hw2 z0 z1 z2 z3 zf0 zf1 zf2 zf3
  obtain⟨z0,z1,z2,z3,zf⟩:=kd HG2.out
  clear zf
  have O7:=iH (j1t (n+1) w2 (by omega) (by omega))
  go_upto_region 4 with (first
   |(go_at_call 51;refine O7.out.mono ?_;rintro e w3 ⟨v3,rfl,ho,hb⟩;obtain⟨oA,oc,hv3⟩:=ho.form;rw [Jk]at hv3;subst hv3;have HO3:Hid (Bs w3 w3.heap.size (.slice oA 7 oc) (j4v (n+1))):=iH (OwnB.rd ho (by rw [Jk];omega));have HB3:=iH hb;have H9:=iH (j6h w3);have hm9:=j61 w3;clear ho hb z0 z1 z2 z3)
   |(at_builtin;go_loud((with_reducible refine jc rfl (.tmp 24) (.tmp 25) rfl w3.heap.size (.slice (some ⟨w3.heap.size,0,none⟩) 9 9) (List.replicate 9 0) rfl H9.out oA 7 oc (j4v (n+1)) (·<(wz9 w3).heap.size) rfl (HO3.out.lift (j2o w3)) (by rw [Jk];simp) (j2o w3).size ?_);intro v4 w4 hgr;have hb4:Below w3.heap.size w3 w4:=(iA).trans hgr.2.1;have HN4:Hid (Bs w4 w4.heap.size v4 (J3 (n+1))):=iH (OwnB.rd (w:=w3) (l:=J3 (n+1)) hgr.1 (by rw [ZV];omega));obtain⟨nA,nc,hv4⟩:=hgr.1.form;rw [List.length_append,Jk,List.length_replicate]at hv4;subst hv4;have hg4:w4.heap[g]?=some (.cells #[.slice a k1.length c,.slice a' k2.length c',.int .i64 (n+1),.slice none 0 0] 77 (0,0)):=(hb4.block g (iZ (iG HG2.out) HB3.out.size)).trans ((HB3.out.block g (iG HG2.out)).trans HG2.out);have HG4:=iH hg4;have H34:=iH hb4;have HB4:=iH (HB3.out.trans (hb4.mono HB3.out.size));obtain⟨z0,z1,z2,z3,zf⟩:=kd hg4;have zf3:=zf 3;clear zf hg4 hb4 hgr hm9)))
  have NB2:=iH (j63 (a:=.slice a k1.length c) (b:=.slice a' k2.length c') (c:=.int .i64 (n+1)) (d:=.slice none 0 0) (by simp) (by simp) (by simp) (by simp))
  obtain⟨w5,hw5⟩:∃w5,w5=w4.setCell ⟨g,3,none⟩ (.slice nA (9+7) nc):=⟨_,rfl⟩
  rw [<-hw5]
  have NX5:∀ {v l},Bs w4 w4.heap.size v l->Bs w5 w5.heap.size v l:=fun h=>by rw [hw5];exact Bs.setr h _ HG4.out NB2.out
  have HX5:=iH (NX5 ((HX2.out.lift HB3.out).lift H34.out));have HY5:=iH (NX5 ((HY2.out.lift HB3.out).lift H34.out));have HN5:=iH (NX5 HN4.out)
  have HG5:Hid (w5.heap[g]?=some (.cells #[.slice a k1.length c,.slice a' k2.length c',.int .i64 (n+1),.slice nA (9+7) nc] 77 (0,0))):=iH (by rw [hw5];exact jg (o:=3) HG4.out)
  have HJ5:Hid (Below wa.heap.size wa w5):=iH (by rw [hw5];exact(HJ2.out.trans (HB4.out.mono HJ2.out.size)).setCell HGS.out _)
  clear hw5 z0 z1 z2 z3 zf3 NX5
  obtain⟨z0,z1,z2,z3,zf⟩:=kd HG5.out
  clear zf
  have HR5:Hid (w5.heap[w.heap.size+1]?=some (.cells #[.slice none 0 0,.slice none 0 0,.int .i64 0,.slice none 0 0] 77 (0,0))):=iH ((HJ5.out.block _ (iG HRA.out)).trans HRA.out)
  obtain⟨r0,r1,r2,r3,rf⟩:=kd HR5.out
  have rf0:=rf 0;have rf1:=rf 1;have rf2:=rf 2;have rf3:=rf 3;clear rf
  obtain⟨y0,y1,y2,y3,_⟩:=kd (Ye (.slice a k1.length c) (.slice a' k2.length c') (.int .i64 (n+1)) (.slice nA (9+7) nc) HR5.out)
  have NB0:=iH (j63 (a:=.slice none 0 0) (b:=.slice none 0 0) (c:=.int .i64 0) (d:=.slice none 0 0) (by simp) (by simp) (by simp) (by simp))
  go_wp2_with fail
  refine bodyPost_ret (v:=.agg #[.slice a k1.length c,.slice a' k2.length c',.int .i64 (n+1),.slice nA (9+7) nc]) (by simp only [VL]at y0 y1 y2 y3;simp [results,Tryz.results49,go_sem,y0,y1,y2,y3]) rfl ?_
  have hk:∀ {v l},Bs w5 w5.heap.size v l->Bs (VL w5 (w.heap.size+1) (.slice a k1.length c) (.slice a' k2.length c') (.int .i64 (n+1)) (.slice nA (9+7) nc)) (VL w5 (w.heap.size+1) (.slice a k1.length c) (.slice a' k2.length c') (.int .i64 (n+1)) (.slice nA (9+7) nc)).heap.size v l:=fun h=>BsS.keep (h.off HR5.out NB0.out) fun j hs _=>⟨yS hs.2,by rw [K9];exact hs.1⟩
  exact⟨_,_,_,rfl,hk HX5.out,hk HY5.out,hk HN5.out,KK (HB.out.trans (HJ5.out.mono HB.out.size)) (by omega)⟩
def j4s(k:Int)(j:Nat):Array Value:=#[U8 0,U8 0,U8 0,U8 0,U8 0,U8 0,U8 0,U8 0,U8 0,U8 (if 7<=j then ofI (k / 281474976710656)else 0),U8 (if 6<=j then ofI (k / 1099511627776)else 0),U8 (if 5<=j then ofI (k / 4294967296)else 0),U8 (if 4<=j then ofI (k / 16777216)else 0),U8 (if 3<=j then ofI (k / 65536)else 0),U8 (if 2<=j then ofI (k / 256)else 0),U8 (if 1<=j then ofI (k)else 0)]
theorem j3v(w:World):(Instr.makeSlice 27 (.int .i64 16) (.int .i64 16)).run Tryz.prog w=.ok (.slice (some ⟨w.heap.size,0,none⟩) 16 16) (w.alloc (.cells #[.int .u8 0,.int .u8 0,.int .u8 0,.int .u8 0,.int .u8 0,.int .u8 0,.int .u8 0,.int .u8 0,.int .u8 0,.int .u8 0,.int .u8 0,.int .u8 0,.int .u8 0,.int .u8 0,.int .u8 0,.int .u8 0] 5)):=by kernel_rfl
theorem yl(va vb:Value)(k1 k2:List UInt8)(l1:k1.length=16)(l2:k2.length=16)(n:Int)(h0:0<=n)(h1:n<1099511627776)(w:World)(ha:Bs w w.heap.size va k1)(hb:Bs w w.heap.size vb k2):
 Calls Tryz.prog 30 #[.agg #[va,vb,.int .i64 n]] w fun e w'=>∃x y z,e=.returned (.tuple #[.agg #[x,y,.int .i64 (n+1)],z])/\Bs w' w'.heap.size x k1/\Bs w' w'.heap.size y k2/\Bs w' w'.heap.size z (J3 (n+1))/\Below w.heap.size w w':=by
 obtain⟨m,hm⟩:∃m,n+1=m:=⟨_,rfl⟩
 have m0:0<=m:=by omega
 have m1:m<=1099511627776:=by omega
 obtain⟨w0,hw0⟩:∃w0,w0=w.alloc (.cells #[va,vb,.int .i64 n] 29):=⟨_,rfl⟩
 have hB0:Below w.heap.size w w0:=by rw [hw0];exact iA
 have hh0:w0.heap[w.heap.size]?=some (.cells #[va,vb,.int .i64 n] 29 (0,0)):=by rw [hw0];exact iN
 have hz0:w0.heap.size=w.heap.size+1:=by rw [hw0];simp
 obtain⟨wa,hwa⟩:∃wa,wa=w0.alloc (.cells #[.slice none 0 0,.slice none 0 0,.int .i64 0] 29):=⟨_,rfl⟩
 have hBa:Below w0.heap.size w0 wa:=by rw [hwa];exact iA
 have hra:wa.heap[w.heap.size+1]?=some (.cells #[.slice none 0 0,.slice none 0 0,.int .i64 0] 29 (0,0)):=by rw [hwa,<-hz0];exact iN
 obtain⟨q0,q1,q2,_⟩:=j7 ((hBa.block w.heap.size (by omega)).trans hh0)
 have HB:=iH (hB0.trans (hBa.mono hB0.size))
 have HRA:=iH hra
 have HST:=iH (Zk va vb k1 k2 m wa (ha.lift HB.out) (hb.lift HB.out) l1 l2 m0 m1)
 have WN:wrap64 (n+1)=m:=by rw [IntWalk.wrap64_in _ (by omega)];exact hm
 have HM:=iH hm
 have HW0:=iH hw0;have HWA:=iH hwa
 clear ha hb hw0 hB0 hh0 hwa hBa hra l1 l2 hz0 hm h0 h1
 go_enter Tryz.func30,Tryz.ntmps30
 go_upto_region 1 with fail
 rw [<-HW0.out,<-HWA.out]
 go_upto_region 2 with (go_at_call 61;refine HST.out.mono ?_;rintro e ws ⟨s1,rfl,⟨A1,c1,B1,d1,rfl,h1,h2⟩,hb⟩;have H1:=iH h1;have H2:=iH h2;have HBs:=iH hb;obtain⟨n0,n1,n2,nf⟩:=j7 (xI ws);have nf0:=nf 0;have nf1:=nf 1;have nf2:=nf 2;clear nf;clear h1 h2 hb q0 q1 q2)
 have hbs:Below ws.heap.size ws (ws.alloc (.cells #[.slice A1 16 c1,.slice B1 16 d1,.int .i64 m] 29)):=XS ws (.slice A1 16 c1) (.slice B1 16 d1) (.int .i64 m)
 have hrow:(ws.alloc (.cells #[.slice A1 16 c1,.slice B1 16 d1,.int .i64 m] 29)).heap[ws.heap.size]?=some (.cells #[.slice A1 16 c1,.slice B1 16 d1,.int .i64 m] 29 (0,0)):=j0x ws (.slice A1 16 c1) (.slice B1 16 d1) (.int .i64 m)
 have hzb:(ws.alloc (.cells #[.slice A1 16 c1,.slice B1 16 d1,.int .i64 m] 29)).heap.size=ws.heap.size+1:=by simp
 obtain⟨wb,hwb⟩:∃wb,wb=ws.alloc (.cells #[.slice A1 16 c1,.slice B1 16 d1,.int .i64 m] 29):=⟨_,rfl⟩
 rw [<-hwb]at hbs hrow hzb |-
 have HZB:=iH hzb;have HROW:=iH hrow;have HBS:=iH hbs
 have hm16:=j3v wb
 rw [hzb]at hm16
 clear hbs hrow hzb hwb n0 n1 n2 nf0 nf1 nf2 WN
 go_wp2_with fail
 go_loopg [7] 7 (fun q i wr=>∃j:Nat,j+q=7/\i=.int .i64 j/\wr.heap[ws.heap.size+1]?=some (.cells (j4s m j) 5 (0,0))/\Below (ws.heap.size+1) wb wr)
 case atStart=>exact⟨0,rfl,rfl,by rw [<-HZB.out];exact iN,iB.alloc (by rw [HZB.out];exact Nat.le_refl _) _⟩
 case round=>
  obtain⟨j,hj,rfl,hr,hs⟩:=hrel
  have HR:=iH hr;have HS:=iH hs
  have hf:∀o,wr.frozen? ⟨ws.heap.size+1,o,none⟩=false:=fun o=>by simp [World.frozen?,hr]
  have hc:∀o,o<16->wr.cell? ⟨ws.heap.size+1,o,none⟩=(j4s m j)[o]? :=fun o ho=>by rw [cell_of_row _ _ _ _ _ _ hr]
  obtain⟨z0,z1,z2,_⟩:=j7 ((hs.block ws.heap.size (by omega)).trans HROW.out)
  clear hr hs hm16
  obtain rfl|rfl|rfl|rfl|rfl|rfl|rfl|rfl:j=0\/j=1\/j=2\/j=3\/j=4\/j=5\/j=6\/j=7:=by omega
  ·obtain rfl:gk=7:=by omega
   go_wp2_with fail
   go_roundg 6
   case measure=>omega
   case rel=>
    have hs:=jg (o:=15) (v:=U8 (ofI (m))) HR.out
    exact⟨1,rfl,rfl,hs,HS.out.setCell (p:=⟨ws.heap.size+1,15,none⟩) iL _⟩
  ·obtain rfl:gk=6:=by omega
   go_wp2_with fail
   go_roundg 5
   case measure=>omega
   case rel=>
    have hs:=jg (o:=14) (v:=U8 (ofI (m / 256))) HR.out
    exact⟨2,rfl,rfl,hs,HS.out.setCell (p:=⟨ws.heap.size+1,14,none⟩) iL _⟩
  ·obtain rfl:gk=5:=by omega
   go_wp2_with fail
   go_roundg 4
   case measure=>omega
   case rel=>
    have hs:=jg (o:=13) (v:=U8 (ofI (m / 65536))) HR.out
    exact⟨3,rfl,rfl,hs,HS.out.setCell (p:=⟨ws.heap.size+1,13,none⟩) iL _⟩
  ·obtain rfl:gk=4:=by omega
   go_wp2_with fail
   go_roundg 3
   case measure=>omega
   case rel=>
    have hs:=jg (o:=12) (v:=U8 (ofI (m / 16777216))) HR.out
    exact⟨4,rfl,rfl,hs,HS.out.setCell (p:=⟨ws.heap.size+1,12,none⟩) iL _⟩
  ·obtain rfl:gk=3:=by omega
   go_wp2_with fail
   go_roundg 2
   case measure=>omega
   case rel=>
    have hs:=jg (o:=11) (v:=U8 (ofI (m / 4294967296))) HR.out
    exact⟨5,rfl,rfl,hs,HS.out.setCell (p:=⟨ws.heap.size+1,11,none⟩) iL _⟩
  ·obtain rfl:gk=2:=by omega
   go_wp2_with fail
   go_roundg 1
   case measure=>omega
   case rel=>
    have hs:=jg (o:=10) (v:=U8 (ofI (m / 1099511627776))) HR.out
    have hv:Value.int .u8 (m / 1099511627776)=U8 (ofI (m / 1099511627776)):=by rw [<-j5,Int.emod_eq_of_lt (by omega) (by omega)]
    rw [show(j4s m 5).set! 10 (U8 (ofI (m / 1099511627776)))=j4s m 6 from rfl,<-hv]at hs
    exact⟨6,rfl,rfl,hs,HS.out.setCell (p:=⟨ws.heap.size+1,10,none⟩) iL _⟩
  ·obtain rfl:gk=1:=by omega
   go_wp2_with fail
   go_roundg 0
   case measure=>omega
   case rel=>
    have hs:=jg (o:=9) (v:=U8 (ofI (m / 281474976710656))) HR.out
    have hv:Value.int .u8 (m / 281474976710656)=U8 (ofI (m / 281474976710656)):=by rw [<-j5,Int.emod_eq_of_lt (by omega) (by omega)]
    rw [show(j4s m 6).set! 9 (U8 (ofI (m / 281474976710656)))=j4s m 7 from rfl,<-hv]at hs
    exact⟨7,rfl,rfl,hs,HS.out.setCell (p:=⟨ws.heap.size+1,9,none⟩) iL _⟩
  ·obtain rfl:gk=0:=by omega
   have hw:Below wa.heap.size wa wr:=((HBs.out.trans (HBS.out.mono HBs.out.size))).trans (HS.out.mono (by have:=HBs.out.size;omega))
   have HWR:=iH hw
   have HR5:Hid (wr.heap[w.heap.size+1]?=some (.cells #[.slice none 0 0,.slice none 0 0,.int .i64 0] 29 (0,0))):=iH ((hw.block _ (iG HRA.out)).trans HRA.out)
   obtain⟨r0,r1,r2,rf⟩:=j7 HR5.out
   have rf0:=rf 0;have rf1:=rf 1;have rf2:=rf 2
   obtain⟨y0,y1,y2,_⟩:=j7 (qu (.slice A1 16 c1) (.slice B1 16 d1) (.int .i64 m) HR5.out)
   clear rf hf hc hw
   go_wp2_with fail
   refine bodyPost_ret (v:=.tuple #[.agg #[.slice A1 16 c1,.slice B1 16 d1,.int .i64 m],.slice (some ⟨ws.heap.size+1,0,none⟩) 16 16]) (by simp only [set3]at y0 y1 y2;simp [results,Tryz.results30,go_sem,y0,y1,y2]) rfl ?_
   have NB0:noB #[.slice none 0 0,.slice none 0 0,.int .i64 0]:=j4t none none 0 0 0 0 0
   have hk:∀ {v l},Bs wr wr.heap.size v l->Bs (set3 wr (w.heap.size+1) (.slice A1 16 c1) (.slice B1 16 d1) (.int .i64 m)) (set3 wr (w.heap.size+1) (.slice A1 16 c1) (.slice B1 16 d1) (.int .i64 m)).heap.size v l:=fun h=>BsS.keep (h.off HR5.out NB0) fun j hs _=>⟨jS hs.2,by simpa [set3]using hs.1⟩
   have hold:∀ {v l},BsS ws (New wa ws) v l->Bs wr wr.heap.size v l:=fun h=>BsS.keep h fun g hg hl=>⟨(HS.out.block g (by omega)).trans (HBS.out.block g hl),iZ hl (Nat.le_trans HBS.out.size HS.out.size)⟩
   have hn:Bs wr wr.heap.size (.slice (some ⟨ws.heap.size+1,0,none⟩) 16 16) (J3 m):=by
    have ho:OwnB wr (ws.heap.size+1) (.slice (some ⟨ws.heap.size+1,0,none⟩) 16 16) (J3 m):=⟨rfl,.inr ⟨ws.heap.size+1,16,_,rfl,Nat.le_refl _,HR.out,Nat.le_refl _,by decide,rfl,rfl⟩⟩
    exact(BsS.of_own ho (by rw [ZV];omega)).keep fun _ hg _=>⟨rfl,hg.2⟩
   rw [HM.out]
   exact⟨_,_,_,rfl,hk (hold H1.out),hk (hold H2.out),hk hn,kQ (HB.out.trans (HWR.out.mono HB.out.size)) (by omega)⟩
end Go.Proofs.YtadndhgebgjlaaaGreat
