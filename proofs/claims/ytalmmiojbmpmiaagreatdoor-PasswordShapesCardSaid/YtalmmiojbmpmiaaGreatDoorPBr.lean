/- Layer 21: the data of a step, written on both sides; Layer 21: which exchanges are usable, on both sides; Layer 21: which exchanges are usable, on both sides... -/
import Derived.Test.YtalmmiojbmpmiaaGreatDoorPBp
import Derived.Test.YtalmmiojbmpmiaaGreatDoorPBm
import Derived.Test.YtalmmiojbmpmiaaGreatDoorPBn
import Derived.Test.YtalmmiojbmpmiaaGreatDoorPBq
set_option linter.all false
set_option maxRecDepth 100000
set_option maxHeartbeats 16000000
namespace Go.Proofs.YtalmmiojbmpmiaaGreatDoor
open Go.RowKit Go.Deep
theorem yN(w:World)(o:Obj){g:Nat}(hg:g=w.heap.size):(w.alloc o).heap[g]?=some o:=by subst hg;exact iN
theorem Zc(w:World)(o:Obj){g:Nat}{x:Obj}(h:w.heap[g]?=some x):(w.alloc o).heap[g]?=some x:=(Below.heap_alloc _ _ _ (iG h)).trans h
theorem YB(w:World):NsS ((w.alloc (.cells #[.int .i64 124,.slice none 0 0,.slice none 0 0] 66)).alloc (.cells #[.int .i64 124,.slice none 0 0,.slice none 0 0] 66)) (·<((w.alloc (.cells #[.int .i64 124,.slice none 0 0,.slice none 0 0] 66)).alloc (.cells #[.int .i64 124,.slice none 0 0,.slice none 0 0] 66)).heap.size) (.slice (some ⟨w.heap.size+1,0,none⟩) 1 1) (jZ 0 []):=by
 unfold jZ
 rw [iT rfl]
 exact NsS.one (g:=w.heap.size+1) (yN _ _ (by simp)) (by simp) ⟨by omega,by omega⟩ (kh _ _) (NsS.nil0 _ _)
theorem UU(w W:World)(t:Int)(ht:128<=t/\t<=134)(A:Option Addr)(c:Nat)(v:List UInt8)(g k:Nat)(h1:W.heap[g]?=some (.cells #[.int .i64 124,.slice none 0 0,.slice (some ⟨k,0,none⟩) 1 1] 66 (0,0)))
 (h2:W.heap[k]?=some (.cells #[.int .i64 t,.slice A v.length c,.slice none 0 0] 66 (0,0))) (hv:Bs W W.heap.size (.slice A v.length c) v):NsS W (·<W.heap.size) (.slice (some ⟨g,0,none⟩) 1 1) (jZ t v):=by
 unfold jZ
 rw [iF (by omega)]
 exact NsS.one h1 (iG h1) ⟨by omega,by omega⟩ (kh _ _) (NsS.one h2 (iG h2) ⟨by omega,by omega⟩ hv (NsS.nil0 _ _))
theorem QX(t:Int)(v:List UInt8):(jZ t v).all<=2:=by unfold jZ;split<;>simp [Ns.all]
theorem QT(t:Int):(jY t).length<=2:=by unfold jY;split<;>simp
theorem ZH(n:Nat):(kS n).length<=9:=by
 have h:∀f n,(leN f n).length<=f:=by
  intro f
  induction f with
  |zero=>intro n;exact Nat.le_refl _
  |succ f ih=>intro n;unfold leN;split
              ·simp
              ·have:=ih (n / 256);simp;omega
 unfold kS
 split
 ·simp
 ·have:=h 8 n;simp;omega
theorem QY(t:Int)(v:List UInt8)(hv:v.length<=64):(jZ t v).enc.length<=1000:=by
 have h1:=QT 124
 have h2:=QT t
 have h3:=ZH
 have e0:∀K:Ns,(Ns.cons 124 [] K .nil).enc=jY 124++kS K.enc.length++K.enc:=by
  intro K
  have c124:kj 124=true:=by decide
  simp [Ns.enc,c124]
 have hin:(Ns.cons t v .nil .nil).enc.length<=100:=by
  have hq:(if kj t=true then([]:List UInt8)else v).length<=64:=by
   split
   ·exact Nat.zero_le _
   ·exact hv
  have:=h3 (if kj t=true then([]:List UInt8)else v).length
  simp only [Ns.enc,List.length_append,List.length_nil]
  omega
 unfold jZ
 split
 ·rw [e0]
  have:=h3 (Ns.nil).enc.length
  simp only [Ns.enc,List.length_append,List.length_nil]at this |-
  omega
 ·rw [e0]
  have:=h3 (Ns.cons t v .nil .nil).enc.length
  simp only [List.length_append]
  omega
def YR(b:List UInt8)(w:World)(e:Ending)(w':World):Prop:=∃A c,e=.returned (.slice A b.length c)/\BsS w' (New w w') (.slice A b.length c) b/\Below w.heap.size w w'
theorem JJ(w:World)(a b:Obj):Below w.heap.size w ((w.alloc a).alloc b):=(iA).alloc (by simp) _
theorem Qt(w:World)(a b c:Obj):Below w.heap.size w (((w.alloc a).alloc b).alloc c):=(JJ w a b).alloc (by simp;omega) _
theorem YI(v:Value)(w:World):Calls Tryz.prog 75 #[.int .i64 (-1),v] w (YR (kx 0 []) w):=by
 have HU:=iH (QY 0 [] (by simp))
 go_enter Tryz.func75,Tryz.ntmps75
 go_wp2_with(go_at_call 134;refine(yt (jZ 0 []) _ ((w.alloc (.cells #[.int .i64 124,.slice none 0 0,.slice none 0 0] 66)).alloc (.cells #[.int .i64 124,.slice none 0 0,.slice none 0 0] 66)) (YB w) (by have:=QX 0 [];omega) (by have:=HU.out;omega)).mono ?_;rintro e w1 ⟨v1,rfl,hs,hb⟩;obtain⟨A1,c1,hp⟩:=Bs.formL hs;subst hp;have HS:=iH hs;have HB:=iH hb;clear hs hb)
 go_ret
 exact⟨_,_,rfl,HS.out.keep fun g hg _=>⟨rfl,Nat.le_trans (JJ w _ _).size hg.1,hg.2⟩,(JJ w _ _).trans (HB.out.mono (JJ w _ _).size)⟩
theorem UY(t:Int)(ht:128<=t/\t<=134)(A:Option Addr)(c:Nat)(v:List UInt8)(w:World)(hv:Bs w w.heap.size (.slice A v.length c) v)(hl:v.length<=64):Calls Tryz.prog 75 #[.int .i64 t,.slice A v.length c] w (YR (kx t v) w):=by
 have HU:=iH (QY t v hl)
 have HT:=iH ht;have HV:=iH hv
 have t1:(t != -1)=true:=by simp;omega
 clear ht hv hl
 go_enter Tryz.func75,Tryz.ntmps75
 go_wp2_with(go_at_call 134;refine(yt (jZ t v) _ (((w.alloc (.cells #[.int .i64 124,.slice none 0 0,.slice (some ⟨w.heap.size+1,0,none⟩) 1 1] 66)).alloc (.cells #[.int .i64 t,.slice A v.length c,.slice none 0 0] 66)).alloc (.cells #[.int .i64 124,.slice none 0 0,.slice (some ⟨w.heap.size+1,0,none⟩) 1 1] 66)) (UU w (((w.alloc (.cells #[.int .i64 124,.slice none 0 0,.slice (some ⟨w.heap.size+1,0,none⟩) 1 1] 66)).alloc (.cells #[.int .i64 t,.slice A v.length c,.slice none 0 0] 66)).alloc (.cells #[.int .i64 124,.slice none 0 0,.slice (some ⟨w.heap.size+1,0,none⟩) 1 1] 66)) t HT.out A c v (w.heap.size+1+1) (w.heap.size+1) (yN _ _ (by simp)) (Zc _ _ (yN _ _ (by simp))) (HV.out.lift (Qt w _ _ _))) (by have:=QX t v;omega) (by have:=HU.out;omega)).mono ?_;rintro e w1 ⟨v1,rfl,hs,hb⟩;obtain⟨A1,c1,hp⟩:=Bs.formL hs;subst hp;have HS:=iH hs;have HB:=iH hb;clear hs hb)
 go_ret
 exact⟨_,_,rfl,HS.out.keep fun g hg _=>⟨rfl,Nat.le_trans (Qt w _ _ _).size hg.1,hg.2⟩,(Qt w _ _ _).trans (HB.out.mono (Qt w _ _ _).size)⟩
theorem qT(p:Int)(w:World):Calls Tryz.prog 66 #[.int .i64 p] w fun e w'=>e=.returned (.bool (decide (p=2\/p=3)))/\w'=w:=by
 go_enter Tryz.func66,Tryz.ntmps66
 by_cases h:p=2<;>by_cases h2:p=3<;>(first|(have t1:(p==2)=true:=by simp [h])|(have t1:(p==2)=false:=by simp [h]))<;>(first|(have t2:(p==3)=true:=by simp [h2])|(have t2:(p==3)=false:=by simp [h2]))<;>(have R:Hid (decide (p=2\/p=3)=decide (p=2)||decide (p=3)):=iH (by simp [h,h2]);clear R)<;>(have h':=iH h;have h2':=iH h2;clear h h2;go_wp2_with fail;go_ret;exact⟨by simp [h'.out,h2'.out],rfl⟩)
theorem QQ(k:Int)(w:World):Calls Tryz.prog 140 #[.int .i64 k] w fun e w'=>e=.returned (.bool (okS k))/\w'=w:=by
 rw [ZW]
 go_enter Tryz.func140,Tryz.ntmps140
 by_cases h:0<k<;>by_cases h2:k<1073741789<;>(go_wp2_with fail;go_ret;exact⟨by simp [h,h2],rfl⟩)
theorem Y8(k1 k2:List UInt8)(n:Int)(aA bA:Option Addr)(ac bc:Nat)(w:World)(h1:Bs w w.heap.size (.slice aA k1.length ac) k1)(h2:Bs w w.heap.size (.slice bA k2.length bc) k2)(l1:k1.length<=140737488351232)(l2:k2.length<=140737488351232):
 Calls Tryz.prog 160 #[.agg #[.slice aA k1.length ac,.slice bA k2.length bc,.int .i64 n]] w fun e w'=>e=.returned (.bool (vS k1 k2 n))/\Below w.heap.size w w':=by
 obtain⟨w0,hw0⟩:∃w0,w0=w.alloc (.cells #[.slice aA k1.length ac,.slice bA k2.length bc,.int .i64 n] 46):=⟨_,rfl⟩
 have HB0:Hid (Below w.heap.size w w0):=iH (by rw [hw0];exact jq _ _)
 obtain⟨f0,f1,f2,_⟩:=xw (show w0.heap[w.heap.size]?=some (.cells #[.slice aA k1.length ac,.slice bA k2.length bc,.int .i64 n] 46 (0,0))by rw [hw0];exact iN)
 have HW0:=iH hw0
 have HS:=iH (Yp _ _ k1 k2 n w0 (h1.lift HB0.out) (h2.lift HB0.out) l1 l2)
 obtain⟨⟨er,q1,q2,q3⟩,hr⟩:∃r,Jt k1 k2 n=r:=⟨_,rfl⟩
 have R:Hid (vS k1 k2 n=(er==0)):=iH (by
  unfold Jt at hr
  unfold vS
  split at hr
  ·rename_i h
   obtain⟨rfl,_⟩:=Prod.mk.inj hr
   exact decide_eq_false (fun x=>h ⟨x.1,x.2.1⟩)
  ·split at hr
   ·rename_i h
    obtain⟨rfl,_⟩:=Prod.mk.inj hr
    exact decide_eq_false (fun x=>h x.2.2)
   ·rename_i h1 h2
    obtain⟨rfl,_⟩:=Prod.mk.inj hr
    exact decide_eq_true ⟨(Decidable.not_not.1 h1).1,(Decidable.not_not.1 h1).2,Decidable.not_not.1 h2⟩)
 rw [hr]at HS
 clear hw0 h1 h2 hr l1 l2
 go_enter Tryz.func160,Tryz.ntmps160
 go_upto_region 1 with fail
 rw [<-HW0.out]
 go_wp2_with(go_at_call 163;refine HS.out.mono ?_;rintro e w1 ⟨v1,rfl,⟨x1,y1,rfl,hx,hy⟩,hb⟩;obtain⟨xA,xc,hp⟩:=Bs.formL hx;subst hp;obtain⟨yA,yc,hp⟩:=Bs.formL hy;subst hp;have HB1:=iH hb;clear hb hx hy)
 go_ret
 rw [R.out]
 exact⟨rfl,HB0.out.trans (Below.mono (by first|exact HB1.out|exact HB1.out.alloc HB1.out.size _|exact kU (HB1.out.alloc HB1.out.size _) HB1.out.size) HB0.out.size)⟩
theorem JI(X:Exg)(sA nA aA bA:Option Addr)(sc nc ac bc:Nat)(w:World):Calls Tryz.prog 122 #[.agg #[.int .i64 X.kd,.slice sA X.sec.length sc,.int .i64 X.pr,.int .i64 X.st,.slice nA X.non.length nc,.int .i64 X.x,.int .i64 X.g,.int .i64 X.own,.int .i64 X.oth,.slice aA X.k1.length ac,.slice bA X.k2.length bc,.int .i64 X.ct]] w fun e w'=>e=.returned (.bool (qd X))/\Below w.heap.size w w':=by
 obtain⟨w0,hw0⟩:∃w0,w0=w.alloc (.cells #[.int .i64 X.kd,.slice sA X.sec.length sc,.int .i64 X.pr,.int .i64 X.st,.slice nA X.non.length nc,.int .i64 X.x,.int .i64 X.g,.int .i64 X.own,.int .i64 X.oth,.slice aA X.k1.length ac,.slice bA X.k2.length bc,.int .i64 X.ct] 48):=⟨_,rfl⟩
 have HB0:Hid (Below w.heap.size w w0):=iH (by rw [hw0];exact jq _ _)
 have FR:Hid (∀W,Below w0.heap.size w0 W->W.heap[w.heap.size]?=some (.cells #[.int .i64 X.kd,.slice sA X.sec.length sc,.int .i64 X.pr,.int .i64 X.st,.slice nA X.non.length nc,.int .i64 X.x,.int .i64 X.g,.int .i64 X.own,.int .i64 X.oth,.slice aA X.k1.length ac,.slice bA X.k2.length bc,.int .i64 X.ct] 48 (0,0))):=iH (fun W h=>(h.block w.heap.size (by rw [hw0];simp)).trans (by rw [hw0];exact iN))
 have HW0:=iH hw0
 have HP:=iH (jW X.kd X.sec sA sc w0)
 have HM:=iH (qT X.pr)
 obtain⟨f0,f1,f2,f3,f4,f5,f6,f7,f8,f9,f10,f11,ff⟩:=jy (FR.out w0 iB)
 clear hw0
 rcases hv:vPw X.kd X.sec with _|_
 ·have R:Hid (qd X=false):=iH (by unfold qd;rw [hv]<;>rfl)
  rw [hv]at HP
  clear hv
  go_enter Tryz.func122,Tryz.ntmps122
  go_upto_region 1 with fail
  rw [<-HW0.out]
  go_wp2_with(go_at_call 45;refine HP.out.mono ?_;rintro e w1 ⟨rfl,hb⟩;have HB1:=iH hb;obtain⟨g0,g1,g2,g3,g4,g5,g6,g7,g8,g9,g10,g11,gf⟩:=jy (FR.out w1 hb);clear hb)
  go_ret
  rw [R.out]
  exact⟨rfl,HB0.out.trans (HB1.out.mono HB0.out.size)⟩
 ·have R:Hid (qd X=(decide (X.pr=2)||decide (X.pr=3))):=iH (by unfold qd;rw [hv,Bool.true_and,Bool.decide_or])
  rw [hv]at HP
  clear hv
  go_enter Tryz.func122,Tryz.ntmps122
  go_upto_region 1 with fail
  rw [<-HW0.out]
  go_wp2_with(first
   |(go_at_call 45;refine HP.out.mono ?_;rintro e w1 ⟨rfl,hb⟩;have HB1:=iH hb;obtain⟨g0,g1,g2,g3,g4,g5,g6,g7,g8,g9,g10,g11,gf⟩:=jy (FR.out w1 hb);clear hb)
   |(go_at_call 66;refine(HM.out _).mono ?_;rintro e w' ⟨rfl,hw'⟩;rw [hw'];clear hw' w'))
  go_ret
  rw [R.out]
  exact⟨rfl,HB0.out.trans (HB1.out.mono HB0.out.size)⟩
theorem yl(X:Exg)(sA nA aA bA:Option Addr)(sc nc ac bc:Nat)(w:World)(h1:Bs w w.heap.size (.slice aA X.k1.length ac) X.k1)(h2:Bs w w.heap.size (.slice bA X.k2.length bc) X.k2)(l1:X.k1.length<=140737488351232)(l2:X.k2.length<=140737488351232):Calls Tryz.prog 123 #[.agg #[.int .i64 X.kd,.slice sA X.sec.length sc,.int .i64 X.pr,.int .i64 X.st,.slice nA X.non.length nc,.int .i64 X.x,.int .i64 X.g,.int .i64 X.own,.int .i64 X.oth,.slice aA X.k1.length ac,.slice bA X.k2.length bc,.int .i64 X.ct]] w fun e w'=>e=.returned (.bool (zE X))/\Below w.heap.size w w':=by
 obtain⟨w0,hw0⟩:∃w0,w0=w.alloc (.cells #[.int .i64 X.kd,.slice sA X.sec.length sc,.int .i64 X.pr,.int .i64 X.st,.slice nA X.non.length nc,.int .i64 X.x,.int .i64 X.g,.int .i64 X.own,.int .i64 X.oth,.slice aA X.k1.length ac,.slice bA X.k2.length bc,.int .i64 X.ct] 48):=⟨_,rfl⟩
 have HB0:Hid (Below w.heap.size w w0):=iH (by rw [hw0];exact jq _ _)
 have FR:Hid (∀W,Below w0.heap.size w0 W->W.heap[w.heap.size]?=some (.cells #[.int .i64 X.kd,.slice sA X.sec.length sc,.int .i64 X.pr,.int .i64 X.st,.slice nA X.non.length nc,.int .i64 X.x,.int .i64 X.g,.int .i64 X.own,.int .i64 X.oth,.slice aA X.k1.length ac,.slice bA X.k2.length bc,.int .i64 X.ct] 48 (0,0))):=iH (fun W h=>(h.block w.heap.size (by rw [hw0];simp)).trans (by rw [hw0];exact iN))
 have HW0:=iH hw0
 have HS:=iH (Y8 X.k1 X.k2 X.ct aA bA ac bc w0 (h1.lift HB0.out) (h2.lift HB0.out) l1 l2)
 obtain⟨f0,f1,f2,f3,f4,f5,f6,f7,f8,f9,f10,f11,ff⟩:=jy (FR.out w0 iB)
 clear hw0 h1 h2 l1 l2
 rcases ho:jx X.own with _|_
 ·have R:Hid (zE X=false):=iH (by unfold zE;rw [ho]<;>rfl)
  have HO:=iH ho
  clear ho
  go_enter Tryz.func123,Tryz.ntmps123
  go_upto_region 1 with fail
  rw [<-HW0.out]
  go_wp2_with(go_at_call 115;refine(jT _ _).mono ?_;rintro e w' ⟨rfl,hw'⟩;rw [hw'];clear hw' w';try(first|rw [HO.out]|rw [HT.out]|rw [HG.out]))
  go_ret
  rw [R.out]
  exact⟨rfl,HB0.out⟩
 have HO:=iH ho
 rcases ht:jx X.oth with _|_
 ·have R:Hid (zE X=false):=iH (by unfold zE;rw [ho,ht]<;>rfl)
  have HT:=iH ht
  clear ho ht
  go_enter Tryz.func123,Tryz.ntmps123
  go_upto_region 1 with fail
  rw [<-HW0.out]
  go_wp2_with(go_at_call 115;refine(jT _ _).mono ?_;rintro e w' ⟨rfl,hw'⟩;rw [hw'];clear hw' w';try(first|rw [HO.out]|rw [HT.out]|rw [HG.out]))
  go_ret
  rw [R.out]
  exact⟨rfl,HB0.out⟩
 ·have R:Hid (zE X=vS X.k1 X.k2 X.ct):=iH (by unfold zE;rw [ho,ht]<;>rfl)
  have HT:=iH ht
  clear ho ht
  go_enter Tryz.func123,Tryz.ntmps123
  go_upto_region 1 with fail
  rw [<-HW0.out]
  go_wp2_with(first|(go_at_call 115;refine(jT _ _).mono ?_;rintro e w' ⟨rfl,hw'⟩;rw [hw'];clear hw' w';try(first|rw [HO.out]|rw [HT.out]|rw [HG.out]))|(go_at_call 160;refine HS.out.mono ?_;rintro e w1 ⟨rfl,hb⟩;have HB1:=iH hb;clear hb))
  go_ret
  rw [R.out]
  exact⟨rfl,HB0.out.trans (HB1.out.mono HB0.out.size)⟩
theorem Xi(X:Exg)(sA nA aA bA:Option Addr)(sc nc ac bc:Nat)(w:World)(h1:Bs w w.heap.size (.slice aA X.k1.length ac) X.k1)(h2:Bs w w.heap.size (.slice bA X.k2.length bc) X.k2)(l1:X.k1.length<=140737488351232)(l2:X.k2.length<=140737488351232):Calls Tryz.prog 68 #[.agg #[.int .i64 X.kd,.slice sA X.sec.length sc,.int .i64 X.pr,.int .i64 X.st,.slice nA X.non.length nc,.int .i64 X.x,.int .i64 X.g,.int .i64 X.own,.int .i64 X.oth,.slice aA X.k1.length ac,.slice bA X.k2.length bc,.int .i64 X.ct]] w fun e w'=>e=.returned (.bool (usC X))/\Below w.heap.size w w':=by
 obtain⟨w0,hw0⟩:∃w0,w0=w.alloc (.cells #[.int .i64 X.kd,.slice sA X.sec.length sc,.int .i64 X.pr,.int .i64 X.st,.slice nA X.non.length nc,.int .i64 X.x,.int .i64 X.g,.int .i64 X.own,.int .i64 X.oth,.slice aA X.k1.length ac,.slice bA X.k2.length bc,.int .i64 X.ct] 48):=⟨_,rfl⟩
 have HB0:Hid (Below w.heap.size w w0):=iH (by rw [hw0];exact jq _ _)
 have FR:Hid (∀W,Below w0.heap.size w0 W->W.heap[w.heap.size]?=some (.cells #[.int .i64 X.kd,.slice sA X.sec.length sc,.int .i64 X.pr,.int .i64 X.st,.slice nA X.non.length nc,.int .i64 X.x,.int .i64 X.g,.int .i64 X.own,.int .i64 X.oth,.slice aA X.k1.length ac,.slice bA X.k2.length bc,.int .i64 X.ct] 48 (0,0))):=iH (fun W h=>(h.block w.heap.size (by rw [hw0];simp)).trans (by rw [hw0];exact iN))
 have HW0:=iH hw0
 have HBG:=iH (JI X sA nA aA bA sc nc ac bc w0)
 have HA:=iH (h1.lift HB0.out);have HB:=iH (h2.lift HB0.out);have HL:=iH (And.intro l1 l2)
 obtain⟨f0,f1,f2,f3,f4,f5,f6,f7,f8,f9,f10,f11,ff⟩:=jy (FR.out w0 iB)
 clear hw0 h1 h2 l1 l2
 have b1:Below w0.heap.size w0 w0:=Below.refl _ _
 clear b1
 rcases hb:qd X with _|_
 ·rw [hb]at HBG
  have R:=iH (show usC X=false by simp [usC,hb])
  clear hb
  go_enter Tryz.func68,Tryz.ntmps68
  go_upto_region 1 with fail
  rw [<-HW0.out]
  go_wp2_with(first
  |(go_at_call 122;refine HBG.out.mono ?_;rintro e w1 ⟨rfl,hb⟩;have HB1:=iH hb;obtain⟨g0,g1,g2,g3,g4,g5,g6,g7,g8,g9,g10,g11,gf⟩:=jy (FR.out w1 hb);clear hb))
  go_ret
  rw [R.out]
  exact⟨rfl,HB0.out.trans (HB1.out.mono HB0.out.size)⟩
 rw [hb]at HBG
 by_cases s1:X.st<1
 ·have s2:X.st<2:=by omega
  have s3:X.st<3:=by omega
  have R:=iH (show usC X=true by simp [usC,hb,s1,s2,s3])
  clear hb
  go_enter Tryz.func68,Tryz.ntmps68
  go_upto_region 1 with fail
  rw [<-HW0.out]
  go_wp2_with(first
  |(go_at_call 122;refine HBG.out.mono ?_;rintro e w1 ⟨rfl,hb⟩;have HB1:=iH hb;obtain⟨g0,g1,g2,g3,g4,g5,g6,g7,g8,g9,g10,g11,gf⟩:=jy (FR.out w1 hb);clear hb))
  go_ret
  rw [R.out]
  exact⟨rfl,HB0.out.trans (HB1.out.mono HB0.out.size)⟩
 by_cases hn:X.non.length=16
 ·have t1:((X.non.length:Int)==16)=true:=by simp;omega
  by_cases s2:X.st<2
  ·have s3:X.st<3:=by omega
   have R:=iH (show usC X=true by simp [usC,hb,s1,s2,s3,hn])
   clear hb hn
   go_enter Tryz.func68,Tryz.ntmps68
   go_upto_region 1 with fail
   rw [<-HW0.out]
   go_wp2_with(first
  |(go_at_call 122;refine HBG.out.mono ?_;rintro e w1 ⟨rfl,hb⟩;have HB1:=iH hb;obtain⟨g0,g1,g2,g3,g4,g5,g6,g7,g8,g9,g10,g11,gf⟩:=jy (FR.out w1 hb);clear hb))
   go_ret
   rw [R.out]
   exact⟨rfl,HB0.out.trans (HB1.out.mono HB0.out.size)⟩
  rcases hg:jx X.g with _|_
  ·have HG:=iH hg
   have R:=iH (show usC X=false by simp [usC,hb,s1,s2,hn,hg])
   clear hb hn hg
   go_enter Tryz.func68,Tryz.ntmps68
   go_upto_region 1 with fail
   rw [<-HW0.out]
   go_wp2_with(first
  |(go_at_call 122;refine HBG.out.mono ?_;rintro e w1 ⟨rfl,hb⟩;have HB1:=iH hb;obtain⟨g0,g1,g2,g3,g4,g5,g6,g7,g8,g9,g10,g11,gf⟩:=jy (FR.out w1 hb);clear hb)
  |(go_at_call 115;refine(jT _ _).mono ?_;rintro e w' ⟨rfl,hw'⟩;rw [hw'];clear hw' w';try(first|rw [HO.out]|rw [HT.out]|rw [HG.out])))
   go_ret
   rw [R.out]
   exact⟨rfl,HB0.out.trans (HB1.out.mono HB0.out.size)⟩
  have HG:=iH hg
  by_cases s3:X.st<3
  ·have R:=iH (show usC X=true by simp [usC,hb,s1,s2,s3,hn,hg])
   clear hb hn hg
   go_enter Tryz.func68,Tryz.ntmps68
   go_upto_region 1 with fail
   rw [<-HW0.out]
   go_wp2_with(first
   |(go_at_call 122;refine HBG.out.mono ?_;rintro e w1 ⟨rfl,hb⟩;have HB1:=iH hb;obtain⟨g0,g1,g2,g3,g4,g5,g6,g7,g8,g9,g10,g11,gf⟩:=jy (FR.out w1 hb);clear hb)
   |(go_at_call 115;refine(jT _ _).mono ?_;rintro e w' ⟨rfl,hw'⟩;rw [hw'];clear hw' w';try(first|rw [HO.out]|rw [HT.out]|rw [HG.out])))
   go_ret
   rw [R.out]
   exact⟨rfl,HB0.out.trans (HB1.out.mono HB0.out.size)⟩
  ·have R:=iH (show usC X=zE X by simp [usC,hb,s1,s2,s3,hn,hg])
   clear hb hn hg;have d3:decide (X.st<3)=false:=decide_eq_false s3
   go_enter Tryz.func68,Tryz.ntmps68
   go_upto_region 1 with fail
   rw [<-HW0.out]
   go_wp2_with(first
   |(go_at_call 122;refine HBG.out.mono ?_;rintro e w1 ⟨rfl,hb⟩;have HB1:=iH hb;obtain⟨g0,g1,g2,g3,g4,g5,g6,g7,g8,g9,g10,g11,gf⟩:=jy (FR.out w1 hb);clear hb)
   |(go_at_call 115;refine(jT _ _).mono ?_;rintro e w' ⟨rfl,hw'⟩;rw [hw'];clear hw' w';try(first|rw [HO.out]|rw [HT.out]|rw [HG.out]))
   |(go_at_call 123;refine(yl X sA nA aA bA sc nc ac bc w1 (HA.out.lift HB1.out) (HB.out.lift HB1.out) HL.out.1 HL.out.2).mono ?_;rintro e w2 ⟨rfl,hb⟩;have HB2:=iH hb;clear hb))
   go_ret
   rw [R.out]
   exact⟨rfl,(HB0.out.trans (HB1.out.mono HB0.out.size)).trans (HB2.out.mono (HB0.out.trans (HB1.out.mono HB0.out.size)).size)⟩
 ·have t1:((X.non.length:Int)==16)=false:=by simp;omega
  have R:=iH (show usC X=false by simp [usC,hb,s1,hn])
  clear hb hn
  go_enter Tryz.func68,Tryz.ntmps68
  go_upto_region 1 with fail
  rw [<-HW0.out]
  go_wp2_with(first
  |(go_at_call 122;refine HBG.out.mono ?_;rintro e w1 ⟨rfl,hb⟩;have HB1:=iH hb;obtain⟨g0,g1,g2,g3,g4,g5,g6,g7,g8,g9,g10,g11,gf⟩:=jy (FR.out w1 hb);clear hb))
  go_ret
  rw [R.out]
  exact⟨rfl,HB0.out.trans (HB1.out.mono HB0.out.size)⟩
def ExO(r:Int×Exg×List UInt8×List UInt8)(w:World)(e:Ending)(w':World):Prop:=
 ∃y dA dc nA nc,e=.returned (.tuple #[y,.slice dA r.2.2.1.length dc,.slice nA r.2.2.2.length nc,.int .i64 r.1])/\ExL w' (·<w'.heap.size) y r.2.1/\Bs w' w'.heap.size (.slice dA r.2.2.1.length dc) r.2.2.1/\Bs w' w'.heap.size (.slice nA r.2.2.2.length nc) r.2.2.2/\Below w.heap.size w w'
def j1d(st:Int):Int:=if st=0 then -1 else Qo st
theorem YD(st:Int)(h:0<=st/\st<=3)(z:Nat)(B:List UInt8)(v:Value)(w:World)(hv:Bs w w.heap.size v B):Calls Tryz.prog 69 #[v,.int .i64 (j1d st),.int .i64 z] w (ValOut (qa B (Qo st) z) w):=by
 unfold j1d
 by_cases h0:st=0
 ·rw [iT h0,show Qo st=0 by unfold Qo;rw [iT h0]]
  exact Qp z B v w hv
 ·rw [iF h0]
  exact yH (Qo st) (by unfold Qo;rw [iF h0];omega) z B v w hv
def bgX(kd:Int)(sec:List UInt8)(m:Int):Exg:=⟨kd,sec,m,0,[],0,0,0,0,[],[],0⟩
def JG(kd:Int)(sec:List UInt8)(m:Int):Int×Exg:=if vPw kd sec=false then(14,zX)else if ¬(m=2\/m=3)then(3,zX)else(0,bgX kd sec m)
def BegO(r:Int×Exg)(w:World)(e:Ending)(w':World):Prop:=∃y,e=.returned (.tuple #[y,.int .i64 r.1])/\ExL w' (·<w'.heap.size) y r.2/\Below w.heap.size w w'
theorem BegO.err{w w':World}{er:Int}{r:Int×Exg}(hr:r=(er,zX))(hb:Below w.heap.size w w'):BegO r w (.returned (.tuple #[.agg #[.int .i64 0,.slice none 0 0,.int .i64 0,.int .i64 0,.slice none 0 0,.int .i64 0,.int .i64 0,.int .i64 0,.int .i64 0,.slice none 0 0,.slice none 0 0,.int .i64 0],.int .i64 er])) w':=by
 subst hr
 exact⟨_,rfl,⟨_,_,_,_,rfl,kh _ _,kh _ _,kh _ _,kh _ _⟩,hb⟩
theorem JH(kd:Int)(sec:List UInt8)(A:Option Addr)(c:Nat)(m:Int)(w:World)(hv:Bs w w.heap.size (.slice A sec.length c) sec)(hl:sec.length<=140737488351232):
 Calls Tryz.prog 30 #[.agg #[.int .i64 kd,.slice A sec.length c],.int .i64 m] w (BegO (JG kd sec m) w):=by
 obtain⟨w0,hw0⟩:∃w0,w0=(w.alloc (.cells #[.int .i64 kd,.slice A sec.length c] 24)).alloc (.cells #[.int .i64 0,.slice none 0 0,.int .i64 0,.int .i64 0,.slice none 0 0,.int .i64 0,.int .i64 0,.int .i64 0,.int .i64 0,.slice none 0 0,.slice none 0 0,.int .i64 0] 48):=⟨_,rfl⟩
 have hb0:Below w.heap.size w w0:=by rw [hw0];exact(iA).alloc (by simp) _
 have hz0:w0.heap.size=w.heap.size+2:=by rw [hw0];simp
 have FR:Hid (∀W,Below w0.heap.size w0 W->W.heap[w.heap.size]?=some (.cells #[.int .i64 kd,.slice A sec.length c] 24 (0,0))):=iH (fun W h=>(h.block w.heap.size (by omega)).trans (by rw [hw0];exact(Below.heap_alloc _ _ _ (by simp)).trans (iN)))
 have FZ:Hid (∀W,Below w0.heap.size w0 W->W.heap[w.heap.size+1]?=some (.cells #[.int .i64 0,.slice none 0 0,.int .i64 0,.int .i64 0,.slice none 0 0,.int .i64 0,.int .i64 0,.int .i64 0,.int .i64 0,.slice none 0 0,.slice none 0 0,.int .i64 0] 48 (0,0))):=iH (fun W h=>(h.block (w.heap.size+1) (by omega)).trans (by rw [hw0];exact(show((w.alloc (.cells #[.int .i64 kd,.slice A sec.length c] 24)).alloc (.cells #[.int .i64 0,.slice none 0 0,.int .i64 0,.int .i64 0,.slice none 0 0,.int .i64 0,.int .i64 0,.int .i64 0,.int .i64 0,.slice none 0 0,.slice none 0 0,.int .i64 0] 48)).heap[w.heap.size+1]?=_ from by have:=heap_alloc_new (w.alloc (.cells #[.int .i64 kd,.slice A sec.length c] 24)) (.cells #[.int .i64 0,.slice none 0 0,.int .i64 0,.int .i64 0,.slice none 0 0,.int .i64 0,.int .i64 0,.int .i64 0,.int .i64 0,.slice none 0 0,.slice none 0 0,.int .i64 0] 48);simpa using this)))
 have H1:=iH (hv.lift hb0);have HL:=iH hl
 have HW0:=iH hw0;have HB0:=iH hb0;have HSZ:=iH hz0
 obtain⟨f0,f1,_⟩:=two (FR.out w0 iB)
 clear hw0 hb0 hz0 hv hl
 rcases hp:vPw kd sec with _|_
 ·have HVP:=iH hp
  have R:Hid (JG kd sec m=(14,zX)):=iH (by unfold JG;rw [iT hp])
  clear hp
  go_enter Tryz.func30,Tryz.ntmps30
  go_upto_region 1 with fail
  rw [<-HW0.out]
  go_wp2_with(go_at_call 45;refine(jW kd sec A c w0).mono ?_;rw [HVP.out];rintro e w1 ⟨rfl,hb⟩;have HB1:=iH hb;obtain⟨g0,g1,_⟩:=two (FR.out w1 hb);obtain⟨z0,z1,z2,z3,z4,z5,z6,z7,z8,z9,z10,z11,zf⟩:=jy (FZ.out w1 hb);have zf0:=zf 0;have zf1:=zf 1;have zf2:=zf 2;have zf3:=zf 3;have zf4:=zf 4;have zf5:=zf 5;have zf6:=zf 6;have zf7:=zf 7;have zf8:=zf 8;have zf9:=zf 9;have zf10:=zf 10;have zf11:=zf 11;clear hb zf)
  obtain⟨y0,y1,y2,y3,y4,y5,y6,y7,y8,y9,y10,y11,yf⟩:=jy ((PtW.start (FZ.out w1 HB1.out)).set12 (.int .i64 0) (.slice none 0 0) (.int .i64 0) (.int .i64 0) (.slice none 0 0) (.int .i64 0) (.int .i64 0) (.int .i64 0) (.int .i64 0) (.slice none 0 0) (.slice none 0 0) (.int .i64 0)).1
  unfold Go.Proofs.YtalmmiojbmpmiaaGreatDoor.set12 at y0 y1 y2 y3 y4 y5 y6 y7 y8 y9 y10 y11
  refine bodyPost_ret (v:=.tuple #[.agg #[.int .i64 0,.slice none 0 0,.int .i64 0,.int .i64 0,.slice none 0 0,.int .i64 0,.int .i64 0,.int .i64 0,.int .i64 0,.slice none 0 0,.slice none 0 0,.int .i64 0],.int .i64 14]) (by simp [results,Tryz.results30,go_sem,y0,y1,y2,y3,y4,y5,y6,y7,y8,y9,y10,y11]) rfl ?_
  exact BegO.err R.out ((HB0.out.trans (HB1.out.mono HB0.out.size)).trans (Below.mono (((PtW.start (FZ.out w1 HB1.out)).set12 (.int .i64 0) (.slice none 0 0) (.int .i64 0) (.int .i64 0) (.slice none 0 0) (.int .i64 0) (.int .i64 0) (.int .i64 0) (.int .i64 0) (.slice none 0 0) (.slice none 0 0) (.int .i64 0)).2.2) (Nat.le_succ _)))
 have HVP:=iH hp
 by_cases hm:m=2\/m=3
 case neg=>
  have R:Hid (JG kd sec m=(3,zX)):=iH (by unfold JG;rw [iF (by rw [hp];simp),iT hm])
  have HM:Hid (decide (m=2\/m=3)=false):=iH (decide_eq_false hm)
  clear hp hm
  go_enter Tryz.func30,Tryz.ntmps30
  go_upto_region 1 with fail
  rw [<-HW0.out]
  go_wp2_with(first|(go_at_call 45;refine(jW kd sec A c w0).mono ?_;rw [HVP.out];rintro e w1 ⟨rfl,hb⟩;have HB1:=iH hb;obtain⟨g0,g1,_⟩:=two (FR.out w1 hb);obtain⟨z0,z1,z2,z3,z4,z5,z6,z7,z8,z9,z10,z11,zf⟩:=jy (FZ.out w1 hb);have zf0:=zf 0;have zf1:=zf 1;have zf2:=zf 2;have zf3:=zf 3;have zf4:=zf 4;have zf5:=zf 5;have zf6:=zf 6;have zf7:=zf 7;have zf8:=zf 8;have zf9:=zf 9;have zf10:=zf 10;have zf11:=zf 11;clear hb zf)|(go_at_call 66;refine(qT m _).mono ?_;rw [HM.out];rintro e w' ⟨rfl,hw'⟩;rw [hw'];clear hw' w'))
  obtain⟨y0,y1,y2,y3,y4,y5,y6,y7,y8,y9,y10,y11,yf⟩:=jy ((PtW.start (FZ.out w1 HB1.out)).set12 (.int .i64 0) (.slice none 0 0) (.int .i64 0) (.int .i64 0) (.slice none 0 0) (.int .i64 0) (.int .i64 0) (.int .i64 0) (.int .i64 0) (.slice none 0 0) (.slice none 0 0) (.int .i64 0)).1
  unfold Go.Proofs.YtalmmiojbmpmiaaGreatDoor.set12 at y0 y1 y2 y3 y4 y5 y6 y7 y8 y9 y10 y11
  refine bodyPost_ret (v:=.tuple #[.agg #[.int .i64 0,.slice none 0 0,.int .i64 0,.int .i64 0,.slice none 0 0,.int .i64 0,.int .i64 0,.int .i64 0,.int .i64 0,.slice none 0 0,.slice none 0 0,.int .i64 0],.int .i64 3]) (by simp [results,Tryz.results30,go_sem,y0,y1,y2,y3,y4,y5,y6,y7,y8,y9,y10,y11]) rfl ?_
  exact BegO.err R.out ((HB0.out.trans (HB1.out.mono HB0.out.size)).trans (Below.mono (((PtW.start (FZ.out w1 HB1.out)).set12 (.int .i64 0) (.slice none 0 0) (.int .i64 0) (.int .i64 0) (.slice none 0 0) (.int .i64 0) (.int .i64 0) (.int .i64 0) (.int .i64 0) (.slice none 0 0) (.slice none 0 0) (.int .i64 0)).2.2) (Nat.le_succ _)))
 have R:Hid (JG kd sec m=(0,bgX kd sec m)):=iH (by unfold JG;rw [iF (by rw [hp];simp),iF (fun h=>h hm)])
 have HM:Hid (decide (m=2\/m=3)=true):=iH (decide_eq_true hm)
 clear hp
 clear hm
 go_enter Tryz.func30,Tryz.ntmps30
 go_upto_region 1 with fail
 rw [<-HW0.out]
 go_upto_region 5 with (first|(go_at_call 45;refine(jW kd sec A c w0).mono ?_;rw [HVP.out];rintro e w1 ⟨rfl,hb⟩;have HB1:=iH hb;obtain⟨g0,g1,_⟩:=two (FR.out w1 hb);obtain⟨z0,z1,z2,z3,z4,z5,z6,z7,z8,z9,z10,z11,zf⟩:=jy (FZ.out w1 hb);have zf0:=zf 0;have zf1:=zf 1;have zf2:=zf 2;have zf3:=zf 3;have zf4:=zf 4;have zf5:=zf 5;have zf6:=zf 6;have zf7:=zf 7;have zf8:=zf 8;have zf9:=zf 9;have zf10:=zf 10;have zf11:=zf 11;clear hb zf)|(go_at_call 66;refine(qT m _).mono ?_;rw [HM.out];rintro e w' ⟨rfl,hw'⟩;rw [hw'];clear hw' w'))
 obtain⟨wb,hwb⟩:∃z,z=w1:=⟨_,rfl⟩
 rw [<-hwb]at HB1 |-
 have HBb:=HB1
 clear hwb HB1 z0 zf0 z1 zf1 z2 zf2 z3 zf3 z4 zf4 z5 zf5 z6 zf6 z7 zf7 z8 zf8 z9 zf9 z10 zf10 z11 zf11
 refine jg 8 [some 16,some 17,some 18,some 19,some 20,some 21,some 22,some 23] [[],[0],[],[2],[2,3],[0,1,2,3,4],[],[0,1,2,3,4,5,6]]
  (fun _ _ w1=>Below wb.heap.size wb w1) (fun w1 w2=>Below w1.heap.size w1 w2)
  [fun v _=>v 0=.pointer (some ⟨w.heap.size,0,none⟩),
   fun v _=>v 1=.int .i64 kd,
   fun v _=>v 2=.pointer (some ⟨w.heap.size,1,none⟩),
   fun v _=>v 3=.slice A sec.length c,
   fun v w1=>∃A2 c2,v 4=.slice A2 sec.length c2/\BsS w1 (New wb w1) (.slice A2 sec.length c2) sec,
   fun v w1=>∃A2 c2,v 4=.slice A2 sec.length c2/\v 5=.agg #[.int .i64 kd,.slice A2 sec.length c2],
   fun v _=>v 6=.int .i64 m,
   fun v w1=>∃A2 c2,v 4=.slice A2 sec.length c2/\v 7=.agg #[.int .i64 kd,.slice A2 sec.length c2,.int .i64 m,.int .i64 0,.slice none 0 0,.int .i64 0,.int .i64 0,.int .i64 0,.int .i64 0,.slice none 0 0,.slice none 0 0,.int .i64 0]]
  (by kernel_rfl) (by kernel_rfl) (fun _=>iB.drew) ?st ?steps ?tail
 case st=>
  exact(.cons (fun _ _ _ _ _ _ h=>h) (.cons (fun _ _ _ _ _ _ h=>h) (.cons (fun _ _ _ _ _ _ h=>h) (.cons (fun _ _ _ _ _ _ h=>h) (.cons (fun _ _ _ _ _ hr ⟨A,c,h1,h2⟩=>⟨A,c,h1,h2.keep fun g hg hl=>⟨hr.block g hl,hg.1,iZ hl hr.size⟩⟩) (.cons (fun _ _ _ _ _ _ h=>h) (.cons (fun _ _ _ _ _ _ h=>h) (.cons (fun _ _ _ _ _ _ h=>h) .nil))))))))
 case steps=>
  simp only [List.take_succ_cons,List.take_zero]
  refine(.cons ?_ (.cons ?_ (.cons ?_ (.cons ?_ (.cons ?_ (.cons ?_ (.cons ?_ (.cons ?_ .nil))))))))
  all_goals(intro L v w1 hJ hL hA hF K hK;simp only [ja,Act.put,Nat.zero_add,Nat.reduceAdd,List.setIfInBounds_toArray,List.set_cons_zero,List.set_cons_succ]at hK |-)
  ·go_simp
   refine hK _ _ hJ iB ?_
   first|exact rfl|exact j3 _
  ·have e0:v 0=.pointer (some ⟨w.heap.size,0,none⟩):=hF 0 (hA 0 (by simp))
   obtain⟨q0,q1,_⟩:=two (FR.out _ (HBb.out.trans (hJ.mono HBb.out.size)))
   simp only [e0]at hK
   go_simp
   refine hK _ _ hJ iB ?_
   first|exact rfl|exact j3 _
  ·go_simp
   refine hK _ _ hJ iB ?_
   first|exact rfl|exact j3 _
  ·have e2:v 2=.pointer (some ⟨w.heap.size,1,none⟩):=hF 2 (hA 2 (by simp))
   obtain⟨q0,q1,_⟩:=two (FR.out _ (HBb.out.trans (hJ.mono HBb.out.size)))
   simp only [e2]at hK
   go_simp
   refine hK _ _ hJ iB ?_
   first|exact rfl|exact j3 _
  ·have e3:v 3=.slice A sec.length c:=hF 3 (hA 3 (by simp))
   simp only [e3]at hK
   go_simp
   refine(jr _ sec w1 (H1.out.lift (HBb.out.trans (hJ.mono HBb.out.size)))).mono ?_
   rintro e wk ⟨v2,rfl,ho,hb⟩
   obtain⟨A2,c2,hv2⟩:=OwnB.form ho
   subst hv2
   refine hK _ _ (hJ.trans (hb.mono hJ.size)) hb ⟨_,_,rfl,?_⟩
   exact(OwnB.out ho (by have:=HL.out;omega) w1 iL).keep fun g hg _=>⟨rfl,Nat.le_trans hJ.size hg.1,hg.2⟩
  ·have e1:v 1=.int .i64 kd:=hF 1 (hA 1 (by simp))
   simp only [e1]at hK
   obtain⟨A2,c2,e4,_⟩:∃A2 c2,v 4=.slice A2 sec.length c2/\BsS w1 (New wb w1) (.slice A2 sec.length c2) sec:=hF 4 (hA 4 (by simp))
   simp only [e4]at hK
   simp only [e4]
   go_simp
   exact hK _ _ hJ iB ⟨A2,c2,e4,rfl⟩
  ·go_simp
   refine hK _ _ hJ iB ?_
   first|exact rfl|exact j3 _
  ·have e6:v 6=.int .i64 m:=hF 6 (hA 6 (by simp))
   simp only [e6]at hK
   obtain⟨A2,c2,e4,e5⟩:∃A2 c2,v 4=.slice A2 sec.length c2/\v 5=.agg #[.int .i64 kd,.slice A2 sec.length c2]:=hF 5 (hA 5 (by simp))
   try simp only [e4,e5,e6]at hK
   try simp only [e4,e5,e6]
   go_simp
   exact hK _ _ hJ iB ⟨A2,c2,e4,rfl⟩
 case tail=>
  intro v w1 hJ hF
  have e0:v 0=.pointer (some ⟨w.heap.size,0,none⟩):=hF 0 (by simp)
  have e1:v 1=.int .i64 kd:=hF 1 (by simp)
  have e2:v 2=.pointer (some ⟨w.heap.size,1,none⟩):=hF 2 (by simp)
  have e3:v 3=.slice A sec.length c:=hF 3 (by simp)
  have e6:v 6=.int .i64 m:=hF 6 (by simp)
  simp only [List.drop_succ_cons,List.drop_zero,ja,Act.put,Nat.zero_add,Nat.reduceAdd,List.setIfInBounds_toArray,List.set_cons_zero,List.set_cons_succ]
  obtain⟨A2,c2,e4,hs⟩:∃A2 c2,v 4=.slice A2 sec.length c2/\BsS w1 (New wb w1) (.slice A2 sec.length c2) sec:=hF 4 (by simp)
  obtain⟨A3,c3,e4b,e7⟩:∃A2 c2,v 4=.slice A2 sec.length c2/\v 7=.agg #[.int .i64 kd,.slice A2 sec.length c2,.int .i64 m,.int .i64 0,.slice none 0 0,.int .i64 0,.int .i64 0,.int .i64 0,.int .i64 0,.slice none 0 0,.slice none 0 0,.int .i64 0]:=hF 7 (by simp)
  obtain⟨rfl,_,rfl⟩:=Value.slice.inj (e4.symm.trans e4b)
  simp only [e7]
  have HS:=iH hs;have HJ:=iH (HBb.out.trans (hJ.mono HBb.out.size));have HJb:=iH hJ
  obtain⟨z0,z1,z2,z3,z4,z5,z6,z7,z8,z9,z10,z11,zf⟩:=jy (FZ.out _ HJ.out)
  have zf0:=zf 0;have zf1:=zf 1;have zf2:=zf 2;have zf3:=zf 3;have zf4:=zf 4;have zf5:=zf 5;have zf6:=zf 6;have zf7:=zf 7;have zf8:=zf 8;have zf9:=zf 9;have zf10:=zf 10;have zf11:=zf 11
  clear hJ hF hs e0 e1 e2 e3 e4 e4b e6 e7 zf
  go_wp2_with fail
  obtain⟨y0,y1,y2,y3,y4,y5,y6,y7,y8,y9,y10,y11,yf⟩:=jy ((PtW.start (FZ.out _ HJ.out)).set12 (.int .i64 kd) (.slice A2 sec.length c2) (.int .i64 m) (.int .i64 0) (.slice none 0 0) (.int .i64 0) (.int .i64 0) (.int .i64 0) (.int .i64 0) (.slice none 0 0) (.slice none 0 0) (.int .i64 0)).1
  have OF:=iH (BsS.madeB (p:=w.heap.size+1) HS.out (by have:=HSZ.out;have:=HBb.out.size;omega))
  obtain⟨w8,hw8⟩:∃z,z=set12 w1 (w.heap.size+1) (.int .i64 kd) (.slice A2 sec.length c2) (.int .i64 m) (.int .i64 0) (.slice none 0 0) (.int .i64 0) (.int .i64 0) (.int .i64 0) (.int .i64 0) (.slice none 0 0) (.slice none 0 0) (.int .i64 0):=⟨_,rfl⟩
  have hfin:Bs w8 w8.heap.size (.slice A2 sec.length c2) sec:=by rw [hw8];exact(BsS.set12 OF.out (.int .i64 kd) (.slice A2 sec.length c2) (.int .i64 m) (.int .i64 0) (.slice none 0 0) (.int .i64 0) (.int .i64 0) (.int .i64 0) (.int .i64 0) (.slice none 0 0) (.slice none 0 0) (.int .i64 0)).loB
  have hbel:Below w.heap.size w w8:=by rw [hw8];exact(HB0.out.trans (HJ.out.mono HB0.out.size)).trans (Below.mono (((PtW.start (FZ.out _ HJ.out)).set12 (.int .i64 kd) (.slice A2 sec.length c2) (.int .i64 m) (.int .i64 0) (.slice none 0 0) (.int .i64 0) (.int .i64 0) (.int .i64 0) (.int .i64 0) (.slice none 0 0) (.slice none 0 0) (.int .i64 0)).2.2) (Nat.le_succ _))
  unfold Go.Proofs.YtalmmiojbmpmiaaGreatDoor.set12 at y0 y1 y2 y3 y4 y5 y6 y7 y8 y9 y10 y11 hw8
  refine bodyPost_ret (v:=.tuple #[.agg #[.int .i64 kd,.slice A2 sec.length c2,.int .i64 m,.int .i64 0,.slice none 0 0,.int .i64 0,.int .i64 0,.int .i64 0,.int .i64 0,.slice none 0 0,.slice none 0 0,.int .i64 0],.int .i64 0]) (by simp [results,Tryz.results30,go_sem,y0,y1,y2,y3,y4,y5,y6,y7,y8,y9,y10,y11]) rfl ?_
  rw [<-hw8,R.out]
  exact⟨_,rfl,⟨_,_,_,_,rfl,hfin,kh _ _,kh _ _,kh _ _⟩,hbel⟩
theorem j27:∀(i:Nat) (x:UInt8),#[.int .i64 0,.slice none 0 0,.int .i64 0,.int .i64 0,.slice none 0 0,.int .i64 0,.int .i64 0,.int .i64 0,.int .i64 0,.slice none 0 0,.slice none 0 0,.int .i64 0][i]? ≠some (U8 x):=by
 intro i x
 rcases i with _|_|_|_|_|_|_|_|_|_|_|_|i
 all_goals simp
def j22(F:Nat)(X:Exg)(v s:List UInt8)(tag:Int)(Y:Exg)(dt nx:List UInt8):Prop:=∀(P:Nat) (sA nA aA bA:Option Addr) (sc nc ac bc:Nat) (vA eA:Option Addr) (vc ec:Nat) (w:World),(∀W,Below P w W->KD W)->w.heap[P]?=some (.cells #[.int .i64 X.kd,.slice sA X.sec.length sc,.int .i64 X.pr,.int .i64 X.st,.slice nA X.non.length nc,.int .i64 X.x,.int .i64 X.g,.int .i64 X.own,.int .i64 X.oth,.slice aA X.k1.length ac,.slice bA X.k2.length bc,.int .i64 X.ct] 48 (0,0))->BsS w (jL P w) (.slice sA X.sec.length sc) X.sec->BsS w (jL P w) (.slice nA X.non.length nc) X.non->BsS w (jL P w) (.slice aA X.k1.length ac) X.k1->BsS w (jL P w) (.slice bA X.k2.length bc) X.k2->BsS w (jL P w) (.slice vA v.length vc) v->BsS w (jL P w) (.slice eA s.length ec) s->s.length<=140737488351232->Calls Tryz.prog F #[.pointer (some ⟨P,0,none⟩),.slice vA v.length vc,.slice eA s.length ec] w (Vg P w tag Y dt nx)
def j15(X:Exg):Nat:=if X.st=0 then 0 else VR X
theorem VY(X:Exg)(B:List UInt8):qa B (Qo X.st) (j15 X)=qa B (Qo X.st) (VR X):=by
 unfold j15
 split
 ·rename_i h
  rw [show Qo X.st=0 by unfold Qo;rw [iT h]]
  unfold qa QZ
  rfl
 ·rfl
theorem j2m(m:Int)(w:World):(Instr.index 82 (.agg #[.int .i64 (-1),.int .i64 0,.int .i64 129,.int .i64 m,.int .i64 131,.int .i64 4,.int .i64 133,.int .i64 8]) (.int .i64 0)).run Tryz.prog w=.ok (.agg #[.int .i64 (-1),.int .i64 0]) w:=by kernel_rfl
theorem j2n(m:Int)(w:World):(Instr.index 82 (.agg #[.int .i64 (-1),.int .i64 0,.int .i64 129,.int .i64 m,.int .i64 131,.int .i64 4,.int .i64 133,.int .i64 8]) (.int .i64 1)).run Tryz.prog w=.ok (.agg #[.int .i64 (129),.int .i64 m]) w:=by kernel_rfl
theorem j2o(m:Int)(w:World):(Instr.index 82 (.agg #[.int .i64 (-1),.int .i64 0,.int .i64 129,.int .i64 m,.int .i64 131,.int .i64 4,.int .i64 133,.int .i64 8]) (.int .i64 2)).run Tryz.prog w=.ok (.agg #[.int .i64 (131),.int .i64 4]) w:=by kernel_rfl
theorem j2p(m:Int)(w:World):(Instr.index 82 (.agg #[.int .i64 (-1),.int .i64 0,.int .i64 129,.int .i64 m,.int .i64 131,.int .i64 4,.int .i64 133,.int .i64 8]) (.int .i64 3)).run Tryz.prog w=.ok (.agg #[.int .i64 (133),.int .i64 8]) w:=by kernel_rfl
theorem j2i(w:World):(Instr.index 88 (.agg #[.func (.func 71) #[] #[],.func (.func 72) #[] #[],.func (.func 73) #[] #[],.func (.func 74) #[] #[]]) (.int .i64 0)).run Tryz.prog w=.ok (.func (.func 71) #[] #[]) w:=by kernel_rfl
theorem j2j(w:World):(Instr.index 88 (.agg #[.func (.func 71) #[] #[],.func (.func 72) #[] #[],.func (.func 73) #[] #[],.func (.func 74) #[] #[]]) (.int .i64 1)).run Tryz.prog w=.ok (.func (.func 72) #[] #[]) w:=by kernel_rfl
theorem j2k(w:World):(Instr.index 88 (.agg #[.func (.func 71) #[] #[],.func (.func 72) #[] #[],.func (.func 73) #[] #[],.func (.func 74) #[] #[]]) (.int .i64 2)).run Tryz.prog w=.ok (.func (.func 73) #[] #[]) w:=by kernel_rfl
theorem j2l(w:World):(Instr.index 88 (.agg #[.func (.func 71) #[] #[],.func (.func 72) #[] #[],.func (.func 73) #[] #[],.func (.func 74) #[] #[]]) (.int .i64 3)).run Tryz.prog w=.ok (.func (.func 74) #[] #[]) w:=by kernel_rfl
theorem Vl(X:Exg)(sA nA aA bA:Option Addr)(sc nc ac bc:Nat)(vA eA:Option Addr)(vc ec:Nat)(B s:List UInt8)(w:World)(hK:KD w)(h1:Bs w w.heap.size (.slice sA X.sec.length sc) X.sec)(h2:Bs w w.heap.size (.slice nA X.non.length nc) X.non)(h3:Bs w w.heap.size (.slice aA X.k1.length ac) X.k1)(h4:Bs w w.heap.size (.slice bA X.k2.length bc) X.k2)(h5:Bs w w.heap.size (.slice vA B.length vc) B)(h6:Bs w w.heap.size (.slice eA s.length ec) s)(ls:X.sec.length<=140737488351232)(ln:X.non.length<=140737488351232)(l1:X.k1.length<=140737488351232)(l2:X.k2.length<=140737488351232)(hl:s.length<=140737488351232)(F:Nat)(hF:(X.st=0/\F=71)\/(X.st=1/\F=72)\/(X.st=2/\F=73)\/(X.st=3/\F=74))(hst:0<=X.st/\X.st<=3)(hus:usC X=true)(v:List UInt8)(hv:qa B (Qo X.st) (VR X)=some v)(tag:Int)(htg:128<=tag/\tag<=134)(Y:Exg)(hyst:Y.st=X.st)(dt nx:List UInt8)(hdl:dt.length<=64)(hdo:j22 F X v s tag Y dt nx)(hr:U2 X B s=(0,{Y with st:=Y.st+1},kx tag dt,nx)):Calls Tryz.prog 33 #[.agg #[.int .i64 X.kd,.slice sA X.sec.length sc,.int .i64 X.pr,.int .i64 X.st,.slice nA X.non.length nc,.int .i64 X.x,.int .i64 X.g,.int .i64 X.own,.int .i64 X.oth,.slice aA X.k1.length ac,.slice bA X.k2.length bc,.int .i64 X.ct],.slice vA B.length vc,.slice eA s.length ec] w (ExO (U2 X B s) w):=by
 obtain⟨U,hU⟩:∃U,kx tag dt=U:=⟨_,rfl⟩
 rw [hU]at hr
 have R:=iH hr
 have HWR:Hid (∀(A:Option Addr) (c:Nat) (W:World),Bs W W.heap.size (.slice A dt.length c) dt->Calls Tryz.prog 75 #[.int .i64 tag,.slice A dt.length c] W (YR U W)):=iH (fun A c W h=>hU▸UY tag htg A c dt W h hdl)
 have HF:=iH hF;have HUS:=iH hus;have HST:=iH hst;have HV:=iH hv;have HDO:=iH hdo
 obtain⟨w0,hw0⟩:∃w0,w0=(w.alloc (.cells #[.int .i64 X.kd,.slice sA X.sec.length sc,.int .i64 X.pr,.int .i64 X.st,.slice nA X.non.length nc,.int .i64 X.x,.int .i64 X.g,.int .i64 X.own,.int .i64 X.oth,.slice aA X.k1.length ac,.slice bA X.k2.length bc,.int .i64 X.ct] 48)).alloc (.cells #[.int .i64 0,.slice none 0 0,.int .i64 0,.int .i64 0,.slice none 0 0,.int .i64 0,.int .i64 0,.int .i64 0,.int .i64 0,.slice none 0 0,.slice none 0 0,.int .i64 0] 48):=⟨_,rfl⟩
 have hb0:Below w.heap.size w w0:=by rw [hw0];exact(iA).alloc (by simp) _
 have hz0:w0.heap.size=w.heap.size+2:=by rw [hw0];simp
 have FR:Hid (∀W,Below w0.heap.size w0 W->W.heap[w.heap.size]?=some (.cells #[.int .i64 X.kd,.slice sA X.sec.length sc,.int .i64 X.pr,.int .i64 X.st,.slice nA X.non.length nc,.int .i64 X.x,.int .i64 X.g,.int .i64 X.own,.int .i64 X.oth,.slice aA X.k1.length ac,.slice bA X.k2.length bc,.int .i64 X.ct] 48 (0,0))):=iH (fun W h=>(h.block w.heap.size (by omega)).trans (by rw [hw0];exact(Below.heap_alloc _ _ _ (by simp)).trans (iN)))
 have FZ:Hid (∀W,Below w0.heap.size w0 W->W.heap[w.heap.size+1]?=some (.cells #[.int .i64 0,.slice none 0 0,.int .i64 0,.int .i64 0,.slice none 0 0,.int .i64 0,.int .i64 0,.int .i64 0,.int .i64 0,.slice none 0 0,.slice none 0 0,.int .i64 0] 48 (0,0))):=iH (fun W h=>(h.block (w.heap.size+1) (by omega)).trans (by rw [hw0];exact(show((w.alloc (.cells #[.int .i64 X.kd,.slice sA X.sec.length sc,.int .i64 X.pr,.int .i64 X.st,.slice nA X.non.length nc,.int .i64 X.x,.int .i64 X.g,.int .i64 X.own,.int .i64 X.oth,.slice aA X.k1.length ac,.slice bA X.k2.length bc,.int .i64 X.ct] 48)).alloc (.cells #[.int .i64 0,.slice none 0 0,.int .i64 0,.int .i64 0,.slice none 0 0,.int .i64 0,.int .i64 0,.int .i64 0,.int .i64 0,.slice none 0 0,.slice none 0 0,.int .i64 0] 48)).heap[w.heap.size+1]?=_ from by have:=heap_alloc_new (w.alloc (.cells #[.int .i64 X.kd,.slice sA X.sec.length sc,.int .i64 X.pr,.int .i64 X.st,.slice nA X.non.length nc,.int .i64 X.x,.int .i64 X.g,.int .i64 X.own,.int .i64 X.oth,.slice aA X.k1.length ac,.slice bA X.k2.length bc,.int .i64 X.ct] 48)) (.cells #[.int .i64 0,.slice none 0 0,.int .i64 0,.int .i64 0,.slice none 0 0,.int .i64 0,.int .i64 0,.int .i64 0,.int .i64 0,.slice none 0 0,.slice none 0 0,.int .i64 0] 48);simpa using this)))
 have HK:=iH hK
 have H1:=iH (h1.lift hb0);have H2:=iH (h2.lift hb0);have H3:=iH (h3.lift hb0);have H4:=iH (h4.lift hb0);have H5:=iH (h5.lift hb0);have H6:=iH (h6.lift hb0)
 have HLN:=iH (And.intro ls (And.intro ln (And.intro l1 l2)))
 have HW0:=iH hw0;have HB0:=iH hb0;have HSZ:=iH hz0;have HL:=iH hl
 obtain⟨f0,f1,f2,f3,f4,f5,f6,f7,f8,f9,f10,f11,ff⟩:=jy (FR.out w0 iB)
 obtain⟨z0,z1,z2,z3,z4,z5,z6,z7,z8,z9,z10,z11,zf⟩:=jy (FZ.out w0 iB)
 have zf0:=zf 0;have zf1:=zf 1;have zf2:=zf 2;have zf3:=zf 3;have zf4:=zf 4;have zf5:=zf 5;have zf6:=zf 6;have zf7:=zf 7;have zf8:=zf 8;have zf9:=zf 9;have zf10:=zf 10;have zf11:=zf 11
 clear hw0 hb0 hz0 hK h1 h2 h3 h4 h5 h6 ls ln l1 l2 hl zf ff
 have d0:decide (X.st<0)=false:=decide_eq_false (by omega)
 have d3:decide (3<X.st)=false:=decide_eq_false (by omega)
 have hy0:0<=Y.st:=by omega
 have hy3:Y.st<=3:=by omega
 clear hF hus hst hv hdo hr htg hyst hdl hU
 obtain⟨o5,e5⟩:∃o,(X.pr==3)=o:=⟨_,rfl⟩
 cases o5
 all_goals(
  have HP3:=iH e5
  go_enter Tryz.func33,Tryz.ntmps33
  go_upto_region 1 with fail
  rw [<-HW0.out]
  go_upto_region 6 with (go_at_call 68;refine(Xi X sA nA aA bA sc nc ac bc w0 H3.out H4.out HLN.out.2.2.1 HLN.out.2.2.2).mono ?_;rw [HUS.out];rintro e w1 ⟨rfl,hb⟩;have HB1:=iH hb;clear f0 f1 f2 f3 f4 f5 f6 f7 f8 f9 f10 f11;obtain⟨g0,g1,g2,g3,g4,g5,g6,g7,g8,g9,g10,g11,gf⟩:=jy (FR.out _ hb);clear z0 zf0 z1 zf1 z2 zf2 z3 zf3 z4 zf4 z5 zf5 z6 zf6 z7 zf7 z8 zf8 z9 zf9 z10 zf10 z11 zf11;obtain⟨z0,z1,z2,z3,z4,z5,z6,z7,z8,z9,z10,z11,zf⟩:=jy (FZ.out _ hb);have zf0:=zf 0;have zf1:=zf 1;have zf2:=zf 2;have zf3:=zf 3;have zf4:=zf 4;have zf5:=zf 5;have zf6:=zf 6;have zf7:=zf 7;have zf8:=zf 8;have zf9:=zf 9;have zf10:=zf 10;have zf11:=zf 11;clear hb zf gf)
  go_upto_region 8 with fail
  have I0:=j2m;have I1:=j2n;have I2:=j2o;have I3:=j2p
  go_cut [11] from 33 to 41 (fun y wc=>∃q ty,y=.pointer (some ⟨q,0,none⟩)/\wc.heap[q]?=some (.cells #[.int .i64 (j1d X.st),.int .i64 (j15 X)] ty (0,0))/\Below w1.heap.size w1 wc/\q<wc.heap.size)
  case first=>
   have h4:X.st=0\/X.st=1\/X.st=2\/X.st=3:=by have:=HST.out;omega
   rcases h4 with h4|h4|h4|h4
   all_goals(rw [h4]at g3;have H4':=iH h4;clear h4;go_wp2_with fail;go_meet;exact⟨_,81,rfl,(iN).trans (by have hq:=HP3.out;simp at hq;simp [j1d,Qo,j15,VR,H4'.out,hq]),iA,by simp⟩)
  case rest=>
  obtain⟨q,ty,rfl,hq,hbw,hql⟩:=hcut
  obtain⟨q0,q1,_⟩:=two hq
  have HBC:=iH (HB1.out.trans (hbw.mono HB1.out.size))
  clear hq hbw hql g0 g1 g2 g3 g4 g5 g6 g7 g8 g9 g10 g11 z0 zf0 z1 zf1 z2 zf2 z3 zf3 z4 zf4 z5 zf5 z6 zf6 z7 zf7 z8 zf8 z9 zf9 z10 zf10 z11 zf11 e5
  go_upto_region 12 with (go_at_call 69;refine(YD X.st HST.out (j15 X) B _ _ (Bs.lift H5.out HBC.out)).mono ?_;rw [VY,HV.out];rintro e w2 ⟨v2,rfl,hs,hb⟩;obtain⟨A2,c2,hv2⟩:=Bs.formL hs;subst hv2;have GV:=iH hs;have HB2:=iH (HBC.out.trans (hb.mono HBC.out.size));obtain⟨f0,f1,f2,f3,f4,f5,f6,f7,f8,f9,f10,f11,ff⟩:=jy (FR.out _ HB2.out);obtain⟨z0,z1,z2,z3,z4,z5,z6,z7,z8,z9,z10,z11,zf⟩:=jy (FZ.out _ HB2.out);have zf0:=zf 0;have zf1:=zf 1;have zf2:=zf 2;have zf3:=zf 3;have zf4:=zf 4;have zf5:=zf 5;have zf6:=zf 6;have zf7:=zf 7;have zf8:=zf 8;have zf9:=zf 9;have zf10:=zf 10;have zf11:=zf 11;clear hs hb ff zf)
  go_upto_region 13 with (go_at_call 70;refine(yL X sA nA aA bA sc nc ac bc w2 (H1.out.lift HB2.out) (H2.out.lift HB2.out) (H3.out.lift HB2.out) (H4.out.lift HB2.out) HLN.out.1 HLN.out.2.1 HLN.out.2.2.1 HLN.out.2.2.2).mono ?_;rintro e w3 ⟨sB,nB,aB,bB,sd,nd,ad,bd,rfl,k1,k2,k3,k4,hb⟩;have HB3:=iH (HB2.out.trans (hb.mono HB2.out.size));have hpz:=PtW.start (FZ.out _ HB3.out);clear f0 f1 f2 f3 f4 f5 f6 f7 f8 f9 f10 f11 z0 zf0 z1 zf1 z2 zf2 z3 zf3 z4 zf4 z5 zf5 z6 zf6 z7 zf7 z8 zf8 z9 zf9 z10 zf10 z11 zf11;obtain⟨f0,f1,f2,f3,f4,f5,f6,f7,f8,f9,f10,f11,ff⟩:=jy (FR.out _ HB3.out);obtain⟨z0,z1,z2,z3,z4,z5,z6,z7,z8,z9,z10,z11,zf⟩:=jy hpz.1;have zf0:=zf 0;have zf1:=zf 1;have zf2:=zf 2;have zf3:=zf 3;have zf4:=zf 4;have zf5:=zf 5;have zf6:=zf 6;have zf7:=zf 7;have zf8:=zf 8;have zf9:=zf 9;have zf10:=zf 10;have zf11:=zf 11;have G1:=iH (BsS.madeB (p:=w.heap.size+1) k1 (by have:=HSZ.out;have:=HB2.out.size;omega));have G2:=iH (BsS.madeB (p:=w.heap.size+1) k2 (by have:=HSZ.out;have:=HB2.out.size;omega));have G3:=iH (BsS.madeB (p:=w.heap.size+1) k3 (by have:=HSZ.out;have:=HB2.out.size;omega));have G4:=iH (BsS.madeB (p:=w.heap.size+1) k4 (by have:=HSZ.out;have:=HB2.out.size;omega));have G5:=iH (BsS.onB (BsS.madeB (p:=w.heap.size+1) GV.out (by have:=HSZ.out;have:=HBC.out.size;omega)) hb);have HPZ:=iH hpz;clear k1 k2 k3 k4 hb hpz ff zf)
  obtain⟨w4,hw4⟩:∃z,z=set12 w3 (w.heap.size+1) (.int .i64 X.kd) (.slice sB X.sec.length sd) (.int .i64 X.pr) (.int .i64 X.st) (.slice nB X.non.length nd) (.int .i64 X.x) (.int .i64 X.g) (.int .i64 X.own) (.int .i64 X.oth) (.slice aB X.k1.length ad) (.slice bB X.k2.length bd) (.int .i64 X.ct):=⟨_,rfl⟩
  have hp4:PtW (w.heap.size+1) w3 w4 #[.int .i64 X.kd,.slice sB X.sec.length sd,.int .i64 X.pr,.int .i64 X.st,.slice nB X.non.length nd,.int .i64 X.x,.int .i64 X.g,.int .i64 X.own,.int .i64 X.oth,.slice aB X.k1.length ad,.slice bB X.k2.length bd,.int .i64 X.ct]:=by rw [hw4];exact HPZ.out.set12 (.int .i64 X.kd) (.slice sB X.sec.length sd) (.int .i64 X.pr) (.int .i64 X.st) (.slice nB X.non.length nd) (.int .i64 X.x) (.int .i64 X.g) (.int .i64 X.own) (.int .i64 X.oth) (.slice aB X.k1.length ad) (.slice bB X.k2.length bd) (.int .i64 X.ct)
  have g4:=fun {u:Value} {m:List UInt8} (h:BsS w3 (jL (w.heap.size+1) w3) u m)=>(by rw [hw4];exact BsS.set12 h (.int .i64 X.kd) (.slice sB X.sec.length sd) (.int .i64 X.pr) (.int .i64 X.st) (.slice nB X.non.length nd) (.int .i64 X.x) (.int .i64 X.g) (.int .i64 X.own) (.int .i64 X.oth) (.slice aB X.k1.length ad) (.slice bB X.k2.length bd) (.int .i64 X.ct):BsS w4 (jL (w.heap.size+1) w4) u m)
  have J1:=iH (g4 G1.out);have J2:=iH (g4 G2.out);have J3:=iH (g4 G3.out);have J4:=iH (g4 G4.out);have J5:=iH (g4 G5.out)
  have H6w:Hid (BsS w3 (jL (w.heap.size+1) w3) (.slice eA s.length ec) s):=iH (BsS.keep (BsS.off (H6.out.lift HB3.out) (FZ.out _ HB3.out) j27) fun g hs _=>⟨rfl,hs⟩)
  have J6:=iH (g4 H6w.out)
  have HQ4:=iH hp4
  have hfr4:w4.heap[w.heap.size]?=some (.cells #[.int .i64 X.kd,.slice sA X.sec.length sc,.int .i64 X.pr,.int .i64 X.st,.slice nA X.non.length nc,.int .i64 X.x,.int .i64 X.g,.int .i64 X.own,.int .i64 X.oth,.slice aA X.k1.length ac,.slice bA X.k2.length bc,.int .i64 X.ct] 48 (0,0)):=(hp4.2.1.block w.heap.size (by have:=HSZ.out;have:=HB3.out.size;omega) (by intro e;injection e with e;omega)).trans (FR.out _ HB3.out)
  unfold Go.Proofs.YtalmmiojbmpmiaaGreatDoor.set12 at hw4
  rw [<-hw4]
  clear hw4 hp4 g4 f0 f1 f2 f3 f4 f5 f6 f7 f8 f9 f10 f11 z0 zf0 z1 zf1 z2 zf2 z3 zf3 z4 zf4 z5 zf5 z6 zf6 z7 zf7 z8 zf8 z9 zf9 z10 zf10 z11 zf11
  obtain⟨f0,f1,f2,f3,f4,f5,f6,f7,f8,f9,f10,f11,ff⟩:=jy hfr4
  clear hfr4 ff
  have HK4:Hid (∀W,Below (w.heap.size+1) w4 W->KD W):=iH (fun W h=>HK.out.below (((HB0.out.trans (HB3.out.mono HB0.out.size)).mono iL).trans ((HQ4.out.2.2.mono (Nat.le_succ _)).trans (h.mono (Nat.le_succ _)))) HK.out.lt)
  have I0:=j2i;have I1:=j2j;have I2:=j2k;have I3:=j2l
  have HCF:∀(args:Array Value) (W:World),Sem.run Tryz.prog (callFunc F args) W=.ok (.enter F args) W:=by rcases HF.out with ⟨_,rfl⟩|⟨_,rfl⟩|⟨_,rfl⟩|⟨_,rfl⟩<;>(intro args W;kernel_rfl)
  go_cut [14] from 56 to 59 (fun y wc=>y=.func (.func F) #[] #[]/\wc=w4)
  case first=>
   rcases HF.out with ⟨h4,rfl⟩|⟨h4,rfl⟩|⟨h4,rfl⟩|⟨h4,rfl⟩
   all_goals(rw [h4]at f3;clear h4;go_wp2_with fail;go_meet;exact⟨rfl,rfl⟩)
  case rest=>
  obtain⟨rfl,hwc⟩:=hcut
  have hwc:=hwc.symm
  subst hwc
  clear I0 I1 I2 I3
  go_upto_region 15 with (refine(HDO.out (w.heap.size+1) sB nB aB bB sd nd ad bd A2 eA c2 ec _ HK4.out HQ4.out.1 J1.out J2.out J3.out J4.out J5.out J6.out HL.out).mono ?_;rintro e w5 ⟨dA,dc,nA1,nc1,rfl,⟨sY,nY,aY,bY,sy,ny,ay,by_,hpt,k1,k2,k3,k4⟩,hd,hn⟩;have HPT:=iH hpt;obtain⟨p0,p1,p2,p3,p4,p5,p6,p7,p8,p9,p10,p11,pf⟩:=jy hpt.1;have pf3:=pf 3;have K1:=iH k1;have K2:=iH k2;have K3:=iH k3;have K4:=iH k4;have KD1:=iH hd;have KN:=iH hn;clear hpt k1 k2 k3 k4 hd hn pf)
  go_upto_region 18 with fail
  obtain⟨w6,hw6⟩:∃z,z=w5.setCell ⟨w.heap.size+1,3,none⟩ (.int .i64 (Y.st+1)):=⟨_,rfl⟩
  rw [<-hw6]
  have hp6:PtW (w.heap.size+1) w4 w6 #[.int .i64 Y.kd,.slice sY Y.sec.length sy,.int .i64 Y.pr,.int .i64 (Y.st+1),.slice nY Y.non.length ny,.int .i64 Y.x,.int .i64 Y.g,.int .i64 Y.own,.int .i64 Y.oth,.slice aY Y.k1.length ay,.slice bY Y.k2.length by_,.int .i64 Y.ct]:=by rw [hw6];exact HPT.out.set 3 _
  have HP6:=iH hp6
  have D6:Hid (BsS w6 (jL (w.heap.size+1) w6) _ _):=iH (by rw [hw6];exact BsS.setP KD1.out 3 _)
  have N6:Hid (BsS w6 (jL (w.heap.size+1) w6) _ _):=iH (by rw [hw6];exact BsS.setP KN.out 3 _)
  have L1:Hid (BsS w6 (jL (w.heap.size+1) w6) _ _):=iH (by rw [hw6];exact BsS.setP K1.out 3 _)
  have L2:Hid (BsS w6 (jL (w.heap.size+1) w6) _ _):=iH (by rw [hw6];exact BsS.setP K2.out 3 _)
  have L3:Hid (BsS w6 (jL (w.heap.size+1) w6) _ _):=iH (by rw [hw6];exact BsS.setP K3.out 3 _)
  have L4:Hid (BsS w6 (jL (w.heap.size+1) w6) _ _):=iH (by rw [hw6];exact BsS.setP K4.out 3 _)
  clear hw6 hp6 p0 p1 p2 p3 p4 p5 p6 p7 p8 p9 p10 p11 pf3 f0 f1 f2 f3 f4 f5 f6 f7 f8 f9 f10 f11 q0 q1
  refine jg 7 [some 77,some 78,some 79,some 80,some 81,none,some 7] [[],[],[],[1,2],[],[0,1,2,3],[0,1,2,3,5]]
   (fun _ _ w1=>PtW (w.heap.size+1) w6 w1 #[.int .i64 Y.kd,.slice sY Y.sec.length sy,.int .i64 Y.pr,.int .i64 (Y.st+1),.slice nY Y.non.length ny,.int .i64 Y.x,.int .i64 Y.g,.int .i64 Y.own,.int .i64 Y.oth,.slice aY Y.k1.length ay,.slice bY Y.k2.length by_,.int .i64 Y.ct]) (fun w1 w2=>w1.grownBy w2 (some (w.heap.size+1)))
   [fun v _=>v 0=.agg #[.int .i64 Y.kd,.slice sY Y.sec.length sy,.int .i64 Y.pr,.int .i64 (Y.st+1),.slice nY Y.non.length ny,.int .i64 Y.x,.int .i64 Y.g,.int .i64 Y.own,.int .i64 Y.oth,.slice aY Y.k1.length ay,.slice bY Y.k2.length by_,.int .i64 Y.ct],
    fun v _=>v 1=.int .i64 tag,
    fun v _=>v 2=.slice dA dt.length dc,
    fun v w1=>∃A c,v 3=.slice A U.length c/\BsS w1 (jL (w.heap.size+1) w1) (.slice A U.length c) U,
    fun v _=>v 4=.slice nA1 nx.length nc1,
    fun v w1=>True,
    fun v w1=>∃A c,v 3=.slice A U.length c/\v 6=.slice A U.length c]
   (by kernel_rfl) (by kernel_rfl) (fun _=>(PtW.start HP6.out.1).drew) ?st ?steps ?tail
  case st=>
   exact(.cons (fun _ _ _ _ _ _ h=>h) (.cons (fun _ _ _ _ _ _ h=>h) (.cons (fun _ _ _ _ _ _ h=>h) (.cons (fun _ _ _ _ _ hr ⟨A,c,h1,h2⟩=>⟨A,c,h1,h2.grownP hr⟩) (.cons (fun _ _ _ _ _ _ h=>h) (.cons (fun _ _ _ _ _ _ h=>h) (.cons (fun _ _ _ _ _ _ h=>h) .nil)))))))
  case steps=>
   simp only [List.take_succ_cons,List.take_zero]
   refine(.cons ?_ (.cons ?_ (.cons ?_ (.cons ?_ (.cons ?_ (.cons ?_ (.cons ?_ .nil)))))))
   all_goals(intro L v w1 hJ hL hA hF K hK;simp only [ja,Act.put,Nat.zero_add,Nat.reduceAdd,List.setIfInBounds_toArray,List.set_cons_zero,List.set_cons_succ]at hK |-)
   ·obtain⟨q0,q1,q2,q3,q4,q5,q6,q7,q8,q9,q10,q11,qf⟩:=jy hJ.1
    go_simp
    refine hK _ _ hJ (World.grownBy.refl _ _) ?_
    first|exact rfl|exact j3 _
   ·go_simp
    refine hK _ _ hJ (World.grownBy.refl _ _) ?_
    first|exact rfl|exact j3 _
   ·go_simp
    refine hK _ _ hJ (World.grownBy.refl _ _) ?_
    first|exact rfl|exact j3 _
   ·have e1:v 1=.int .i64 tag:=hF 1 (hA 1 (by simp))
    have e2:v 2=.slice dA dt.length dc:=hF 2 (hA 2 (by simp))
    simp only [e1,e2]at hK
    go_simp
    refine(HWR.out dA dc w1 (D6.out.grownP hJ.2.1).loB).mono ?_
    rintro e wk ⟨A3,c3,rfl,hs,hb⟩
    refine hK _ _ (hJ.call hb) (zq hb) ⟨_,_,rfl,?_⟩
    exact hs.madeB hJ.lt
   ·go_simp
    refine hK _ _ hJ (World.grownBy.refl _ _) ?_
    first|exact rfl|exact j3 _
   ·have e0:v 0=.agg #[.int .i64 Y.kd,.slice sY Y.sec.length sy,.int .i64 Y.pr,.int .i64 (Y.st+1),.slice nY Y.non.length ny,.int .i64 Y.x,.int .i64 Y.g,.int .i64 Y.own,.int .i64 Y.oth,.slice aY Y.k1.length ay,.slice bY Y.k2.length by_,.int .i64 Y.ct]:=hF 0 (hA 0 (by simp))
    simp only [e0]at hK
    obtain⟨q0,q1,q2,q3,q4,q5,q6,q7,q8,q9,q10,q11,qf⟩:=jy hJ.1
    have qf0:=qf 0;have qf1:=qf 1;have qf2:=qf 2;have qf3:=qf 3;have qf4:=qf 4;have qf5:=qf 5;have qf6:=qf 6;have qf7:=qf 7;have qf8:=qf 8;have qf9:=qf 9;have qf10:=qf 10;have qf11:=qf 11
    have HJq:=iH hJ
    clear hJ hL hF hA qf
    go_simp
    exact hK undef _ (HJq.out.set12 (.int .i64 Y.kd) (.slice sY Y.sec.length sy) (.int .i64 Y.pr) (.int .i64 (Y.st+1)) (.slice nY Y.non.length ny) (.int .i64 Y.x) (.int .i64 Y.g) (.int .i64 Y.own) (.int .i64 Y.oth) (.slice aY Y.k1.length ay) (.slice bY Y.k2.length by_) (.int .i64 Y.ct)) ((PtW.start HJq.out.1).set12 (.int .i64 Y.kd) (.slice sY Y.sec.length sy) (.int .i64 Y.pr) (.int .i64 (Y.st+1)) (.slice nY Y.non.length ny) (.int .i64 Y.x) (.int .i64 Y.g) (.int .i64 Y.own) (.int .i64 Y.oth) (.slice aY Y.k1.length ay) (.slice bY Y.k2.length by_) (.int .i64 Y.ct)).2.1 trivial
   ·obtain⟨A,c,e3,_⟩:∃A c,v 3=.slice A U.length c/\BsS w1 (jL (w.heap.size+1) w1) (.slice A U.length c) U:=hF 3 (hA 3 (by simp))
    simp only [e3]at hK
    go_simp
    exact hK _ _ hJ (World.grownBy.refl _ _) ⟨A,c,e3,rfl⟩
  case tail=>
   intro v w1 hJ hF
   have e0:v 0=.agg #[.int .i64 Y.kd,.slice sY Y.sec.length sy,.int .i64 Y.pr,.int .i64 (Y.st+1),.slice nY Y.non.length ny,.int .i64 Y.x,.int .i64 Y.g,.int .i64 Y.own,.int .i64 Y.oth,.slice aY Y.k1.length ay,.slice bY Y.k2.length by_,.int .i64 Y.ct]:=hF 0 (by simp)
   have e1:v 1=.int .i64 tag:=hF 1 (by simp)
   have e2:v 2=.slice dA dt.length dc:=hF 2 (by simp)
   have e4:v 4=.slice nA1 nx.length nc1:=hF 4 (by simp)
   simp only [List.drop_succ_cons,List.drop_zero,ja,Act.put,Nat.zero_add,Nat.reduceAdd,List.setIfInBounds_toArray,List.set_cons_zero,List.set_cons_succ]
   obtain⟨A7,c7,e3,hu⟩:∃A c,v 3=.slice A U.length c/\BsS w1 (jL (w.heap.size+1) w1) (.slice A U.length c) U:=hF 3 (by simp)
   obtain⟨A8,c8,e3b,e6⟩:∃A c,v 3=.slice A U.length c/\v 6=.slice A U.length c:=hF 6 (by simp)
   obtain⟨rfl,_,rfl⟩:=Value.slice.inj (e3.symm.trans e3b)
   simp only [e0,e1,e2,e3,e4,e6]
   have HP7:=iH hJ;have HU:=iH hu
   obtain⟨y0,y1,y2,y3,y4,y5,y6,y7,y8,y9,y10,y11,yf⟩:=jy hJ.1
   clear hJ hF hu e0 e1 e2 e3 e3b e4 e6
   go_wp2_with fail
   refine bodyPost_ret (v:=.tuple #[.agg #[.int .i64 Y.kd,.slice sY Y.sec.length sy,.int .i64 Y.pr,.int .i64 (Y.st+1),.slice nY Y.non.length ny,.int .i64 Y.x,.int .i64 Y.g,.int .i64 Y.own,.int .i64 Y.oth,.slice aY Y.k1.length ay,.slice bY Y.k2.length by_,.int .i64 Y.ct],.slice A7 U.length c7,.slice nA1 nx.length nc1,.int .i64 0]) (by simp [results,Tryz.results33,go_sem,y0,y1,y2,y3,y4,y5,y6,y7,y8,y9,y10,y11]) rfl ?_
   have hfin:∀ {u:Value} {m:List UInt8},BsS w6 (jL (w.heap.size+1) w6) u m->Bs w1 w1.heap.size u m:=fun {u m} h=>(h.grownP HP7.out.2.1).loB
   have hbel:Below w.heap.size w w1:=(HB0.out.trans (HB3.out.mono HB0.out.size)).trans (Below.mono ((HQ4.out.2.2.trans HP6.out.2.2).trans HP7.out.2.2) (Nat.le_succ _))
   rw [R.out]
   exact⟨_,_,_,_,_,rfl,⟨_,_,_,_,rfl,hfin L1.out,hfin L2.out,hfin L3.out,hfin L4.out⟩,HU.out.loB,hfin N6.out,hbel⟩)
theorem XZ(X:Exg)(sA nA aA bA:Option Addr)(sc nc ac bc:Nat)(w:World)(h1:Bs w w.heap.size (.slice aA X.k1.length ac) X.k1)(h2:Bs w w.heap.size (.slice bA X.k2.length bc) X.k2)(l1:X.k1.length<=140737488351232)(l2:X.k2.length<=140737488351232):Calls Tryz.prog 87 #[.agg #[.int .i64 X.kd,.slice sA X.sec.length sc,.int .i64 X.pr,.int .i64 X.st,.slice nA X.non.length nc,.int .i64 X.x,.int .i64 X.g,.int .i64 X.own,.int .i64 X.oth,.slice aA X.k1.length ac,.slice bA X.k2.length bc,.int .i64 X.ct]] w fun e w'=>e=.returned (.bool (usT X))/\Below w.heap.size w w':=by
 obtain⟨w0,hw0⟩:∃w0,w0=w.alloc (.cells #[.int .i64 X.kd,.slice sA X.sec.length sc,.int .i64 X.pr,.int .i64 X.st,.slice nA X.non.length nc,.int .i64 X.x,.int .i64 X.g,.int .i64 X.own,.int .i64 X.oth,.slice aA X.k1.length ac,.slice bA X.k2.length bc,.int .i64 X.ct] 48):=⟨_,rfl⟩
 have HB0:Hid (Below w.heap.size w w0):=iH (by rw [hw0];exact jq _ _)
 have FR:Hid (∀W,Below w0.heap.size w0 W->W.heap[w.heap.size]?=some (.cells #[.int .i64 X.kd,.slice sA X.sec.length sc,.int .i64 X.pr,.int .i64 X.st,.slice nA X.non.length nc,.int .i64 X.x,.int .i64 X.g,.int .i64 X.own,.int .i64 X.oth,.slice aA X.k1.length ac,.slice bA X.k2.length bc,.int .i64 X.ct] 48 (0,0))):=iH (fun W h=>(h.block w.heap.size (by rw [hw0];simp)).trans (by rw [hw0];exact iN))
 have HW0:=iH hw0
 have HBG:=iH (JI X sA nA aA bA sc nc ac bc w0)
 have HA:=iH (h1.lift HB0.out);have HB:=iH (h2.lift HB0.out);have HL:=iH (And.intro l1 l2)
 obtain⟨f0,f1,f2,f3,f4,f5,f6,f7,f8,f9,f10,f11,ff⟩:=jy (FR.out w0 iB)
 clear hw0 h1 h2 l1 l2
 have b1:Below w0.heap.size w0 w0:=Below.refl _ _
 clear b1
 rcases hb:qd X with _|_
 ·rw [hb]at HBG
  obtain⟨o1,t1⟩:∃o,((X.non.length:Int)==16)=o:=⟨_,rfl⟩
  have R:=iH (show usT X=false by simp [usT,hb])
  clear hb
  go_enter Tryz.func87,Tryz.ntmps87
  go_upto_region 1 with fail
  rw [<-HW0.out]
  go_wp2_with(first
  |(go_at_call 122;refine HBG.out.mono ?_;rintro e w1 ⟨rfl,hb⟩;have HB1:=iH hb;obtain⟨g0,g1,g2,g3,g4,g5,g6,g7,g8,g9,g10,g11,gf⟩:=jy (FR.out w1 hb);clear hb))
  go_ret
  rw [R.out]
  exact⟨rfl,HB0.out.trans (HB1.out.mono HB0.out.size)⟩
 rw [hb]at HBG
 by_cases s2:X.st=2
 ·have e2:(X.st==2)=true:=by simp [s2]
  by_cases hn:X.non.length=16
  ·have t1:((X.non.length:Int)==16)=true:=by simp;omega
   by_cases hp:X.pr=2
   ·have e5:(X.pr==2)=true:=by simp [hp]
    have R:=iH (show usT X=okS X.x by simp [usT,hb,s2,hn,hp])
    clear hb s2 hn hp
    go_enter Tryz.func87,Tryz.ntmps87
    go_upto_region 1 with fail
    rw [<-HW0.out]
    go_wp2_with(first
  |(go_at_call 122;refine HBG.out.mono ?_;rintro e w1 ⟨rfl,hb⟩;have HB1:=iH hb;obtain⟨g0,g1,g2,g3,g4,g5,g6,g7,g8,g9,g10,g11,gf⟩:=jy (FR.out w1 hb);clear hb)
  |(go_at_call 140;refine(QQ X.x _).mono ?_;rintro e w' ⟨rfl,hw'⟩;rw [hw'];clear hw' w'))
    go_ret
    rw [R.out]
    exact⟨rfl,HB0.out.trans (HB1.out.mono HB0.out.size)⟩
   ·have e5:(X.pr==2)=false:=by simp [hp]
    have R:=iH (show usT X=jx X.g by simp [usT,hb,s2,hn,hp])
    clear hb s2 hn hp
    go_enter Tryz.func87,Tryz.ntmps87
    go_upto_region 1 with fail
    rw [<-HW0.out]
    go_wp2_with(first
  |(go_at_call 122;refine HBG.out.mono ?_;rintro e w1 ⟨rfl,hb⟩;have HB1:=iH hb;obtain⟨g0,g1,g2,g3,g4,g5,g6,g7,g8,g9,g10,g11,gf⟩:=jy (FR.out w1 hb);clear hb)
  |(go_at_call 115;refine(jT _ _).mono ?_;rintro e w' ⟨rfl,hw'⟩;rw [hw'];clear hw' w';try(first|rw [HO.out]|rw [HT.out]|rw [HG.out])))
    go_ret
    rw [R.out]
    exact⟨rfl,HB0.out.trans (HB1.out.mono HB0.out.size)⟩
  ·have t1:((X.non.length:Int)==16)=false:=by simp;omega
   obtain⟨o5,e5⟩:∃o,(X.pr==2)=o:=⟨_,rfl⟩
   cases o5
   ·have R:=iH (show usT X=false by simp [usT,hb,s2,hn])
    clear hb s2 hn
    go_enter Tryz.func87,Tryz.ntmps87
    go_upto_region 1 with fail
    rw [<-HW0.out]
    go_wp2_with(first
  |(go_at_call 122;refine HBG.out.mono ?_;rintro e w1 ⟨rfl,hb⟩;have HB1:=iH hb;obtain⟨g0,g1,g2,g3,g4,g5,g6,g7,g8,g9,g10,g11,gf⟩:=jy (FR.out w1 hb);clear hb))
    go_ret
    rw [R.out]
    exact⟨rfl,HB0.out.trans (HB1.out.mono HB0.out.size)⟩
   ·have R:=iH (show usT X=false by simp [usT,hb,s2,hn])
    clear hb s2 hn
    go_enter Tryz.func87,Tryz.ntmps87
    go_upto_region 1 with fail
    rw [<-HW0.out]
    go_wp2_with(first
  |(go_at_call 122;refine HBG.out.mono ?_;rintro e w1 ⟨rfl,hb⟩;have HB1:=iH hb;obtain⟨g0,g1,g2,g3,g4,g5,g6,g7,g8,g9,g10,g11,gf⟩:=jy (FR.out w1 hb);clear hb))
    go_ret
    rw [R.out]
    exact⟨rfl,HB0.out.trans (HB1.out.mono HB0.out.size)⟩
 have e2:(X.st==2)=false:=by simp [s2]
 by_cases s3:X.st=3
 ·have e3:(X.st==3)=true:=by simp [s3]
  by_cases hn:X.non.length=16
  ·have t1:((X.non.length:Int)==16)=true:=by simp;omega
   rcases hg:jx X.g with _|_
   ·have HG:=iH hg
    have R:=iH (show usT X=false by simp [usT,hb,s3,hn,hg])
    clear hb s2 s3 hn hg
    go_enter Tryz.func87,Tryz.ntmps87
    go_upto_region 1 with fail
    rw [<-HW0.out]
    go_wp2_with(first
  |(go_at_call 122;refine HBG.out.mono ?_;rintro e w1 ⟨rfl,hb⟩;have HB1:=iH hb;obtain⟨g0,g1,g2,g3,g4,g5,g6,g7,g8,g9,g10,g11,gf⟩:=jy (FR.out w1 hb);clear hb)
  |(go_at_call 115;refine(jT _ _).mono ?_;rintro e w' ⟨rfl,hw'⟩;rw [hw'];clear hw' w';try(first|rw [HO.out]|rw [HT.out]|rw [HG.out])))
    go_ret
    rw [R.out]
    exact⟨rfl,HB0.out.trans (HB1.out.mono HB0.out.size)⟩
   have HG:=iH hg
   rcases ho:jx X.own with _|_
   ·have HO:=iH ho
    have R:=iH (show usT X=false by simp [usT,hb,s3,hn,hg,ho])
    clear hb s2 s3 hn hg ho
    go_enter Tryz.func87,Tryz.ntmps87
    go_upto_region 1 with fail
    rw [<-HW0.out]
    go_wp2_with(first
  |(go_at_call 122;refine HBG.out.mono ?_;rintro e w1 ⟨rfl,hb⟩;have HB1:=iH hb;obtain⟨g0,g1,g2,g3,g4,g5,g6,g7,g8,g9,g10,g11,gf⟩:=jy (FR.out w1 hb);clear hb)
  |(go_at_call 115;refine(jT _ _).mono ?_;rintro e w' ⟨rfl,hw'⟩;rw [hw'];clear hw' w';try(first|rw [HO.out]|rw [HT.out]|rw [HG.out])))
    go_ret
    rw [R.out]
    exact⟨rfl,HB0.out.trans (HB1.out.mono HB0.out.size)⟩
   ·have HO:=iH ho
    have R:=iH (show usT X=okS X.x by simp [usT,hb,s3,hn,hg,ho])
    clear hb s2 s3 hn hg ho
    go_enter Tryz.func87,Tryz.ntmps87
    go_upto_region 1 with fail
    rw [<-HW0.out]
    go_wp2_with(first
  |(go_at_call 122;refine HBG.out.mono ?_;rintro e w1 ⟨rfl,hb⟩;have HB1:=iH hb;obtain⟨g0,g1,g2,g3,g4,g5,g6,g7,g8,g9,g10,g11,gf⟩:=jy (FR.out w1 hb);clear hb)
  |(go_at_call 115;refine(jT _ _).mono ?_;rintro e w' ⟨rfl,hw'⟩;rw [hw'];clear hw' w';try(first|rw [HO.out]|rw [HT.out]|rw [HG.out]))
  |(go_at_call 140;refine(QQ X.x _).mono ?_;rintro e w' ⟨rfl,hw'⟩;rw [hw'];clear hw' w'))
    go_ret
    rw [R.out]
    exact⟨rfl,HB0.out.trans (HB1.out.mono HB0.out.size)⟩
  ·have t1:((X.non.length:Int)==16)=false:=by simp;omega
   have R:=iH (show usT X=false by simp [usT,hb,s3,hn])
   clear hb s2 s3 hn
   go_enter Tryz.func87,Tryz.ntmps87
   go_upto_region 1 with fail
   rw [<-HW0.out]
   go_wp2_with(first
  |(go_at_call 122;refine HBG.out.mono ?_;rintro e w1 ⟨rfl,hb⟩;have HB1:=iH hb;obtain⟨g0,g1,g2,g3,g4,g5,g6,g7,g8,g9,g10,g11,gf⟩:=jy (FR.out w1 hb);clear hb))
   go_ret
   rw [R.out]
   exact⟨rfl,HB0.out.trans (HB1.out.mono HB0.out.size)⟩
 have e3:(X.st==3)=false:=by simp [s3]
 obtain⟨o1,t1⟩:∃o,((X.non.length:Int)==16)=o:=⟨_,rfl⟩
 by_cases s4:X.st=4
 ·have e4:(X.st==4)=true:=by simp [s4]
  have R:=iH (show usT X=zE X by simp [usT,hb,s4])
  clear hb s2 s3 s4
  go_enter Tryz.func87,Tryz.ntmps87
  go_upto_region 1 with fail
  rw [<-HW0.out]
  go_wp2_with(first
  |(go_at_call 122;refine HBG.out.mono ?_;rintro e w1 ⟨rfl,hb⟩;have HB1:=iH hb;obtain⟨g0,g1,g2,g3,g4,g5,g6,g7,g8,g9,g10,g11,gf⟩:=jy (FR.out w1 hb);clear hb)
  |(go_at_call 123;refine(yl X sA nA aA bA sc nc ac bc w1 (HA.out.lift HB1.out) (HB.out.lift HB1.out) HL.out.1 HL.out.2).mono ?_;rintro e w2 ⟨rfl,hb⟩;have HB2:=iH hb;clear hb))
  go_ret
  rw [R.out]
  exact⟨rfl,(HB0.out.trans (HB1.out.mono HB0.out.size)).trans (HB2.out.mono (HB0.out.trans (HB1.out.mono HB0.out.size)).size)⟩
 ·have e4:(X.st==4)=false:=by simp [s4]
  have R:=iH (show usT X=true by simp [usT,hb,s2,s3,s4])
  clear hb s2 s3 s4
  go_enter Tryz.func87,Tryz.ntmps87
  go_upto_region 1 with fail
  rw [<-HW0.out]
  go_wp2_with(first
  |(go_at_call 122;refine HBG.out.mono ?_;rintro e w1 ⟨rfl,hb⟩;have HB1:=iH hb;obtain⟨g0,g1,g2,g3,g4,g5,g6,g7,g8,g9,g10,g11,gf⟩:=jy (FR.out w1 hb);clear hb))
  go_ret
  rw [R.out]
  exact⟨rfl,HB0.out.trans (HB1.out.mono HB0.out.size)⟩
theorem j2q(m:Int)(w:World):(Instr.index 82 (.agg #[.int .i64 128,.int .i64 16,.int .i64 130,.int .i64 m,.int .i64 132,.int .i64 4,.int .i64 134,.int .i64 8]) (.int .i64 0)).run Tryz.prog w=.ok (.agg #[.int .i64 128,.int .i64 16]) w:=by kernel_rfl
theorem j2r(m:Int)(w:World):(Instr.index 82 (.agg #[.int .i64 128,.int .i64 16,.int .i64 130,.int .i64 m,.int .i64 132,.int .i64 4,.int .i64 134,.int .i64 8]) (.int .i64 1)).run Tryz.prog w=.ok (.agg #[.int .i64 130,.int .i64 m]) w:=by kernel_rfl
theorem j2s(m:Int)(w:World):(Instr.index 82 (.agg #[.int .i64 128,.int .i64 16,.int .i64 130,.int .i64 m,.int .i64 132,.int .i64 4,.int .i64 134,.int .i64 8]) (.int .i64 2)).run Tryz.prog w=.ok (.agg #[.int .i64 132,.int .i64 4]) w:=by kernel_rfl
theorem j2t(m:Int)(w:World):(Instr.index 82 (.agg #[.int .i64 128,.int .i64 16,.int .i64 130,.int .i64 m,.int .i64 132,.int .i64 4,.int .i64 134,.int .i64 8]) (.int .i64 3)).run Tryz.prog w=.ok (.agg #[.int .i64 134,.int .i64 8]) w:=by kernel_rfl
def UI(X:Exg)(B:List UInt8):Option (List UInt8):=if X.st=0 then(if B.length=0 then some []else none)else qa B (126+2*X.st) (j0a X)
theorem Q5(X:Exg)(sA nA aA bA:Option Addr)(sc nc ac bc:Nat)(vA:Option Addr)(vc:Nat)(B:List UInt8)(w:World)(h5:Bs w w.heap.size (.slice vA B.length vc) B)(hst:0<=X.st/\X.st<=4):Calls Tryz.prog 88 #[.agg #[.int .i64 X.kd,.slice sA X.sec.length sc,.int .i64 X.pr,.int .i64 X.st,.slice nA X.non.length nc,.int .i64 X.x,.int .i64 X.g,.int .i64 X.own,.int .i64 X.oth,.slice aA X.k1.length ac,.slice bA X.k2.length bc,.int .i64 X.ct],.slice vA B.length vc] w (ValOut (UI X B) w):=by
 obtain⟨w0,hw0⟩:∃w0,w0=w.alloc (.cells #[.int .i64 X.kd,.slice sA X.sec.length sc,.int .i64 X.pr,.int .i64 X.st,.slice nA X.non.length nc,.int .i64 X.x,.int .i64 X.g,.int .i64 X.own,.int .i64 X.oth,.slice aA X.k1.length ac,.slice bA X.k2.length bc,.int .i64 X.ct] 48):=⟨_,rfl⟩
 have HB0:Hid (Below w.heap.size w w0):=iH (by rw [hw0];exact jq _ _)
 have FR:Hid (∀W,Below w0.heap.size w0 W->W.heap[w.heap.size]?=some (.cells #[.int .i64 X.kd,.slice sA X.sec.length sc,.int .i64 X.pr,.int .i64 X.st,.slice nA X.non.length nc,.int .i64 X.x,.int .i64 X.g,.int .i64 X.own,.int .i64 X.oth,.slice aA X.k1.length ac,.slice bA X.k2.length bc,.int .i64 X.ct] 48 (0,0))):=iH (fun W h=>(h.block w.heap.size (by rw [hw0];simp)).trans (by rw [hw0];exact iN))
 have HW0:=iH hw0
 have H5:=iH (h5.lift HB0.out);have HST:=iH hst
 obtain⟨f0,f1,f2,f3,f4,f5,f6,f7,f8,f9,f10,f11,ff⟩:=jy (FR.out w0 iB)
 clear hw0 h5
 by_cases s0:X.st=0
 ·have e0:(X.st==0)=true:=by simp [s0]
  by_cases hb:B.length=0
  ·have R:Hid (UI X B=some []):=iH (by unfold UI;rw [iT s0,iT hb])
   have t1:((B.length:Int)==0)=true:=by rw [beq_iff_eq];omega
   clear s0 hst hb
   go_enter Tryz.func88,Tryz.ntmps88
   go_upto_region 1 with fail
   rw [<-HW0.out]
   go_wp2_with fail
   go_ret2
   exact ValOut.nil0 R.out HB0.out
  ·have R:Hid (UI X B=none):=iH (by unfold UI;rw [iT s0,iF hb])
   have t1:((B.length:Int)==0)=false:=by rw [beq_eq_false_iff_ne];omega
   clear s0 hst hb
   go_enter Tryz.func88,Tryz.ntmps88
   go_upto_region 1 with fail
   rw [<-HW0.out]
   go_wp2_with fail
   go_ret2
   exact ValOut.no0 R.out HB0.out
 have e0:(X.st==0)=false:=by simp [s0]
 have R:Hid (UI X B=qa B (126+2*X.st) (j0a X)):=iH (by unfold UI;rw [iF s0])
 have HS0:=iH s0
 have I0:=j2q;have I1:=j2r;have I2:=j2s;have I3:=j2t
 obtain⟨o5,e5⟩:∃o,(X.pr==3)=o:=⟨_,rfl⟩
 clear s0 hst
 cases o5
 all_goals(
  have HP3:=iH e5
  go_enter Tryz.func88,Tryz.ntmps88
  go_upto_region 1 with fail
  rw [<-HW0.out]
  go_upto_region 6 with fail
  go_cut [7] from 17 to 26 (fun y wc=>∃q ty,y=.pointer (some ⟨q,0,none⟩)/\wc.heap[q]?=some (.cells #[.int .i64 (126+2*X.st),.int .i64 (j0a X)] ty (0,0))/\Below w0.heap.size w0 wc)
  case first=>
   have h4:X.st=1\/X.st=2\/X.st=3\/X.st=4:=by have:=HST.out;have:=HS0.out;omega
   rcases h4 with h4|h4|h4|h4
   all_goals(rw [h4]at f3;have H4':=iH h4;clear h4;go_wp2_with fail;go_meet;exact⟨_,81,rfl,(iN).trans (by have hq:=HP3.out;simp at hq;simp [j0a,H4'.out,hq]),iA⟩)
  case rest=>
  obtain⟨q,ty,rfl,hq,hbw⟩:=hcut
  obtain⟨q0,q1,_⟩:=two hq
  have HBC:=iH hbw
  clear hq hbw f0 f1 f2 f3 f4 f5 f6 f7 f8 f9 f10 f11 ff e5 I0 I1 I2 I3
  go_wp2_with(go_at_call 69;refine(yH (126+2*X.st) (by have:=HST.out;have:=HS0.out;omega) (j0a X) B _ _ (Bs.lift H5.out HBC.out)).mono ?_;rintro e w2 ⟨v2,rfl,hs,hb⟩;obtain⟨A2,c2,hv2⟩:=Bs.formL hs;subst hv2;have GV:=iH hs;have HB2:=iH hb;clear hs hb)
  go_ret2
  have hq:=HB0.out.trans (HBC.out.mono HB0.out.size)
  refine⟨_,by rw [R.out]<;>rfl,?_,hq.trans (HB2.out.mono hq.size)⟩
  rw [R.out]
  exact GV.out.keep fun g hg _=>⟨rfl,Nat.le_trans hq.size hg.1,hg.2⟩)
theorem j2y(w:World):(Instr.index 102 (.agg #[.func (.func 89) #[] #[],.func (.func 90) #[] #[],.func (.func 91) #[] #[],.func (.func 92) #[] #[],.func (.func 93) #[] #[]]) (.int .i64 0)).run Tryz.prog w=.ok (.func (.func 89) #[] #[]) w:=by kernel_rfl
theorem j2z(w:World):(Instr.index 102 (.agg #[.func (.func 89) #[] #[],.func (.func 90) #[] #[],.func (.func 91) #[] #[],.func (.func 92) #[] #[],.func (.func 93) #[] #[]]) (.int .i64 1)).run Tryz.prog w=.ok (.func (.func 90) #[] #[]) w:=by kernel_rfl
theorem j30(w:World):(Instr.index 102 (.agg #[.func (.func 89) #[] #[],.func (.func 90) #[] #[],.func (.func 91) #[] #[],.func (.func 92) #[] #[],.func (.func 93) #[] #[]]) (.int .i64 2)).run Tryz.prog w=.ok (.func (.func 91) #[] #[]) w:=by kernel_rfl
theorem j31(w:World):(Instr.index 102 (.agg #[.func (.func 89) #[] #[],.func (.func 90) #[] #[],.func (.func 91) #[] #[],.func (.func 92) #[] #[],.func (.func 93) #[] #[]]) (.int .i64 3)).run Tryz.prog w=.ok (.func (.func 92) #[] #[]) w:=by kernel_rfl
theorem j32(w:World):(Instr.index 102 (.agg #[.func (.func 89) #[] #[],.func (.func 90) #[] #[],.func (.func 91) #[] #[],.func (.func 92) #[] #[],.func (.func 93) #[] #[]]) (.int .i64 4)).run Tryz.prog w=.ok (.func (.func 93) #[] #[]) w:=by kernel_rfl
theorem VV(X:Exg)(sA nA aA bA:Option Addr)(sc nc ac bc:Nat)(vA eA:Option Addr)(vc ec:Nat)(B s:List UInt8)(w:World)(hK:KD w)(h1:Bs w w.heap.size (.slice sA X.sec.length sc) X.sec)(h2:Bs w w.heap.size (.slice nA X.non.length nc) X.non)(h3:Bs w w.heap.size (.slice aA X.k1.length ac) X.k1)(h4:Bs w w.heap.size (.slice bA X.k2.length bc) X.k2)(h5:Bs w w.heap.size (.slice vA B.length vc) B)(h6:Bs w w.heap.size (.slice eA s.length ec) s)(ls:X.sec.length<=140737488351232)(ln:X.non.length<=140737488351232)(l1:X.k1.length<=140737488351232)(l2:X.k2.length<=140737488351232)(hl:s.length<=140737488351232)(F:Nat)(hF:(X.st=0/\F=89)\/(X.st=1/\F=90)\/(X.st=2/\F=91)\/(X.st=3/\F=92)\/(X.st=4/\F=93))(hst:0<=X.st/\X.st<=4)(hlt:X.st<4)(hus:usT X=true)(v:List UInt8)(hv:UI X B=some v)(tag:Int)(Y:Exg)(hyst:Y.st=X.st)(dt nx U:List UInt8)(hw:∀(A:Option Addr) (c:Nat) (W:World),Bs W W.heap.size (.slice A dt.length c) dt->Calls Tryz.prog 75 #[.int .i64 tag,.slice A dt.length c] W (YR U W)) (hdo:j22 F X v s tag Y dt nx) (hr:US X B s=(0,{Y with st:=Y.st+1},U,nx)):Calls Tryz.prog 35 #[.agg #[.int .i64 X.kd,.slice sA X.sec.length sc,.int .i64 X.pr,.int .i64 X.st,.slice nA X.non.length nc,.int .i64 X.x,.int .i64 X.g,.int .i64 X.own,.int .i64 X.oth,.slice aA X.k1.length ac,.slice bA X.k2.length bc,.int .i64 X.ct],.slice vA B.length vc,.slice eA s.length ec] w (ExO (US X B s) w):=by
 have R:=iH hr
 have HWR:=iH hw
 have HF:=iH hF;have HUS:=iH hus;have HST:=iH hst;have HV:=iH hv;have HDO:=iH hdo
 obtain⟨w0,hw0⟩:∃w0,w0=(w.alloc (.cells #[.int .i64 X.kd,.slice sA X.sec.length sc,.int .i64 X.pr,.int .i64 X.st,.slice nA X.non.length nc,.int .i64 X.x,.int .i64 X.g,.int .i64 X.own,.int .i64 X.oth,.slice aA X.k1.length ac,.slice bA X.k2.length bc,.int .i64 X.ct] 48)).alloc (.cells #[.int .i64 0,.slice none 0 0,.int .i64 0,.int .i64 0,.slice none 0 0,.int .i64 0,.int .i64 0,.int .i64 0,.int .i64 0,.slice none 0 0,.slice none 0 0,.int .i64 0] 48):=⟨_,rfl⟩
 have hb0:Below w.heap.size w w0:=by rw [hw0];exact(iA).alloc (by simp) _
 have hz0:w0.heap.size=w.heap.size+2:=by rw [hw0];simp
 have FR:Hid (∀W,Below w0.heap.size w0 W->W.heap[w.heap.size]?=some (.cells #[.int .i64 X.kd,.slice sA X.sec.length sc,.int .i64 X.pr,.int .i64 X.st,.slice nA X.non.length nc,.int .i64 X.x,.int .i64 X.g,.int .i64 X.own,.int .i64 X.oth,.slice aA X.k1.length ac,.slice bA X.k2.length bc,.int .i64 X.ct] 48 (0,0))):=iH (fun W h=>(h.block w.heap.size (by omega)).trans (by rw [hw0];exact(Below.heap_alloc _ _ _ (by simp)).trans (iN)))
 have FZ:Hid (∀W,Below w0.heap.size w0 W->W.heap[w.heap.size+1]?=some (.cells #[.int .i64 0,.slice none 0 0,.int .i64 0,.int .i64 0,.slice none 0 0,.int .i64 0,.int .i64 0,.int .i64 0,.int .i64 0,.slice none 0 0,.slice none 0 0,.int .i64 0] 48 (0,0))):=iH (fun W h=>(h.block (w.heap.size+1) (by omega)).trans (by rw [hw0];exact(show((w.alloc (.cells #[.int .i64 X.kd,.slice sA X.sec.length sc,.int .i64 X.pr,.int .i64 X.st,.slice nA X.non.length nc,.int .i64 X.x,.int .i64 X.g,.int .i64 X.own,.int .i64 X.oth,.slice aA X.k1.length ac,.slice bA X.k2.length bc,.int .i64 X.ct] 48)).alloc (.cells #[.int .i64 0,.slice none 0 0,.int .i64 0,.int .i64 0,.slice none 0 0,.int .i64 0,.int .i64 0,.int .i64 0,.int .i64 0,.slice none 0 0,.slice none 0 0,.int .i64 0] 48)).heap[w.heap.size+1]?=_ from by have:=heap_alloc_new (w.alloc (.cells #[.int .i64 X.kd,.slice sA X.sec.length sc,.int .i64 X.pr,.int .i64 X.st,.slice nA X.non.length nc,.int .i64 X.x,.int .i64 X.g,.int .i64 X.own,.int .i64 X.oth,.slice aA X.k1.length ac,.slice bA X.k2.length bc,.int .i64 X.ct] 48)) (.cells #[.int .i64 0,.slice none 0 0,.int .i64 0,.int .i64 0,.slice none 0 0,.int .i64 0,.int .i64 0,.int .i64 0,.int .i64 0,.slice none 0 0,.slice none 0 0,.int .i64 0] 48);simpa using this)))
 have HK:=iH hK
 have H1:=iH (h1.lift hb0);have H2:=iH (h2.lift hb0);have H3:=iH (h3.lift hb0);have H4:=iH (h4.lift hb0);have H5:=iH (h5.lift hb0);have H6:=iH (h6.lift hb0)
 have HLN:=iH (And.intro ls (And.intro ln (And.intro l1 l2)))
 have HW0:=iH hw0;have HB0:=iH hb0;have HSZ:=iH hz0;have HL:=iH hl
 obtain⟨f0,f1,f2,f3,f4,f5,f6,f7,f8,f9,f10,f11,ff⟩:=jy (FR.out w0 iB)
 obtain⟨z0,z1,z2,z3,z4,z5,z6,z7,z8,z9,z10,z11,zf⟩:=jy (FZ.out w0 iB)
 have zf0:=zf 0;have zf1:=zf 1;have zf2:=zf 2;have zf3:=zf 3;have zf4:=zf 4;have zf5:=zf 5;have zf6:=zf 6;have zf7:=zf 7;have zf8:=zf 8;have zf9:=zf 9;have zf10:=zf 10;have zf11:=zf 11
 clear hw0 hb0 hz0 hK h1 h2 h3 h4 h5 h6 ls ln l1 l2 hl zf ff
 have d0:decide (X.st<0)=false:=decide_eq_false (by omega)
 have d3:decide (4<X.st)=false:=decide_eq_false (by omega)
 have hy0:0<=Y.st:=by omega
 have hy3:Y.st<=4:=by omega
 have d4:decide (X.st<4)=true:=decide_eq_true hlt
 clear hF hus hst hv hdo hr hyst hw hlt
 go_enter Tryz.func35,Tryz.ntmps35
 go_upto_region 1 with fail
 rw [<-HW0.out]
 go_upto_region 5 with (go_at_call 87;refine(XZ X sA nA aA bA sc nc ac bc w0 H3.out H4.out HLN.out.2.2.1 HLN.out.2.2.2).mono ?_;rw [HUS.out];rintro e w1 ⟨rfl,hb⟩;have HB1:=iH hb;clear f0 f1 f2 f3 f4 f5 f6 f7 f8 f9 f10 f11;obtain⟨g0,g1,g2,g3,g4,g5,g6,g7,g8,g9,g10,g11,gf⟩:=jy (FR.out _ hb);clear z0 zf0 z1 zf1 z2 zf2 z3 zf3 z4 zf4 z5 zf5 z6 zf6 z7 zf7 z8 zf8 z9 zf9 z10 zf10 z11 zf11;obtain⟨z0,z1,z2,z3,z4,z5,z6,z7,z8,z9,z10,z11,zf⟩:=jy (FZ.out _ hb);have zf0:=zf 0;have zf1:=zf 1;have zf2:=zf 2;have zf3:=zf 3;have zf4:=zf 4;have zf5:=zf 5;have zf6:=zf 6;have zf7:=zf 7;have zf8:=zf 8;have zf9:=zf 9;have zf10:=zf 10;have zf11:=zf 11;clear hb zf gf)
 go_upto_region 8 with (go_at_call 88;refine(Q5 X sA nA aA bA sc nc ac bc vA vc B w1 (Bs.lift H5.out HB1.out) HST.out).mono ?_;rw [HV.out];rintro e w2 ⟨v2,rfl,hs,hb⟩;obtain⟨A2,c2,hv2⟩:=Bs.formL hs;subst hv2;have GV:=iH hs;have HB2:=iH (HB1.out.trans (hb.mono HB1.out.size));clear g0 g1 g2 g3 g4 g5 g6 g7 g8 g9 g10 g11;obtain⟨f0,f1,f2,f3,f4,f5,f6,f7,f8,f9,f10,f11,ff⟩:=jy (FR.out _ HB2.out);clear z0 zf0 z1 zf1 z2 zf2 z3 zf3 z4 zf4 z5 zf5 z6 zf6 z7 zf7 z8 zf8 z9 zf9 z10 zf10 z11 zf11;obtain⟨z0,z1,z2,z3,z4,z5,z6,z7,z8,z9,z10,z11,zf⟩:=jy (FZ.out _ HB2.out);have zf0:=zf 0;have zf1:=zf 1;have zf2:=zf 2;have zf3:=zf 3;have zf4:=zf 4;have zf5:=zf 5;have zf6:=zf 6;have zf7:=zf 7;have zf8:=zf 8;have zf9:=zf 9;have zf10:=zf 10;have zf11:=zf 11;clear hs hb ff zf)
 go_upto_region 9 with (go_at_call 70;refine(yL X sA nA aA bA sc nc ac bc w2 (H1.out.lift HB2.out) (H2.out.lift HB2.out) (H3.out.lift HB2.out) (H4.out.lift HB2.out) HLN.out.1 HLN.out.2.1 HLN.out.2.2.1 HLN.out.2.2.2).mono ?_;rintro e w3 ⟨sB,nB,aB,bB,sd,nd,ad,bd,rfl,k1,k2,k3,k4,hb⟩;have HB3:=iH (HB2.out.trans (hb.mono HB2.out.size));have hpz:=PtW.start (FZ.out _ HB3.out);clear f0 f1 f2 f3 f4 f5 f6 f7 f8 f9 f10 f11 z0 zf0 z1 zf1 z2 zf2 z3 zf3 z4 zf4 z5 zf5 z6 zf6 z7 zf7 z8 zf8 z9 zf9 z10 zf10 z11 zf11;obtain⟨f0,f1,f2,f3,f4,f5,f6,f7,f8,f9,f10,f11,ff⟩:=jy (FR.out _ HB3.out);obtain⟨z0,z1,z2,z3,z4,z5,z6,z7,z8,z9,z10,z11,zf⟩:=jy hpz.1;have zf0:=zf 0;have zf1:=zf 1;have zf2:=zf 2;have zf3:=zf 3;have zf4:=zf 4;have zf5:=zf 5;have zf6:=zf 6;have zf7:=zf 7;have zf8:=zf 8;have zf9:=zf 9;have zf10:=zf 10;have zf11:=zf 11;have G1:=iH (BsS.madeB (p:=w.heap.size+1) k1 (by have:=HSZ.out;have:=HB2.out.size;omega));have G2:=iH (BsS.madeB (p:=w.heap.size+1) k2 (by have:=HSZ.out;have:=HB2.out.size;omega));have G3:=iH (BsS.madeB (p:=w.heap.size+1) k3 (by have:=HSZ.out;have:=HB2.out.size;omega));have G4:=iH (BsS.madeB (p:=w.heap.size+1) k4 (by have:=HSZ.out;have:=HB2.out.size;omega));have G5:=iH (BsS.onB (BsS.madeB (p:=w.heap.size+1) GV.out (by have:=HSZ.out;have:=HB1.out.size;omega)) hb);have HPZ:=iH hpz;clear k1 k2 k3 k4 hb hpz ff zf)
 obtain⟨w4,hw4⟩:∃z,z=set12 w3 (w.heap.size+1) (.int .i64 X.kd) (.slice sB X.sec.length sd) (.int .i64 X.pr) (.int .i64 X.st) (.slice nB X.non.length nd) (.int .i64 X.x) (.int .i64 X.g) (.int .i64 X.own) (.int .i64 X.oth) (.slice aB X.k1.length ad) (.slice bB X.k2.length bd) (.int .i64 X.ct):=⟨_,rfl⟩
 have hp4:PtW (w.heap.size+1) w3 w4 #[.int .i64 X.kd,.slice sB X.sec.length sd,.int .i64 X.pr,.int .i64 X.st,.slice nB X.non.length nd,.int .i64 X.x,.int .i64 X.g,.int .i64 X.own,.int .i64 X.oth,.slice aB X.k1.length ad,.slice bB X.k2.length bd,.int .i64 X.ct]:=by rw [hw4];exact HPZ.out.set12 (.int .i64 X.kd) (.slice sB X.sec.length sd) (.int .i64 X.pr) (.int .i64 X.st) (.slice nB X.non.length nd) (.int .i64 X.x) (.int .i64 X.g) (.int .i64 X.own) (.int .i64 X.oth) (.slice aB X.k1.length ad) (.slice bB X.k2.length bd) (.int .i64 X.ct)
 have g4:=fun {u:Value} {m:List UInt8} (h:BsS w3 (jL (w.heap.size+1) w3) u m)=>(by rw [hw4];exact BsS.set12 h (.int .i64 X.kd) (.slice sB X.sec.length sd) (.int .i64 X.pr) (.int .i64 X.st) (.slice nB X.non.length nd) (.int .i64 X.x) (.int .i64 X.g) (.int .i64 X.own) (.int .i64 X.oth) (.slice aB X.k1.length ad) (.slice bB X.k2.length bd) (.int .i64 X.ct):BsS w4 (jL (w.heap.size+1) w4) u m)
 have J1:=iH (g4 G1.out);have J2:=iH (g4 G2.out);have J3:=iH (g4 G3.out);have J4:=iH (g4 G4.out);have J5:=iH (g4 G5.out)
 have H6w:Hid (BsS w3 (jL (w.heap.size+1) w3) (.slice eA s.length ec) s):=iH (BsS.keep (BsS.off (H6.out.lift HB3.out) (FZ.out _ HB3.out) j27) fun g hs _=>⟨rfl,hs⟩)
 have J6:=iH (g4 H6w.out)
 have HQ4:=iH hp4
 have hfr4:w4.heap[w.heap.size]?=some (.cells #[.int .i64 X.kd,.slice sA X.sec.length sc,.int .i64 X.pr,.int .i64 X.st,.slice nA X.non.length nc,.int .i64 X.x,.int .i64 X.g,.int .i64 X.own,.int .i64 X.oth,.slice aA X.k1.length ac,.slice bA X.k2.length bc,.int .i64 X.ct] 48 (0,0)):=(hp4.2.1.block w.heap.size (by have:=HSZ.out;have:=HB3.out.size;omega) (by intro e;injection e with e;omega)).trans (FR.out _ HB3.out)
 unfold Go.Proofs.YtalmmiojbmpmiaaGreatDoor.set12 at hw4
 rw [<-hw4]
 clear hw4 hp4 g4 f0 f1 f2 f3 f4 f5 f6 f7 f8 f9 f10 f11 z0 zf0 z1 zf1 z2 zf2 z3 zf3 z4 zf4 z5 zf5 z6 zf6 z7 zf7 z8 zf8 z9 zf9 z10 zf10 z11 zf11
 obtain⟨f0,f1,f2,f3,f4,f5,f6,f7,f8,f9,f10,f11,ff⟩:=jy hfr4
 clear hfr4 ff
 have HK4:Hid (∀W,Below (w.heap.size+1) w4 W->KD W):=iH (fun W h=>HK.out.below (((HB0.out.trans (HB3.out.mono HB0.out.size)).mono iL).trans ((HQ4.out.2.2.mono (Nat.le_succ _)).trans (h.mono (Nat.le_succ _)))) HK.out.lt)
 have I0:=j2y;have I1:=j2z;have I2:=j30;have I3:=j31;have I4:=j32
 have HCF:∀(args:Array Value) (W:World),Sem.run Tryz.prog (callFunc F args) W=.ok (.enter F args) W:=by rcases HF.out with ⟨_,rfl⟩|⟨_,rfl⟩|⟨_,rfl⟩|⟨_,rfl⟩|⟨_,rfl⟩<;>(intro args W;kernel_rfl)
 go_cut [12] from 39 to 42 (fun y wc=>y=.func (.func F) #[] #[]/\wc=w4)
 case first=>
  rcases HF.out with ⟨h4,rfl⟩|⟨h4,rfl⟩|⟨h4,rfl⟩|⟨h4,rfl⟩|⟨h4,rfl⟩
  all_goals(rw [h4]at f3;clear h4;go_wp2_with fail;go_meet;exact⟨rfl,rfl⟩)
 case rest=>
 obtain⟨rfl,hwc⟩:=hcut
 have hwc:=hwc.symm
 subst hwc
 clear I0 I1 I2 I3 I4
 go_upto_region 13 with (refine(HDO.out (w.heap.size+1) sB nB aB bB sd nd ad bd A2 eA c2 ec _ HK4.out HQ4.out.1 J1.out J2.out J3.out J4.out J5.out J6.out HL.out).mono ?_;rintro e w5 ⟨dA,dc,nA1,nc1,rfl,⟨sY,nY,aY,bY,sy,ny,ay,by_,hpt,k1,k2,k3,k4⟩,hd,hn⟩;have HPT:=iH hpt;have HX5:=iH (hpt.2.1.block w.heap.size (by have:=HSZ.out;have:=HB3.out.size;have:=HQ4.out.2.1.size;omega) (by intro e;injection e with e;omega));have K1:=iH k1;have K2:=iH k2;have K3:=iH k3;have K4:=iH k4;have KD1:=iH hd;have KN:=iH hn;clear hpt k1 k2 k3 k4 hd hn)
 clear f0 f1 f2 f3 f4 f5 f6 f7 f8 f9 f10 f11
 obtain⟨f0,f1,f2,f3,f4,f5,f6,f7,f8,f9,f10,f11,ff⟩:=jy (HX5.out.trans ((HQ4.out.2.1.block w.heap.size (by have:=HSZ.out;have:=HB3.out.size;omega) (by intro e;injection e with e;omega)).trans (FR.out _ HB3.out)))
 clear ff
 go_upto_region 15 with (go_at_call 75;refine(HWR.out dA dc w5 KD1.out.loB).mono ?_;rintro e w9 ⟨A7,c7,rfl,hs,hb⟩;have HU:=iH (hs.madeB HPT.out.lt);have HB9:=iH hb;clear hs hb)
 have hp9:PtW (w.heap.size+1) w4 w9 #[.int .i64 Y.kd,.slice sY Y.sec.length sy,.int .i64 Y.pr,.int .i64 Y.st,.slice nY Y.non.length ny,.int .i64 Y.x,.int .i64 Y.g,.int .i64 Y.own,.int .i64 Y.oth,.slice aY Y.k1.length ay,.slice bY Y.k2.length by_,.int .i64 Y.ct]:=HPT.out.call HB9.out
 have HP9:=iH hp9
 obtain⟨p0,p1,p2,p3,p4,p5,p6,p7,p8,p9,p10,p11,pf⟩:=jy hp9.1
 have pf3:=pf 3
 have M1:=iH (K1.out.onB HB9.out)
 have M2:=iH (K2.out.onB HB9.out)
 have M3:=iH (K3.out.onB HB9.out)
 have M4:=iH (K4.out.onB HB9.out)
 have MN:=iH (KN.out.onB HB9.out)
 clear hp9 pf
 go_upto_region 16 with fail
 obtain⟨w6,hw6⟩:∃z,z=w9.setCell ⟨w.heap.size+1,3,none⟩ (.int .i64 (Y.st+1)):=⟨_,rfl⟩
 rw [<-hw6]
 have hp6:PtW (w.heap.size+1) w4 w6 #[.int .i64 Y.kd,.slice sY Y.sec.length sy,.int .i64 Y.pr,.int .i64 (Y.st+1),.slice nY Y.non.length ny,.int .i64 Y.x,.int .i64 Y.g,.int .i64 Y.own,.int .i64 Y.oth,.slice aY Y.k1.length ay,.slice bY Y.k2.length by_,.int .i64 Y.ct]:=by rw [hw6];exact HP9.out.set 3 _
 have HP6:=iH hp6
 have N6:Hid (BsS w6 (jL (w.heap.size+1) w6) _ _):=iH (by rw [hw6];exact BsS.setP MN.out 3 _)
 have L1:Hid (BsS w6 (jL (w.heap.size+1) w6) _ _):=iH (by rw [hw6];exact BsS.setP M1.out 3 _)
 have L2:Hid (BsS w6 (jL (w.heap.size+1) w6) _ _):=iH (by rw [hw6];exact BsS.setP M2.out 3 _)
 have L3:Hid (BsS w6 (jL (w.heap.size+1) w6) _ _):=iH (by rw [hw6];exact BsS.setP M3.out 3 _)
 have L4:Hid (BsS w6 (jL (w.heap.size+1) w6) _ _):=iH (by rw [hw6];exact BsS.setP M4.out 3 _)
 have U6:Hid (BsS w6 (jL (w.heap.size+1) w6) _ _):=iH (by rw [hw6];exact BsS.setP HU.out 3 _)
 clear hw6 p0 p1 p2 p3 p4 p5 p6 p7 p8 p9 p10 p11 pf3 f0 f1 f2 f3 f4 f5 f6 f7 f8 f9 f10 f11
 obtain⟨p0,p1,p2,p3,p4,p5,p6,p7,p8,p9,p10,p11,pf⟩:=jy hp6.1
 have pf0:=pf 0;have pf1:=pf 1;have pf2:=pf 2;have pf3:=pf 3;have pf4:=pf 4;have pf5:=pf 5;have pf6:=pf 6;have pf7:=pf 7;have pf8:=pf 8;have pf9:=pf 9;have pf10:=pf 10;have pf11:=pf 11
 clear hp6 pf
 go_wp2_with fail
 obtain⟨y0,y1,y2,y3,y4,y5,y6,y7,y8,y9,y10,y11,yf⟩:=jy (HP6.out.set12 (.int .i64 Y.kd) (.slice sY Y.sec.length sy) (.int .i64 Y.pr) (.int .i64 (Y.st+1)) (.slice nY Y.non.length ny) (.int .i64 Y.x) (.int .i64 Y.g) (.int .i64 Y.own) (.int .i64 Y.oth) (.slice aY Y.k1.length ay) (.slice bY Y.k2.length by_) (.int .i64 Y.ct)).1
 obtain⟨w8,hw8⟩:∃z,z=set12 w6 (w.heap.size+1) (.int .i64 Y.kd) (.slice sY Y.sec.length sy) (.int .i64 Y.pr) (.int .i64 (Y.st+1)) (.slice nY Y.non.length ny) (.int .i64 Y.x) (.int .i64 Y.g) (.int .i64 Y.own) (.int .i64 Y.oth) (.slice aY Y.k1.length ay) (.slice bY Y.k2.length by_) (.int .i64 Y.ct):=⟨_,rfl⟩
 have hfin:∀ {u:Value} {m:List UInt8},BsS w6 (jL (w.heap.size+1) w6) u m->Bs w8 w8.heap.size u m:=fun {u m} h=>by rw [hw8];exact(BsS.set12 h (.int .i64 Y.kd) (.slice sY Y.sec.length sy) (.int .i64 Y.pr) (.int .i64 (Y.st+1)) (.slice nY Y.non.length ny) (.int .i64 Y.x) (.int .i64 Y.g) (.int .i64 Y.own) (.int .i64 Y.oth) (.slice aY Y.k1.length ay) (.slice bY Y.k2.length by_) (.int .i64 Y.ct)).loB
 have hbel:Below w.heap.size w w8:=by rw [hw8];exact(HB0.out.trans (HB3.out.mono HB0.out.size)).trans (Below.mono ((HQ4.out.2.2.trans HP6.out.2.2).trans (((PtW.start HP6.out.1).set12 (.int .i64 Y.kd) (.slice sY Y.sec.length sy) (.int .i64 Y.pr) (.int .i64 (Y.st+1)) (.slice nY Y.non.length ny) (.int .i64 Y.x) (.int .i64 Y.g) (.int .i64 Y.own) (.int .i64 Y.oth) (.slice aY Y.k1.length ay) (.slice bY Y.k2.length by_) (.int .i64 Y.ct)).2.2)) (Nat.le_succ _))
 unfold Go.Proofs.YtalmmiojbmpmiaaGreatDoor.set12 at y0 y1 y2 y3 y4 y5 y6 y7 y8 y9 y10 y11
 refine bodyPost_ret (v:=.tuple #[.agg #[.int .i64 Y.kd,.slice sY Y.sec.length sy,.int .i64 Y.pr,.int .i64 (Y.st+1),.slice nY Y.non.length ny,.int .i64 Y.x,.int .i64 Y.g,.int .i64 Y.own,.int .i64 Y.oth,.slice aY Y.k1.length ay,.slice bY Y.k2.length by_,.int .i64 Y.ct],.slice A7 U.length c7,.slice nA1 nx.length nc1,.int .i64 0]) (by simp [results,Tryz.results35,go_sem,y0,y1,y2,y3,y4,y5,y6,y7,y8,y9,y10,y11]) rfl ?_
 unfold Go.Proofs.YtalmmiojbmpmiaaGreatDoor.set12 at hw8
 rw [<-hw8,R.out]
 exact⟨_,_,_,_,_,rfl,⟨_,_,_,_,rfl,hfin L1.out,hfin L2.out,hfin L3.out,hfin L4.out⟩,hfin U6.out,hfin N6.out,hbel⟩
theorem yG(tag:Int)(v:List UInt8)(ht:tag=0\/(128<=tag/\tag<=134))(hv:v.length<=64):
 Ky (jZ tag v)=.ok (jZ tag v).enc/\kx tag v=(jZ tag v).enc/\(jZ tag v).enc.length<=200/\jS (kx tag v) true=.ok (jZ tag v):=by
 have hlen:∀n,n<128->(kS n).length=1:=by intro n h;unfold kS;rw [iT h]<;>rfl
 have htb:∀t:Int,t<=255->(jY t).length=1:=by intro t h;unfold jY;rw [iF (by omega)]<;>rfl
 have t124:xy 124=true:=by decide
 have c124:kj 124=true:=by decide
 have htag:tag=0\/(xy tag=true/\kj tag=false):=by
  rcases ht with h|⟨h1,h2⟩
  ·exact .inl h
  ·right
   have:tag=128\/tag=129\/tag=130\/tag=131\/tag=132\/tag=133\/tag=134:=by omega
   rcases this with rfl|rfl|rfl|rfl|rfl|rfl|rfl<;>exact⟨by decide,by decide⟩
 obtain⟨hc,ha,hl⟩:(jZ tag v).chk 1=0/\(jZ tag v).all<=256/\(jZ tag v).enc.length<=200:=by
  rcases htag with rfl|⟨h1,h2⟩
  ·refine⟨?_,?_,?_⟩
   ·simp [jZ,Ns.chk,t124,c124,Ns.len]
   ·simp [jZ,Ns.all]
   ·simp [jZ,Ns.enc,c124,hlen,htb]
  ·have ht0:¬tag=0:=by intro h;rw [h]at h1;exact absurd h1 (by decide)
   have e0:∀K:Ns,(Ns.cons 124 [] K .nil).enc=jY 124++kS K.enc.length++K.enc:=by intro K;simp [Ns.enc,c124]
   refine⟨?_,?_,?_⟩
   ·simp [jZ,Ns.chk,t124,c124,h1,h2,ht0,Ns.len]
   ·simp [jZ,Ns.all,ht0]
   ·have e1:((Ns.cons tag v .nil .nil).enc).length=2+v.length:=by
     simp only [Ns.enc,h2,List.length_append,List.length_nil,Bool.false_eq_true,if_false]
     rw [htb tag (by omega),hlen v.length (by omega)]
     omega
    unfold jZ
    rw [iF ht0,e0]
    simp only [List.length_append]
    rw [e1,htb 124 (by omega),hlen _ (by omega)]
    omega
 have hE:Ky (jZ tag v)=.ok (jZ tag v).enc:=by
  unfold Ky
  rw [iF (by rw [hc];simp),iF (by omega),iF (by omega)]
 have hW:kx tag v=(jZ tag v).enc:=by unfold kx;rw [hE]<;>rfl
 refine⟨hE,hW,hl,?_⟩
 rw [hW]
 exact JP true _ _ (Zv true _ (by omega)) hc ha (by omega)
theorem YC(n:Nat):qa (kx 0 []) 0 n=some []:=by
 unfold qa
 rw [(yG 0 [] (.inl rfl) (by simp)).2.2.2]
 simp [jZ,QZ,Ns.len]
variable {kd m:Int} {sec:List UInt8}
theorem Zy(kd:Int)(sec N:List UInt8)(h:N.length=16):(kQ (kz kd sec) Z16 N).length=16:=by rw [UM _ _ _ (m:=1) (by omega),j14]
section
variable (hp:vPw kd sec=true) (hm:m=2\/m=3)
include hp hm
end
theorem Yu(X:Exg)(sA nA aA bA:Option Addr)(sc nc ac bc:Nat)(vA eA:Option Addr)(vc ec:Nat)(B s:List UInt8)(w:World)(hK:KD w)(h1:Bs w w.heap.size (.slice sA X.sec.length sc) X.sec)(h2:Bs w w.heap.size (.slice nA X.non.length nc) X.non)(h3:Bs w w.heap.size (.slice aA X.k1.length ac) X.k1)(h4:Bs w w.heap.size (.slice bA X.k2.length bc) X.k2)(h5:Bs w w.heap.size (.slice vA B.length vc) B)(h6:Bs w w.heap.size (.slice eA s.length ec) s)(ls:X.sec.length<=140737488351232)(ln:X.non.length<=140737488351232)(l1:X.k1.length<=140737488351232)(l2:X.k2.length<=140737488351232)(hl:s.length<=140737488351232)(hst:X.st=0)(hus:usT X=true)(hB:B.length=0):Calls Tryz.prog 35 #[.agg #[.int .i64 X.kd,.slice sA X.sec.length sc,.int .i64 X.pr,.int .i64 X.st,.slice nA X.non.length nc,.int .i64 X.x,.int .i64 X.g,.int .i64 X.own,.int .i64 X.oth,.slice aA X.k1.length ac,.slice bA X.k2.length bc,.int .i64 X.ct],.slice vA B.length vc,.slice eA s.length ec] w (ExO (0,{X with st:=X.st+1},kx 0 [],s) w):=by
 have hr:US X B s=(0,{X with st:=X.st+1},kx 0 [],s):=by
  unfold US
  rw [iF (by omega),iF (by rw [hus];simp),iT hst,iF (by omega),hst]
  rfl
 rw [<-hr]
 exact VV X sA nA aA bA sc nc ac bc vA eA vc ec B s w hK h1 h2 h3 h4 h5 h6 ls ln l1 l2 hl 89 (.inl ⟨hst,rfl⟩) (by omega) (by omega) hus [] (by unfold UI;rw [iT hst,iT hB]) (-1) X rfl [] s (kx 0 []) (fun A c W _=>YI _ W) (fun P sA nA aA bA sc nc ac bc vA eA vc ec w k r h1 h2 h3 h4 h5 h6 h7=>Vi P X sA nA aA bA sc nc ac bc vA eA vc ec [] s w k r h1 h2 h3 h4 h5 h6 h7) hr
theorem Zp(X:Exg)(sA nA aA bA:Option Addr)(sc nc ac bc:Nat)(vA eA:Option Addr)(vc ec:Nat)(B s:List UInt8)(w:World)(hK:KD w)(h1:Bs w w.heap.size (.slice sA X.sec.length sc) X.sec)(h2:Bs w w.heap.size (.slice nA X.non.length nc) X.non)(h3:Bs w w.heap.size (.slice aA X.k1.length ac) X.k1)(h4:Bs w w.heap.size (.slice bA X.k2.length bc) X.k2)(h5:Bs w w.heap.size (.slice vA B.length vc) B)(h6:Bs w w.heap.size (.slice eA s.length ec) s)(ls:X.sec.length<=140737488351232)(ln:X.non.length<=140737488351232)(l1:X.k1.length<=140737488351232)(l2:X.k2.length<=140737488351232)(hl:s.length<=140737488351232)(hst:X.st=0)(hus:usC X=true)(hB:qa B 0 (VR X)=some []):Calls Tryz.prog 33 #[.agg #[.int .i64 X.kd,.slice sA X.sec.length sc,.int .i64 X.pr,.int .i64 X.st,.slice nA X.non.length nc,.int .i64 X.x,.int .i64 X.g,.int .i64 X.own,.int .i64 X.oth,.slice aA X.k1.length ac,.slice bA X.k2.length bc,.int .i64 X.ct],.slice vA B.length vc,.slice eA s.length ec] w (ExO (0,{X with non:=k7 s 16,st:=X.st+1},kx 128 (kP X.kd X.sec (k7 s 16)).2,sdW s) w):=by
 have hp:vPw X.kd X.sec=true:=by
  unfold usC qd at hus
  rcases h:vPw X.kd X.sec with _|_
  ·rw [h]at hus;simp at hus
  ·rfl
 have htg:Qo X.st=0:=by unfold Qo;rw [iT hst]
 have hd:(k7 s 16).length=16:=by unfold k7;rw [List.length_take,ji];omega
 have hh:kP X.kd X.sec (k7 s 16)=(0,kQ (kz X.kd X.sec) Z16 (k7 s 16)):=by
  unfold kP
  rw [iF (by rw [hp];simp),iF (by omega)]
 have hr:U2 X B s=(0,{X with non:=k7 s 16,st:=X.st+1},kx 128 (kP X.kd X.sec (k7 s 16)).2,sdW s):=by
  unfold U2
  rw [iF (by omega),iF (by rw [hus];simp),htg,hB]
  simp only []
  rw [iT hst,hst]
  rfl
 rw [<-hr]
 exact Vl X sA nA aA bA sc nc ac bc vA eA vc ec B s w hK h1 h2 h3 h4 h5 h6 ls ln l1 l2 hl 71 (.inl ⟨hst,rfl⟩) (by omega) hus [] (by rw [htg];exact hB) 128 ⟨by omega,by omega⟩ {X with non:=k7 s 16} rfl (kP X.kd X.sec (k7 s 16)).2 (sdW s) (by rw [hh];show(kQ (kz X.kd X.sec) Z16 (k7 s 16)).length<=64;rw [Zy _ _ _ hd];omega) (fun P sA nA aA bA sc nc ac bc vA eA vc ec w k r h1 h2 h3 h4 h5 h6 h7=>yX P X sA nA aA bA sc nc ac bc vA eA vc ec [] s w k r h1 h2 h3 h4 h5 h6 h7 hp) hr
theorem qx(w:World)(hK:KD w):Calls Tryz.prog 11 #[] w fun e w'=>e=.returned (.bool true)/\Below w.heap.size w w':=by
 obtain⟨w1,hw1⟩:∃z,z=(w.alloc (.cells #[.int .u8 49,.int .u8 50,.int .u8 51,.int .u8 52,.int .u8 53,.int .u8 54] 5 (6,7))).alloc (.cells #[.int .i64 2,.slice (some ⟨w.heap.size,0,none⟩) 6 6] 24):=⟨_,rfl⟩
 have hb1:Below w.heap.size w w1:=by rw [hw1];exact JJ w _ _
 have hh6:(w.alloc (.cells #[.int .u8 49,.int .u8 50,.int .u8 51,.int .u8 52,.int .u8 53,.int .u8 54] 5 (6,7))).heap[w.heap.size]?=some (.cells #[.int .u8 49,.int .u8 50,.int .u8 51,.int .u8 52,.int .u8 53,.int .u8 54] 5 (6,7)):=iN
 have hl6:BsS (w.alloc (.cells #[.int .u8 49,.int .u8 50,.int .u8 51,.int .u8 52,.int .u8 53,.int .u8 54] 5 (6,7))) (New w (w.alloc (.cells #[.int .u8 49,.int .u8 50,.int .u8 51,.int .u8 52,.int .u8 53,.int .u8 54] 5 (6,7)))) (.slice (some ⟨w.heap.size,0,none⟩) 6 6) [49,50,51,52,53,54]:=by
  refine⟨_,6,rfl,by simp,by omega,by simp,fun _=>⟨w.heap.size,0,rfl,⟨Nat.le_refl _,by simp⟩,fun j hj=> ?_⟩⟩
  have hj:j<6:=hj
  obtain rfl|rfl|rfl|rfl|rfl|rfl:j=0\/j=1\/j=2\/j=3\/j=4\/j=5:=by omega
  all_goals(rw [cell_of_row _ _ _ _ _ _ hh6]<;>rfl)
 obtain⟨S6,hS6⟩:∃l:List UInt8,l= [49,50,51,52,53,54]:=⟨_,rfl⟩
 rw [<-hS6]at hl6
 have hS6l:S6.length=6:=by rw [hS6]<;>rfl
 have H6:Hid (Bs w1 w1.heap.size (.slice (some ⟨w.heap.size,0,none⟩) 6 6) S6):=iH (by rw [hw1];exact hl6.keep fun g hg hl=>⟨Below.heap_alloc _ _ _ hl,iZ hl (by simp)⟩)
 obtain⟨c0,c1,_⟩:=two (show w1.heap[w.heap.size+1]?=some (.cells #[.int .i64 2,.slice (some ⟨w.heap.size,0,none⟩) 6 6] 24 (0,0))by rw [hw1];have:=heap_alloc_new (w.alloc (.cells #[.int .u8 49,.int .u8 50,.int .u8 51,.int .u8 52,.int .u8 53,.int .u8 54] 5 (6,7))) (.cells #[.int .i64 2,.slice (some ⟨w.heap.size,0,none⟩) 6 6] 24);simpa using this)
 have hvp:vPw 2 S6=true:=by rw [hS6];decide
 obtain⟨X,hX⟩:∃X,bgX 2 S6 2=X:=⟨_,rfl⟩
 have hbg:JG 2 S6 2=(0,X):=by unfold JG;rw [iF (by rw [hvp];simp),iF (by simp),hX]
 have HBG:=iH (JH 2 S6 (some ⟨w.heap.size,0,none⟩) 6 2 w1 (by rw [hS6l];exact H6.out) (by omega))
 rw [hbg,hS6l]at HBG
 have hXs:X.st=0:=by rw [<-hX]<;>rfl
 have hXe:X.sec=S6:=by rw [<-hX]<;>rfl
 have hXk:X.kd=2:=by rw [<-hX]<;>rfl
 have hXn:X.non= []/\X.k1= []/\X.k2= []/\X.pr=2:=by rw [<-hX];exact⟨rfl,rfl,rfl,rfl⟩
 have hbX:qd X=true:=by unfold qd;rw [hXk,hXe,hvp,hXn.2.2.2];decide
 have hut:usT X=true:=by unfold usT;rw [hbX,hXs];simp
 have huc:usC X=true:=by unfold usC;rw [hbX,hXs];simp
 have hls:X.sec.length<=140737488351232:=by rw [hXe,hS6l];omega
 have hln:X.non.length<=140737488351232:=by rw [hXn.1];simp
 have hl1:X.k1.length<=140737488351232:=by rw [hXn.2.1];simp
 have hl2:X.k2.length<=140737488351232:=by rw [hXn.2.2.1];simp
 obtain⟨Y,hY⟩:∃Y:Exg,{X with st:=X.st+1}=Y:=⟨_,rfl⟩
 have hYs:(Y.st==1)=true:=by rw [<-hY,hXs]<;>rfl
 obtain⟨U,hU⟩:∃U,kx 0 []=U:=⟨_,rfl⟩
 have hUl:U.length=2:=by rw [<-hU]<;>rfl
 have tU:((U.length:Int)==2)=true:=by rw [hUl]<;>rfl
 obtain⟨Z,hZ⟩:∃Z:Exg,{X with non:=k7 [1] 16,st:=X.st+1}=Z:=⟨_,rfl⟩
 have hd:(k7 [1] 16).length=16:=by unfold k7;rw [List.length_take,ji];omega
 have hZs:(Z.st==1)=true:=by rw [<-hZ,hXs]<;>rfl
 have hZn:Z.non.length=16:=by rw [<-hZ];exact hd
 have tZ:((Z.non.length:Int)==16)=true:=by rw [hZn]<;>rfl
 obtain⟨V,hV⟩:∃V,kx 128 (kP X.kd X.sec (k7 [1] 16)).2=V:=⟨_,rfl⟩
 have hVl:V.length=20:=by
  have hh:kP X.kd X.sec (k7 [1] 16)=(0,kQ (kz X.kd X.sec) Z16 (k7 [1] 16)):=by
   unfold kP
   rw [iF (by rw [hXk,hXe,hvp];simp),iF (by omega)]
  rw [hh]at hV
  obtain⟨q,hq⟩:∃q,kQ (kz X.kd X.sec) Z16 (k7 [1] 16)=q:=⟨_,rfl⟩
  have hql:q.length=16:=by rw [<-hq];exact Zy _ _ _ hd
  rw [<-hV,hq,(yG 128 q (.inr ⟨by omega,by omega⟩) (by omega)).2.1]
  have c124:kj 124=true:=by decide
  have c128:kj 128=false:=by decide
  have i1:(Ns.cons 128 q .nil .nil).enc.length=18:=by simp [Ns.enc,c128,hql,kS,jY]
  have i2:∀K:Ns,(Ns.cons 124 [] K .nil).enc=jY 124++kS K.enc.length++K.enc:=by intro K;simp [Ns.enc,c124]
  unfold jZ
  rw [iF (by omega),i2,i1]
  simp [i1,kS,jY]
 have tV:((V.length:Int)==20)=true:=by rw [hVl]<;>rfl
 have hval:qa U 0 (VR X)=some []:=by rw [<-hU];exact YC _
 have HW1:=iH hw1;have HB1:=iH hb1;have HK:=iH hK
 have HX:=iH (And.intro hXs (And.intro hut (And.intro huc hval)))
 have HL:=iH (And.intro hls (And.intro hln (And.intro hl1 hl2)))
 have HUU:=iH hU;have HVV:=iH hV;have HYY:=iH hY;have HZZ:=iH hZ
 clear hw1 hb1 hl6 hS6 hS6l H6 hvp hX hbg hXs hXe hXk hXn hbX hut huc hls hln hl1 hl2 hU hUl hV hVl hY hZ hd hZn hval hK
 have HCV:(convert 22 22 (.slice (some ⟨w.heap.size,0,none⟩) 6 6)).run Tryz.prog (w.alloc (.cells #[.int .u8 49,.int .u8 50,.int .u8 51,.int .u8 52,.int .u8 53,.int .u8 54] 5))=.ok (.slice (some ⟨w.heap.size,0,none⟩) 6 6) (w.alloc (.cells #[.int .u8 49,.int .u8 50,.int .u8 51,.int .u8 52,.int .u8 53,.int .u8 54] 5 (6,7))):=Lib.run_convert_bytes_const (P:=Tryz.prog) w 22 5 _ 6 6 Tryz.underlying22 Tryz.underlying5
 go_enter Tryz.func11,Tryz.ntmps11
 go_upto_region 2 with fail
 rw [<-HW1.out]
 go_upto_region 3 with (go_at_call 30;refine HBG.out.mono ?_;rintro e w2 ⟨y,rfl,⟨u1,u2,u3,u4,rfl,hs,hn,ha,hb⟩,hbw⟩;obtain⟨sx,scx,hp⟩:=Bs.formL hs;subst hp;obtain⟨nx,ncx,hp⟩:=Bs.formL hn;subst hp;obtain⟨ax,acx,hp⟩:=Bs.formL ha;subst hp;obtain⟨bx,bcx,hp⟩:=Bs.formL hb;subst hp;have S_x:=iH hs;have Nx:=iH hn;have Ax:=iH ha;have Bx:=iH hb;clear hs hn ha hb;have HB2:=iH (HB1.out.trans (hbw.mono HB1.out.size));clear hbw c0 c1)
 obtain⟨w3,hw⟩:∃z,z=w2.alloc (.cells #[.int .i64 X.kd,.slice sx X.sec.length scx,.int .i64 X.pr,.int .i64 X.st,.slice nx X.non.length ncx,.int .i64 X.x,.int .i64 X.g,.int .i64 X.own,.int .i64 X.oth,.slice ax X.k1.length acx,.slice bx X.k2.length bcx,.int .i64 X.ct] 48):=⟨_,rfl⟩
 rw [<-hw]
 have RX:Hid (w3.heap[w2.heap.size]?=some (.cells #[.int .i64 X.kd,.slice sx X.sec.length scx,.int .i64 X.pr,.int .i64 X.st,.slice nx X.non.length ncx,.int .i64 X.x,.int .i64 X.g,.int .i64 X.own,.int .i64 X.oth,.slice ax X.k1.length acx,.slice bx X.k2.length bcx,.int .i64 X.ct] 48 (0,0))):=iH (by rw [hw];exact iN)
 have hbw3:Below w2.heap.size w2 w3:=by rw [hw];exact jq _ _
 clear hw
 have HB3:=iH (HB2.out.trans (hbw3.mono HB2.out.size));have HU3:=iH hbw3
 obtain⟨f0,f1,f2,f3,f4,f5,f6,f7,f8,f9,f10,f11,ff⟩:=jy RX.out
 clear hbw3 ff
 go_upto_region 4 with (go_at_call 35;refine(Yu X sx nx ax bx scx ncx acx bcx none none 0 0 [] [] w3 (HK.out.below HB3.out HK.out.lt) (Bs.lift S_x.out HU3.out) (Bs.lift Nx.out HU3.out) (Bs.lift Ax.out HU3.out) (Bs.lift Bx.out HU3.out) (kh _ _) (kh _ _) HL.out.1 HL.out.2.1 HL.out.2.2.1 HL.out.2.2.2 (by simp) HX.out.1 HX.out.2.1 rfl).mono ?_;rw [HYY.out,HUU.out];rintro e w4 ⟨y,dA,dc,tA,tc,rfl,⟨u1,u2,u3,u4,rfl,hs,hn,ha,hb⟩,hd,_,hbw⟩;obtain⟨sv,scv,hp⟩:=Bs.formL hs;subst hp;obtain⟨nv,ncv,hp⟩:=Bs.formL hn;subst hp;obtain⟨av,acv,hp⟩:=Bs.formL ha;subst hp;obtain⟨bv,bcv,hp⟩:=Bs.formL hb;subst hp;have Sv:=iH hs;have Nv:=iH hn;have Av:=iH ha;have Bv:=iH hb;clear hs hn ha hb;have DD:=iH hd;have HB4:=iH hbw;obtain⟨g0,g1,g2,g3,g4,g5,g6,g7,g8,g9,g10,g11,gf⟩:=jy ((hbw.block _ (lt_of_block RX.out)).trans RX.out);clear hd hbw f0 f1 f2 f3 f4 f5 f6 f7 f8 f9 f10 f11 gf)
 obtain⟨w5,hw⟩:∃z,z=w4.alloc (.cells #[.int .i64 Y.kd,.slice sv Y.sec.length scv,.int .i64 Y.pr,.int .i64 Y.st,.slice nv Y.non.length ncv,.int .i64 Y.x,.int .i64 Y.g,.int .i64 Y.own,.int .i64 Y.oth,.slice av Y.k1.length acv,.slice bv Y.k2.length bcv,.int .i64 Y.ct] 48):=⟨_,rfl⟩
 rw [<-hw]
 have RY:Hid (w5.heap[w4.heap.size]?=some (.cells #[.int .i64 Y.kd,.slice sv Y.sec.length scv,.int .i64 Y.pr,.int .i64 Y.st,.slice nv Y.non.length ncv,.int .i64 Y.x,.int .i64 Y.g,.int .i64 Y.own,.int .i64 Y.oth,.slice av Y.k1.length acv,.slice bv Y.k2.length bcv,.int .i64 Y.ct] 48 (0,0))):=iH (by rw [hw];exact iN)
 have hbw5:Below w4.heap.size w4 w5:=by rw [hw];exact jq _ _
 clear hw
 have HU5:=iH hbw5
 have HB5:=iH (HB4.out.trans (hbw5.mono HB4.out.size))
 clear g0 g1 g2 g3 g4 g5 g6 g7 g8 g9 g10 g11
 obtain⟨f0,f1,f2,f3,f4,f5,f6,f7,f8,f9,f10,f11,ff⟩:=jy ((HB5.out.block _ (lt_of_block RX.out)).trans RX.out)
 clear hbw5 ff
 obtain⟨w6,hw6⟩:∃z,z=w5.alloc (.cells #[.int .u8 1] 5):=⟨_,rfl⟩
 have hl1:BsS w6 (New w5 w6) (.slice (some ⟨w5.heap.size,0,none⟩) 1 1) [1]:=by rw [hw6];exact ZL w5 [1] 5 (by simp) _ rfl
 have hb6:Below w5.heap.size w5 w6:=by rw [hw6];exact jq _ _
 have HW6:=iH hw6
 have HL1:Hid (Bs w6 w6.heap.size (.slice (some ⟨w5.heap.size,0,none⟩) 1 1) [1]):=iH (hl1.keep fun g hg _=>⟨rfl,hg.2⟩)
 have HB36:=iH (HB5.out.trans (hb6.mono HB5.out.size))
 have DD6:=iH (Bs.lift (Bs.lift DD.out HU5.out) hb6)
 have HY6:=iH ((hb6.block _ (lt_of_block RY.out)).trans RY.out)
 clear hw6 hl1 hb6
 go_upto_region 5 with (go_at_call 33;rw [<-HW6.out];refine(Zp X sx nx ax bx scx ncx acx bcx dA (some ⟨w5.heap.size,0,none⟩) dc 1 U [1] w6 (HK.out.below (HB3.out.trans (HB36.out.mono HB3.out.size)) HK.out.lt) (Bs.lift (Bs.lift S_x.out HU3.out) HB36.out) (Bs.lift (Bs.lift Nx.out HU3.out) HB36.out) (Bs.lift (Bs.lift Ax.out HU3.out) HB36.out) (Bs.lift (Bs.lift Bx.out HU3.out) HB36.out) DD6.out HL1.out HL.out.1 HL.out.2.1 HL.out.2.2.1 HL.out.2.2.2 (by simp) HX.out.1 HX.out.2.2.1 HX.out.2.2.2).mono ?_;rw [HZZ.out,HVV.out];rintro e w7 ⟨y,eA,ec,tA2,tc2,rfl,⟨u1,u2,u3,u4,rfl,hs,hn,ha,hb⟩,_,_,hbw⟩;obtain⟨sz,scz,hp⟩:=Bs.formL hs;subst hp;obtain⟨nz,ncz,hp⟩:=Bs.formL hn;subst hp;obtain⟨az,acz,hp⟩:=Bs.formL ha;subst hp;obtain⟨bz,bcz,hp⟩:=Bs.formL hb;subst hp;have Sz:=iH hs;have Nz:=iH hn;have Az:=iH ha;have Bz:=iH hb;clear hs hn ha hb;have HB7:=iH hbw;clear hbw f0 f1 f2 f3 f4 f5 f6 f7 f8 f9 f10 f11)
 obtain⟨w8,hw⟩:∃z,z=w7.alloc (.cells #[.int .i64 Z.kd,.slice sz Z.sec.length scz,.int .i64 Z.pr,.int .i64 Z.st,.slice nz Z.non.length ncz,.int .i64 Z.x,.int .i64 Z.g,.int .i64 Z.own,.int .i64 Z.oth,.slice az Z.k1.length acz,.slice bz Z.k2.length bcz,.int .i64 Z.ct] 48):=⟨_,rfl⟩
 rw [<-hw]
 have RZ:Hid (w8.heap[w7.heap.size]?=some (.cells #[.int .i64 Z.kd,.slice sz Z.sec.length scz,.int .i64 Z.pr,.int .i64 Z.st,.slice nz Z.non.length ncz,.int .i64 Z.x,.int .i64 Z.g,.int .i64 Z.own,.int .i64 Z.oth,.slice az Z.k1.length acz,.slice bz Z.k2.length bcz,.int .i64 Z.ct] 48 (0,0))):=iH (by rw [hw];exact iN)
 have hbw8:Below w7.heap.size w7 w8:=by rw [hw];exact jq _ _
 clear hw
 have HB8:=iH (HB7.out.trans (hbw8.mono HB7.out.size))
 obtain⟨f0,f1,f2,f3,f4,f5,f6,f7,f8,f9,f10,f11,ff⟩:=jy RZ.out
 obtain⟨g0,g1,g2,g3,g4,g5,g6,g7,g8,g9,g10,g11,gf⟩:=jy ((HB8.out.block _ (lt_of_block HY6.out)).trans HY6.out)
 clear hbw8 ff gf
 go_wp2_with fail
 go_ret
 exact⟨rfl,(HB3.out.trans (HB36.out.mono HB3.out.size)).trans (HB8.out.mono (HB3.out.trans (HB36.out.mono HB3.out.size)).size)⟩
end Go.Proofs.YtalmmiojbmpmiaaGreatDoor
