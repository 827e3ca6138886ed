/- Layer 21: what is drawn from a seed; the group's small functions -/
import Derived.Test.YtalmmiojbmpmiaaGreatDoorPBj
import Derived.Test.YtalmmiojbmpmiaaGreatDoorPBe
set_option linter.all false
set_option maxRecDepth 100000
set_option maxHeartbeats 4000000
namespace Go.Proofs.YtalmmiojbmpmiaaGreatDoor
open Go.RowKit Go.Deep
theorem j0p(w:World)(x:UInt8){base:Nat}(h:base<=w.heap.size):OwnB (w.alloc (.cells #[U8 x] 5)) base (.slice (some ⟨w.heap.size,0,none⟩) 1 1) [x]:=
 ⟨rfl,.inr ⟨w.heap.size,1,#[U8 x],rfl,h,iN,Nat.le_refl _,by decide,rfl,rfl⟩⟩
theorem jq(w:World)(o:Obj):Below w.heap.size w (w.alloc o):=iA
theorem j1q(w:World){base:Nat}(h:base<=w.heap.size):OwnB (w.alloc (.cells #[.int .u8 1] 5)) base (.slice (some ⟨w.heap.size,0,none⟩) 1 1) [1]:=j0p w 1 h
def Ve(n:Nat)(a b:List UInt8)(w:World)(e:Ending)(w':World):Prop:=∃A c B d,e=.returned (.tuple #[.slice A n c,.slice B 32 d,.int .i64 0])/\BsS w' (New w w') (.slice A n c) a/\BsS w' (New w w') (.slice B 32 d) b/\Below w.heap.size w w'
theorem U5(n:Nat)(h1:1<=n)(h2:n<=32)(v:Value)(s:List UInt8)(w:World)(hK:KD w)(hv:Bs w w.heap.size v s)(hl:s.length<=140737488354000):
 Calls Tryz.prog 125 #[v,.int .i64 n] w (Ve n (k7 s n) (sdW s) w):=by
 obtain⟨A,c,rfl⟩:=Bs.formL hv
 have HV:=iH hv;have HK:=iH hK;have HL:=iH hl
 clear hv hK hl
 have g1:decide ((n:Int)<0)=false:=decide_eq_false (by omega)
 have g2:decide ((n:Int)>1024)=false:=decide_eq_false (by omega)
 go_enter Tryz.func125,Tryz.ntmps125
 go_wp2_with fail
 go_loopg [4,7] 1 (fun m ov iv wr=>∃(A:Option Addr) (k i c:Nat),ov=.slice A k c/\iv=.int .i64 i/\((m=1/\i=0/\k=0/\A=none/\c=0/\w=wr)\/(m=0/\i=1/\k=32/\32<=c/\c<=9223372036854775807/\Hid (BsS wr (New w wr) (.slice A 32 c) (qK (s++ [1,0,0,0,0])))/\Hid (Below w.heap.size w wr))))
 case atStart=>exact⟨none,0,0,0,rfl,rfl,.inl ⟨rfl,rfl,rfl,rfl,rfl,rfl⟩⟩
 case round=>
  obtain⟨A2,k,i,c2,rfl,rfl,⟨rfl,rfl,rfl,rfl,rfl,rfl⟩|⟨rfl,rfl,rfl,hc,hc9,hs,hb⟩⟩:=hrel
  ·have e0:decide (((0:Nat):Int)<(n:Int))=true:=decide_eq_true (by omega)
   go_wp2_with(first
  |(go_at_call 102;refine(JC _ _ s [1,0,0,0,0] w2 (HK.out.below HB2.out HK.out.lt) (HV.out.lift HB2.out) HS2.out (by have:=HL.out;simp only [List.length_cons,List.length_nil];omega)).mono ?_;rintro e w3 ⟨v3,rfl,hs3,hb3⟩;obtain⟨A3,c3,hv3⟩:=Bs.formL hs3;rw [ji]at hv3;subst hv3;have HS3:Hid (Bs w3 w3.heap.size (.slice A3 32 c3) (qK (s++ [1,0,0,0,0]))):=iH (BsS.keep hs3 fun g hg _=>⟨rfl,hg.2⟩);have HB3:=iH (HB2.out.trans (hb3.mono HB2.out.size));clear hs3 hb3)
  |(go_at_call 101;refine(QM 0 w (by omega) (by omega)).mono ?_;rintro e w1 ⟨v1,rfl,hs1,hb1⟩;obtain⟨A1,c1,hv1⟩:=Bs.formL hs1;have hv1:v1=.slice A1 4 c1:=hv1;subst hv1;have HS1:Hid (Bs w1 w1.heap.size (.slice A1 4 c1) (kg 0)):=iH (BsS.keep hs1 fun g hg _=>⟨rfl,hg.2⟩);have HB1:=iH hb1;have HL1:Hid (Below w1.heap.size w1 (w1.alloc (.cells #[.int .u8 1] 5))):=iH (jq _ _);clear hs1 hb1)
  |(at_builtin;(with_reducible refine j9 rfl (.tmp 29) (.tmp 30) rfl w.heap.size (.slice (some ⟨w1.heap.size,0,none⟩) 1 1) [1] rfl (j1q w1 HB1.out.size) A1 4 c1 (kg 0) (·<(w1.alloc (.cells #[.int .u8 1] 5)).heap.size) rfl (HS1.out.lift HL1.out) (by simp [kg]) (Nat.le_trans HB1.out.size HL1.out.size) ?_);intro v2 w2 hgr;obtain⟨A2,c2,hv2⟩:=hgr.1.form;rw [show([1]++kg 0)= [1,0,0,0,0]by decide]at hgr hv2;subst hv2;have HB2:=iH ((HB1.out.trans (HL1.out.mono HB1.out.size)).trans hgr.2.1);have HS2:Hid (Bs w2 w2.heap.size (.slice A2 5 c2) [1,0,0,0,0]):=iH ((hgr.1.out (by decide) w iL).keep fun g hg _=>⟨rfl,hg.2⟩);clear hgr)
  |(at_builtin;(with_reducible refine j9 rfl (.tmp 27) (.tmp 32) rfl w.heap.size (.slice none 0 0) [] rfl (OwnB.nil _ _) A3 32 c3 (qK (s++ [1,0,0,0,0])) (·<w3.heap.size) rfl HS3.out (by rw [ji];simp) HB3.out.size ?_);intro v4 w4 hgr;rw [List.nil_append]at hgr;obtain⟨A4,c4,hv4⟩:=hgr.1.form;rw [ji]at hv4;subst hv4;have hs4:=hgr.1.out (by rw [ji];omega) w iL;have HS4:=iH hs4;have HC4:Hid (32<=c4/\c4<=9223372036854775807):=iH (by obtain⟨a,c',e,q1,q2,_⟩:=hs4;rw [ji]at e q1;obtain⟨_,_,hc⟩:=Value.slice.inj e;omega);have HB4:=iH (HB3.out.trans hgr.2.1);clear hgr hs4))
   go_roundg 0
   case measure=>omega
   case rel=>exact⟨_,32,1,_,rfl,rfl,.inr ⟨rfl,rfl,rfl,HC4.out.1,HC4.out.2,HS4,HB4⟩⟩
  ·obtain⟨wa,rfl⟩:∃wa:World,wa=wr:=⟨_,rfl⟩
   have e0:decide (((32:Nat):Int)<(n:Int))=false:=decide_eq_false (by omega)
   go_upto_region 8 with fail
   have HVW:=iH (fun(W:World) (h:Below wa.heap.size wa W)=>HV.out.lift (hb.out.trans (h.mono hb.out.size)))
   have HSW:=iH (fun(W:World) (h:Below wa.heap.size wa W)=>(BsS.keep hs.out (w':=W) (S':=New w W) fun g hg hl=>⟨h.block g hl,hg.1,iZ hl h.size⟩))
   have HKW:=iH (fun(W:World) (h:Below wa.heap.size wa W)=>HK.out.below (hb.out.trans (h.mono hb.out.size)) HK.out.lt)
   have HCUT:=iH (fun(W:World) (h:BsS W (New w W) (.slice A2 32 c2) (qK (s++ [1,0,0,0,0])))=>(BsS.cut h (k:=n) (d:=n) (by rw [ji];omega) (by omega) (by omega):BsS W (New w W) (.slice A2 n n) (k7 s n)))
   clear hs
   refine jg 7 [some 34,some 35,some 36,some 37,some 38,some 39,some 40] [[],[],[],[0,1,2],[],[],[4,5]]
    (fun _ _ w1=>Below wa.heap.size wa w1) (fun w1 w2=>Below w1.heap.size w1 w2)
    [fun v _=>v 0=.slice A2 32 c2,
     fun v _=>v 1=.int .i64 n,
     fun v _=>v 2=.int .i64 n,
     fun v _=>v 3=.slice A2 n n,
     fun v _=>v 4=.slice A s.length c,
     fun v w1=>∃g,v 5=.slice (some ⟨g,0,none⟩) 1 1/\Bs w1 w1.heap.size (.slice (some ⟨g,0,none⟩) 1 1) [0],
     fun v w1=>∃B d,v 6=.slice B 32 d/\BsS w1 (New w w1) (.slice B 32 d) (sdW s)/\True]
    (by kernel_rfl) (by kernel_rfl) (fun _=>iB.drew) ?st ?steps ?tail
   case st=>
    exact(.cons (fun _ _ _ _ _ _ h=>h) (.cons (fun _ _ _ _ _ _ h=>h) (.cons (fun _ _ _ _ _ _ h=>h) (.cons (fun _ _ _ _ _ _ h=>h) (.cons (fun _ _ _ _ _ _ h=>h) (.cons (fun _ _ _ _ _ hr ⟨g,h1,h2⟩=>⟨g,h1,h2.lift hr⟩) (.cons (fun _ _ _ _ _ hr ⟨B,d,h1,h2,h3⟩=>⟨B,d,h1,h2.keep fun g hg hl=>⟨hr.block g hl,hg.1,iZ hl hr.size⟩,h3⟩) .nil)))))))
   case steps=>
    simp only [List.take_succ_cons,List.take_zero]
    refine(.cons ?_ (.cons ?_ (.cons ?_ (.cons ?_ (.cons ?_ (.cons ?_ (.cons ?_ .nil)))))))
    all_goals(intro L v w1 hJ hL hA hF K hK;simp only [ja,Act.put,Nat.zero_add,Nat.reduceAdd,List.setIfInBounds_toArray,List.set_cons_zero,List.set_cons_succ]at hK |-)
    ·go_simp
     refine hK _ _ hJ iB ?_
     first|exact rfl|exact j3 _
    ·go_simp
     refine hK _ _ hJ iB ?_
     first|exact rfl|exact j3 _
    ·go_simp
     refine hK _ _ hJ iB ?_
     first|exact rfl|exact j3 _
    ·have e0:v 0=.slice A2 32 c2:=hF 0 (hA 0 (by simp))
     have e1:v 1=.int .i64 n:=hF 1 (hA 1 (by simp))
     have e2:v 2=.int .i64 n:=hF 2 (hA 2 (by simp))
     simp only [e0,e1,e2]at hK
     go_simp
     try rw [iT (show n<=c2 by omega)]
     exact hK _ _ hJ iB rfl
    ·go_simp
     refine hK _ _ hJ iB ?_
     first|exact rfl|exact j3 _
    ·go_simp
     refine hK _ _ (hJ.alloc hJ.size _) (jq _ _) ⟨_,rfl,?_⟩
     exact((j0p w1 0 iL).out (by decide) w1 iL).keep fun g hg _=>⟨rfl,hg.2⟩
    ·have e4:v 4=.slice A s.length c:=hF 4 (hA 4 (by simp))
     simp only [e4]at hK
     obtain⟨g,e5,hz⟩:∃g,v 5=.slice (some ⟨g,0,none⟩) 1 1/\Bs w1 w1.heap.size (.slice (some ⟨g,0,none⟩) 1 1) [0]:=hF 5 (hA 5 (by simp))
     simp only [e5]at hK |-
     go_simp
     refine(JC _ _ s [0] w1 (HKW.out _ hJ) (HVW.out _ hJ) hz (by have:=HL.out;simp only [List.length_cons,List.length_nil];omega)).mono ?_
     rintro e w3 ⟨v3,rfl,hs3,hb3⟩
     obtain⟨A3,c3,hv3⟩:=Bs.formL hs3
     rw [ji]at hv3
     subst hv3
     refine hK _ _ (hJ.trans (hb3.mono hJ.size)) hb3 ⟨_,_,rfl,?_,trivial⟩
     exact hs3.keep fun g hg _=>⟨rfl,Nat.le_trans hb.out.size (Nat.le_trans hJ.size hg.1),hg.2⟩
   case tail=>
    intro v w1 hJ hF
    have e0:v 0=.slice A2 32 c2:=hF 0 (by simp)
    have e1:v 1=.int .i64 n:=hF 1 (by simp)
    have e2:v 2=.int .i64 n:=hF 2 (by simp)
    have e3:v 3=.slice A2 n n:=hF 3 (by simp)
    have e4:v 4=.slice A s.length c:=hF 4 (by simp)
    simp only [List.drop_succ_cons,List.drop_zero,ja,Act.put,Nat.zero_add,Nat.reduceAdd,List.setIfInBounds_toArray,List.set_cons_zero,List.set_cons_succ]
    obtain⟨B,d,e9,hs9,hb9⟩:∃B d,v 6=.slice B 32 d/\BsS w1 (New w w1) (.slice B 32 d) (sdW s)/\True:=hF 6 (by simp)
    simp only [e0,e1,e2,e3,e4,e9]
    have HB9:=iH hb9;have HS9:=iH hs9;have HJ:=iH hJ
    clear hJ hF hb9 hs9 e9 e0 e1 e2 e3 e4
    go_wp2_with fail
    go_ret3
    exact⟨_,_,_,_,rfl,HCUT.out _ (HSW.out _ HJ.out),HS9.out,hb.out.trans (HJ.out.mono hb.out.size)⟩
theorem j07(l:List UInt8)(h:7<=l.length):∃z:Nat,xH (l.take 7)=z/\z<72057594037927936/\xj (l.take 7)=((z:Int),0):=by
 have hn:=KY l 7 h
 refine⟨(xH (l.take 7)).toNat,by omega,by omega,?_⟩
 unfold xj
 rw [iF (by rw [List.length_take];omega)]
 congr 1
 omega
theorem Q4(z m:Nat):(z:Int).tmod m=((z % m:Nat):Int):=by rw [Int.tmod_eq_emod_of_nonneg (by omega)]<;>rfl
theorem zO(l:List UInt8)(h:7<=l.length)(m:Nat)(hm:0<m)(hm2:m<=9223372036854775807)(v:Value)(w:World)(hv:Bs w w.heap.size v l):
 Calls Tryz.prog 62 #[v,.int .i64 m] w fun e w'=>e=.returned (.int .i64 (xH (l.take 7) % m))/\w'=w:=by
 obtain⟨A,c,rfl⟩:=Bs.formL hv
 have hc:=(show l.length<=c by obtain⟨a,c',e,q1,_⟩:=hv;obtain⟨_,_,hc⟩:=Value.slice.inj e;omega)
 have hc9:=(show c<=9223372036854775807 by obtain⟨a,c',e,_,q2,_⟩:=hv;obtain⟨_,_,hc⟩:=Value.slice.inj e;omega)
 obtain⟨z,hz,hz9,hq⟩:=j07 l h
 have HC:=iH (BsS.cut hv (k:=7) (d:=c) h (by omega) hc9)
 have e1:=Q4 z m
 have HZ:=iH hz;have HQ:=iH hq
 clear hv hz hq
 go_enter Tryz.func62,Tryz.ntmps62
 go_wp2_with(go_at_call 120;refine(Q9 _ _ _ w HC.out).mono ?_;rw [HQ.out];rintro e w' ⟨rfl,hw'⟩;rw [hw'];clear hw' w')
 go_ret
 refine⟨?_,rfl⟩
 rw [HZ.out]
 first|rfl|(congr 2;omega)
theorem Xs(x k:Nat)(h0:0<x)(h1:x<2147483579)(hk:k<=1073741789)(w:World):Calls Tryz.prog 57 #[.int .i64 x,.int .i64 k] w fun e w'=>e=.returned (.tuple #[.int .i64 (gpw 64 1 x k),.int .i64 0])/\w'=w:=by
 have HR:=iH (xr (x:Int) w)
 rw [decide_eq_true (show 0<(x:Int)/\(x:Int)<2147483579 by omega)]at HR
 have HP:=iH (zH x k w h1 (by omega))
 have g1:decide ((k:Int)<0)=false:=decide_eq_false (by omega)
 have g2:decide ((k:Int)>1073741789)=false:=decide_eq_false (by omega)
 go_enter Tryz.func57,Tryz.ntmps57
 go_wp2_with(first
  |(go_at_call 116;refine HP.out.mono ?_;rintro e w' ⟨rfl,hw'⟩;rw [hw'];clear hw' w')
  |(go_at_call 117;refine HR.out.mono ?_;rintro e w' ⟨rfl,hw'⟩;rw [hw'];clear hw' w'))
 go_ret2
 exact⟨rfl,rfl⟩
theorem QD(a b:Nat)(ha:0<a)(ha1:a<2147483579)(hb:0<b)(hb1:b<2147483579)(w:World):Calls Tryz.prog 59 #[.int .i64 a,.int .i64 b] w fun e w'=>e=.returned (.tuple #[.int .i64 (a*b % 2147483579:Nat),.int .i64 0])/\w'=w:=by
 have HA:=iH (xr (a:Int) w)
 have HB:=iH (xr (b:Int) w)
 rw [decide_eq_true (show 0<(a:Int)/\(a:Int)<2147483579 by omega)]at HA
 rw [decide_eq_true (show 0<(b:Int)/\(b:Int)<2147483579 by omega)]at HB
 have HM:=iH (zA ha1 hb1)
 go_enter Tryz.func59,Tryz.ntmps59
 go_wp2_with(go_at_call 117;first|(refine HA.out.mono ?_;rintro e w' ⟨rfl,hw'⟩;rw [hw'];clear hw' w')|(refine HB.out.mono ?_;rintro e w' ⟨rfl,hw'⟩;rw [hw'];clear hw' w'))
 go_ret2
 refine⟨?_,rfl⟩
 rw [HM.out]
 rfl
end Go.Proofs.YtalmmiojbmpmiaaGreatDoor
