/- Layer 21: the chip agrees; Layer 21: chipCheck, terminalAgree; Layer 21: chipMap, terminalMap; Layer 21: the chip's step in all cases -/
import Derived.Test.YtalmmiojbmpmiaaGreatDoorPBn
import Derived.Test.YtalmmiojbmpmiaaGreatDoorPBr
set_option linter.all false
set_option maxRecDepth 100000
set_option maxHeartbeats 4000000
namespace Go.Proofs.YtalmmiojbmpmiaaGreatDoor
open Go.RowKit Go.Deep
theorem m0s{P:Prop}(h:P:=by
 simp only [hD]at hK |-
 go_simp
 refine(jr _ s w1 (Ge1.out.onB hJ).loB).mono ?_
 rintro e wk ⟨v2,rfl,ho,hb⟩
 obtain⟨A2,c2,hv2⟩:=OwnB.form ho
 subst hv2
 refine hK _ _ (hJ.trans (hb.mono hJ.size)) hb ⟨_,_,rfl,?_⟩
 exact BsS.madeB (OwnB.out ho (by have:=HL.out;omega) w1 iL) (HP1.out.call hJ).lt):P:=h
theorem m1j{P:Prop}(h:P:=by
 rintro e wk ⟨A8,c8,rfl,hs,hb⟩
 exact hK _ _ (hJ.trans (hb.mono hJ.size)) hb ⟨_,_,rfl,(BsS.off hs ((HP1.out.call hJ).call hb).1 (NOB.out)).keep fun g hg _=>⟨rfl,hg⟩⟩):P:=h
theorem m30{P:Prop}(h:P:=by
 rw [hs]at h
 unfold kw at h
 split at h
 ·cases h
 ·exact Ub (by rw [q];decide) h):P:=h
theorem JQ{v:List UInt8}{o:Int}(h:jd v=(0,o)):jk o=true:=by
 unfold jd at h
 split at h
 ·cases h
 ·split at h
  ·cases h
  ·rename_i h1
   obtain⟨_,rfl⟩:=Prod.mk.inj h
   simpa using h1
section
variable(P:Nat)(X:Exg)(sA nA aA bA:Option Addr)(sc nc ac bc:Nat)(vA eA:Option Addr)(vc ec:Nat)(v s:List UInt8)(w:World)(hK:∀W,Below P w W->KD W)(hr:w.heap[P]?=some (.cells #[.int .i64 X.kd,.slice sA X.sec.length sc,.int .i64 X.pr,.int .i64 X.st,.slice nA X.non.length nc,.int .i64 X.x,.int .i64 X.g,.int .i64 X.own,.int .i64 X.oth,.slice aA X.k1.length ac,.slice bA X.k2.length bc,.int .i64 X.ct] 48 (0,0)))(h1:BsS w (j7 P w) (.slice sA X.sec.length sc) X.sec)(h2:BsS w (j7 P w) (.slice nA X.non.length nc) X.non)(h3:BsS w (j7 P w) (.slice aA X.k1.length ac) X.k1)(h4:BsS w (j7 P w) (.slice bA X.k2.length bc) X.k2)(h5:BsS w (j7 P w) (.slice vA v.length vc) v)(h6:BsS w (j7 P w) (.slice eA s.length ec) s)(hl:s.length<=140737488351232)
include P X sA nA aA bA sc nc ac bc vA eA vc ec v s w hK hr h1 h2 h3 h4 h5 h6 hl
theorem Qv(er o:Int)(hd:jd v=(er,o))(he:(er != 0)=true):
 Calls Tryz.prog 73 #[.pointer (some ⟨P,0,none⟩),.slice vA v.length vc,.slice eA s.length ec] w (JG P w er):=by
 have HD:=iH (jX v _ _ w h5)
 rw [hd]at HD
 clear hd
 have HP0:Hid (PtW P w w #[.int .i64 X.kd,.slice sA X.sec.length sc,.int .i64 X.pr,.int .i64 X.st,.slice nA X.non.length nc,.int .i64 X.x,.int .i64 X.g,.int .i64 X.own,.int .i64 X.oth,.slice aA X.k1.length ac,.slice bA X.k2.length bc,.int .i64 X.ct]):=iH (PtW.start hr)
 have HK:=iH hK;have Gs0:=iH h1;have Gn0:=iH h2;have Ga0:=iH h3;have Gb0:=iH h4;have Gv0:=iH h5;have Ge0:=iH h6;have HL:=iH hl
 obtain⟨f0,f1,f2,f3,f4,f5,f6,f7,f8,f9,f10,f11,ff⟩:=j4 hr
 clear hK hr h1 h2 h3 h4 h5 h6 hl
 go_enter Tryz.func73,Tryz.ntmps73
 go_wp2_with(go_at_call 126;refine iR HD.out ?_)
 refine bodyPost_ret (v:=.tuple #[.int .i64 0,.slice none 0 0,.slice none 0 0,.int .i64 er]) (by simp [results,Tryz.results73,go_sem]) rfl ?_
 exact⟨rfl,_,_,_,_,_,_,_,_,_,_,_,_,HP0.out⟩
theorem Kx(o:Int)(hg:jk X.g=true)(hd:jd v=(0,o))(hne:o=jN X.g (jY s)):
 Calls Tryz.prog 73 #[.pointer (some ⟨P,0,none⟩),.slice vA v.length vc,.slice eA s.length ec] w (JG P w 10):=by
 have HD:=iH (jX v _ _ w h5)
 rw [hd]at HD
 have HPU:=iH (zl P X sA nA aA bA sc nc ac bc w hK hr eA ec s h6 hl hg)
 have hoe:=JQ hd
 have hks:=yy s
 obtain⟨ks,hk⟩:∃ks,jY s=ks:=⟨_,rfl⟩
 rw [hk]at HPU hks hne
 obtain⟨G,hG⟩:∃G,jN X.g ks=G:=⟨_,rfl⟩
 have hge:jk G=true:=by rw [<-hG];exact k9 X.g ks hg hks
 rw [hG]at HPU hne
 have HAG:Hid (∀W,W.heap[P]?=some (.cells #[.int .i64 X.kd,.slice sA X.sec.length sc,.int .i64 X.pr,.int .i64 X.st,.slice nA X.non.length nc,.int .i64 ks,.int .i64 X.g,.int .i64 G,.int .i64 X.oth,.slice aA X.k1.length ac,.slice bA X.k2.length bc,.int .i64 X.ct] 48 (0,0))->(∀W',Below P W W'->KD W')->Calls Tryz.prog 131 #[.pointer (some ⟨P,0,none⟩),.int .i64 o] W fun e w'=>e=.returned (.int .i64 10)/\w'=W):=iH (fun W h k=>KJ P {X with x:=ks,own:=G} sA nA aA bA sc nc ac bc W k h o hne)
 clear hk hG hd hne hoe hks hge hg
 have HP0:Hid (PtW P w w #[.int .i64 X.kd,.slice sA X.sec.length sc,.int .i64 X.pr,.int .i64 X.st,.slice nA X.non.length nc,.int .i64 X.x,.int .i64 X.g,.int .i64 X.own,.int .i64 X.oth,.slice aA X.k1.length ac,.slice bA X.k2.length bc,.int .i64 X.ct]):=iH (PtW.start hr)
 have HK:=iH hK;have Gs0:=iH h1;have Gn0:=iH h2;have Ga0:=iH h3;have Gb0:=iH h4;have Gv0:=iH h5;have Ge0:=iH h6;have HL:=iH hl
 obtain⟨f0,f1,f2,f3,f4,f5,f6,f7,f8,f9,f10,f11,ff⟩:=j4 hr
 clear hK hr h1 h2 h3 h4 h5 h6 hl
 go_enter Tryz.func73,Tryz.ntmps73
 go_wp2_with(first
  |(go_at_call 126;refine iR HD.out ?_)
  |(go_at_call 130;refine HPU.out.mono ?_;rintro e w1 ⟨B1,d1,rfl,hq,hx⟩;have HP1:=iH hq;have GX1:=iH hx;have Gs1:=iH (Gs0.out.grownP hq.2.1);have Gn1:=iH (Gn0.out.grownP hq.2.1);have Ga1:=iH (Ga0.out.grownP hq.2.1);have Gb1:=iH (Gb0.out.grownP hq.2.1);have Gv1:=iH (Gv0.out.grownP hq.2.1);have Ge1:=iH (Ge0.out.grownP hq.2.1);obtain⟨g0,g1,g2,g3,g4,g5,g6,g7,g8,g9,g10,g11,gf⟩:=j4 hq.1;clear hq hx f0 f1 f2 f3 f4 f5 f6 f7 f8 f9 f10 f11 ff)
  |(go_at_call 131;refine iR (HAG.out w1 HP1.out.1 (fun W' h=>HK.out W' (HP1.out.2.2.trans h))) ?_))
 refine bodyPost_ret (v:=.tuple #[.int .i64 0,.slice none 0 0,.slice none 0 0,.int .i64 10]) (by simp [results,Tryz.results73,go_sem]) rfl ?_
 exact⟨rfl,_,_,_,_,_,_,_,_,_,_,_,_,HP1.out⟩
theorem Qu(o:Int)(hg:jk X.g=true)(hd:jd v=(0,o))(hne:¬o=jN X.g (jY s)):
 Calls Tryz.prog 73 #[.pointer (some ⟨P,0,none⟩),.slice vA v.length vc,.slice eA s.length ec] w (yI P w 132 (kr {X with x:=jY s,own:=jN X.g (jY s)} o).2 (jc (jN X.g (jY s))) (sdW s)):=by
 have HD:=iH (jX v _ _ w h5)
 rw [hd]at HD
 have HPU:=iH (zl P X sA nA aA bA sc nc ac bc w hK hr eA ec s h6 hl hg)
 have hoe:=JQ hd
 have hks:=yy s
 obtain⟨ks,hk⟩:∃ks,jY s=ks:=⟨_,rfl⟩
 rw [hk]at HPU hks hne |-
 obtain⟨G,hG⟩:∃G,jN X.g ks=G:=⟨_,rfl⟩
 have hge:jk G=true:=by rw [<-hG];exact k9 X.g ks hg hks
 rw [hG]at HPU hne |-
 have hagw:(kr {X with x:=ks,own:=G} o).2= {X with x:=ks,own:=G,oth:=o,k1:=zw (jc (jN o ks)) 1,k2:=zw (jc (jN o ks)) 2,ct:=0}:=by unfold kr;rw [iF hne]
 rw [hagw]
 have HAG:Hid (∀W,W.heap[P]?=some (.cells #[.int .i64 X.kd,.slice sA X.sec.length sc,.int .i64 X.pr,.int .i64 X.st,.slice nA X.non.length nc,.int .i64 ks,.int .i64 X.g,.int .i64 G,.int .i64 X.oth,.slice aA X.k1.length ac,.slice bA X.k2.length bc,.int .i64 X.ct] 48 (0,0))->(∀W',Below P W W'->KD W')->Calls Tryz.prog 131 #[.pointer (some ⟨P,0,none⟩),.int .i64 o] W fun e w'=>∃aB bB ad bd,e=.returned (.int .i64 0)/\PtW P W w' #[.int .i64 X.kd,.slice sA X.sec.length sc,.int .i64 X.pr,.int .i64 X.st,.slice nA X.non.length nc,.int .i64 ks,.int .i64 X.g,.int .i64 G,.int .i64 o,.slice aB 16 ad,.slice bB 16 bd,.int .i64 0]/\BsS w' (j7 P w') (.slice aB 16 ad) (zw (jc (jN o ks)) 1)/\BsS w' (j7 P w') (.slice bB 16 bd) (zw (jc (jN o ks)) 2)):=iH (fun W h k=>Xu P {X with x:=ks,own:=G} sA nA aA bA sc nc ac bc W k h o hne hks hoe)
 have HEN:=iH (kR G hge)
 have HKL:=iH (And.intro (jL (jc (jN o ks)) 1) (jL (jc (jN o ks)) 2))
 obtain⟨K1,hK1⟩:∃k,zw (jc (jN o ks)) 1=k:=⟨_,rfl⟩
 obtain⟨K2,hK2⟩:∃k,zw (jc (jN o ks)) 2=k:=⟨_,rfl⟩
 rw [hK1,hK2]at HAG HKL |-
 clear hk hG hd hne hoe hks hge hg hagw hK1 hK2
 have HP0:Hid (PtW P w w #[.int .i64 X.kd,.slice sA X.sec.length sc,.int .i64 X.pr,.int .i64 X.st,.slice nA X.non.length nc,.int .i64 X.x,.int .i64 X.g,.int .i64 X.own,.int .i64 X.oth,.slice aA X.k1.length ac,.slice bA X.k2.length bc,.int .i64 X.ct]):=iH (PtW.start hr)
 have HK:=iH hK;have Gs0:=iH h1;have Gn0:=iH h2;have Ga0:=iH h3;have Gb0:=iH h4;have Gv0:=iH h5;have Ge0:=iH h6;have HL:=iH hl
 obtain⟨f0,f1,f2,f3,f4,f5,f6,f7,f8,f9,f10,f11,ff⟩:=j4 hr
 clear hK hr h1 h2 h3 h4 h5 h6 hl
 go_enter Tryz.func73,Tryz.ntmps73
 go_wp2_with(first
  |(go_at_call 126;refine iR HD.out ?_)
  |(go_at_call 130;refine HPU.out.mono ?_;rintro e w1 ⟨B1,d1,rfl,hq,hx⟩;have HP1:=iH hq;have GX1:=iH hx;have Gs1:=iH (Gs0.out.grownP hq.2.1);have Gn1:=iH (Gn0.out.grownP hq.2.1);have Ga1:=iH (Ga0.out.grownP hq.2.1);have Gb1:=iH (Gb0.out.grownP hq.2.1);have Gv1:=iH (Gv0.out.grownP hq.2.1);have Ge1:=iH (Ge0.out.grownP hq.2.1);obtain⟨g0,g1,g2,g3,g4,g5,g6,g7,g8,g9,g10,g11,gf⟩:=j4 hq.1;clear hq hx f0 f1 f2 f3 f4 f5 f6 f7 f8 f9 f10 f11 ff)
  |(go_at_call 131;refine(HAG.out w1 HP1.out.1 (fun W' h=>HK.out W' (HP1.out.2.2.trans h))).mono ?_;rintro e w2 ⟨aB,bB,ad,bd,rfl,hq,k1,k2⟩;have HP2:=iH (HP1.out.trans hq);have GA2:=iH k1;have GB2:=iH k2;have Gs2:=iH (Gs1.out.grownP hq.2.1);have Gn2:=iH (Gn1.out.grownP hq.2.1);have Ga2:=iH (Ga1.out.grownP hq.2.1);have Gb2:=iH (Gb1.out.grownP hq.2.1);have Gv2:=iH (Gv1.out.grownP hq.2.1);have Ge2:=iH (Ge1.out.grownP hq.2.1);have GX2:=iH (GX1.out.grownP hq.2.1);obtain⟨f0,f1,f2,f3,f4,f5,f6,f7,f8,f9,f10,f11,ff⟩:=j4 hq.1;clear hq k1 k2 g0 g1 g2 g3 g4 g5 g6 g7 g8 g9 g10 g11 gf)
  |(go_at_call 129;refine(HEN.out w2).mono ?_;rintro e w3 ⟨A3,c3,rfl,hs,hb⟩;have GE3:=iH (hs.madeB HP2.out.lt);have HP3:=iH (HP2.out.call hb);have GA3:=iH (GA2.out.onB hb);have GB3:=iH (GB2.out.onB hb);have Gs3:=iH (Gs2.out.onB hb);have Gn3:=iH (Gn2.out.onB hb);have Ga3:=iH (Ga2.out.onB hb);have Gb3:=iH (Gb2.out.onB hb);have Gv3:=iH (Gv2.out.onB hb);have Ge3:=iH (Ge2.out.onB hb);have GX3:=iH (GX2.out.onB hb);clear hs hb))
 refine bodyPost_ret (v:=.tuple #[.int .i64 132,.slice A3 4 c3,.slice B1 32 d1,.int .i64 0]) (by simp [results,Tryz.results73,go_sem]) rfl ?_
 have hx:(sdW s).length=32:=je _
 have x3:BsS w3 (j7 P w3) (.slice B1 (sdW s).length d1) (sdW s):=by rw [hx];exact GX3.out
 have q3:=HP3.out
 have a3:BsS w3 (j7 P w3) (.slice aB K1.length ad) K1:=by rw [HKL.out.1];exact GA3.out
 have b3:BsS w3 (j7 P w3) (.slice bB K2.length bd) K2:=by rw [HKL.out.2];exact GB3.out
 have q4:PtW P w w3 #[.int .i64 X.kd,.slice sA X.sec.length sc,.int .i64 X.pr,.int .i64 X.st,.slice nA X.non.length nc,.int .i64 ks,.int .i64 X.g,.int .i64 G,.int .i64 o,.slice aB K1.length ad,.slice bB K2.length bd,.int .i64 0]:=by rw [HKL.out.1,HKL.out.2];exact q3
 exact⟨A3,c3,B1,d1,by rw [hx]<;>rfl,⟨_,_,_,_,_,_,_,_,q4,Gs3.out,Gn3.out,a3,b3⟩,GE3.out,x3⟩
end
theorem tkl(X:Exg)(p:Int)(h:X.k2.length=16):(tkW X p).length=8:=by unfold tkW;rw [List.length_take,xF h]<;>rfl
theorem Qw(P:Nat)(X:Exg)(sA nA aA bA:Option Addr)(sc nc ac bc:Nat)(vA eA:Option Addr)(vc ec:Nat)(val s:List UInt8)(w:World)(hK:∀W,Below P w W->KD W)(hr:w.heap[P]?=some (.cells #[.int .i64 X.kd,.slice sA X.sec.length sc,.int .i64 X.pr,.int .i64 X.st,.slice nA X.non.length nc,.int .i64 X.x,.int .i64 X.g,.int .i64 X.own,.int .i64 X.oth,.slice aA X.k1.length ac,.slice bA X.k2.length bc,.int .i64 X.ct] 48 (0,0)))(h1:BsS w (j7 P w) (.slice sA X.sec.length sc) X.sec)(h2:BsS w (j7 P w) (.slice nA X.non.length nc) X.non)(h3:BsS w (j7 P w) (.slice aA X.k1.length ac) X.k1)(h4:BsS w (j7 P w) (.slice bA X.k2.length bc) X.k2)(h5:BsS w (j7 P w) (.slice vA val.length vc) val)(h6:BsS w (j7 P w) (.slice eA s.length ec) s)(hl:s.length<=140737488351232)(hk2:X.k2.length=16)(ho:jk X.own=true)(ht:jk X.oth=true)(hq:val=tkW X X.own):Calls Tryz.prog 74 #[.pointer (some ⟨P,0,none⟩),.slice vA val.length vc,.slice eA s.length ec] w (yI P w 134 X (tkW X X.oth) s):=by
 have HCO:=iH (fun W h=>KP X sA nA aA bA sc nc ac bc X.own ho hk2 W h)
 have HCT:=iH (fun W h=>KP X sA nA aA bA sc nc ac bc X.oth ht hk2 W h)
 have NOB:=iH (j8a X sA nA aA bA sc nc ac bc)
 have ht8:=tkl X X.oth hk2
 obtain⟨T2,hT2⟩:∃T,tkW X X.oth=T:=⟨_,rfl⟩
 rw [hT2]at HCT ht8 |-
 have HT8:=iH ht8
 clear hT2 ht8 ht
 obtain⟨T,hT⟩:∃T,tkW X X.own=T:=⟨_,rfl⟩
 rw [hT]at HCO hq
 have HBB:Hid (decide (val=T)=true):=iH (decide_eq_true hq)
 clear hk2 ho hq hT
 have HP0:Hid (PtW P w w #[.int .i64 X.kd,.slice sA X.sec.length sc,.int .i64 X.pr,.int .i64 X.st,.slice nA X.non.length nc,.int .i64 X.x,.int .i64 X.g,.int .i64 X.own,.int .i64 X.oth,.slice aA X.k1.length ac,.slice bA X.k2.length bc,.int .i64 X.ct]):=iH (PtW.start hr)
 have HK:=iH hK;have Gs0:=iH h1;have Gn0:=iH h2;have Ga0:=iH h3;have Gb0:=iH h4;have Gv0:=iH h5;have Ge0:=iH h6;have HL:=iH hl
 obtain⟨f0,f1,f2,f3,f4,f5,f6,f7,f8,f9,f10,f11,ff⟩:=j4 hr
 clear hK hr h1 h2 h3 h4 h5 h6 hl
 go_enter Tryz.func74,Tryz.ntmps74
 go_upto_region 1 with fail
 refine j9 11 [some 10,some 11,some 12,some 13,some 14,some 15,some 16,some 17,some 18,some 19,some 20] [[],[],[1],[1,2],[],[4],[4,5],[4,5,6],[1,2,3,4,5,6,7],[0,1,2,3,4,5,6,7,8],[0,1,2,3,4,5,6,7,8,9]]
  (fun _ _ w1=>Below w.heap.size w w1) (fun w1 w2=>Below w1.heap.size w1 w2)
  [.v (.slice vA val.length vc),
   .v (.pointer (some ⟨P,0,none⟩)),
   .v (.pointer (some ⟨P,0,none⟩)),
   .v (.agg #[.int .i64 X.kd,.slice sA X.sec.length sc,.int .i64 X.pr,.int .i64 X.st,.slice nA X.non.length nc,.int .i64 X.x,.int .i64 X.g,.int .i64 X.own,.int .i64 X.oth,.slice aA X.k1.length ac,.slice bA X.k2.length bc,.int .i64 X.ct]),
   .v (.pointer (some ⟨P,0,none⟩)),
   .v (.pointer (some ⟨P,0,none⟩)),
   .v (.pointer (some ⟨P,7,none⟩)),
   .v (.int .i64 X.own),
   .p (fun v w1=>∃A8 c8,v 8=.slice A8 8 c8/\Bs w1 w1.heap.size (.slice A8 8 c8) T) (fun _ _ _ _ _ hr ⟨A,c,h1,h2⟩=>⟨A,c,h1,Bs.lift h2 hr⟩),
   .v (.bool true),
   .v (.bool false)]
  (by kernel_rfl) (by kernel_rfl) rfl (fun _=>iB.drew) ?steps ?tail
 case steps=>
  exact mn
 case tail=>
  intro v w1 hJ hF hD
  simp only [jZ]at hD
  obtain⟨e0,e1,e2,e3,e4,e5,e6,e7,e9,e10, -⟩:=hD
  simp only [List.drop_succ_cons,List.drop_zero,jb,Act.put,Nat.zero_add,Nat.reduceAdd,List.setIfInBounds_toArray,List.set_cons_zero,List.set_cons_succ]
  simp only [e0,e1,e2,e3,e4,e5,e6,e7,e9,e10]
  have hp:=HP0.out.call hJ
  have HP1:=iH hp;have HJ:=iH hJ
  obtain⟨p0,p1,p2,p3,p4,p5,p6,p7,p8,p9,p10,p11,pf⟩:=j4 hp.1
  have Gs1:=iH (Gs0.out.onB hJ);have Gn1:=iH (Gn0.out.onB hJ);have Ga1:=iH (Ga0.out.onB hJ);have Gb1:=iH (Gb0.out.onB hJ);have Gv1:=iH (Gv0.out.onB hJ);have Ge1:=iH (Ge0.out.onB hJ)
  clear hJ hF hp e0 e1 e2 e3 e4 e5 e6 e7 e9 e10 f0 f1 f2 f3 f4 f5 f6 f7 f8 f9 f10 f11 ff
  obtain⟨wm,rfl⟩:∃z:World,z=w1:=⟨_,rfl⟩
  go_upto_region 3 with fail
  refine j9 10 [some 21,some 22,some 23,some 24,some 25,some 26,some 27,some 28,some 29,some 30] [[],[0],[0,1],[],[3],[3,4],[3,4,5],[0,1,2,3,4,5,6],[],[0,1,2,3,4,5,6,7,8]]
   (fun _ _ w1=>Below wm.heap.size wm w1) (fun w1 w2=>Below w1.heap.size w1 w2)
   [.v (.pointer (some ⟨P,0,none⟩)),
    .v (.pointer (some ⟨P,0,none⟩)),
    .v (.agg #[.int .i64 X.kd,.slice sA X.sec.length sc,.int .i64 X.pr,.int .i64 X.st,.slice nA X.non.length nc,.int .i64 X.x,.int .i64 X.g,.int .i64 X.own,.int .i64 X.oth,.slice aA X.k1.length ac,.slice bA X.k2.length bc,.int .i64 X.ct]),
    .v (.pointer (some ⟨P,0,none⟩)),
    .v (.pointer (some ⟨P,0,none⟩)),
    .v (.pointer (some ⟨P,8,none⟩)),
    .v (.int .i64 X.oth),
    .p (fun v w1=>∃A7 c7,v 7=.slice A7 8 c7/\BsS w1 (j7 P w1) (.slice A7 8 c7) T2) (fun _ _ _ _ _ hr ⟨A,c,h1,h2⟩=>⟨A,c,h1,h2.onB hr⟩),
    .v (.slice eA s.length ec),
    .p (fun v w1=>∃A9 c9,v 9=.slice A9 s.length c9/\BsS w1 (j7 P w1) (.slice A9 s.length c9) s) (fun _ _ _ _ _ hr ⟨A,c,h1,h2⟩=>⟨A,c,h1,h2.onB hr⟩)]
   (by kernel_rfl) (by kernel_rfl) rfl (fun _=>iB.drew) ?steps ?tail
  case steps=>
   simp only [List.take_succ_cons,List.take_zero]
   repeat' (with_reducible first|exact StepsRG.nil|refine StepsRG.cons ?_ ?_)
   all_goals(intro L v w1 hJ hL hF hD K hK;simp only [jb,Act.put,Nat.zero_add,Nat.reduceAdd,List.setIfInBounds_toArray,List.set_cons_zero,List.set_cons_succ,↓jP,List.getD_cons_zero,List.getD_cons_succ,Nat.reduceEqDiff,↓reduceIte]at hD hK |-)
   all_goals(first
    |((try simp only [hD]at hK |-);go_simp;refine hK _ _ hJ iB ?_;first|exact rfl|exact jf _)
    |(have hp:=HP1.out.call hJ;(try simp only [hD]at hK |-);obtain⟨q0,q1,q2,q3,q4,q5,q6,q7,q8,q9,q10,q11,qf⟩:=j4 hp.1;go_simp;refine hK _ _ hJ iB ?_;first|exact rfl|exact jf _)
    |skip)
   ·simp only [hD]at hK |-
    go_simp
    refine(HCT.out w1 (Gb1.out.onB hJ).loB).mono ?_
    exact m1j
   ·exact m0s
  case tail=>
   intro v w1 hJ hF hD
   simp only [jZ]at hD
   obtain⟨e0,e1,e2,e3,e4,e5,e6,e8, -⟩:=hD
   simp only [List.drop_succ_cons,List.drop_zero,jb,Act.put,Nat.zero_add,Nat.reduceAdd,List.setIfInBounds_toArray,List.set_cons_zero,List.set_cons_succ]
   obtain⟨A7,c7,e7,h7⟩:∃A7 c7,v 7=_/\_:=hF 7 (by simp)
   obtain⟨A9,c9,e9,h9⟩:∃A9 c9,v 9=_/\_:=hF 9 (by simp)
   simp only [e0,e1,e2,e3,e4,e5,e6,e8,e7,e9]
   have HP9:=iH (HP1.out.call hJ);have H7:=iH h7;have H9:=iH h9;have HJ9:=iH hJ
   clear hJ hF h7 h9 e0 e1 e2 e3 e4 e5 e6 e8 e7 e9
   go_wp2_with fail
   refine bodyPost_ret (v:=.tuple #[.int .i64 134,.slice A7 8 c7,.slice A9 s.length c9,.int .i64 0]) (by simp [results,Tryz.results74,go_sem]) rfl ?_
   have x7:=H7.out
   rw [<-HT8.out]at x7
   exact⟨A7,c7,A9,c9,by rw [HT8.out],⟨_,_,_,_,_,_,_,_,HP9.out,Gs1.out.onB HJ9.out,Gn1.out.onB HJ9.out,Ga1.out.onB HJ9.out,Gb1.out.onB HJ9.out⟩,x7,H9.out⟩
section
variable(P:Nat)(X:Exg)(sA nA aA bA:Option Addr)(sc nc ac bc:Nat)(vA eA:Option Addr)(vc ec:Nat)(v s:List UInt8)(w:World)(hK:∀W,Below P w W->KD W)(hr:w.heap[P]?=some (.cells #[.int .i64 X.kd,.slice sA X.sec.length sc,.int .i64 X.pr,.int .i64 X.st,.slice nA X.non.length nc,.int .i64 X.x,.int .i64 X.g,.int .i64 X.own,.int .i64 X.oth,.slice aA X.k1.length ac,.slice bA X.k2.length bc,.int .i64 X.ct] 48 (0,0)))(h1:BsS w (j7 P w) (.slice sA X.sec.length sc) X.sec)(h2:BsS w (j7 P w) (.slice nA X.non.length nc) X.non)(h3:BsS w (j7 P w) (.slice aA X.k1.length ac) X.k1)(h4:BsS w (j7 P w) (.slice bA X.k2.length bc) X.k2)(h5:BsS w (j7 P w) (.slice vA v.length vc) v)(h6:BsS w (j7 P w) (.slice eA s.length ec) s)(hl:s.length<=140737488351232)
include P X sA nA aA bA sc nc ac bc vA eA vc ec v s w hK hr h1 h2 h3 h4 h5 h6 hl
theorem Xj(er o:Int)(hd:jd v=(er,o))(he:(er != 0)=true)(he2:(er==0)=false):
 Calls Tryz.prog 92 #[.pointer (some ⟨P,0,none⟩),.slice vA v.length vc,.slice eA s.length ec] w (JG P w er):=by
 have HD:=iH (jX v _ _ w h5)
 rw [hd]at HD
 clear hd
 have HP0:Hid (PtW P w w #[.int .i64 X.kd,.slice sA X.sec.length sc,.int .i64 X.pr,.int .i64 X.st,.slice nA X.non.length nc,.int .i64 X.x,.int .i64 X.g,.int .i64 X.own,.int .i64 X.oth,.slice aA X.k1.length ac,.slice bA X.k2.length bc,.int .i64 X.ct]):=iH (PtW.start hr)
 have HK:=iH hK;have Gs0:=iH h1;have Gn0:=iH h2;have Ga0:=iH h3;have Gb0:=iH h4;have Gv0:=iH h5;have Ge0:=iH h6;have HL:=iH hl
 obtain⟨f0,f1,f2,f3,f4,f5,f6,f7,f8,f9,f10,f11,ff⟩:=j4 hr
 clear hK hr h1 h2 h3 h4 h5 h6 hl
 go_enter Tryz.func92,Tryz.ntmps92
 go_wp2_with(go_at_call 126;refine iR HD.out ?_)
 refine bodyPost_ret (v:=.tuple #[.int .i64 0,.slice none 0 0,.slice none 0 0,.int .i64 er]) (by simp [results,Tryz.results92,go_sem]) rfl ?_
 exact⟨rfl,_,_,_,_,_,_,_,_,_,_,_,_,HP0.out⟩
theorem KH(o:Int)(hd:jd v=(0,o))(hne:o=X.own):
 Calls Tryz.prog 92 #[.pointer (some ⟨P,0,none⟩),.slice vA v.length vc,.slice eA s.length ec] w (JG P w 10):=by
 have HD:=iH (jX v _ _ w h5)
 rw [hd]at HD
 have HAG:=iH (KJ P X sA nA aA bA sc nc ac bc w hK hr o hne)
 clear hd hne
 have HP0:Hid (PtW P w w #[.int .i64 X.kd,.slice sA X.sec.length sc,.int .i64 X.pr,.int .i64 X.st,.slice nA X.non.length nc,.int .i64 X.x,.int .i64 X.g,.int .i64 X.own,.int .i64 X.oth,.slice aA X.k1.length ac,.slice bA X.k2.length bc,.int .i64 X.ct]):=iH (PtW.start hr)
 have HK:=iH hK;have Gs0:=iH h1;have Gn0:=iH h2;have Ga0:=iH h3;have Gb0:=iH h4;have Gv0:=iH h5;have Ge0:=iH h6;have HL:=iH hl
 obtain⟨f0,f1,f2,f3,f4,f5,f6,f7,f8,f9,f10,f11,ff⟩:=j4 hr
 clear hK hr h1 h2 h3 h4 h5 h6 hl
 go_enter Tryz.func92,Tryz.ntmps92
 go_wp2_with(first|(go_at_call 126;refine iR HD.out ?_)|(go_at_call 131;refine iR HAG.out ?_))
 refine bodyPost_ret (v:=.tuple #[.int .i64 0,.slice none 0 0,.slice none 0 0,.int .i64 10]) (by simp [results,Tryz.results92,go_sem]) rfl ?_
 exact⟨rfl,_,_,_,_,_,_,_,_,_,_,_,_,HP0.out⟩
theorem Xi(o:Int)(hx:okS X.x=true)(hd:jd v=(0,o))(hne:¬o=X.own):
 Calls Tryz.prog 92 #[.pointer (some ⟨P,0,none⟩),.slice vA v.length vc,.slice eA s.length ec] w (yI P w 133 (kr X o).2 (tkW (kr X o).2 o) s):=by
 have HD:=iH (jX v _ _ w h5)
 rw [hd]at HD
 have hoe:=JQ hd
 have HAG:=iH (Xu P X sA nA aA bA sc nc ac bc w hK hr o hne hx hoe)
 have hagw:(kr X o).2= {X with oth:=o,k1:=zw (jc (jN o X.x)) 1,k2:=zw (jc (jN o X.x)) 2,ct:=0}:=by unfold kr;rw [iF hne]
 rw [hagw]
 have l1:=jL (jc (jN o X.x)) 1
 have l2:=jL (jc (jN o X.x)) 2
 obtain⟨K1,hK1⟩:∃k,zw (jc (jN o X.x)) 1=k:=⟨_,rfl⟩
 obtain⟨K2,hK2⟩:∃k,zw (jc (jN o X.x)) 2=k:=⟨_,rfl⟩
 rw [hK1]at HAG l1 |-
 rw [hK2]at HAG l2 |-
 have HCTy:=iH (fun(aB bB:Option Addr) (ad bd:Nat) W h=>KP {X with oth:=o,k1:=K1,k2:=K2,ct:=0} sA nA aB bB sc nc ad bd o hoe l2 W h)
 have NOBy:=iH (fun(aB bB:Option Addr) (ad bd:Nat)=>j8a {X with oth:=o,k1:=K1,k2:=K2,ct:=0} sA nA aB bB sc nc ad bd)
 have ht8:=tkl {X with oth:=o,k1:=K1,k2:=K2,ct:=0} o l2
 obtain⟨T2,hT2⟩:∃T,tkW {X with oth:=o,k1:=K1,k2:=K2,ct:=0} o=T:=⟨_,rfl⟩
 rw [hT2]at HCTy ht8 |-
 have HT8:=iH ht8;have HL1:=iH l1;have HL2:=iH l2
 obtain⟨val,rfl⟩:∃l,l=v:=⟨_,rfl⟩
 clear hT2 ht8 hd hne hx hoe hagw hK1 hK2 l1 l2
 have HP0:Hid (PtW P w w #[.int .i64 X.kd,.slice sA X.sec.length sc,.int .i64 X.pr,.int .i64 X.st,.slice nA X.non.length nc,.int .i64 X.x,.int .i64 X.g,.int .i64 X.own,.int .i64 X.oth,.slice aA X.k1.length ac,.slice bA X.k2.length bc,.int .i64 X.ct]):=iH (PtW.start hr)
 have HK:=iH hK;have Gs0:=iH h1;have Gn0:=iH h2;have Ga0:=iH h3;have Gb0:=iH h4;have Gv0:=iH h5;have Ge0:=iH h6;have HL:=iH hl
 obtain⟨f0,f1,f2,f3,f4,f5,f6,f7,f8,f9,f10,f11,ff⟩:=j4 hr
 clear hK hr h1 h2 h3 h4 h5 h6 hl
 go_enter Tryz.func92,Tryz.ntmps92
 go_upto_region 6 with (first
  |(go_at_call 126;refine iR HD.out ?_)
  |(go_at_call 131;refine HAG.out.mono ?_;rintro e w2 ⟨aB,bB,ad,bd,rfl,hq,k1,k2⟩;rw [<-HL1.out]at k1;rw [<-HL2.out]at k2;have hq:PtW P w w2 #[.int .i64 X.kd,.slice sA X.sec.length sc,.int .i64 X.pr,.int .i64 X.st,.slice nA X.non.length nc,.int .i64 X.x,.int .i64 X.g,.int .i64 X.own,.int .i64 o,.slice aB 16 ad,.slice bB 16 bd,.int .i64 0]:=hq;have GA1:=iH k1;have GB1:=iH k2;have HP1r:=iH hq;have Gs1:=iH (Gs0.out.grownP hq.2.1);have Gn1:=iH (Gn0.out.grownP hq.2.1);have Ga1:=iH (Ga0.out.grownP hq.2.1);have Gb1:=iH (Gb0.out.grownP hq.2.1);have Gv1:=iH (Gv0.out.grownP hq.2.1);have Ge1:=iH (Ge0.out.grownP hq.2.1);clear hq k1 k2 f0 f1 f2 f3 f4 f5 f6 f7 f8 f9 f10 f11 ff))
 have HCT:=iH (HCTy.out aB bB ad bd)
 have NOB:=iH (NOBy.out aB bB ad bd)
 have hp1:PtW P w w2 #[.int .i64 X.kd,.slice sA X.sec.length sc,.int .i64 X.pr,.int .i64 X.st,.slice nA X.non.length nc,.int .i64 X.x,.int .i64 X.g,.int .i64 X.own,.int .i64 o,.slice aB K1.length ad,.slice bB K2.length bd,.int .i64 0]:=by rw [HL1.out,HL2.out];exact HP1r.out
 have HP1:=iH hp1
 obtain⟨g0,g1,g2,g3,g4,g5,g6,g7,g8,g9,g10,g11,gf⟩:=j4 hp1.1
 have HCT:=HCT.out
 have HCT:=iH HCT
 clear hp1 HP1r gf
 refine j9 10 [some 25,some 26,some 27,some 28,some 29,some 30,some 31,some 32,some 33,some 34] [[],[0],[0,1],[],[3],[3,4],[3,4,5],[0,1,2,3,4,5,6],[],[0,1,2,3,4,5,6,7,8]]
  (fun _ _ w1=>Below w2.heap.size w2 w1) (fun w1 w2=>Below w1.heap.size w1 w2)
  [.v (.pointer (some ⟨P,0,none⟩)),
   .v (.pointer (some ⟨P,0,none⟩)),
   .v (.agg #[.int .i64 X.kd,.slice sA X.sec.length sc,.int .i64 X.pr,.int .i64 X.st,.slice nA X.non.length nc,.int .i64 X.x,.int .i64 X.g,.int .i64 X.own,.int .i64 o,.slice aB K1.length ad,.slice bB K2.length bd,.int .i64 0]),
   .v (.pointer (some ⟨P,0,none⟩)),
   .v (.pointer (some ⟨P,0,none⟩)),
   .v (.pointer (some ⟨P,8,none⟩)),
   .v (.int .i64 o),
   .p (fun v w1=>∃A7 c7,v 7=.slice A7 8 c7/\BsS w1 (j7 P w1) (.slice A7 8 c7) T2) (fun _ _ _ _ _ hr ⟨A,c,h1,h2⟩=>⟨A,c,h1,h2.onB hr⟩),
   .v (.slice eA s.length ec),
   .p (fun v w1=>∃A9 c9,v 9=.slice A9 s.length c9/\BsS w1 (j7 P w1) (.slice A9 s.length c9) s) (fun _ _ _ _ _ hr ⟨A,c,h1,h2⟩=>⟨A,c,h1,h2.onB hr⟩)]
  (by kernel_rfl) (by kernel_rfl) rfl (fun _=>iB.drew) ?steps ?tail
 case steps=>
  simp only [List.take_succ_cons,List.take_zero]
  repeat' (with_reducible first|exact StepsRG.nil|refine StepsRG.cons ?_ ?_)
  all_goals(intro L v w1 hJ hL hF hD K hK;simp only [jb,Act.put,Nat.zero_add,Nat.reduceAdd,List.setIfInBounds_toArray,List.set_cons_zero,List.set_cons_succ,↓jP,List.getD_cons_zero,List.getD_cons_succ,Nat.reduceEqDiff,↓reduceIte]at hD hK |-)
  all_goals(first
   |((try simp only [hD]at hK |-);go_simp;refine hK _ _ hJ iB ?_;first|exact rfl|exact jf _)
   |(have hp:=HP1.out.call hJ;(try simp only [hD]at hK |-);obtain⟨q0,q1,q2,q3,q4,q5,q6,q7,q8,q9,q10,q11,qf⟩:=j4 hp.1;go_simp;refine hK _ _ hJ iB ?_;first|exact rfl|exact jf _)
   |skip)
  ·simp only [hD]at hK |-
   go_simp
   refine(HCT.out w1 (GB1.out.onB hJ).loB).mono ?_
   exact m1j
  ·exact m0s
 case tail=>
  intro v w1 hJ hF hD
  simp only [jZ]at hD
  obtain⟨e0,e1,e2,e3,e4,e5,e6,e8, -⟩:=hD
  simp only [List.drop_succ_cons,List.drop_zero,jb,Act.put,Nat.zero_add,Nat.reduceAdd,List.setIfInBounds_toArray,List.set_cons_zero,List.set_cons_succ]
  obtain⟨A7,c7,e7,h7⟩:∃A7 c7,v 7=_/\_:=hF 7 (by simp)
  obtain⟨A9,c9,e9,h9⟩:∃A9 c9,v 9=_/\_:=hF 9 (by simp)
  simp only [e0,e1,e2,e3,e4,e5,e6,e8,e7,e9]
  have HP9:=iH (HP1.out.call hJ);have H7:=iH h7;have H9:=iH h9;have HJ9:=iH hJ
  clear hJ hF h7 h9 e0 e1 e2 e3 e4 e5 e6 e8 e7 e9
  go_wp2_with fail
  refine bodyPost_ret (v:=.tuple #[.int .i64 133,.slice A7 8 c7,.slice A9 s.length c9,.int .i64 0]) (by simp [results,Tryz.results92,go_sem]) rfl ?_
  have x7:=H7.out
  rw [<-HT8.out]at x7
  exact⟨A7,c7,A9,c9,by rw [HT8.out],⟨_,_,_,_,_,_,_,_,HP9.out,Gs1.out.onB HJ9.out,Gn1.out.onB HJ9.out,GA1.out.onB HJ9.out,GB1.out.onB HJ9.out⟩,x7,H9.out⟩
theorem ZL(hp:X.pr=3)(gi:Int)(hi:yG X.non v=(0,gi)):
 Calls Tryz.prog 72 #[.pointer (some ⟨P,0,none⟩),.slice vA v.length vc,.slice eA s.length ec] w (yI P w 130 {X with g:=gi} [] s):=by
 have HI:=iH (XV X.non v _ _ w (hK w iB) h2.loB h5.loB)
 rw [hi]at HI
 have t1:(X.pr==3)=true:=by simp [hp]
 clear hi hp
 have HP0:Hid (PtW P w w #[.int .i64 X.kd,.slice sA X.sec.length sc,.int .i64 X.pr,.int .i64 X.st,.slice nA X.non.length nc,.int .i64 X.x,.int .i64 X.g,.int .i64 X.own,.int .i64 X.oth,.slice aA X.k1.length ac,.slice bA X.k2.length bc,.int .i64 X.ct]):=iH (PtW.start hr)
 have HK:=iH hK;have Gs0:=iH h1;have Gn0:=iH h2;have Ga0:=iH h3;have Gb0:=iH h4;have Gv0:=iH h5;have Ge0:=iH h6;have HL:=iH hl
 obtain⟨f0,f1,f2,f3,f4,f5,f6,f7,f8,f9,f10,f11,ff⟩:=j4 hr
 clear hK hr h1 h2 h3 h4 h5 h6 hl
 go_enter Tryz.func72,Tryz.ntmps72
 go_upto_region 3 with (go_at_call 27;refine HI.out.mono ?_;rintro e w1 ⟨rfl,hb⟩;have Gs1:=iH (Gs0.out.onB hb);have Gn1:=iH (Gn0.out.onB hb);have Ga1:=iH (Ga0.out.onB hb);have Gb1:=iH (Gb0.out.onB hb);have Gv1:=iH (Gv0.out.onB hb);have Ge1:=iH (Ge0.out.onB hb);have hp:=HP0.out.call hb;have HP1:=iH hp;obtain⟨g0,g1,g2,g3,g4,g5,g6,g7,g8,g9,g10,g11,gf⟩:=j4 hp.1;clear hp f0 f1 f2 f3 f4 f5 f6 f7 f8 f9 f10 f11 ff;have gx:=gf 6;clear hb gf)
 go_upto_region 4 with fail
 obtain⟨w2,hw⟩:∃z,z=w1.setCell ⟨P,6,none⟩ (.int .i64 gi):=⟨_,rfl⟩
 rw [<-hw]
 have hp:PtW P w w2 #[.int .i64 X.kd,.slice sA X.sec.length sc,.int .i64 X.pr,.int .i64 X.st,.slice nA X.non.length nc,.int .i64 X.x,.int .i64 gi,.int .i64 X.own,.int .i64 X.oth,.slice aA X.k1.length ac,.slice bA X.k2.length bc,.int .i64 X.ct]:=by rw [hw];exact HP1.out.set 6 _
 have Gs2:Hid (BsS w2 (j7 P w2) _ _):=iH (by rw [hw];exact BsS.setP Gs1.out 6 _)
 have Gn2:Hid (BsS w2 (j7 P w2) _ _):=iH (by rw [hw];exact BsS.setP Gn1.out 6 _)
 have Ga2:Hid (BsS w2 (j7 P w2) _ _):=iH (by rw [hw];exact BsS.setP Ga1.out 6 _)
 have Gb2:Hid (BsS w2 (j7 P w2) _ _):=iH (by rw [hw];exact BsS.setP Gb1.out 6 _)
 have Gv2:Hid (BsS w2 (j7 P w2) _ _):=iH (by rw [hw];exact BsS.setP Gv1.out 6 _)
 have Ge2:Hid (BsS w2 (j7 P w2) _ _):=iH (by rw [hw];exact BsS.setP Ge1.out 6 _)
 have HP2:=iH hp
 obtain⟨f0,f1,f2,f3,f4,f5,f6,f7,f8,f9,f10,f11,ff⟩:=j4 hp.1
 clear hw hp g0 g1 g2 g3 g4 g5 g6 g7 g8 g9 g10 g11 gx
 go_wp2_with(go_at_call 67;refine(jr _ s w2 Ge2.out.loB).mono ?_;rintro e w3 ⟨v2,rfl,ho,hb⟩;obtain⟨cA,cc,hv2⟩:=OwnB.form ho;subst hv2;have HC:Hid (BsS w3 (j7 P w3) (.slice cA s.length cc) s):=iH (BsS.madeB (OwnB.out ho (by have:=HL.out;omega) w2 iL) HP2.out.lt);have Gs3:=iH (Gs2.out.onB hb);have Gn3:=iH (Gn2.out.onB hb);have Ga3:=iH (Ga2.out.onB hb);have Gb3:=iH (Gb2.out.onB hb);have Gv3:=iH (Gv2.out.onB hb);have Ge3:=iH (Ge2.out.onB hb);have hp:=HP2.out.call hb;have HP3:=iH hp;obtain⟨g0,g1,g2,g3,g4,g5,g6,g7,g8,g9,g10,g11,gf⟩:=j4 hp.1;clear hp f0 f1 f2 f3 f4 f5 f6 f7 f8 f9 f10 f11 ff;clear ho hb)
 refine bodyPost_ret (v:=.tuple #[.int .i64 130,.slice none 0 0,.slice cA s.length cc,.int .i64 0]) (by simp [results,Tryz.results72,go_sem]) rfl ?_
 exact⟨_,_,_,_,rfl,⟨_,_,_,_,_,_,_,_,HP3.out,Gs3.out,Gn3.out,Ga3.out,Gb3.out⟩,kH _ _,HC.out⟩
theorem ZJ(hp:X.pr=2)(er o:Int)(hd:jd v=(er,o))(he:(er != 0)=true):
 Calls Tryz.prog 72 #[.pointer (some ⟨P,0,none⟩),.slice vA v.length vc,.slice eA s.length ec] w (JG P w er):=by
 have HD:=iH (jX v _ _ w h5)
 rw [hd]at HD
 have t1:(X.pr==3)=false:=by simp [hp]
 clear hd hp
 have HP0:Hid (PtW P w w #[.int .i64 X.kd,.slice sA X.sec.length sc,.int .i64 X.pr,.int .i64 X.st,.slice nA X.non.length nc,.int .i64 X.x,.int .i64 X.g,.int .i64 X.own,.int .i64 X.oth,.slice aA X.k1.length ac,.slice bA X.k2.length bc,.int .i64 X.ct]):=iH (PtW.start hr)
 have HK:=iH hK;have Gs0:=iH h1;have Gn0:=iH h2;have Ga0:=iH h3;have Gb0:=iH h4;have Gv0:=iH h5;have Ge0:=iH h6;have HL:=iH hl
 obtain⟨f0,f1,f2,f3,f4,f5,f6,f7,f8,f9,f10,f11,ff⟩:=j4 hr
 clear hK hr h1 h2 h3 h4 h5 h6 hl
 go_enter Tryz.func72,Tryz.ntmps72
 go_wp2_with(go_at_call 126;refine iR HD.out ?_)
 refine bodyPost_ret (v:=.tuple #[.int .i64 0,.slice none 0 0,.slice none 0 0,.int .i64 er]) (by simp [results,Tryz.results72,go_sem]) rfl ?_
 exact⟨rfl,_,_,_,_,_,_,_,_,_,_,_,_,HP0.out⟩
theorem ZK(hp:X.pr=2)(o:Int)(hd:jd v=(0,o))(er zg:Int)(hg:qQ X.non (jY s) o=(er,zg))(he:(er != 0)=true):
 Calls Tryz.prog 72 #[.pointer (some ⟨P,0,none⟩),.slice vA v.length vc,.slice eA s.length ec] w (JG P w er):=by
 have HD:=iH (jX v _ _ w h5)
 rw [hd]at HD
 have t1:(X.pr==3)=false:=by simp [hp]
 have HS:=iH (xe _ s w (hK w iB) h6.loB (by omega))
 unfold KI at HS
 have hks:=yy s
 obtain⟨ks,hk⟩:∃ks,jY s=ks:=⟨_,rfl⟩
 rw [hk]at HS hks hg
 have HGE:=iH (fun(u:Value) (W:World) h=>xg X.non u ks o W h)
 rw [hg]at HGE
 clear hd hp hk hks hg
 have HP0:Hid (PtW P w w #[.int .i64 X.kd,.slice sA X.sec.length sc,.int .i64 X.pr,.int .i64 X.st,.slice nA X.non.length nc,.int .i64 X.x,.int .i64 X.g,.int .i64 X.own,.int .i64 X.oth,.slice aA X.k1.length ac,.slice bA X.k2.length bc,.int .i64 X.ct]):=iH (PtW.start hr)
 have HK:=iH hK;have Gs0:=iH h1;have Gn0:=iH h2;have Ga0:=iH h3;have Gb0:=iH h4;have Gv0:=iH h5;have Ge0:=iH h6;have HL:=iH hl
 obtain⟨f0,f1,f2,f3,f4,f5,f6,f7,f8,f9,f10,f11,ff⟩:=j4 hr
 clear hK hr h1 h2 h3 h4 h5 h6 hl
 go_enter Tryz.func72,Tryz.ntmps72
 go_upto_region 10 with (first|(go_at_call 126;refine iR HD.out ?_)|(go_at_call 127;refine HS.out.mono ?_;rintro e w1 ⟨B1,d1,rfl,hbx,hb⟩;have GX1:=iH (hbx.madeB HP0.out.lt);have Gs1:=iH (Gs0.out.onB hb);have Gn1:=iH (Gn0.out.onB hb);have Ga1:=iH (Ga0.out.onB hb);have Gb1:=iH (Gb0.out.onB hb);have Gv1:=iH (Gv0.out.onB hb);have Ge1:=iH (Ge0.out.onB hb);have hp:=HP0.out.call hb;have HP1:=iH hp;obtain⟨g0,g1,g2,g3,g4,g5,g6,g7,g8,g9,g10,g11,gf⟩:=j4 hp.1;clear hp f0 f1 f2 f3 f4 f5 f6 f7 f8 f9 f10 f11 ff;have gx:=gf 6;clear hb hbx gf)|(go_at_call 23;refine iR (HGE.out _ w1 Gn1.out.loB) ?_))
 obtain⟨w2,hw⟩:∃z,z=w1.setCell ⟨P,6,none⟩ (.int .i64 zg):=⟨_,rfl⟩
 rw [<-hw]
 have hp:PtW P w w2 #[.int .i64 X.kd,.slice sA X.sec.length sc,.int .i64 X.pr,.int .i64 X.st,.slice nA X.non.length nc,.int .i64 X.x,.int .i64 zg,.int .i64 X.own,.int .i64 X.oth,.slice aA X.k1.length ac,.slice bA X.k2.length bc,.int .i64 X.ct]:=by rw [hw];exact HP1.out.set 6 _
 have HP2:=iH hp
 obtain⟨f0,f1,f2,f3,f4,f5,f6,f7,f8,f9,f10,f11,ff⟩:=j4 hp.1
 clear hw hp g0 g1 g2 g3 g4 g5 g6 g7 g8 g9 g10 g11 gx
 go_wp2_with fail
 refine bodyPost_ret (v:=.tuple #[.int .i64 0,.slice none 0 0,.slice none 0 0,.int .i64 er]) (by simp [results,Tryz.results72,go_sem]) rfl ?_
 exact⟨rfl,_,_,_,_,_,_,_,_,_,_,_,_,HP2.out⟩
theorem ZI(hp:X.pr=2)(o:Int)(hd:jd v=(0,o))(gi:Int)(hg:qQ X.non (jY s) o=(0,gi)):
 Calls Tryz.prog 72 #[.pointer (some ⟨P,0,none⟩),.slice vA v.length vc,.slice eA s.length ec] w (yI P w 130 {X with g:=gi} (jc (jN 4 (jY s))) (sdW s)):=by
 have HD:=iH (jX v _ _ w h5)
 rw [hd]at HD
 have t1:(X.pr==3)=false:=by simp [hp]
 have HS:=iH (xe _ s w (hK w iB) h6.loB (by omega))
 unfold KI at HS
 have hks:=yy s
 obtain⟨ks,hk⟩:∃ks,jY s=ks:=⟨_,rfl⟩
 rw [hk]at HS hks hg |-
 have HGE:=iH (fun(u:Value) (W:World) h=>xg X.non u ks o W h)
 rw [hg]at HGE
 have HPB:=iH (XS ks hks)
 obtain⟨G,hG⟩:∃G,jN 4 ks=G:=⟨_,rfl⟩
 have hge:jk G=true:=by rw [<-hG];exact k9 4 ks xJ hks
 rw [hG]at HPB |-
 have HEN:=iH (kR G hge)
 clear hG hge
 clear hd hp hk hks hg
 have HP0:Hid (PtW P w w #[.int .i64 X.kd,.slice sA X.sec.length sc,.int .i64 X.pr,.int .i64 X.st,.slice nA X.non.length nc,.int .i64 X.x,.int .i64 X.g,.int .i64 X.own,.int .i64 X.oth,.slice aA X.k1.length ac,.slice bA X.k2.length bc,.int .i64 X.ct]):=iH (PtW.start hr)
 have HK:=iH hK;have Gs0:=iH h1;have Gn0:=iH h2;have Ga0:=iH h3;have Gb0:=iH h4;have Gv0:=iH h5;have Ge0:=iH h6;have HL:=iH hl
 obtain⟨f0,f1,f2,f3,f4,f5,f6,f7,f8,f9,f10,f11,ff⟩:=j4 hr
 clear hK hr h1 h2 h3 h4 h5 h6 hl
 go_enter Tryz.func72,Tryz.ntmps72
 go_upto_region 10 with (first|(go_at_call 126;refine iR HD.out ?_)|(go_at_call 127;refine HS.out.mono ?_;rintro e w1 ⟨B1,d1,rfl,hbx,hb⟩;have GX1:=iH (hbx.madeB HP0.out.lt);have Gs1:=iH (Gs0.out.onB hb);have Gn1:=iH (Gn0.out.onB hb);have Ga1:=iH (Ga0.out.onB hb);have Gb1:=iH (Gb0.out.onB hb);have Gv1:=iH (Gv0.out.onB hb);have Ge1:=iH (Ge0.out.onB hb);have hp:=HP0.out.call hb;have HP1:=iH hp;obtain⟨g0,g1,g2,g3,g4,g5,g6,g7,g8,g9,g10,g11,gf⟩:=j4 hp.1;clear hp f0 f1 f2 f3 f4 f5 f6 f7 f8 f9 f10 f11 ff;have gx:=gf 6;clear hb hbx gf)|(go_at_call 23;refine iR (HGE.out _ w1 Gn1.out.loB) ?_))
 obtain⟨w2,hw⟩:∃z,z=w1.setCell ⟨P,6,none⟩ (.int .i64 gi):=⟨_,rfl⟩
 rw [<-hw]
 have hp:PtW P w w2 #[.int .i64 X.kd,.slice sA X.sec.length sc,.int .i64 X.pr,.int .i64 X.st,.slice nA X.non.length nc,.int .i64 X.x,.int .i64 gi,.int .i64 X.own,.int .i64 X.oth,.slice aA X.k1.length ac,.slice bA X.k2.length bc,.int .i64 X.ct]:=by rw [hw];exact HP1.out.set 6 _
 have Gs2:Hid (BsS w2 (j7 P w2) _ _):=iH (by rw [hw];exact BsS.setP Gs1.out 6 _)
 have Gn2:Hid (BsS w2 (j7 P w2) _ _):=iH (by rw [hw];exact BsS.setP Gn1.out 6 _)
 have Ga2:Hid (BsS w2 (j7 P w2) _ _):=iH (by rw [hw];exact BsS.setP Ga1.out 6 _)
 have Gb2:Hid (BsS w2 (j7 P w2) _ _):=iH (by rw [hw];exact BsS.setP Gb1.out 6 _)
 have Gv2:Hid (BsS w2 (j7 P w2) _ _):=iH (by rw [hw];exact BsS.setP Gv1.out 6 _)
 have Ge2:Hid (BsS w2 (j7 P w2) _ _):=iH (by rw [hw];exact BsS.setP Ge1.out 6 _)
 have GX2:Hid (BsS w2 (j7 P w2) _ _):=iH (by rw [hw];exact BsS.setP GX1.out 6 _)
 have HP2:=iH hp
 obtain⟨f0,f1,f2,f3,f4,f5,f6,f7,f8,f9,f10,f11,ff⟩:=j4 hp.1
 clear hw hp g0 g1 g2 g3 g4 g5 g6 g7 g8 g9 g10 g11 gx
 go_wp2_with(first
  |(go_at_call 128;refine iR (HPB.out _) ?_)
  |(go_at_call 129;refine(HEN.out w2).mono ?_;rintro e w3 ⟨A3,c3,rfl,hs,hb⟩;have GE3:=iH (hs.madeB HP2.out.lt);have Gs3:=iH (Gs2.out.onB hb);have Gn3:=iH (Gn2.out.onB hb);have Ga3:=iH (Ga2.out.onB hb);have Gb3:=iH (Gb2.out.onB hb);have Gv3:=iH (Gv2.out.onB hb);have Ge3:=iH (Ge2.out.onB hb);have GX3:=iH (GX2.out.onB hb);have hp:=HP2.out.call hb;have HP3:=iH hp;obtain⟨g0,g1,g2,g3,g4,g5,g6,g7,g8,g9,g10,g11,gf⟩:=j4 hp.1;clear hp f0 f1 f2 f3 f4 f5 f6 f7 f8 f9 f10 f11 ff;clear hs hb))
 refine bodyPost_ret (v:=.tuple #[.int .i64 130,.slice A3 4 c3,.slice B1 32 d1,.int .i64 0]) (by simp [results,Tryz.results72,go_sem]) rfl ?_
 have hx:(sdW s).length=32:=je _
 have x3:BsS w3 (j7 P w3) (.slice B1 (sdW s).length d1) (sdW s):=by rw [hx];exact GX3.out
 exact⟨A3,c3,B1,d1,by rw [hx]<;>rfl,⟨_,_,_,_,_,_,_,_,HP3.out,Gs3.out,Gn3.out,Ga3.out,Gb3.out⟩,GE3.out,x3⟩
end
theorem qq{X:Exg}(h:usC X=true):vPw X.kd X.sec=true/\(X.pr=2\/X.pr=3)/\(1<=X.st->X.non.length=16)/\(2<=X.st->jk X.g=true)/\(3<=X.st->jk X.own=true/\jk X.oth=true/\X.k2.length=16):=by
 unfold usC kh kY vS at h
 simp only [Bool.and_eq_true,Bool.or_eq_true,decide_eq_true_eq]at h
 obtain⟨⟨⟨⟨hp,hpr⟩,h1⟩,h2⟩,h3⟩:=h
 exact⟨hp,hpr,fun q=>h1.resolve_left (by omega),fun q=>h2.resolve_left (by omega),fun q=>by
  obtain⟨⟨a,b⟩,c⟩:=h3.resolve_left (by omega)
  exact⟨a,b,c.2.1⟩⟩
theorem j4k(k n:List UInt8)(h:n.length=16):(kZ k Z16 n).length=16:=by rw [zp _ _ _ (m:=1) (by omega),Qb]
theorem Ub{tag:Int}{z:Nat}{l:Ns}{v:List UInt8}(h0:¬tag=0)(h:Kq tag z l=some v):v.length=z:=by
 unfold Kq at h
 split at h
 ·split at h
  ·cases h
  ·try rw [iF h0]at h
   split at h
   ·split at h
    ·rename_i hh
     cases h
     exact hh.2
    ·cases h
   ·cases h
 ·cases h
theorem Zw{X:Exg}{B v:List UInt8}(q:X.st=1)(hp:X.pr=3)(h:kw B (zS X.st) (Qd X)=some v):v.length=16:=by
 have hs:Qd X=16:=by unfold Qd;rw [iT q,iT hp]
 exact m30
theorem qc{er:Int}(h:¬er=0):(er != 0)=true:=by simp [h]
theorem j2b(X:Exg)(sA nA aA bA:Option Addr)(sc nc ac bc:Nat)(vA eA:Option Addr)(vc ec:Nat)(B s:List UInt8)(w:World)(hK:KD w)(h1:Bs w w.heap.size (.slice sA X.sec.length sc) X.sec)(h2:Bs w w.heap.size (.slice nA X.non.length nc) X.non)(h3:Bs w w.heap.size (.slice aA X.k1.length ac) X.k1)(h4:Bs w w.heap.size (.slice bA X.k2.length bc) X.k2)(h5:Bs w w.heap.size (.slice vA B.length vc) B)(h6:Bs w w.heap.size (.slice eA s.length ec) s)(ls:X.sec.length<=140737488351232)(ln:X.non.length<=140737488351232)(l1:X.k1.length<=140737488351232)(l2:X.k2.length<=140737488351232)(hl:s.length<=140737488351232):Calls Tryz.prog 33 #[.agg #[.int .i64 X.kd,.slice sA X.sec.length sc,.int .i64 X.pr,.int .i64 X.st,.slice nA X.non.length nc,.int .i64 X.x,.int .i64 X.g,.int .i64 X.own,.int .i64 X.oth,.slice aA X.k1.length ac,.slice bA X.k2.length bc,.int .i64 X.ct],.slice vA B.length vc,.slice eA s.length ec] w (ExO (jv X B s) w):=by
 by_cases hst:X.st<0\/3<X.st
 ·exact Uo X sA nA aA bA sc nc ac bc vA eA vc ec B s w hK h1 h2 h3 h4 h5 h6 ls ln l1 l2 hl hst
 have hst:0<=X.st/\X.st<=3:=by omega
 rcases hus:usC X with _|_
 ·exact XC X sA nA aA bA sc nc ac bc vA eA vc ec B s w hK h1 h2 h3 h4 h5 h6 ls ln l1 l2 hl hst hus
 rcases hv:kw B (zS X.st) (Qd X)with _|v
 ·exact VI X sA nA aA bA sc nc ac bc vA eA vc ec B s w hK h1 h2 h3 h4 h5 h6 ls ln l1 l2 hl hst hus hv
 obtain⟨hp,hpr,hn,hg,hpa⟩:=qq hus
 have hq:X.st=0\/X.st=1\/X.st=2\/X.st=3:=by omega
 rcases hq with q|q|q|q
 ·have hd:(js s 16).length=16:=by unfold js;rw [List.length_take,je];omega
  have hh:qn X.kd X.sec (js s 16)=(0,kZ (kS X.kd X.sec) Z16 (js s 16)):=by
   unfold qn
   rw [iF (by rw [hp];simp),iF (by omega)]
  have hr:jv X B s=(0,{({X with non:=js s 16}:Exg)with st:=X.st+1},jE 128 (qn X.kd X.sec (js s 16)).2,sdW s):=by
   unfold jv;rw [iF (by omega),iF (by rw [hus];simp),hv];simp only [];rw [iT q,q]<;>rfl
  exact yK X sA nA aA bA sc nc ac bc vA eA vc ec B s w hK h1 h2 h3 h4 h5 h6 ls ln l1 l2 hl 71 (.inl ⟨q,rfl⟩) hst hus v hv 128 ⟨by omega,by omega⟩ {X with non:=js s 16} rfl (qn X.kd X.sec (js s 16)).2 (sdW s) (by rw [hh];show(kZ (kS X.kd X.sec) Z16 (js s 16)).length<=64;rw [j4k _ _ hd];omega) (fun P sA nA aA bA sc nc ac bc vA eA vc ec w k r h1 h2 h3 h4 h5 h6 h7=>yg P X sA nA aA bA sc nc ac bc vA eA vc ec v s w k r h1 h2 h3 h4 h5 h6 h7 hp) hr
 ·have hn:=hn (by omega)
  by_cases hp3:X.pr=3
  ·obtain⟨gi,hi⟩:∃g,yG X.non v=(0,g):=⟨_,by unfold yG;rw [iF (fun x=>x ⟨hn,Zw q hp3 hv⟩)]⟩
   have hr:jv X B s=(0,{({X with g:=gi}:Exg)with st:=X.st+1},jE 130 [],s):=by
    unfold jv;rw [iF (by omega),iF (by rw [hus];simp),hv];simp only [];rw [iF (by omega),iT q,iT hp3,hi,q]<;>rfl
   exact yK X sA nA aA bA sc nc ac bc vA eA vc ec B s w hK h1 h2 h3 h4 h5 h6 ls ln l1 l2 hl 72 (.inr (.inl ⟨q,rfl⟩)) hst hus v hv 130 ⟨by omega,by omega⟩ {X with g:=gi} rfl [] s (by simp) (fun P sA nA aA bA sc nc ac bc vA eA vc ec w k r h1 h2 h3 h4 h5 h6 h7=>ZL P X sA nA aA bA sc nc ac bc vA eA vc ec v s w k r h1 h2 h3 h4 h5 h6 h7 hp3 gi hi) hr
  have hp2:X.pr=2:=by omega
  obtain⟨⟨er,o⟩,hde⟩:∃r,jd v=r:=⟨_,rfl⟩
  by_cases he:er=0
  ·subst he
   obtain⟨⟨er,gi⟩,hge⟩:∃r,qQ X.non (jY s) o=r:=⟨_,rfl⟩
   by_cases he:er=0
   ·subst he
    have hr:jv X B s=(0,{({X with g:=gi}:Exg)with st:=X.st+1},jE 130 (jc (jN 4 (jY s))),sdW s):=by
     unfold jv;rw [iF (by omega),iF (by rw [hus];simp),hv];simp only [];rw [iF (by omega),iT q,iF hp3,hde];simp only [];rw [hge,iF (by simp),iF (by simp),q]<;>rfl
    exact yK X sA nA aA bA sc nc ac bc vA eA vc ec B s w hK h1 h2 h3 h4 h5 h6 ls ln l1 l2 hl 72 (.inr (.inl ⟨q,rfl⟩)) hst hus v hv 130 ⟨by omega,by omega⟩ {X with g:=gi} rfl (jc (jN 4 (jY s))) (sdW s) (by simp [jc]) (fun P sA nA aA bA sc nc ac bc vA eA vc ec w k r h1 h2 h3 h4 h5 h6 h7=>ZI P X sA nA aA bA sc nc ac bc vA eA vc ec v s w k r h1 h2 h3 h4 h5 h6 h7 hp2 o hde gi hge) hr
   ·have hr:jv X B s=jI er:=by
     unfold jv;rw [iF (by omega),iF (by rw [hus];simp),hv];simp only [];rw [iF (by omega),iT q,iF hp3,hde];simp only [];rw [hge,iF (by simp),iT he]
    exact zW X sA nA aA bA sc nc ac bc vA eA vc ec B s w hK h1 h2 h3 h4 h5 h6 ls ln l1 l2 hl 72 (.inr (.inl ⟨q,rfl⟩)) hst hus v hv er (qc he) (fun P sA nA aA bA sc nc ac bc vA eA vc ec w k r h1 h2 h3 h4 h5 h6 h7=>ZK P X sA nA aA bA sc nc ac bc vA eA vc ec v s w k r h1 h2 h3 h4 h5 h6 h7 hp2 o hde er gi hge (qc he)) hr
  ·have hr:jv X B s=jI er:=by
    unfold jv;rw [iF (by omega),iF (by rw [hus];simp),hv];simp only [];rw [iF (by omega),iT q,iF hp3,hde];simp only [];rw [iT he]
   exact zW X sA nA aA bA sc nc ac bc vA eA vc ec B s w hK h1 h2 h3 h4 h5 h6 ls ln l1 l2 hl 72 (.inr (.inl ⟨q,rfl⟩)) hst hus v hv er (qc he) (fun P sA nA aA bA sc nc ac bc vA eA vc ec w k r h1 h2 h3 h4 h5 h6 h7=>ZJ P X sA nA aA bA sc nc ac bc vA eA vc ec v s w k r h1 h2 h3 h4 h5 h6 h7 hp2 er o hde (qc he)) hr
 ·have hg:=hg (by omega)
  obtain⟨⟨er,o⟩,hde⟩:∃r,jd v=r:=⟨_,rfl⟩
  by_cases he:er=0
  ·subst he
   by_cases heq:o=jN X.g (jY s)
   ·have hr:jv X B s=jI 10:=by
     unfold jv;rw [iF (by omega),iF (by rw [hus];simp),hv];simp only [];rw [iF (by omega),iF (by omega),iT q,hde];simp only [];rw [iF (by simp),iT heq]
    exact zW X sA nA aA bA sc nc ac bc vA eA vc ec B s w hK h1 h2 h3 h4 h5 h6 ls ln l1 l2 hl 73 (.inr (.inr (.inl ⟨q,rfl⟩))) hst hus v hv 10 (by decide) (fun P sA nA aA bA sc nc ac bc vA eA vc ec w k r h1 h2 h3 h4 h5 h6 h7=>Kx P X sA nA aA bA sc nc ac bc vA eA vc ec v s w k r h1 h2 h3 h4 h5 h6 h7 o hg hde heq) hr
   ·have hys:(kr {X with x:=jY s,own:=jN X.g (jY s)} o).2.st=X.st:=by unfold kr;rw [iF heq]
    have hr:jv X B s=(0,{(kr {X with x:=jY s,own:=jN X.g (jY s)} o).2 with st:=(kr {X with x:=jY s,own:=jN X.g (jY s)} o).2.st+1},jE 132 (jc (jN X.g (jY s))),sdW s):=by
     rw [hys];unfold jv;rw [iF (by omega),iF (by rw [hus];simp),hv];simp only [];rw [iF (by omega),iF (by omega),iT q,hde];simp only [];rw [iF (by simp),iF heq,q]<;>rfl
    exact yK X sA nA aA bA sc nc ac bc vA eA vc ec B s w hK h1 h2 h3 h4 h5 h6 ls ln l1 l2 hl 73 (.inr (.inr (.inl ⟨q,rfl⟩))) hst hus v hv 132 ⟨by omega,by omega⟩ _ hys (jc (jN X.g (jY s))) (sdW s) (by simp [jc]) (fun P sA nA aA bA sc nc ac bc vA eA vc ec w k r h1 h2 h3 h4 h5 h6 h7=>Qu P X sA nA aA bA sc nc ac bc vA eA vc ec v s w k r h1 h2 h3 h4 h5 h6 h7 o hg hde heq) hr
  ·have hr:jv X B s=jI er:=by
    unfold jv;rw [iF (by omega),iF (by rw [hus];simp),hv];simp only [];rw [iF (by omega),iF (by omega),iT q,hde];simp only [];rw [iT he]
   exact zW X sA nA aA bA sc nc ac bc vA eA vc ec B s w hK h1 h2 h3 h4 h5 h6 ls ln l1 l2 hl 73 (.inr (.inr (.inl ⟨q,rfl⟩))) hst hus v hv er (qc he) (fun P sA nA aA bA sc nc ac bc vA eA vc ec w k r h1 h2 h3 h4 h5 h6 h7=>Qv P X sA nA aA bA sc nc ac bc vA eA vc ec v s w k r h1 h2 h3 h4 h5 h6 h7 er o hde (qc he)) hr
 ·obtain⟨ho,ht,hk2⟩:=hpa (by omega)
  by_cases hvt:v=tkW X X.own
  ·have hr:jv X B s=(0,{X with st:=X.st+1},jE 134 (tkW X X.oth),s):=by
    unfold jv;rw [iF (by omega),iF (by rw [hus];simp),hv];simp only [];rw [iF (by omega),iF (by omega),iF (by omega),iF (fun x=>x hvt),q]<;>rfl
   exact yK X sA nA aA bA sc nc ac bc vA eA vc ec B s w hK h1 h2 h3 h4 h5 h6 ls ln l1 l2 hl 74 (.inr (.inr (.inr (⟨q,rfl⟩)))) hst hus v hv 134 ⟨by omega,by omega⟩ X rfl (tkW X X.oth) s (by rw [tkl X _ hk2];omega) (fun P sA nA aA bA sc nc ac bc vA eA vc ec w k r h1 h2 h3 h4 h5 h6 h7=>Qw P X sA nA aA bA sc nc ac bc vA eA vc ec v s w k r h1 h2 h3 h4 h5 h6 h7 hk2 ho ht hvt) hr
  ·have hr:jv X B s=jI 21:=by
    unfold jv;rw [iF (by omega),iF (by rw [hus];simp),hv];simp only [];rw [iF (by omega),iF (by omega),iF (by omega),iT hvt]
   exact zW X sA nA aA bA sc nc ac bc vA eA vc ec B s w hK h1 h2 h3 h4 h5 h6 ls ln l1 l2 hl 74 (.inr (.inr (.inr (⟨q,rfl⟩)))) hst hus v hv 21 (by decide) (fun P sA nA aA bA sc nc ac bc vA eA vc ec w k r h1 h2 h3 h4 h5 h6 h7=>Qx P X sA nA aA bA sc nc ac bc vA eA vc ec v s w k r h1 h2 h3 h4 h5 h6 h7 hk2 ho hvt) hr
end Go.Proofs.YtalmmiojbmpmiaaGreatDoor
