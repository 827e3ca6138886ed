/- Digest: the walk of Compress -/
import Derived.Test.YtalmmiojbmpmiaaGreatDoorPn
set_option linter.all false
set_option maxRecDepth 100000
set_option maxHeartbeats 8000000
namespace Go.Proofs.YtalmmiojbmpmiaaGreatDoor
open Go.RowKit Go.Deep
theorem Xq(s:St8)(b:List UInt8)(vs vb:Value)(S S':Nat->Prop)(w:World)(hK:KD w)(hs:StS w S vs s)(hb:BsS w S' vb b)(hl:b.length=64):
 Calls Tryz.prog 99 #[vs,vb] w fun e w'=>∃v',e=.returned (.tuple #[v',.int .i64 0])/\StS w' (New w w') v' (zx s b)/\Below w.heap.size w w':=by
 obtain⟨gs,rfl,_,hgs⟩:=hs
 obtain⟨bn,cb,rfl,hbc,hbc2,_,hcell⟩:=hb
 rw [hl]at hbc hcell |-
 obtain⟨bb,bo,rfl,⟨_,hbl⟩,hcell⟩:∃bb bo,bn=some ⟨bb,bo,none⟩/\(S' bb/\bb<w.heap.size)/\∀j,j<64->w.cell? ⟨bb,bo+j,none⟩=some (U8 (gb b j)):=by
  obtain⟨bb,bo,h1,h2,h3⟩:=hcell (by omega)
  exact⟨bb,bo,h1,⟨h2,block_lt_of_cell (h3 0 (by omega))⟩,h3⟩
 have HGS:=Lib.hid hgs;have HCB:=Lib.hid hcell;have HK:=Lib.hid hK
 have HM:=j6l
 have HA8:=j6c
 have hgl:=(Array.getElem?_eq_some_iff.1 hgs).1
 obtain⟨w0,hw0⟩:∃w0,w0=w.alloc (.cells #[.int .u32 0,.int .u32 0,.int .u32 0,.int .u32 0,.int .u32 0,.int .u32 0,.int .u32 0,.int .u32 0,.int .u32 0,.int .u32 0,.int .u32 0,.int .u32 0,.int .u32 0,.int .u32 0,.int .u32 0,.int .u32 0,.int .u32 0,.int .u32 0,.int .u32 0,.int .u32 0,.int .u32 0,.int .u32 0,.int .u32 0,.int .u32 0,.int .u32 0,.int .u32 0,.int .u32 0,.int .u32 0,.int .u32 0,.int .u32 0,.int .u32 0,.int .u32 0,.int .u32 0,.int .u32 0,.int .u32 0,.int .u32 0,.int .u32 0,.int .u32 0,.int .u32 0,.int .u32 0,.int .u32 0,.int .u32 0,.int .u32 0,.int .u32 0,.int .u32 0,.int .u32 0,.int .u32 0,.int .u32 0,.int .u32 0,.int .u32 0,.int .u32 0,.int .u32 0,.int .u32 0,.int .u32 0,.int .u32 0,.int .u32 0,.int .u32 0,.int .u32 0,.int .u32 0,.int .u32 0,.int .u32 0,.int .u32 0,.int .u32 0,.int .u32 0] 142):=⟨_,rfl⟩
 have hB0:Below w.heap.size w w0:=by rw [hw0];exact(Below.refl _ _).alloc (Nat.le_refl _) _
 have hh0:w0.heap[w.heap.size]?=some (.cells (X9 64 []) 142 (0,0)):=by rw [hw0];exact heap_alloc_new _ _
 have HW0:=Lib.hid hw0;have HB0:=Lib.hid hB0;have HH0:=Lib.hid hh0
 clear hgs hcell hK hw0 hB0 hh0
 go_enter Tryz.func99,Tryz.ntmps99
 go_upto_region 5 with fail
 rw [<-HW0.out]
 clear HW0
 go_wp2_with fail
 go_loopg [27] 64 (fun m0 iv wr=>∃t m:Nat,m=m0/\t+m=64/\iv=.int .i64 t/\Hid (wr.heap[w.heap.size]?=some (.cells (X9 64 (jV b t)) 142 (0,0)))/\Below w.heap.size w wr)
 case atStart=>exact⟨0,64,rfl,rfl,rfl,HH0,HB0.out⟩
 case round=>
  obtain⟨t,m,rfl,htm,rfl,HWB,hbr⟩:=hrel
  by_cases hm0:m=0
  ·subst hm0
   obtain rfl:t=64:=by omega
   clear htm
   obtain⟨wo,rfl⟩:∃wo:World,wo=wr:=⟨_,rfl⟩
   have hgso:=(hbr.block gs hgl).trans HGS.out
   obtain⟨s0,s1,s2,s3,s4,s5,s6,s7,_⟩:=xC hgso
   have HBR:=Lib.hid hbr
   have HSZ:=Lib.hid hbr.size
   clear hbr hgso
   go_upto_region 14 with fail
   obtain⟨w2,hw2⟩:∃w2,w2=wo.alloc (.cells #[W32 s.a,W32 s.b,W32 s.c,W32 s.d,W32 s.e,W32 s.f,W32 s.g,W32 s.h] 144):=⟨_,rfl⟩
   rw [<-hw2]
   have HW2:Hid (w2.heap[wo.heap.size]?=some (.cells (qw b s 0).cells 144 (0,0))/\Below wo.heap.size wo w2):=Lib.hid ⟨by rw [hw2];exact heap_alloc_new _ _,by rw [hw2];exact(Below.refl _ _).alloc (Nat.le_refl _) _⟩
   clear hw2 s0 s1 s2 s3 s4 s5 s6 s7
   go_wp2_with fail
   go_loopg [78] 64 (fun m0 iv wr=>∃t m:Nat,m=m0/\t+m=64/\iv=.int .i64 t/\Hid (wr.heap[wo.heap.size]?=some (.cells (qw b s t).cells 144 (0,0)))/\Below wo.heap.size wo wr)
   case atStart=>exact⟨0,64,rfl,rfl,rfl,HW2.out.1,HW2.out.2⟩
   case round=>
    obtain⟨t,m,rfl,htm,rfl,HVB,hbw⟩:=hrel
    have HBW:=Lib.hid hbw
    clear hbw
    by_cases hm0:m=0
    ·subst hm0
     obtain rfl:t=64:=by omega
     clear htm
     obtain⟨wb,rfl⟩:∃wb:World,wb=wr:=⟨_,rfl⟩
     go_upto_region 23 with fail
     obtain⟨w3,hw3⟩:∃w3,w3=wb.alloc (.cells #[.int .u32 0,.int .u32 0,.int .u32 0,.int .u32 0,.int .u32 0,.int .u32 0,.int .u32 0,.int .u32 0] 113):=⟨_,rfl⟩
     rw [<-hw3]
     have HW3:Hid (w3.heap[wb.heap.size]?=some (.cells (X9 8 []) 113 (0,0))/\Below wb.heap.size wb w3):=Lib.hid ⟨by rw [hw3];exact heap_alloc_new _ _,by rw [hw3];exact(Below.refl _ _).alloc (Nat.le_refl _) _⟩
     clear hw3
     go_wp2_with fail
     go_loopg [155] 8 (fun m0 iv wr=>∃t m:Nat,m=m0/\t+m=8/\iv=.int .i64 t/\Hid (wr.heap[wb.heap.size]?=some (.cells (X9 8 ((zx s b).list.take t)) 113 (0,0)))/\Below wb.heap.size wb wr)
     case atStart=>exact⟨0,8,rfl,rfl,rfl,HW3.out.1,HW3.out.2⟩
     case round=>
      obtain⟨t,m,rfl,htm,rfl,HOB,hbo⟩:=hrel
      have HBO:=Lib.hid hbo
      clear hbo
      by_cases hm0:m=0
      ·subst hm0
       obtain rfl:t=8:=by omega
       clear htm
       go_wp2_with fail
       go_ret2
       have hsz:=HBW.out.size
       have hszo:=HSZ.out
       have hlt:=(Array.getElem?_eq_some_iff.1 HOB.out).1
       refine⟨_,rfl,⟨wb.heap.size,rfl,⟨by omega,hlt⟩,HOB.out⟩,HBR.out.trans ((HBW.out.trans (HBO.out.mono hsz)).mono hszo)⟩
      ·obtain⟨m,rfl⟩:∃k,m=k+1:=⟨m - 1,by omega⟩
       have ht8:t<8:=by omega
       have htl:(t:Int)<8:=by omega
       have hbWo:=HBW.out.trans (HBO.out.mono HBW.out.size)
       obtain⟨x,hx⟩:∃x,s.list.getD t 0=x:=⟨_,rfl⟩
       obtain⟨y,hy⟩:∃y,(qw b s 64).list.getD t 0=y:=⟨_,rfl⟩
       have cx:wr.cell? ⟨gs,t,none⟩=some (W32 x):=by
        rw [<-hx]
        exact zS ((hbWo.block gs (Nat.lt_of_lt_of_le hgl HSZ.out)).trans ((HBR.out.block gs hgl).trans HGS.out)) ht8
       have cy:wr.cell? ⟨wo.heap.size,t,none⟩=some (W32 y):=by
        rw [<-hy]
        exact zS ((HBO.out.block wo.heap.size (Array.getElem?_eq_some_iff.1 HVB.out).1).trans HVB.out) ht8
       have HL8:Hid ((zx s b).list.take (t+1)=(zx s b).list.take t++ [x+y]):=Lib.hid (by
        rw [<-hx,<-hy]
        exact Vz s b ht8)
       have hlen:((zx s b).list.take t).length=t:=by rw [List.length_take];exact Nat.min_eq_left (Nat.le_of_lt ht8)
       have HLEN:=Lib.hid hlen
       obtain⟨sc,sf⟩:=xS (by rw [hlen];exact ht8) HOB.out
       rw [hlen]at sc sf
       clear hx hy hlen hbWo
       go_upto_region 26 with fail
       refine wp_region_still_tail 11 (by kernel_rfl) (by kernel_rfl) ?_
       simp only [List.take_succ_cons,List.take_zero,List.drop_succ_cons,List.drop_zero]
       repeat(refine wpStill_step (fun K hK=> ?_);go_simp;(refine hK _ ?_;clear hK K))
       refine wpStill_nil ?_
       go_wp2_with fail
       go_roundg m
       case measure=>omega
       case rel=>exact⟨t+1,m,rfl,by omega,by go_num,Lib.hid (by
        rw [HL8.out]
        have h:=xR (w:=wr.drew) (x:=x+y) (by rw [HLEN.out];exact ht8) HOB.out
        rw [HLEN.out]at h
        exact h),(HBO.out.drew).setCell (p:=⟨wb.heap.size,t,none⟩) (Nat.le_refl _) _⟩
    ·obtain⟨m,rfl⟩:∃k,m=k+1:=⟨m - 1,by omega⟩
     have ht64:t<64:=by omega
     have htl:(t:Int)<64:=by omega
     have HT64:=Lib.hid htl
     obtain⟨k,hk⟩:∃k,j1p.getD t 0=k:=⟨_,rfl⟩
     obtain⟨wt,hwt⟩:∃k,(jV b 64).getD t 0=k:=⟨_,rfl⟩
     have HKW:Hid (j1p.getD t 0=k/\(jV b 64).getD t 0=wt):=Lib.hid ⟨hk,hwt⟩
     obtain⟨⟨ra,rb,rc,rd,re,rf,rg,rh⟩,hrs⟩:∃r,qw b s t=r:=⟨_,rfl⟩
     have HRS:=Lib.hid hrs
     rw [hrs]at HVB
     have HV:Hid (∀W,Below wr.heap.size wr W->W.cell? ⟨wo.heap.size,0,none⟩=some (W32 ra)/\W.cell? ⟨wo.heap.size,1,none⟩=some (W32 rb)/\W.cell? ⟨wo.heap.size,2,none⟩=some (W32 rc)/\W.cell? ⟨wo.heap.size,3,none⟩=some (W32 rd)/\W.cell? ⟨wo.heap.size,4,none⟩=some (W32 re)/\W.cell? ⟨wo.heap.size,5,none⟩=some (W32 rf)/\W.cell? ⟨wo.heap.size,6,none⟩=some (W32 rg)/\W.cell? ⟨wo.heap.size,7,none⟩=some (W32 rh)/\W.cell? ⟨0,t,none⟩=some (W32 k)/\W.cell? ⟨w.heap.size,t,none⟩=some (W32 wt)):=Lib.hid (fun W h=>by
      obtain⟨p0,p1,p2,p3,p4,p5,p6,p7,_⟩:=xC ((h.block wo.heap.size (Array.getElem?_eq_some_iff.1 HVB.out).1).trans HVB.out)
      have hbWo:Below wo.heap.size wo W:=HBW.out.trans (h.mono HBW.out.size)
      refine⟨p0,p1,p2,p3,p4,p5,p6,p7,?_,?_⟩
      ·rw [<-hk];exact(HK.out.below (HBR.out.trans (hbWo.mono HSZ.out)) HK.out.lt t ht64)
      ·rw [<-hwt];exact(hbWo.cell (p:=⟨w.heap.size,t,none⟩) (Array.getElem?_eq_some_iff.1 HWB.out).1).trans (qq HWB.out (by rw [jg];exact ht64)))
     obtain⟨p0,_,_,_,p4,_⟩:=HV.out wr (Below.refl _ _)
     clear hk hwt hrs ht64
     go_upto_region 17 with fail
     go_quiet (fail)
     clear p0 p4
     go_upto_region 18 with fail
     refine ja 26 [some 85,some 86,some 87,some 88,some 89,some 90,some 91,some 92,some 93,some 94,some 95,some 96,some 97,some 98,some 99,some 100,some 101,some 102,some 103,some 104,some 105,some 106,some 107,some 108,some 109,some 110] [[],[0],[],[],[],[2,3,4],[0,1,2,3,4,5],[],[],[8],[7,8,9],[],[11],[],[13],[11,12,13,14],[7,8,9,10,11,12,13,14,15],[0,1,2,3,4,5,6,7,8,9,10,11,12,13,14,15,16],[],[18],[18,19],[0,1,2,3,4,5,6,7,8,9,10,11,12,13,14,15,16,17,18,19,20],[],[22],[22,23],[0,1,2,3,4,5,6,7,8,9,10,11,12,13,14,15,16,17,18,19,20,21,22,23,24]]
      (fun _ _ w1=>Below wr.heap.size wr w1) (fun w1 w2=>Below w1.heap.size w1 w2)
      [.v (.pointer (some ⟨wo.heap.size,7,none⟩)),
       .v (W32 rh),
       .v (.func (.func 145) #[] #[]),
       .v (W32 re),
       .p (fun v w1=>∃q,v 4=.slice (some ⟨q,0,none⟩) 3 3/\w1.heap[q]?=some (.cells #[.int .i64 6,.int .i64 11,.int .i64 25] 3 (0,0))) (fun _ _ _ _ _ hr ⟨q,e,h⟩=>⟨q,e,(hr.block q (Array.getElem?_eq_some_iff.1 h).1).trans h⟩),
       .v (W32 (Z3 re 6 11 25)),
       .v (W32 (rh+Z3 re 6 11 25)),
       .v (W32 re),
       .v (.pointer (some ⟨wo.heap.size,5,none⟩)),
       .v (W32 rf),
       .v (W32 (re &&& rf)),
       .v (W32 re),
       .v (W32 (ofW 4294967295 ^^^ re)),
       .v (.pointer (some ⟨wo.heap.size,6,none⟩)),
       .v (W32 rg),
       .v (W32 ((ofW 4294967295 ^^^ re) &&& rg)),
       .v (W32 ((re &&& rf) ^^^ ((ofW 4294967295 ^^^ re) &&& rg))),
       .v (W32 (rh+Z3 re 6 11 25+((re &&& rf) ^^^ ((ofW 4294967295 ^^^ re) &&& rg)))),
       .v (.int .i64 (t:Int)),
       .v (.pointer (some ⟨0,t,none⟩)),
       .v (W32 k),
       .v (W32 (rh+Z3 re 6 11 25+((re &&& rf) ^^^ ((ofW 4294967295 ^^^ re) &&& rg))+k)),
       .v (.int .i64 (t:Int)),
       .v (.pointer (some ⟨w.heap.size,t,none⟩)),
       .v (W32 wt),
       .v (W32 (rh+Z3 re 6 11 25+((re &&& rf) ^^^ ((ofW 4294967295 ^^^ re) &&& rg))+k+wt))]
      (by kernel_rfl) (by kernel_rfl) rfl (fun _=>(j3 (Below.refl _ _) nq).drew) ?steps ?tail
     case steps=>
      simp only [List.take_succ_cons,List.take_zero]
      repeat' (with_reducible first|exact StepsRG.nil|refine StepsRG.cons ?_ ?_)
      all_goals(intro L v w1 hJ hL hF hD K hK;simp only [jb,Act.put,Nat.zero_add,Nat.reduceAdd,List.setIfInBounds_toArray,List.set_cons_zero,List.set_cons_succ,↓jZ,List.getD_cons_zero,List.getD_cons_succ,Nat.reduceEqDiff,↓reduceIte]at hD hK |-)
      all_goals try(obtain⟨p0,p1,p2,p3,p4,p5,p6,p7,pk,pw⟩:=HV.out _ hJ;have h64:(t:Int)<64:=HT64.out;(try simp only [hD]at hK |-);go_simp;refine hK _ _ hJ (Below.refl _ _) ?_;first|exact rfl|exact jh _)
      ·go_simp
       exact hK _ _ (hJ.alloc hJ.size _) ((Below.refl _ _).alloc (Nat.le_refl _) _) ⟨_,rfl,heap_alloc_new _ _⟩
      ·simp only [hD]at hK |-
       obtain⟨q,e4,hq⟩:∃q,v 4=_/\_:=hF 4 (by simp)
       simp only [e4]at hK
       go_simp
       refine(QN re [6,11,25] q w1 (by simp) (by simp) hq).mono ?_
       rintro e w5 ⟨rfl,hw5⟩
       rw [hw5,j6x]
       exact hK _ _ hJ (Below.refl _ _) rfl
     case tail=>
      intro v w1 hJ hF hD
      simp only [kE]at hD
      obtain⟨e0,e1,e2,e3,e5,e6,e7,e8,e9,e10,e11,e12,e13,e14,e15,e16,e17,e18,e19,e20,e21,e22,e23,e24,e25, -⟩:=hD
      simp only [List.drop_succ_cons,List.drop_zero,jb,Act.put,Nat.zero_add,Nat.reduceAdd,List.setIfInBounds_toArray,List.set_cons_zero,List.set_cons_succ]
      simp only [e25]
      have H18:=Lib.hid hJ
      clear hJ hF e0 e1 e2 e3 e5 e6 e7 e8 e9 e10 e11 e12 e13 e14 e15 e16 e17 e18 e19 e20 e21 e22 e23 e24 e25
      go_upto_region 19 with fail
      refine ja 20 [some 111,some 112,some 113,some 114,some 115,some 116,some 117,some 118,some 119,some 120,some 121,some 122,some 123,some 124,some 125,some 126,some 127,some 128,some 129,some 130] [[],[],[],[0,1,2],[],[],[5],[4,5,6],[],[],[9],[8,9,10],[4,5,6,7,8,9,10,11],[],[13],[],[15],[13,14,15,16],[4,5,6,7,8,9,10,11,12,13,14,15,16,17],[0,1,2,3,4,5,6,7,8,9,10,11,12,13,14,15,16,17,18]]
       (fun _ _ w1=>Below wr.heap.size wr w1) (fun w1 w2=>Below w1.heap.size w1 w2)
       [.v (.func (.func 145) #[] #[]),
        .v (W32 ra),
        .p (fun v w1=>∃q,v 2=.slice (some ⟨q,0,none⟩) 3 3/\w1.heap[q]?=some (.cells #[.int .i64 2,.int .i64 13,.int .i64 22] 3 (0,0))) (fun _ _ _ _ _ hr ⟨q,e,h⟩=>⟨q,e,(hr.block q (Array.getElem?_eq_some_iff.1 h).1).trans h⟩),
        .v (W32 (Z3 ra 2 13 22)),
        .v (W32 ra),
        .v (.pointer (some ⟨wo.heap.size,1,none⟩)),
        .v (W32 rb),
        .v (W32 (ra &&& rb)),
        .v (W32 ra),
        .v (.pointer (some ⟨wo.heap.size,2,none⟩)),
        .v (W32 rc),
        .v (W32 (ra &&& rc)),
        .v (W32 ((ra &&& rb) ^^^ (ra &&& rc))),
        .v (.pointer (some ⟨wo.heap.size,1,none⟩)),
        .v (W32 rb),
        .v (.pointer (some ⟨wo.heap.size,2,none⟩)),
        .v (W32 rc),
        .v (W32 (rb &&& rc)),
        .v (W32 ((ra &&& rb) ^^^ (ra &&& rc) ^^^ (rb &&& rc))),
        .v (W32 (Z3 ra 2 13 22+((ra &&& rb) ^^^ (ra &&& rc) ^^^ (rb &&& rc))))]
       (by kernel_rfl) (by kernel_rfl) rfl (fun _=>H18.out.drew) ?steps ?tail
      case steps=>
       simp only [List.take_succ_cons,List.take_zero]
       repeat' (with_reducible first|exact StepsRG.nil|refine StepsRG.cons ?_ ?_)
       all_goals(intro L v w1 hJ hL hF hD K hK;simp only [jb,Act.put,Nat.zero_add,Nat.reduceAdd,List.setIfInBounds_toArray,List.set_cons_zero,List.set_cons_succ,↓jZ,List.getD_cons_zero,List.getD_cons_succ,Nat.reduceEqDiff,↓reduceIte]at hD hK |-)
       all_goals try(obtain⟨p0,p1,p2,p3,p4,p5,p6,p7,pk,pw⟩:=HV.out _ hJ;(try simp only [hD]at hK |-);go_simp;refine hK _ _ hJ (Below.refl _ _) ?_;first|exact rfl|exact jh _)
       ·go_simp
        exact hK _ _ (hJ.alloc hJ.size _) ((Below.refl _ _).alloc (Nat.le_refl _) _) ⟨_,rfl,heap_alloc_new _ _⟩
       ·simp only [hD]at hK |-
        obtain⟨q,e2,hq⟩:∃q,v 2=_/\_:=hF 2 (by simp)
        simp only [e2]at hK
        go_simp
        refine(QN ra [2,13,22] q w1 (by simp) (by simp) hq).mono ?_
        rintro e w5 ⟨rfl,hw5⟩
        rw [hw5,j6x]
        exact hK _ _ hJ (Below.refl _ _) rfl
      case tail=>
       intro v w1 hJ hF hD
       simp only [kE]at hD
       obtain⟨e0,e1,e3,e4,e5,e6,e7,e8,e9,e10,e11,e12,e13,e14,e15,e16,e17,e18,e19, -⟩:=hD
       simp only [List.drop_succ_cons,List.drop_zero,jb,Act.put,Nat.zero_add,Nat.reduceAdd,List.setIfInBounds_toArray,List.set_cons_zero,List.set_cons_succ]
       simp only [e19]
       have H19:=Lib.hid hJ
       have hv19:=(hJ.block wo.heap.size (Array.getElem?_eq_some_iff.1 HVB.out).1).trans HVB.out
       have HV19:=Lib.hid hv19
       obtain⟨p0,p1,p2,p3,p4,p5,p6,p7,pf⟩:=xC hv19
       have pf0:=pf 0;have pf1:=pf 1;have pf2:=pf 2;have pf3:=pf 3;have pf4:=pf 4;have pf5:=pf 5;have pf6:=pf 6;have pf7:=pf 7
       clear hJ hF hv19 pf
       go_wp2_with fail
       go_roundg m
       case measure=>omega
       case rel=>exact⟨t+1,m,rfl,by omega,by go_num,Lib.hid (by
        rw [qw,HRS.out,HKW.out.1,HKW.out.2]
        exact j3k ⟨rh+Z3 re 6 11 25+((re &&& rf) ^^^ ((ofW 4294967295 ^^^ re) &&& rg))+k+wt+(Z3 ra 2 13 22+((ra &&& rb) ^^^ (ra &&& rc) ^^^ (rb &&& rc))),ra,rb,rc,rd+(rh+Z3 re 6 11 25+((re &&& rf) ^^^ ((ofW 4294967295 ^^^ re) &&& rg))+k+wt),re,rf,rg⟩ HV19.out),V0 (x:=⟨rh+Z3 re 6 11 25+((re &&& rf) ^^^ ((ofW 4294967295 ^^^ re) &&& rg))+k+wt+(Z3 ra 2 13 22+((ra &&& rb) ^^^ (ra &&& rc) ^^^ (rb &&& rc))),ra,rb,rc,rd+(rh+Z3 re 6 11 25+((re &&& rf) ^^^ ((ofW 4294967295 ^^^ re) &&& rg))+k+wt),re,rf,rg⟩) (HBW.out.trans (H19.out.mono HBW.out.size)) (Nat.le_refl _)⟩
  ·obtain⟨m,rfl⟩:∃k,m=k+1:=⟨m - 1,by omega⟩
   have ht64:t<64:=by omega
   have htl:(t:Int)<64:=by omega
   by_cases h16:t<16
   ·have hd16:(t:Int)<16:=by omega
    have hq:∀i,i<4->wr.cell? ⟨bb,bo+4*t+i,none⟩=some (U8 (gb b (4*t+i))):=fun i hi=>by
     rw [Nat.add_assoc]
     exact(hbr.cell (p:=⟨bb,bo+(4*t+i),none⟩) hbl).trans (HCB.out (4*t+i) (by omega))
    have HQ:=Lib.hid (j3t bb (bo+4*t) (64 - 4*t) (cb - 4*t) _ _ _ _ wr (by omega) (hq 0 (by omega)) (hq 1 (by omega)) (hq 2 (by omega)) (hq 3 (by omega)))
    have HNX:Hid (Qv b (jV b t)=V6 (gb b (4*t+0)) (gb b (4*t+1)) (gb b (4*t+2)) (gb b (4*t+3))):=Lib.hid (by
     unfold Qv;rw [jg,if_pos h16];rfl)
    have h4c:4*t<cb:=by omega
    have h4:(4:Int)*t<=64:=by omega
    obtain⟨sc,sf⟩:=xS (by rw [jg];exact ht64) HWB.out
    rw [jg]at sc sf
    clear hq
    go_wp2_with(go_at_call 147;refine HQ.out.mono ?_;rintro e w5 ⟨rfl,nd,rfl⟩)
    go_roundg m
    case measure=>omega
    case rel=>exact⟨t+1,m,rfl,by omega,by go_num,Lib.hid (by
     have h:=xR (w:=wr.drewN nd) (x:=V6 (gb b (4*t+0)) (gb b (4*t+1)) (gb b (4*t+2)) (gb b (4*t+3))) (by rw [jg];exact ht64) HWB.out
     rw [jg]at h
     rw [jV,HNX.out];exact h),(j3 hbr nd).setCell (p:=⟨w.heap.size,t,none⟩) (Nat.le_refl _) _⟩
   ·obtain⟨t15,q15⟩:∃k,t=k+15:=⟨t - 15,by omega⟩
    obtain⟨t2,q2⟩:∃k,t=k+2:=⟨t - 2,by omega⟩
    obtain⟨t7,q7⟩:∃k,t=k+7:=⟨t - 7,by omega⟩
    obtain⟨t16,q16⟩:∃k,t=k+16:=⟨t - 16,by omega⟩
    have W15:Value.int .i64 (IntKind.i64.wrap ((t:Int) - 15))=.int .i64 (t15:Int):=by rw [IntWalk.i64_in _ (by omega)];congr 1;omega
    have W2:Value.int .i64 (IntKind.i64.wrap ((t:Int) - 2))=.int .i64 (t2:Int):=by rw [IntWalk.i64_in _ (by omega)];congr 1;omega
    have W7:Hid (Value.int .i64 (IntKind.i64.wrap ((t:Int) - 7))=.int .i64 (t7:Int)):=Lib.hid (by rw [IntWalk.i64_in _ (by omega)];congr 1;omega)
    have W16:Hid (Value.int .i64 (IntKind.i64.wrap ((t:Int) - 16))=.int .i64 (t16:Int)):=Lib.hid (by rw [IntWalk.i64_in _ (by omega)];congr 1;omega)
    obtain⟨x,hx⟩:∃x,(jV b t).getD t15 0=x:=⟨_,rfl⟩
    obtain⟨y,hy⟩:∃x,(jV b t).getD t2 0=x:=⟨_,rfl⟩
    obtain⟨z7,hz7⟩:∃x,(jV b t).getD t7 0=x:=⟨_,rfl⟩
    obtain⟨z16,hz16⟩:∃x,(jV b t).getD t16 0=x:=⟨_,rfl⟩
    have c15:=qq HWB.out (j:=t15) (by rw [jg];omega)
    have c2:=qq HWB.out (j:=t2) (by rw [jg];omega)
    have c7:=qq HWB.out (j:=t7) (by rw [jg];omega)
    have c16:=qq HWB.out (j:=t16) (by rw [jg];omega)
    rw [hx]at c15
    rw [hy]at c2
    rw [hz7]at c7
    rw [hz16]at c16
    have hgw:=(Array.getElem?_eq_some_iff.1 HWB.out).1
    have C7:Hid (∀W nd,Below (wr.drewN nd).heap.size (wr.drewN nd) W->W.cell? ⟨w.heap.size,t7,none⟩=some (W32 z7)):=Lib.hid (fun W nd h=>(h.cell (p:=⟨w.heap.size,t7,none⟩) hgw).trans c7)
    have C16:Hid (∀W nd,Below (wr.drewN nd).heap.size (wr.drewN nd) W->W.cell? ⟨w.heap.size,t16,none⟩=some (W32 z16)):=Lib.hid (fun W nd h=>(h.cell (p:=⟨w.heap.size,t16,none⟩) hgw).trans c16)
    have HNX:Hid (Qv b (jV b t)=((jU y 17 ^^^ jU y 19) ^^^ (y / ofW 1024))+z7+((jU x 7 ^^^ jU x 18) ^^^ (x / ofW 8))+z16):=Lib.hid (by
     unfold Qv
     rw [jg,if_neg h16,show t - 2=t2 by omega,show t - 7=t7 by omega,show t - 15=t15 by omega,show t - 16=t16 by omega,hx,hy,hz7,hz16])
    have H7:Hid (t7<64):=Lib.hid (by omega)
    have H16:Hid (t16<64):=Lib.hid (by omega)
    have h15:t15<64:=by omega
    have h2:t2<64:=by omega
    have hd16:decide ((t:Int)<16)=false:=decide_eq_false (by omega)
    have HBR:=Lib.hid hbr
    clear hx hy hz7 hz16 c7 c16 hgw q15 q2 q7 q16 hbr
    go_upto_region 10 with fail
    go_quiet (fail)
    clear W15 W2 c15 c2
    go_upto_region 11 with fail
    refine ja 26 [some 47,some 48,some 49,some 50,some 51,some 52,some 53,some 54,some 55,some 56,some 57,some 58,some 59,some 60,some 61,some 62,some 63,some 64,some 65,some 66,some 67,some 68,some 69,some 70,some 71,some 72] [[],[],[],[],[1,2,3],[],[5],[1,2,3,4,5,6],[],[8],[8,9],[8,9,10],[1,2,3,4,5,6,7,8,9,10,11],[],[],[],[1,2,3,4,13,14,15],[],[17],[1,2,3,4,13,14,15,16,17,18],[1,2,3,4,5,6,7,8,9,10,11,12,13,14,15,16,17,18,19],[],[21],[21,22],[21,22,23],[1,2,3,4,5,6,7,8,9,10,11,12,13,14,15,16,17,18,19,20,21,22,23,24]]
     (fun _ _ w1=>Below (wr.drewN nq).heap.size (wr.drewN nq) w1) (fun w1 w2=>Below w1.heap.size w1 w2)
     [.v (.int .i64 (t:Int)),
      .v (.func (.func 145) #[] #[]),
      .v (W32 y),
      .p (fun v w1=>∃q,v 3=.slice (some ⟨q,0,none⟩) 2 2/\w1.heap[q]?=some (.cells #[.int .i64 17,.int .i64 19] 3 (0,0))) (fun _ _ _ _ _ hr ⟨q,e,h⟩=>⟨q,e,(hr.block q (Array.getElem?_eq_some_iff.1 h).1).trans h⟩),
      .v (W32 (jU y 17 ^^^ jU y 19)),
      .v (W32 y),
      .v (W32 (y / ofW 1024)),
      .v (W32 ((jU y 17 ^^^ jU y 19) ^^^ (y / ofW 1024))),
      .v (.int .i64 (t:Int)),
      .v (.int .i64 (t7:Int)),
      .v (.pointer (some ⟨w.heap.size,t7,none⟩)),
      .v (W32 z7),
      .v (W32 (((jU y 17 ^^^ jU y 19) ^^^ (y / ofW 1024))+z7)),
      .v (.func (.func 145) #[] #[]),
      .v (W32 x),
      .p (fun v w1=>∃q,v 15=.slice (some ⟨q,0,none⟩) 2 2/\w1.heap[q]?=some (.cells #[.int .i64 7,.int .i64 18] 3 (0,0))) (fun _ _ _ _ _ hr ⟨q,e,h⟩=>⟨q,e,(hr.block q (Array.getElem?_eq_some_iff.1 h).1).trans h⟩),
      .v (W32 (jU x 7 ^^^ jU x 18)),
      .v (W32 x),
      .v (W32 (x / ofW 8)),
      .v (W32 ((jU x 7 ^^^ jU x 18) ^^^ (x / ofW 8))),
      .v (W32 (((jU y 17 ^^^ jU y 19) ^^^ (y / ofW 1024))+z7+((jU x 7 ^^^ jU x 18) ^^^ (x / ofW 8)))),
      .v (.int .i64 (t:Int)),
      .v (.int .i64 (t16:Int)),
      .v (.pointer (some ⟨w.heap.size,t16,none⟩)),
      .v (W32 z16),
      .v (W32 (((jU y 17 ^^^ jU y 19) ^^^ (y / ofW 1024))+z7+((jU x 7 ^^^ jU x 18) ^^^ (x / ofW 8))+z16))]
     (by kernel_rfl) (by kernel_rfl) rfl (fun _=>(Below.refl _ _).drew) ?steps ?tail
    case steps=>
     simp only [List.take_succ_cons,List.take_zero]
     repeat' (with_reducible first|exact StepsRG.nil|refine StepsRG.cons ?_ ?_)
     all_goals(intro L v w1 hJ hL hF hD K hK;simp only [jb,Act.put,Nat.zero_add,Nat.reduceAdd,List.setIfInBounds_toArray,List.set_cons_zero,List.set_cons_succ,↓jZ,List.getD_cons_zero,List.getD_cons_succ,Nat.reduceEqDiff,↓reduceIte]at hD hK |-)
     all_goals(first
      |(have W:=W7.out;have h64:(t7:Int)<64:=(by have:=H7.out;omega);have c0:=C7.out _ _ hJ;have W3x:=W16.out;have h644x:(t16:Int)<64:=(by have:=H16.out;omega);have c05x:=C16.out _ _ hJ;(try simp only [hD]at hK |-);go_simp;refine hK _ _ hJ (Below.refl _ _) ?_;first|exact rfl|exact jh _)
      |((try simp only [hD]at hK |-);go_simp;exact hK _ _ (hJ.alloc hJ.size _) ((Below.refl _ _).alloc (Nat.le_refl _) _) ⟨_,rfl,heap_alloc_new _ _⟩)
      |skip)
     ·simp only [hD]at hK |-
      obtain⟨q,e3,hq⟩:∃q,v 3=_/\_:=hF 3 (by simp)
      simp only [e3]at hK
      go_simp
      refine(QN y [17,19] q w1 (by simp) (by simp) hq).mono ?_
      rintro e w5 ⟨rfl,hw5⟩
      rw [hw5,j6w]
      exact hK _ _ hJ (Below.refl _ _) rfl
     ·simp only [hD]at hK |-
      obtain⟨q,e15,hq⟩:∃q,v 15=_/\_:=hF 15 (by simp)
      simp only [e15]at hK
      go_simp
      refine(QN x [7,18] q w1 (by simp) (by simp) hq).mono ?_
      rintro e w5 ⟨rfl,hw5⟩
      rw [hw5,j6w]
      exact hK _ _ hJ (Below.refl _ _) rfl
    case tail=>
     intro v w1 hJ hF hD
     simp only [kE]at hD
     obtain⟨e0,e1,e2,e4,e5,e6,e7,e8,e9,e10,e11,e12,e13,e14,e16,e17,e18,e19,e20,e21,e22,e23,e24,e25, -⟩:=hD
     simp only [List.drop_succ_cons,List.drop_zero,jb,Act.put,Nat.zero_add,Nat.reduceAdd,List.setIfInBounds_toArray,List.set_cons_zero,List.set_cons_succ]
     have HJ:=Lib.hid hJ
     have hw2:w1.heap[w.heap.size]?=some (.cells (X9 64 (jV b t)) 142 (0,0)):=(hJ.block w.heap.size (Array.getElem?_eq_some_iff.1 HWB.out).1).trans HWB.out
     obtain⟨sc,sf⟩:=xS (by rw [jg];exact ht64) hw2
     rw [jg]at sc sf
     have HW2:=Lib.hid hw2
     simp only [e0,e25]
     clear hJ hF hw2
     go_wp2_with fail
     go_roundg m
     case measure=>omega
     case rel=>exact⟨t+1,m,rfl,by omega,by go_num,Lib.hid (by
      have h:=xR (x:=((jU y 17 ^^^ jU y 19) ^^^ (y / ofW 1024))+z7+((jU x 7 ^^^ jU x 18) ^^^ (x / ofW 8))+z16) (by rw [jg];exact ht64) HW2.out
      rw [jg]at h
      rw [jV,HNX.out];exact h),(((j3 HBR.out nq).trans (HJ.out.mono HBR.out.size)).setCell (p:=⟨w.heap.size,t,none⟩) (Nat.le_refl _) _)⟩
end Go.Proofs.YtalmmiojbmpmiaaGreatDoor
