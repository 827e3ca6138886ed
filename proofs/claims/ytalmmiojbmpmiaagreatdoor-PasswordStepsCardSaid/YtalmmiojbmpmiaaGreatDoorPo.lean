/- Digest: the walk of the reference's Compress -/
import Derived.Test.YtalmmiojbmpmiaaGreatDoorPj
import Derived.Test.YtalmmiojbmpmiaaGreatDoorPn
set_option linter.all false
set_option maxRecDepth 100000
set_option maxHeartbeats 8000000
namespace Go.Proofs.YtalmmiojbmpmiaaGreatDoor
open Go.RowKit Go.Deep
def KR(w:World):Prop:=∀j,j<64->w.cell? ⟨1,j,none⟩=some (W32 (j1p.getD j 0))
theorem KR.below{w w':World}{B:Nat}(h:KR w)(hb:Below B w w')(hB:1<B):KR w':=fun j hj=>(hb.cell (p:=⟨1,j,none⟩) hB).trans (h j hj)
theorem KR.lt{w:World}(h:KR w):1<w.heap.size:=block_lt_of_cell (h 0 (by omega))
theorem VH(w:World):Calls Tryz.prog 104 #[] w fun e w'=>∃v',e=.returned v'/\StS w' (New w w') v' yT/\Below w.heap.size w w':=by
 go_enter Tryz.func104,Tryz.ntmps104
 go_wp2_with fail
 go_ret
 exact⟨_,rfl,⟨_,rfl,⟨Nat.le_refl _,by simp⟩,heap_alloc_new _ _⟩,(Below.refl _ _).alloc (Nat.le_refl _) _⟩
theorem qo(x:UInt32)(n:Nat)(z:Int)(w:World)(hz:z=n)(h0:0<n)(h1:n<32):Calls Tryz.prog 148 #[W32 x,.int .u64 z] w fun e w'=>e=.returned (W32 (jU x n))/\w'=w:=by
 subst hz;exact j3e x n w h0 h1
theorem QI(s:St8)(b:List UInt8)(vs vb:Value)(S S':Nat->Prop)(w:World)(hK:KR w)(hs:StS w S vs s)(hb:BsS w S' vb b)(hl:b.length=64):
 Calls Tryz.prog 105 #[vs,vb] w fun e w'=>∃v',e=.returned (.tuple #[v',.int .i64 0])/\StS w' (New w w') v' (zx s b)/\Below w.heap.size w w':=by
 obtain⟨gs,rfl,_,hgs⟩:=hs
 obtain⟨bn,cb,rfl,hbc,hbc2,_,hcell⟩:=hb
 rw [hl]at hbc hcell |-
 obtain⟨bb,bo,rfl,⟨_,hbl⟩,hcell⟩:∃bb bo,bn=some ⟨bb,bo,none⟩/\(S' bb/\bb<w.heap.size)/\∀j,j<64->w.cell? ⟨bb,bo+j,none⟩=some (U8 (gb b j)):=by
  obtain⟨bb,bo,h1,h2,h3⟩:=hcell (by omega)
  exact⟨bb,bo,h1,⟨h2,block_lt_of_cell (h3 0 (by omega))⟩,h3⟩
 have HGS:=Lib.hid hgs;have HCB:=Lib.hid hcell;have HK:=Lib.hid hK
 have hgl:=(Array.getElem?_eq_some_iff.1 hgs).1
 obtain⟨w0,hw0⟩:∃w0,w0=w.alloc (.cells #[.int .u32 0,.int .u32 0,.int .u32 0,.int .u32 0,.int .u32 0,.int .u32 0,.int .u32 0,.int .u32 0,.int .u32 0,.int .u32 0,.int .u32 0,.int .u32 0,.int .u32 0,.int .u32 0,.int .u32 0,.int .u32 0,.int .u32 0,.int .u32 0,.int .u32 0,.int .u32 0,.int .u32 0,.int .u32 0,.int .u32 0,.int .u32 0,.int .u32 0,.int .u32 0,.int .u32 0,.int .u32 0,.int .u32 0,.int .u32 0,.int .u32 0,.int .u32 0,.int .u32 0,.int .u32 0,.int .u32 0,.int .u32 0,.int .u32 0,.int .u32 0,.int .u32 0,.int .u32 0,.int .u32 0,.int .u32 0,.int .u32 0,.int .u32 0,.int .u32 0,.int .u32 0,.int .u32 0,.int .u32 0,.int .u32 0,.int .u32 0,.int .u32 0,.int .u32 0,.int .u32 0,.int .u32 0,.int .u32 0,.int .u32 0,.int .u32 0,.int .u32 0,.int .u32 0,.int .u32 0,.int .u32 0,.int .u32 0,.int .u32 0,.int .u32 0] 142):=⟨_,rfl⟩
 have hB0:Below w.heap.size w w0:=by rw [hw0];exact(Below.refl _ _).alloc (Nat.le_refl _) _
 have hh0:w0.heap[w.heap.size]?=some (.cells (X9 64 []) 142 (0,0)):=by rw [hw0];exact heap_alloc_new _ _
 have HW0:=Lib.hid hw0;have HB0:=Lib.hid hB0;have HH0:=Lib.hid hh0
 clear hgs hcell hK hw0 hB0 hh0
 go_enter Tryz.func105,Tryz.ntmps105
 go_upto_region 4 with fail
 rw [<-HW0.out]
 clear HW0
 go_wp2_with fail
 go_loopg [7] 16 (fun m0 iv wr=>∃t m:Nat,m=m0/\t+m=16/\iv=.int .i64 t/\Hid (wr.heap[w.heap.size]?=some (.cells (X9 64 (jV b t)) 142 (0,0)))/\Below w.heap.size w wr)
 case atStart=>exact⟨0,16,rfl,rfl,rfl,HH0.out,HB0.out⟩
 case round=>
  obtain⟨t,m,rfl,htm,rfl,HWB,hbr⟩:=hrel
  by_cases hm0:m=0
  ·subst hm0
   obtain rfl:t=16:=by omega
   clear htm
   obtain⟨wo,rfl⟩:∃wo:World,wo=wr:=⟨_,rfl⟩
   have HBR:=Lib.hid hbr
   clear hbr
   go_wp2_with fail
   go_loopg [8] 48 (fun m0 iv wr=>∃t m:Nat,m=m0/\t+m=64/\16<=t/\iv=.int .i64 t/\Hid (wr.heap[w.heap.size]?=some (.cells (X9 64 (jV b t)) 142 (0,0)))/\Below w.heap.size w wr)
   case atStart=>exact⟨16,48,rfl,rfl,by omega,rfl,HWB.out,HBR.out⟩
   case round=>
    obtain⟨t,m,rfl,htm,h16,rfl,HWB,hbr⟩:=hrel
    by_cases hm0:m=0
    ·subst hm0
     obtain rfl:t=64:=by omega
     clear htm h16
     obtain⟨wq,rfl⟩:∃wq:World,wq=wr:=⟨_,rfl⟩
     obtain⟨s0,s1,s2,s3,s4,s5,s6,s7,_⟩:=xC ((hbr.block gs hgl).trans HGS.out)
     have HBR:=Lib.hid hbr
     clear hbr
     go_upto_region 13 with fail
     go_quiet (fail)
     clear s0 s1 s2 s3 s4 s5 s6 s7
     go_wp2_with fail
     go_loopg [11,12,13,14,15,16,17,18,19] 64 (fun m0 va vb vc vd ve vf vg vh iv wr=>∃(t m:Nat) (ra rb rc rd re rf rg rh:UInt32),m=m0/\t+m=64/\iv=.int .i64 t/\va=W32 ra/\vb=W32 rb/\vc=W32 rc/\vd=W32 rd/\ve=W32 re/\vf=W32 rf/\vg=W32 rg/\vh=W32 rh/\Hid (qw b s t=⟨ra,rb,rc,rd,re,rf,rg,rh⟩)/\Below wq.heap.size wq wr)
     case atStart=>exact⟨0,64,_,_,_,_,_,_,_,_,rfl,rfl,rfl,rfl,rfl,rfl,rfl,rfl,rfl,rfl,rfl,Lib.hid rfl,j3 (Below.refl _ _) nq⟩
     case round=>
      obtain⟨t,m,ra,rb,rc,rd,re,rf,rg,rh,rfl,htm,rfl,rfl,rfl,rfl,rfl,rfl,rfl,rfl,rfl,HRS,hbz⟩:=hrel
      have HBQ:=Lib.hid hbz
      have HBZ:Hid (Below w.heap.size w wr):=Lib.hid (HBR.out.trans (hbz.mono HBR.out.size))
      clear hbz
      by_cases hm0:m=0
      ·subst hm0
       obtain rfl:t=64:=by omega
       clear htm
       have CS:Hid (∀W,Below wr.heap.size wr W->W.cell? ⟨gs,0,none⟩=some (W32 s.a)/\W.cell? ⟨gs,1,none⟩=some (W32 s.b)/\W.cell? ⟨gs,2,none⟩=some (W32 s.c)/\W.cell? ⟨gs,3,none⟩=some (W32 s.d)/\W.cell? ⟨gs,4,none⟩=some (W32 s.e)/\W.cell? ⟨gs,5,none⟩=some (W32 s.f)/\W.cell? ⟨gs,6,none⟩=some (W32 s.g)/\W.cell? ⟨gs,7,none⟩=some (W32 s.h)/\∀o,W.frozen? ⟨gs,o,none⟩=false):=Lib.hid (fun W h=>xC (((HBZ.out.trans (h.mono HBZ.out.size)).block gs hgl).trans HGS.out))
       go_upto_region 20 with fail
       refine ja 40 [some 197,some 198,some 199,some 200,some 201,some 202,some 203,some 204,some 205,some 206,some 207,some 208,some 209,some 210,some 211,some 212,some 213,some 214,some 215,some 216,some 217,some 218,some 219,some 220,some 221,some 222,some 223,some 224,some 225,some 226,some 227,some 228,some 229,some 230,some 231,some 232,some 233,some 234,some 235,some 236] [[],[0],[0,1],[],[0,1,2,3],[],[5],[5,6],[],[5,6,7,8],[],[10],[10,11],[],[10,11,12,13],[],[15],[15,16],[],[15,16,17,18],[],[20],[20,21],[],[20,21,22,23],[],[25],[25,26],[],[25,26,27,28],[],[30],[30,31],[],[30,31,32,33],[],[35],[35,36],[],[35,36,37,38]]
        (fun _ _ w1=>Below wr.heap.size wr w1) (fun w1 w2=>Below w1.heap.size w1 w2)
        [.v (.slice (some ⟨gs,0,none⟩) 8 8),
         .v (.pointer (some ⟨gs,0,none⟩)),
         .v (W32 s.a),
         .v (W32 ra),
         .v (W32 (s.a+ra)),
         .v (.slice (some ⟨gs,0,none⟩) 8 8),
         .v (.pointer (some ⟨gs,1,none⟩)),
         .v (W32 s.b),
         .v (W32 rb),
         .v (W32 (s.b+rb)),
         .v (.slice (some ⟨gs,0,none⟩) 8 8),
         .v (.pointer (some ⟨gs,2,none⟩)),
         .v (W32 s.c),
         .v (W32 rc),
         .v (W32 (s.c+rc)),
         .v (.slice (some ⟨gs,0,none⟩) 8 8),
         .v (.pointer (some ⟨gs,3,none⟩)),
         .v (W32 s.d),
         .v (W32 rd),
         .v (W32 (s.d+rd)),
         .v (.slice (some ⟨gs,0,none⟩) 8 8),
         .v (.pointer (some ⟨gs,4,none⟩)),
         .v (W32 s.e),
         .v (W32 re),
         .v (W32 (s.e+re)),
         .v (.slice (some ⟨gs,0,none⟩) 8 8),
         .v (.pointer (some ⟨gs,5,none⟩)),
         .v (W32 s.f),
         .v (W32 rf),
         .v (W32 (s.f+rf)),
         .v (.slice (some ⟨gs,0,none⟩) 8 8),
         .v (.pointer (some ⟨gs,6,none⟩)),
         .v (W32 s.g),
         .v (W32 rg),
         .v (W32 (s.g+rg)),
         .v (.slice (some ⟨gs,0,none⟩) 8 8),
         .v (.pointer (some ⟨gs,7,none⟩)),
         .v (W32 s.h),
         .v (W32 rh),
         .v (W32 (s.h+rh))]
        (by kernel_rfl) (by kernel_rfl) rfl (fun _=>(Below.refl _ _).drew) ?steps ?tail
       case steps=>
        simp only [List.take_succ_cons,List.take_zero]
        repeat' (with_reducible first|exact StepsRG.nil|refine StepsRG.cons ?_ ?_)
        all_goals(intro L v w1 hJ hL hF hD K hK;simp only [jb,Act.put,Nat.zero_add,Nat.reduceAdd,List.setIfInBounds_toArray,List.set_cons_zero,List.set_cons_succ,↓jZ,List.getD_cons_zero,List.getD_cons_succ,Nat.reduceEqDiff,↓reduceIte]at hD hK |-)
        all_goals try(obtain⟨c0,c1,c2,c3,c4,c5,c6,c7,_⟩:=CS.out _ hJ;(try simp only [hD]at hK |-);go_simp;refine hK _ _ hJ (Below.refl _ _) ?_;first|exact rfl|exact jh _|exact yF _)
       case tail=>
        intro v w1 hJ hF hD
        simp only [kE]at hD
        obtain⟨e0,e1,e2,e3,e4,e5,e6,e7,e8,e9,e10,e11,e12,e13,e14,e15,e16,e17,e18,e19,e20,e21,e22,e23,e24,e25,e26,e27,e28,e29,e30,e31,e32,e33,e34,e35,e36,e37,e38,e39, -⟩:=hD
        simp only [List.drop_succ_cons,List.drop_zero,jb,Act.put,Nat.zero_add,Nat.reduceAdd,List.setIfInBounds_toArray,List.set_cons_zero,List.set_cons_succ]
        simp only [e4,e9,e14,e19,e24,e29,e34,e39]
        have H20:=Lib.hid hJ
        clear hJ hF
        go_wp2_with fail
        go_ret2
        refine⟨_,rfl,⟨_,rfl,⟨Nat.le_trans HBZ.out.size H20.out.size,by simp⟩,?_⟩,(HBZ.out.trans (H20.out.mono HBZ.out.size)).alloc (Nat.le_trans HBZ.out.size H20.out.size) _⟩
        unfold zx
        rw [HRS.out]
        exact heap_alloc_new _ _
      ·obtain⟨m,rfl⟩:∃k,m=k+1:=⟨m - 1,by omega⟩
       have ht64:t<64:=by omega
       have htl:(t:Int)<64:=by omega
       obtain⟨k,hk⟩:∃k,j1p.getD t 0=k:=⟨_,rfl⟩
       obtain⟨wt,hwt⟩:∃k,(jV b 64).getD t 0=k:=⟨_,rfl⟩
       have CK:Hid (∀W,Below wr.heap.size wr W->W.cell? ⟨1,t,none⟩=some (W32 k)):=Lib.hid (fun W h=>by
        rw [<-hk];exact(HK.out.below (HBZ.out.trans (h.mono HBZ.out.size)) HK.out.lt t ht64))
       have CW:Hid (∀W,Below wr.heap.size wr W->W.cell? ⟨w.heap.size,t,none⟩=some (W32 wt)):=Lib.hid (fun W h=>by
        rw [<-hwt]
        exact((HBQ.out.trans (h.mono HBQ.out.size)).cell (p:=⟨w.heap.size,t,none⟩) (Array.getElem?_eq_some_iff.1 HWB.out).1).trans (qq HWB.out (by rw [jg];exact ht64)))
       have HN:Hid (qw b s (t+1)=j83 ⟨ra,rb,rc,rd,re,rf,rg,rh⟩ k wt):=Lib.hid (by rw [qw,HRS.out,hk,hwt])
       have HT64:=Lib.hid htl
       clear hk hwt
       go_upto_region 17 with fail
       refine ja 27 [some 138,some 139,some 140,some 141,some 142,some 143,some 144,some 145,some 146,some 147,some 148,some 149,some 150,some 151,some 152,some 153,some 154,some 155,some 156,some 157,some 158,some 159,some 160,some 161,some 162,some 163,some 164] [[],[],[1],[],[1,2,3],[1,2,3,4],[],[1,2,3,4,6],[1,2,3,4,5,6,7],[0,1,2,3,4,5,6,7,8],[],[],[10,11],[],[13],[],[13,14,15],[10,11,12,13,14,15,16],[0,1,2,3,4,5,6,7,8,9,10,11,12,13,14,15,16,17],[],[19],[19,20],[0,1,2,3,4,5,6,7,8,9,10,11,12,13,14,15,16,17,18,19,20,21],[],[23],[23,24],[0,1,2,3,4,5,6,7,8,9,10,11,12,13,14,15,16,17,18,19,20,21,22,23,24,25]]
        (fun _ _ w1=>Below wr.heap.size wr w1) (fun w1 w2=>Below w1.heap.size w1 w2)
        [.v (W32 rh),
         .v (W32 re),
         .v (W32 (jU re 6)),
         .v (W32 re),
         .v (W32 (jU re 11)),
         .v (W32 (jU re 6 ^^^ jU re 11)),
         .v (W32 re),
         .v (W32 (jU re 25)),
         .v (W32 (jU re 6 ^^^ jU re 11 ^^^ jU re 25)),
         .v (W32 (rh+(jU re 6 ^^^ jU re 11 ^^^ jU re 25))),
         .v (W32 re),
         .v (W32 rf),
         .v (W32 (re &&& rf)),
         .v (W32 re),
         .v (W32 (ofW 4294967295 ^^^ re)),
         .v (W32 rg),
         .v (W32 ((ofW 4294967295 ^^^ re) &&& rg)),
         .v (W32 ((re &&& rf) ^^^ ((ofW 4294967295 ^^^ re) &&& rg))),
         .v (W32 (rh+(jU re 6 ^^^ jU re 11 ^^^ jU re 25)+((re &&& rf) ^^^ ((ofW 4294967295 ^^^ re) &&& rg)))),
         .v (.int .i64 (t:Int)),
         .v (.pointer (some ⟨1,t,none⟩)),
         .v (W32 k),
         .v (W32 (rh+(jU re 6 ^^^ jU re 11 ^^^ jU re 25)+((re &&& rf) ^^^ ((ofW 4294967295 ^^^ re) &&& rg))+k)),
         .v (.int .i64 (t:Int)),
         .v (.pointer (some ⟨w.heap.size,t,none⟩)),
         .v (W32 wt),
         .v (W32 (rh+(jU re 6 ^^^ jU re 11 ^^^ jU re 25)+((re &&& rf) ^^^ ((ofW 4294967295 ^^^ re) &&& rg))+k+wt))]
        (by kernel_rfl) (by kernel_rfl) rfl (fun _=>(Below.refl _ _).drew) ?steps ?tail
       case steps=>
        simp only [List.take_succ_cons,List.take_zero]
        repeat' (with_reducible first|exact StepsRG.nil|refine StepsRG.cons ?_ ?_)
        all_goals(intro L v w1 hJ hL hF hD K hK;simp only [jb,Act.put,Nat.zero_add,Nat.reduceAdd,List.setIfInBounds_toArray,List.set_cons_zero,List.set_cons_succ,↓jZ,List.getD_cons_zero,List.getD_cons_succ,Nat.reduceEqDiff,↓reduceIte]at hD hK |-)
        all_goals try(have h64:(t:Int)<64:=HT64.out;have c0:=CK.out _ hJ;have c02x:=CW.out _ hJ;(try simp only [hD]at hK |-);go_simp;refine hK _ _ hJ (Below.refl _ _) ?_;first|exact rfl|exact jh _|exact yF _)
        ·simp only [hD]at hK |-
         go_simp
         refine(qo re 6 _ _ (by rfl) (by omega) (by omega)).mono ?_
         rintro e w5 ⟨rfl,hw5⟩
         rw [hw5]
         exact hK _ _ hJ (Below.refl _ _) rfl
        ·simp only [hD]at hK |-
         go_simp
         refine(qo re 11 _ _ (by rfl) (by omega) (by omega)).mono ?_
         rintro e w5 ⟨rfl,hw5⟩
         rw [hw5]
         exact hK _ _ hJ (Below.refl _ _) rfl
        ·simp only [hD]at hK |-
         go_simp
         refine(qo re 25 _ _ (by rfl) (by omega) (by omega)).mono ?_
         rintro e w5 ⟨rfl,hw5⟩
         rw [hw5]
         exact hK _ _ hJ (Below.refl _ _) rfl
       case tail=>
        intro v w1 hJ hF hD
        simp only [kE]at hD
        obtain⟨e0,e1,e2,e3,e4,e5,e6,e7,e8,e9,e10,e11,e12,e13,e14,e15,e16,e17,e18,e19,e20,e21,e22,e23,e24,e25,e26, -⟩:=hD
        simp only [List.drop_succ_cons,List.drop_zero,jb,Act.put,Nat.zero_add,Nat.reduceAdd,List.setIfInBounds_toArray,List.set_cons_zero,List.set_cons_succ]
        simp only [e26]
        have H17:=Lib.hid hJ
        clear hJ hF e0 e1 e2 e3 e4 e5 e6 e7 e8 e9 e10 e11 e12 e13 e14 e15 e16 e17 e18 e19 e20 e21 e22 e23 e24 e25 e26
        go_wp2_with(first
         |(go_at_call 148;refine(qo ra 2 _ _ (by rfl) (by omega) (by omega)).mono ?_;rintro e w5 ⟨rfl,hw5⟩;rw [hw5];clear hw5 w5)
         |(go_at_call 148;refine(qo ra 13 _ _ (by rfl) (by omega) (by omega)).mono ?_;rintro e w5 ⟨rfl,hw5⟩;rw [hw5];clear hw5 w5)
         |(go_at_call 148;refine(qo ra 22 _ _ (by rfl) (by omega) (by omega)).mono ?_;rintro e w5 ⟨rfl,hw5⟩;rw [hw5];clear hw5 w5))
        go_roundg m
        case measure=>omega
        case rel=>exact⟨t+1,m,_,_,_,_,_,_,_,_,rfl,by omega,by go_num,rfl,rfl,rfl,rfl,rfl,rfl,rfl,rfl,HN,HBQ.out.trans (H17.out.mono HBQ.out.size)⟩
    ·obtain⟨m,rfl⟩:∃k,m=k+1:=⟨m - 1,by omega⟩
     have ht64:t<64:=by omega
     have htl:(t:Int)<64:=by omega
     obtain⟨t15,q15⟩:∃k,t=k+15:=⟨t - 15,by omega⟩
     obtain⟨t2,q2⟩:∃k,t=k+2:=⟨t - 2,by omega⟩
     obtain⟨t7,q7⟩:∃k,t=k+7:=⟨t - 7,by omega⟩
     obtain⟨t16,q16⟩:∃k,t=k+16:=⟨t - 16,by omega⟩
     have W15:Value.int .i64 (IntKind.i64.wrap ((t:Int) - 15))=.int .i64 (t15:Int):=by rw [IntWalk.i64_in _ (by omega)];congr 1;omega
     have W2:Value.int .i64 (IntKind.i64.wrap ((t:Int) - 2))=.int .i64 (t2:Int):=by rw [IntWalk.i64_in _ (by omega)];congr 1;omega
     have W7:Hid (Value.int .i64 (IntKind.i64.wrap ((t:Int) - 7))=.int .i64 (t7:Int)):=Lib.hid (by rw [IntWalk.i64_in _ (by omega)];congr 1;omega)
     have W16:Hid (Value.int .i64 (IntKind.i64.wrap ((t:Int) - 16))=.int .i64 (t16:Int)):=Lib.hid (by rw [IntWalk.i64_in _ (by omega)];congr 1;omega)
     obtain⟨x,hx⟩:∃x,(jV b t).getD t15 0=x:=⟨_,rfl⟩
     obtain⟨y,hy⟩:∃x,(jV b t).getD t2 0=x:=⟨_,rfl⟩
     obtain⟨z7,hz7⟩:∃x,(jV b t).getD t7 0=x:=⟨_,rfl⟩
     obtain⟨z16,hz16⟩:∃x,(jV b t).getD t16 0=x:=⟨_,rfl⟩
     have c15:=qq HWB.out (j:=t15) (by rw [jg];omega)
     have c2:=qq HWB.out (j:=t2) (by rw [jg];omega)
     have c7:=qq HWB.out (j:=t7) (by rw [jg];omega)
     have c16:=qq HWB.out (j:=t16) (by rw [jg];omega)
     rw [hx]at c15
     rw [hy]at c2
     rw [hz7]at c7
     rw [hz16]at c16
     have HNX:Hid (Qv b (jV b t)=((jU y 17 ^^^ jU y 19) ^^^ (y / ofW 1024))+z7+((jU x 7 ^^^ jU x 18) ^^^ (x / ofW 8))+z16):=Lib.hid (by
      unfold Qv
      rw [jg,if_neg (by omega),show t - 2=t2 by omega,show t - 7=t7 by omega,show t - 15=t15 by omega,show t - 16=t16 by omega,hx,hy,hz7,hz16])
     have h15:(t15:Int)<64:=by omega
     have h2:(t2:Int)<64:=by omega
     have H7:Hid ((t7:Int)<64):=Lib.hid (by omega)
     have H16:Hid ((t16:Int)<64):=Lib.hid (by omega)
     have hgw:=(Array.getElem?_eq_some_iff.1 HWB.out).1
     have C7:Hid (∀W,Below wr.heap.size wr W->W.cell? ⟨w.heap.size,t7,none⟩=some (W32 z7)):=Lib.hid (fun W h=>(h.cell (p:=⟨w.heap.size,t7,none⟩) hgw).trans c7)
     have C16:Hid (∀W,Below wr.heap.size wr W->W.cell? ⟨w.heap.size,t16,none⟩=some (W32 z16)):=Lib.hid (fun W h=>(h.cell (p:=⟨w.heap.size,t16,none⟩) hgw).trans c16)
     have HBR:=Lib.hid hbr
     clear hx hy hz7 hz16 q15 q2 q7 q16 hbr c7 c16 hgw
     go_upto_region 11 with fail
     go_quiet (fail)
     clear c15 c2 W15 W2
     go_upto_region 12 with fail
     refine ja 28 [some 81,some 82,some 83,some 84,some 85,some 86,some 87,some 88,some 89,some 90,some 91,some 92,some 93,some 94,some 95,some 96,some 97,some 98,some 99,some 100,some 101,some 102,some 103,some 104,some 105,some 106,some 107,some 108] [[],[],[1],[],[1,2,3],[1,2,3,4],[],[6],[1,2,3,4,5,6,7],[],[9],[9,10],[9,10,11],[1,2,3,4,5,6,7,8,9,10,11,12],[],[1,2,3,4,14],[],[1,2,3,4,14,15,16],[1,2,3,4,14,15,16,17],[],[19],[1,2,3,4,14,15,16,17,18,19,20],[1,2,3,4,5,6,7,8,9,10,11,12,13,14,15,16,17,18,19,20,21],[],[23],[23,24],[23,24,25],[1,2,3,4,5,6,7,8,9,10,11,12,13,14,15,16,17,18,19,20,21,22,23,24,25,26]]
      (fun _ _ w1=>Below wr.heap.size wr w1) (fun w1 w2=>Below w1.heap.size w1 w2)
      [.v (.int .i64 (t:Int)),
       .v (W32 y),
       .v (W32 (jU y 17)),
       .v (W32 y),
       .v (W32 (jU y 19)),
       .v (W32 (jU y 17 ^^^ jU y 19)),
       .v (W32 y),
       .v (W32 (y / ofW 1024)),
       .v (W32 ((jU y 17 ^^^ jU y 19) ^^^ (y / ofW 1024))),
       .v (.int .i64 (t:Int)),
       .v (.int .i64 (t7:Int)),
       .v (.pointer (some ⟨w.heap.size,t7,none⟩)),
       .v (W32 z7),
       .v (W32 (((jU y 17 ^^^ jU y 19) ^^^ (y / ofW 1024))+z7)),
       .v (W32 x),
       .v (W32 (jU x 7)),
       .v (W32 x),
       .v (W32 (jU x 18)),
       .v (W32 (jU x 7 ^^^ jU x 18)),
       .v (W32 x),
       .v (W32 (x / ofW 8)),
       .v (W32 ((jU x 7 ^^^ jU x 18) ^^^ (x / ofW 8))),
       .v (W32 (((jU y 17 ^^^ jU y 19) ^^^ (y / ofW 1024))+z7+((jU x 7 ^^^ jU x 18) ^^^ (x / ofW 8)))),
       .v (.int .i64 (t:Int)),
       .v (.int .i64 (t16:Int)),
       .v (.pointer (some ⟨w.heap.size,t16,none⟩)),
       .v (W32 z16),
       .v (W32 (((jU y 17 ^^^ jU y 19) ^^^ (y / ofW 1024))+z7+((jU x 7 ^^^ jU x 18) ^^^ (x / ofW 8))+z16))]
      (by kernel_rfl) (by kernel_rfl) rfl (fun _=>(j3 (Below.refl _ _) nq).drew) ?steps ?tail
     case steps=>
      simp only [List.take_succ_cons,List.take_zero]
      repeat' (with_reducible first|exact StepsRG.nil|refine StepsRG.cons ?_ ?_)
      all_goals(intro L v w1 hJ hL hF hD K hK;simp only [jb,Act.put,Nat.zero_add,Nat.reduceAdd,List.setIfInBounds_toArray,List.set_cons_zero,List.set_cons_succ,↓jZ,List.getD_cons_zero,List.getD_cons_succ,Nat.reduceEqDiff,↓reduceIte]at hD hK |-)
      all_goals try(have W:=W7.out;have h64:(t7:Int)<64:=(by have:=H7.out;omega);have c0:=C7.out _ hJ;have W3x:=W16.out;have h644x:(t16:Int)<64:=(by have:=H16.out;omega);have c05x:=C16.out _ hJ;(try simp only [hD]at hK |-);go_simp;refine hK _ _ hJ (Below.refl _ _) ?_;first|exact rfl|exact jh _|exact yF _)
      ·simp only [hD]at hK |-
       go_simp
       refine(qo y 17 _ _ (by rfl) (by omega) (by omega)).mono ?_
       rintro e w5 ⟨rfl,hw5⟩
       rw [hw5]
       exact hK _ _ hJ (Below.refl _ _) rfl
      ·simp only [hD]at hK |-
       go_simp
       refine(qo y 19 _ _ (by rfl) (by omega) (by omega)).mono ?_
       rintro e w5 ⟨rfl,hw5⟩
       rw [hw5]
       exact hK _ _ hJ (Below.refl _ _) rfl
      ·simp only [hD]at hK |-
       go_simp
       refine(qo x 7 _ _ (by rfl) (by omega) (by omega)).mono ?_
       rintro e w5 ⟨rfl,hw5⟩
       rw [hw5]
       exact hK _ _ hJ (Below.refl _ _) rfl
      ·simp only [hD]at hK |-
       go_simp
       refine(qo x 18 _ _ (by rfl) (by omega) (by omega)).mono ?_
       rintro e w5 ⟨rfl,hw5⟩
       rw [hw5]
       exact hK _ _ hJ (Below.refl _ _) rfl
     case tail=>
      intro v w1 hJ hF hD
      simp only [kE]at hD
      obtain⟨e0,e1,e2,e3,e4,e5,e6,e7,e8,e9,e10,e11,e12,e13,e14,e15,e16,e17,e18,e19,e20,e21,e22,e23,e24,e25,e26,e27, -⟩:=hD
      simp only [List.drop_succ_cons,List.drop_zero,jb,Act.put,Nat.zero_add,Nat.reduceAdd,List.setIfInBounds_toArray,List.set_cons_zero,List.set_cons_succ]
      have HJ:=Lib.hid hJ
      have hw2:w1.heap[w.heap.size]?=some (.cells (X9 64 (jV b t)) 142 (0,0)):=(hJ.block w.heap.size (Array.getElem?_eq_some_iff.1 HWB.out).1).trans HWB.out
      obtain⟨sc,sf⟩:=xS (by rw [jg];exact ht64) hw2
      rw [jg]at sc sf
      have HW2:=Lib.hid hw2
      simp only [e0,e27]
      clear hJ hF hw2
      go_wp2_with fail
      go_roundg m
      case measure=>omega
      case rel=>exact⟨t+1,m,rfl,by omega,by omega,by go_num,Lib.hid (by
       have h:=xR (x:=((jU y 17 ^^^ jU y 19) ^^^ (y / ofW 1024))+z7+((jU x 7 ^^^ jU x 18) ^^^ (x / ofW 8))+z16) (by rw [jg];exact ht64) HW2.out
       rw [jg]at h
       rw [jV,HNX.out];exact h),(HBR.out.trans (HJ.out.mono HBR.out.size)).setCell (p:=⟨w.heap.size,t,none⟩) (Nat.le_refl _) _⟩
  ·obtain⟨m,rfl⟩:∃k,m=k+1:=⟨m - 1,by omega⟩
   have ht16:t<16:=by omega
   have htl:(t:Int)<16:=by omega
   have hq:∀i,i<4->wr.cell? ⟨bb,bo+(4*t+i),none⟩=some (U8 (gb b (4*t+i))):=fun i hi=>(hbr.cell (p:=⟨bb,bo+(4*t+i),none⟩) hbl).trans (HCB.out (4*t+i) (by omega))
   obtain⟨b0,hb0⟩:∃x,gb b (4*t)=x:=⟨_,rfl⟩
   obtain⟨b1,hb1⟩:∃x,gb b (4*t+1)=x:=⟨_,rfl⟩
   obtain⟨b2,hb2⟩:∃x,gb b (4*t+2)=x:=⟨_,rfl⟩
   obtain⟨b3,hb3⟩:∃x,gb b (4*t+3)=x:=⟨_,rfl⟩
   have hbb:=Nat.lt_of_lt_of_le hbl hbr.size
   have C0:Hid (∀W,Below wr.heap.size wr W->W.cell? ⟨bb,bo+4*t,none⟩=some (U8 b0)):=Lib.hid (fun W h=>by rw [<-hb0];exact(h.cell (p:=⟨bb,bo+4*t,none⟩) hbb).trans (hq 0 (by omega)))
   have C1:Hid (∀W,Below wr.heap.size wr W->W.cell? ⟨bb,bo+(4*t+1),none⟩=some (U8 b1)):=Lib.hid (fun W h=>by rw [<-hb1];exact(h.cell (p:=⟨bb,bo+(4*t+1),none⟩) hbb).trans (hq 1 (by omega)))
   have C2:Hid (∀W,Below wr.heap.size wr W->W.cell? ⟨bb,bo+(4*t+2),none⟩=some (U8 b2)):=Lib.hid (fun W h=>by rw [<-hb2];exact(h.cell (p:=⟨bb,bo+(4*t+2),none⟩) hbb).trans (hq 2 (by omega)))
   have C3:Hid (∀W,Below wr.heap.size wr W->W.cell? ⟨bb,bo+(4*t+3),none⟩=some (U8 b3)):=Lib.hid (fun W h=>by rw [<-hb3];exact(h.cell (p:=⟨bb,bo+(4*t+3),none⟩) hbb).trans (hq 3 (by omega)))
   have HNX:Hid (Qv b (jV b t)=V6 b0 b1 b2 b3):=Lib.hid (by
    unfold Qv;rw [jg,if_pos ht16,<-hb0,<-hb1,<-hb2,<-hb3];rfl)
   have HT:=Lib.hid htl
   have ht64:t<64:=by omega
   have ut:(t:Int)<64:=by omega
   have HBR:=Lib.hid hbr
   clear hq hbr hb0 hb1 hb2 hb3 hbb
   go_upto_region 7 with fail
   refine ja 34 [some 34,some 35,some 36,some 37,some 38,some 39,some 40,some 41,some 42,some 43,some 44,some 45,some 46,some 47,some 48,some 49,some 50,some 51,some 52,some 53,some 54,some 55,some 56,some 57,some 58,some 59,some 60,some 61,some 62,some 63,some 64,some 65,some 66,some 67] [[],[],[],[2],[1,2,3],[1,2,3,4],[1,2,3,4,5],[1,2,3,4,5,6],[],[],[9],[9,10],[8,9,10,11],[8,9,10,11,12],[8,9,10,11,12,13],[8,9,10,11,12,13,14],[1,2,3,4,5,6,7,8,9,10,11,12,13,14,15],[],[],[18],[18,19],[17,18,19,20],[17,18,19,20,21],[17,18,19,20,21,22],[17,18,19,20,21,22,23],[1,2,3,4,5,6,7,8,9,10,11,12,13,14,15,16,17,18,19,20,21,22,23,24],[],[],[27],[27,28],[26,27,28,29],[26,27,28,29,30],[26,27,28,29,30,31],[1,2,3,4,5,6,7,8,9,10,11,12,13,14,15,16,17,18,19,20,21,22,23,24,25,26,27,28,29,30,31,32]]
    (fun _ _ w1=>Below wr.heap.size wr w1) (fun w1 w2=>Below w1.heap.size w1 w2)
    [.v (.int .i64 (t:Int)),
     .v (.slice (some ⟨bb,bo,none⟩) 64 cb),
     .v (.int .i64 (t:Int)),
     .v (.int .i64 (4*(t:Int))),
     .v (.pointer (some ⟨bb,bo+4*t,none⟩)),
     .v (U8 b0),
     .v (W32 (ofW (bv b0))),
     .v (W32 (ofW (wv (ofW (bv b0))*16777216))),
     .v (.slice (some ⟨bb,bo,none⟩) 64 cb),
     .v (.int .i64 (t:Int)),
     .v (.int .i64 (4*(t:Int))),
     .v (.int .i64 (4*(t:Int)+1)),
     .v (.pointer (some ⟨bb,bo+(4*t+1),none⟩)),
     .v (U8 b1),
     .v (W32 (ofW (bv b1))),
     .v (W32 (ofW (wv (ofW (bv b1))*65536))),
     .v (W32 (ofW (wv (ofW (bv b0))*16777216) ||| ofW (wv (ofW (bv b1))*65536))),
     .v (.slice (some ⟨bb,bo,none⟩) 64 cb),
     .v (.int .i64 (t:Int)),
     .v (.int .i64 (4*(t:Int))),
     .v (.int .i64 (4*(t:Int)+2)),
     .v (.pointer (some ⟨bb,bo+(4*t+2),none⟩)),
     .v (U8 b2),
     .v (W32 (ofW (bv b2))),
     .v (W32 (ofW (wv (ofW (bv b2))*256))),
     .v (W32 (ofW (wv (ofW (bv b0))*16777216) ||| ofW (wv (ofW (bv b1))*65536) ||| ofW (wv (ofW (bv b2))*256))),
     .v (.slice (some ⟨bb,bo,none⟩) 64 cb),
     .v (.int .i64 (t:Int)),
     .v (.int .i64 (4*(t:Int))),
     .v (.int .i64 (4*(t:Int)+3)),
     .v (.pointer (some ⟨bb,bo+(4*t+3),none⟩)),
     .v (U8 b3),
     .v (W32 (ofW (bv b3))),
     .v (W32 (ofW (wv (ofW (bv b0))*16777216) ||| ofW (wv (ofW (bv b1))*65536) ||| ofW (wv (ofW (bv b2))*256) ||| ofW (bv b3)))]
    (by kernel_rfl) (by kernel_rfl) rfl (fun _=>(Below.refl _ _).drew) ?steps ?tail
   case steps=>
    simp only [List.take_succ_cons,List.take_zero]
    repeat' (with_reducible first|exact StepsRG.nil|refine StepsRG.cons ?_ ?_)
    all_goals(intro L v w1 hJ hL hF hD K hK;simp only [jb,Act.put,Nat.zero_add,Nat.reduceAdd,List.setIfInBounds_toArray,List.set_cons_zero,List.set_cons_succ,↓jZ,List.getD_cons_zero,List.getD_cons_succ,Nat.reduceEqDiff,↓reduceIte]at hD hK |-)
    all_goals try(have u0:0<=4*(t:Int):=(by have:=HT.out;omega);have u1:4*(t:Int)<64:=(by have:=HT.out;omega);have c0:=C0.out _ hJ;have u03x:0<=4*(t:Int)+1:=(by have:=HT.out;omega);have u14x:4*(t:Int)+1<64:=(by have:=HT.out;omega);have c05x:=C1.out _ hJ;have u06x:0<=4*(t:Int)+2:=(by have:=HT.out;omega);have u17x:4*(t:Int)+2<64:=(by have:=HT.out;omega);have c08x:=C2.out _ hJ;have u09x:0<=4*(t:Int)+3:=(by have:=HT.out;omega);have u110x:4*(t:Int)+3<64:=(by have:=HT.out;omega);have c011x:=C3.out _ hJ;(try simp only [hD]at hK |-);go_simp;refine hK _ _ hJ (Below.refl _ _) ?_;first|exact rfl|exact jh _|exact yF _|exact Ua (by have:=HT.out;omega))
   case tail=>
    intro v w1 hJ hF hD
    simp only [kE]at hD
    obtain⟨e0,e1,e2,e3,e4,e5,e6,e7,e8,e9,e10,e11,e12,e13,e14,e15,e16,e17,e18,e19,e20,e21,e22,e23,e24,e25,e26,e27,e28,e29,e30,e31,e32,e33, -⟩:=hD
    simp only [List.drop_succ_cons,List.drop_zero,jb,Act.put,Nat.zero_add,Nat.reduceAdd,List.setIfInBounds_toArray,List.set_cons_zero,List.set_cons_succ]
    have HJ:=Lib.hid hJ
    have hw2:w1.heap[w.heap.size]?=some (.cells (X9 64 (jV b t)) 142 (0,0)):=(hJ.block w.heap.size (Array.getElem?_eq_some_iff.1 HWB.out).1).trans HWB.out
    obtain⟨sc,sf⟩:=xS (by rw [jg];exact ht64) hw2
    rw [jg]at sc sf
    have HW2:=Lib.hid hw2
    simp only [e0,e33]
    clear hJ hF hw2
    go_wp2_with fail
    go_roundg m
    case measure=>omega
    case rel=>exact⟨t+1,m,rfl,by omega,by go_num,Lib.hid (by
     have h:=xR (x:=V6 b0 b1 b2 b3) (by rw [jg];exact ht64) HW2.out
     rw [jg]at h
     rw [jV,HNX.out];exact h),(HBR.out.trans (HJ.out.mono HBR.out.size)).setCell (p:=⟨w.heap.size,t,none⟩) (Nat.le_refl _) _⟩
end Go.Proofs.YtalmmiojbmpmiaaGreatDoor
