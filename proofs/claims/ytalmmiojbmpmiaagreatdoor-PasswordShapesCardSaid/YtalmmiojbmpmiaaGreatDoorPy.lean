/- Digest: the walk of the reference's Compress -/
import Derived.Test.YtalmmiojbmpmiaaGreatDoorPx
set_option linter.all false
set_option maxRecDepth 100000
set_option maxHeartbeats 8000000
namespace Go.Proofs.YtalmmiojbmpmiaaGreatDoor
open Go.RowKit Go.Deep
def KR(w:World):Prop:=∀j,j<64->w.cell? ⟨1,j,none⟩=some (W32 (YN.getD j 0))
theorem KR.below{w w':World}{B:Nat}(h:KR w)(hb:Below B w w')(hB:1<B):KR w':=fun j hj=>(hb.cell (p:=⟨1,j,none⟩) hB).trans (h j hj)
theorem KR.lt{w:World}(h:KR w):1<w.heap.size:=block_lt_of_cell (h 0 (by omega))
theorem Zw(w:World):Calls Tryz.prog 104 #[] w fun e w'=>∃v',e=.returned v'/\StS w' (New w w') v' xV/\Below w.heap.size w w':=by
 go_enter Tryz.func104,Tryz.ntmps104
 go_wp2_with fail
 go_ret
 exact⟨_,rfl,⟨_,rfl,⟨Nat.le_refl _,by simp⟩,heap_alloc_new _ _⟩,(Below.refl _ _).alloc (Nat.le_refl _) _⟩
theorem kr(x:UInt32)(n:Nat)(z:Int)(w:World)(hz:z=n)(h0:0<n)(h1:n<32):Calls Tryz.prog 148 #[W32 x,.int .u64 z] w fun e w'=>e=.returned (W32 (j8 x n))/\w'=w:=by
 subst hz;exact UL x n w h0 h1
theorem Jn(s:St8)(b:List UInt8)(vs vb:Value)(S S':Nat->Prop)(w:World)(hK:KR w)(hs:StS w S vs s)(hb:BsS w S' vb b)(hl:b.length=64):
 Calls Tryz.prog 105 #[vs,vb] w fun e w'=>∃v',e=.returned (.tuple #[v',.int .i64 0])/\StS w' (New w w') v' (qQ s b)/\Below w.heap.size w w':=by
 obtain⟨gs,rfl,_,hgs⟩:=hs
 obtain⟨bn,cb,rfl,hbc,hbc2,_,hcell⟩:=hb
 rw [hl]at hbc hcell |-
 obtain⟨bb,bo,rfl,⟨_,hbl⟩,hcell⟩:∃bb bo,bn=some ⟨bb,bo,none⟩/\(S' bb/\bb<w.heap.size)/\∀j,j<64->w.cell? ⟨bb,bo+j,none⟩=some (U8 (gb b j)):=by
  obtain⟨bb,bo,h1,h2,h3⟩:=hcell (by omega)
  exact⟨bb,bo,h1,⟨h2,block_lt_of_cell (h3 0 (by omega))⟩,h3⟩
 have HGS:=Lib.hid hgs;have HCB:=Lib.hid hcell;have HK:=Lib.hid hK
 have hgl:=(Array.getElem?_eq_some_iff.1 hgs).1
 obtain⟨w0,hw0⟩:∃w0,w0=w.alloc (.cells #[.int .u32 0,.int .u32 0,.int .u32 0,.int .u32 0,.int .u32 0,.int .u32 0,.int .u32 0,.int .u32 0,.int .u32 0,.int .u32 0,.int .u32 0,.int .u32 0,.int .u32 0,.int .u32 0,.int .u32 0,.int .u32 0,.int .u32 0,.int .u32 0,.int .u32 0,.int .u32 0,.int .u32 0,.int .u32 0,.int .u32 0,.int .u32 0,.int .u32 0,.int .u32 0,.int .u32 0,.int .u32 0,.int .u32 0,.int .u32 0,.int .u32 0,.int .u32 0,.int .u32 0,.int .u32 0,.int .u32 0,.int .u32 0,.int .u32 0,.int .u32 0,.int .u32 0,.int .u32 0,.int .u32 0,.int .u32 0,.int .u32 0,.int .u32 0,.int .u32 0,.int .u32 0,.int .u32 0,.int .u32 0,.int .u32 0,.int .u32 0,.int .u32 0,.int .u32 0,.int .u32 0,.int .u32 0,.int .u32 0,.int .u32 0,.int .u32 0,.int .u32 0,.int .u32 0,.int .u32 0,.int .u32 0,.int .u32 0,.int .u32 0,.int .u32 0] 142):=⟨_,rfl⟩
 have hB0:Below w.heap.size w w0:=by rw [hw0];exact(Below.refl _ _).alloc (Nat.le_refl _) _
 have hh0:w0.heap[w.heap.size]?=some (.cells (JB 64 []) 142 (0,0)):=by rw [hw0];exact heap_alloc_new _ _
 have HW0:=Lib.hid hw0;have HB0:=Lib.hid hB0;have HH0:=Lib.hid hh0
 clear hgs hcell hK hw0 hB0 hh0
 go_enter Tryz.func105,Tryz.ntmps105
 go_upto_region 4 with fail
 rw [<-HW0.out]
 clear HW0
 go_wp2_with fail
 go_loopg [7] 16 (fun m0 iv wr=>∃t m:Nat,m=m0/\t+m=16/\iv=.int .i64 t/\Hid (wr.heap[w.heap.size]?=some (.cells (JB 64 (jB b t)) 142 (0,0)))/\Below w.heap.size w wr)
 case atStart=>exact⟨0,16,rfl,rfl,rfl,HH0.out,HB0.out⟩
 case round=>
  obtain⟨t,m,rfl,htm,rfl,HWB,hbr⟩:=hrel
  by_cases hm0:m=0
  ·subst hm0
   obtain rfl:t=16:=by omega
   clear htm
   obtain⟨wo,rfl⟩:∃wo:World,wo=wr:=⟨_,rfl⟩
   have HBR:=Lib.hid hbr
   clear hbr
   go_wp2_with fail
   go_loopg [8] 48 (fun m0 iv wr=>∃t m:Nat,m=m0/\t+m=64/\16<=t/\iv=.int .i64 t/\Hid (wr.heap[w.heap.size]?=some (.cells (JB 64 (jB b t)) 142 (0,0)))/\Below w.heap.size w wr)
   case atStart=>exact⟨16,48,rfl,rfl,by omega,rfl,HWB.out,HBR.out⟩
   case round=>
    obtain⟨t,m,rfl,htm,h16,rfl,HWB,hbr⟩:=hrel
    by_cases hm0:m=0
    ·subst hm0
     obtain rfl:t=64:=by omega
     clear htm h16
     obtain⟨wq,rfl⟩:∃wq:World,wq=wr:=⟨_,rfl⟩
     obtain⟨s0,s1,s2,s3,s4,s5,s6,s7,_⟩:=qj ((hbr.block gs hgl).trans HGS.out)
     have HBR:=Lib.hid hbr
     clear hbr
     go_upto_region 13 with fail
     go_quiet (fail)
     clear s0 s1 s2 s3 s4 s5 s6 s7
     go_wp2_with fail
     go_loopg [11,12,13,14,15,16,17,18,19] 64 (fun m0 va vb vc vd ve vf vg vh iv wr=>∃(t m:Nat) (ra rb rc rd re rf rg rh:UInt32),m=m0/\t+m=64/\iv=.int .i64 t/\va=W32 ra/\vb=W32 rb/\vc=W32 rc/\vd=W32 rd/\ve=W32 re/\vf=W32 rf/\vg=W32 rg/\vh=W32 rh/\Hid (kB b s t=⟨ra,rb,rc,rd,re,rf,rg,rh⟩)/\Below wq.heap.size wq wr)
     case atStart=>exact⟨0,64,_,_,_,_,_,_,_,_,rfl,rfl,rfl,rfl,rfl,rfl,rfl,rfl,rfl,rfl,rfl,Lib.hid rfl,jh (Below.refl _ _) nq⟩
     case round=>
      obtain⟨t,m,ra,rb,rc,rd,re,rf,rg,rh,rfl,htm,rfl,rfl,rfl,rfl,rfl,rfl,rfl,rfl,rfl,HRS,hbz⟩:=hrel
      have HBQ:=Lib.hid hbz
      have HBZ:Hid (Below w.heap.size w wr):=Lib.hid (HBR.out.trans (hbz.mono HBR.out.size))
      clear hbz
      by_cases hm0:m=0
      ·subst hm0
       obtain rfl:t=64:=by omega
       clear htm
       have CS:Hid (∀W,Below wr.heap.size wr W->W.cell? ⟨gs,0,none⟩=some (W32 s.a)/\W.cell? ⟨gs,1,none⟩=some (W32 s.b)/\W.cell? ⟨gs,2,none⟩=some (W32 s.c)/\W.cell? ⟨gs,3,none⟩=some (W32 s.d)/\W.cell? ⟨gs,4,none⟩=some (W32 s.e)/\W.cell? ⟨gs,5,none⟩=some (W32 s.f)/\W.cell? ⟨gs,6,none⟩=some (W32 s.g)/\W.cell? ⟨gs,7,none⟩=some (W32 s.h)/\∀o,W.frozen? ⟨gs,o,none⟩=false):=Lib.hid (fun W h=>qj (((HBZ.out.trans (h.mono HBZ.out.size)).block gs hgl).trans HGS.out))
       go_upto_region 20 with fail
       refine jg 40 [some 197,some 198,some 199,some 200,some 201,some 202,some 203,some 204,some 205,some 206,some 207,some 208,some 209,some 210,some 211,some 212,some 213,some 214,some 215,some 216,some 217,some 218,some 219,some 220,some 221,some 222,some 223,some 224,some 225,some 226,some 227,some 228,some 229,some 230,some 231,some 232,some 233,some 234,some 235,some 236] [[],[0],[0,1],[],[0,1,2,3],[],[5],[5,6],[],[5,6,7,8],[],[10],[10,11],[],[10,11,12,13],[],[15],[15,16],[],[15,16,17,18],[],[20],[20,21],[],[20,21,22,23],[],[25],[25,26],[],[25,26,27,28],[],[30],[30,31],[],[30,31,32,33],[],[35],[35,36],[],[35,36,37,38]]
        (fun _ _ w1=>Below wr.heap.size wr w1) (fun w1 w2=>Below w1.heap.size w1 w2)
        [fun v _=>v 0=.slice (some ⟨gs,0,none⟩) 8 8,
         fun v _=>v 1=.pointer (some ⟨gs,0,none⟩),
         fun v _=>v 2=W32 s.a,
         fun v _=>v 3=W32 ra,
         fun v _=>v 4=W32 (s.a+ra),
         fun v _=>v 5=.slice (some ⟨gs,0,none⟩) 8 8,
         fun v _=>v 6=.pointer (some ⟨gs,1,none⟩),
         fun v _=>v 7=W32 s.b,
         fun v _=>v 8=W32 rb,
         fun v _=>v 9=W32 (s.b+rb),
         fun v _=>v 10=.slice (some ⟨gs,0,none⟩) 8 8,
         fun v _=>v 11=.pointer (some ⟨gs,2,none⟩),
         fun v _=>v 12=W32 s.c,
         fun v _=>v 13=W32 rc,
         fun v _=>v 14=W32 (s.c+rc),
         fun v _=>v 15=.slice (some ⟨gs,0,none⟩) 8 8,
         fun v _=>v 16=.pointer (some ⟨gs,3,none⟩),
         fun v _=>v 17=W32 s.d,
         fun v _=>v 18=W32 rd,
         fun v _=>v 19=W32 (s.d+rd),
         fun v _=>v 20=.slice (some ⟨gs,0,none⟩) 8 8,
         fun v _=>v 21=.pointer (some ⟨gs,4,none⟩),
         fun v _=>v 22=W32 s.e,
         fun v _=>v 23=W32 re,
         fun v _=>v 24=W32 (s.e+re),
         fun v _=>v 25=.slice (some ⟨gs,0,none⟩) 8 8,
         fun v _=>v 26=.pointer (some ⟨gs,5,none⟩),
         fun v _=>v 27=W32 s.f,
         fun v _=>v 28=W32 rf,
         fun v _=>v 29=W32 (s.f+rf),
         fun v _=>v 30=.slice (some ⟨gs,0,none⟩) 8 8,
         fun v _=>v 31=.pointer (some ⟨gs,6,none⟩),
         fun v _=>v 32=W32 s.g,
         fun v _=>v 33=W32 rg,
         fun v _=>v 34=W32 (s.g+rg),
         fun v _=>v 35=.slice (some ⟨gs,0,none⟩) 8 8,
         fun v _=>v 36=.pointer (some ⟨gs,7,none⟩),
         fun v _=>v 37=W32 s.h,
         fun v _=>v 38=W32 rh,
         fun v _=>v 39=W32 (s.h+rh)]
        (by kernel_rfl) (by kernel_rfl) (fun _=>(Below.refl _ _).drew) ?st ?steps ?tail
       case st=>
        exact(.cons (fun _ _ _ _ _ _ h=>h) (.cons (fun _ _ _ _ _ _ h=>h) (.cons (fun _ _ _ _ _ _ h=>h) (.cons (fun _ _ _ _ _ _ h=>h) (.cons (fun _ _ _ _ _ _ h=>h) (.cons (fun _ _ _ _ _ _ h=>h) (.cons (fun _ _ _ _ _ _ h=>h) (.cons (fun _ _ _ _ _ _ h=>h) (.cons (fun _ _ _ _ _ _ h=>h) (.cons (fun _ _ _ _ _ _ h=>h) (.cons (fun _ _ _ _ _ _ h=>h) (.cons (fun _ _ _ _ _ _ h=>h) (.cons (fun _ _ _ _ _ _ h=>h) (.cons (fun _ _ _ _ _ _ h=>h) (.cons (fun _ _ _ _ _ _ h=>h) (.cons (fun _ _ _ _ _ _ h=>h) (.cons (fun _ _ _ _ _ _ h=>h) (.cons (fun _ _ _ _ _ _ h=>h) (.cons (fun _ _ _ _ _ _ h=>h) (.cons (fun _ _ _ _ _ _ h=>h) (.cons (fun _ _ _ _ _ _ h=>h) (.cons (fun _ _ _ _ _ _ h=>h) (.cons (fun _ _ _ _ _ _ h=>h) (.cons (fun _ _ _ _ _ _ h=>h) (.cons (fun _ _ _ _ _ _ h=>h) (.cons (fun _ _ _ _ _ _ h=>h) (.cons (fun _ _ _ _ _ _ h=>h) (.cons (fun _ _ _ _ _ _ h=>h) (.cons (fun _ _ _ _ _ _ h=>h) (.cons (fun _ _ _ _ _ _ h=>h) (.cons (fun _ _ _ _ _ _ h=>h) (.cons (fun _ _ _ _ _ _ h=>h) (.cons (fun _ _ _ _ _ _ h=>h) (.cons (fun _ _ _ _ _ _ h=>h) (.cons (fun _ _ _ _ _ _ h=>h) (.cons (fun _ _ _ _ _ _ h=>h) (.cons (fun _ _ _ _ _ _ h=>h) (.cons (fun _ _ _ _ _ _ h=>h) (.cons (fun _ _ _ _ _ _ h=>h) (.cons (fun _ _ _ _ _ _ h=>h) .nil))))))))))))))))))))))))))))))))))))))))
       case steps=>
        simp only [List.take_succ_cons,List.take_zero]
        refine(.cons ?_ (.cons ?_ (.cons ?_ (.cons ?_ (.cons ?_ (.cons ?_ (.cons ?_ (.cons ?_ (.cons ?_ (.cons ?_ (.cons ?_ (.cons ?_ (.cons ?_ (.cons ?_ (.cons ?_ (.cons ?_ (.cons ?_ (.cons ?_ (.cons ?_ (.cons ?_ (.cons ?_ (.cons ?_ (.cons ?_ (.cons ?_ (.cons ?_ (.cons ?_ (.cons ?_ (.cons ?_ (.cons ?_ (.cons ?_ (.cons ?_ (.cons ?_ (.cons ?_ (.cons ?_ (.cons ?_ (.cons ?_ (.cons ?_ (.cons ?_ (.cons ?_ (.cons ?_ .nil))))))))))))))))))))))))))))))))))))))))
        all_goals(intro L v w1 hJ hL hA hF K hK;simp only [ja,Act.put,Nat.zero_add,Nat.reduceAdd,List.setIfInBounds_toArray,List.set_cons_zero,List.set_cons_succ]at hK |-)
        ·go_simp
         refine hK _ _ hJ (Below.refl _ _) ?_
         first|exact rfl|exact j3 _|exact j4 _
        ·have e0:v 0=.slice (some ⟨gs,0,none⟩) 8 8:=hF 0 (hA 0 (by simp))
         simp only [e0]at hK
         go_simp
         refine hK _ _ hJ (Below.refl _ _) ?_
         first|exact rfl|exact j3 _|exact j4 _
        ·have e1:v 1=.pointer (some ⟨gs,0,none⟩):=hF 1 (hA 1 (by simp))
         obtain⟨c0,c1,c2,c3,c4,c5,c6,c7,_⟩:=CS.out _ hJ
         simp only [e1]at hK
         go_simp
         refine hK _ _ hJ (Below.refl _ _) ?_
         first|exact rfl|exact j3 _|exact j4 _
        ·go_simp
         refine hK _ _ hJ (Below.refl _ _) ?_
         first|exact rfl|exact j3 _|exact j4 _
        ·have e2:v 2=W32 s.a:=hF 2 (hA 2 (by simp))
         have e3:v 3=W32 ra:=hF 3 (hA 3 (by simp))
         simp only [e2,e3]at hK
         go_simp
         refine hK _ _ hJ (Below.refl _ _) ?_
         first|exact rfl|exact j3 _|exact j4 _
        ·go_simp
         refine hK _ _ hJ (Below.refl _ _) ?_
         first|exact rfl|exact j3 _|exact j4 _
        ·have e5:v 5=.slice (some ⟨gs,0,none⟩) 8 8:=hF 5 (hA 5 (by simp))
         simp only [e5]at hK
         go_simp
         refine hK _ _ hJ (Below.refl _ _) ?_
         first|exact rfl|exact j3 _|exact j4 _
        ·have e6:v 6=.pointer (some ⟨gs,1,none⟩):=hF 6 (hA 6 (by simp))
         obtain⟨c0,c1,c2,c3,c4,c5,c6,c7,_⟩:=CS.out _ hJ
         simp only [e6]at hK
         go_simp
         refine hK _ _ hJ (Below.refl _ _) ?_
         first|exact rfl|exact j3 _|exact j4 _
        ·go_simp
         refine hK _ _ hJ (Below.refl _ _) ?_
         first|exact rfl|exact j3 _|exact j4 _
        ·have e7:v 7=W32 s.b:=hF 7 (hA 7 (by simp))
         have e8:v 8=W32 rb:=hF 8 (hA 8 (by simp))
         simp only [e7,e8]at hK
         go_simp
         refine hK _ _ hJ (Below.refl _ _) ?_
         first|exact rfl|exact j3 _|exact j4 _
        ·go_simp
         refine hK _ _ hJ (Below.refl _ _) ?_
         first|exact rfl|exact j3 _|exact j4 _
        ·have e10:v 10=.slice (some ⟨gs,0,none⟩) 8 8:=hF 10 (hA 10 (by simp))
         simp only [e10]at hK
         go_simp
         refine hK _ _ hJ (Below.refl _ _) ?_
         first|exact rfl|exact j3 _|exact j4 _
        ·have e11:v 11=.pointer (some ⟨gs,2,none⟩):=hF 11 (hA 11 (by simp))
         obtain⟨c0,c1,c2,c3,c4,c5,c6,c7,_⟩:=CS.out _ hJ
         simp only [e11]at hK
         go_simp
         refine hK _ _ hJ (Below.refl _ _) ?_
         first|exact rfl|exact j3 _|exact j4 _
        ·go_simp
         refine hK _ _ hJ (Below.refl _ _) ?_
         first|exact rfl|exact j3 _|exact j4 _
        ·have e12:v 12=W32 s.c:=hF 12 (hA 12 (by simp))
         have e13:v 13=W32 rc:=hF 13 (hA 13 (by simp))
         simp only [e12,e13]at hK
         go_simp
         refine hK _ _ hJ (Below.refl _ _) ?_
         first|exact rfl|exact j3 _|exact j4 _
        ·go_simp
         refine hK _ _ hJ (Below.refl _ _) ?_
         first|exact rfl|exact j3 _|exact j4 _
        ·have e15:v 15=.slice (some ⟨gs,0,none⟩) 8 8:=hF 15 (hA 15 (by simp))
         simp only [e15]at hK
         go_simp
         refine hK _ _ hJ (Below.refl _ _) ?_
         first|exact rfl|exact j3 _|exact j4 _
        ·have e16:v 16=.pointer (some ⟨gs,3,none⟩):=hF 16 (hA 16 (by simp))
         obtain⟨c0,c1,c2,c3,c4,c5,c6,c7,_⟩:=CS.out _ hJ
         simp only [e16]at hK
         go_simp
         refine hK _ _ hJ (Below.refl _ _) ?_
         first|exact rfl|exact j3 _|exact j4 _
        ·go_simp
         refine hK _ _ hJ (Below.refl _ _) ?_
         first|exact rfl|exact j3 _|exact j4 _
        ·have e17:v 17=W32 s.d:=hF 17 (hA 17 (by simp))
         have e18:v 18=W32 rd:=hF 18 (hA 18 (by simp))
         simp only [e17,e18]at hK
         go_simp
         refine hK _ _ hJ (Below.refl _ _) ?_
         first|exact rfl|exact j3 _|exact j4 _
        ·go_simp
         refine hK _ _ hJ (Below.refl _ _) ?_
         first|exact rfl|exact j3 _|exact j4 _
        ·have e20:v 20=.slice (some ⟨gs,0,none⟩) 8 8:=hF 20 (hA 20 (by simp))
         simp only [e20]at hK
         go_simp
         refine hK _ _ hJ (Below.refl _ _) ?_
         first|exact rfl|exact j3 _|exact j4 _
        ·have e21:v 21=.pointer (some ⟨gs,4,none⟩):=hF 21 (hA 21 (by simp))
         obtain⟨c0,c1,c2,c3,c4,c5,c6,c7,_⟩:=CS.out _ hJ
         simp only [e21]at hK
         go_simp
         refine hK _ _ hJ (Below.refl _ _) ?_
         first|exact rfl|exact j3 _|exact j4 _
        ·go_simp
         refine hK _ _ hJ (Below.refl _ _) ?_
         first|exact rfl|exact j3 _|exact j4 _
        ·have e22:v 22=W32 s.e:=hF 22 (hA 22 (by simp))
         have e23:v 23=W32 re:=hF 23 (hA 23 (by simp))
         simp only [e22,e23]at hK
         go_simp
         refine hK _ _ hJ (Below.refl _ _) ?_
         first|exact rfl|exact j3 _|exact j4 _
        ·go_simp
         refine hK _ _ hJ (Below.refl _ _) ?_
         first|exact rfl|exact j3 _|exact j4 _
        ·have e25:v 25=.slice (some ⟨gs,0,none⟩) 8 8:=hF 25 (hA 25 (by simp))
         simp only [e25]at hK
         go_simp
         refine hK _ _ hJ (Below.refl _ _) ?_
         first|exact rfl|exact j3 _|exact j4 _
        ·have e26:v 26=.pointer (some ⟨gs,5,none⟩):=hF 26 (hA 26 (by simp))
         obtain⟨c0,c1,c2,c3,c4,c5,c6,c7,_⟩:=CS.out _ hJ
         simp only [e26]at hK
         go_simp
         refine hK _ _ hJ (Below.refl _ _) ?_
         first|exact rfl|exact j3 _|exact j4 _
        ·go_simp
         refine hK _ _ hJ (Below.refl _ _) ?_
         first|exact rfl|exact j3 _|exact j4 _
        ·have e27:v 27=W32 s.f:=hF 27 (hA 27 (by simp))
         have e28:v 28=W32 rf:=hF 28 (hA 28 (by simp))
         simp only [e27,e28]at hK
         go_simp
         refine hK _ _ hJ (Below.refl _ _) ?_
         first|exact rfl|exact j3 _|exact j4 _
        ·go_simp
         refine hK _ _ hJ (Below.refl _ _) ?_
         first|exact rfl|exact j3 _|exact j4 _
        ·have e30:v 30=.slice (some ⟨gs,0,none⟩) 8 8:=hF 30 (hA 30 (by simp))
         simp only [e30]at hK
         go_simp
         refine hK _ _ hJ (Below.refl _ _) ?_
         first|exact rfl|exact j3 _|exact j4 _
        ·have e31:v 31=.pointer (some ⟨gs,6,none⟩):=hF 31 (hA 31 (by simp))
         obtain⟨c0,c1,c2,c3,c4,c5,c6,c7,_⟩:=CS.out _ hJ
         simp only [e31]at hK
         go_simp
         refine hK _ _ hJ (Below.refl _ _) ?_
         first|exact rfl|exact j3 _|exact j4 _
        ·go_simp
         refine hK _ _ hJ (Below.refl _ _) ?_
         first|exact rfl|exact j3 _|exact j4 _
        ·have e32:v 32=W32 s.g:=hF 32 (hA 32 (by simp))
         have e33:v 33=W32 rg:=hF 33 (hA 33 (by simp))
         simp only [e32,e33]at hK
         go_simp
         refine hK _ _ hJ (Below.refl _ _) ?_
         first|exact rfl|exact j3 _|exact j4 _
        ·go_simp
         refine hK _ _ hJ (Below.refl _ _) ?_
         first|exact rfl|exact j3 _|exact j4 _
        ·have e35:v 35=.slice (some ⟨gs,0,none⟩) 8 8:=hF 35 (hA 35 (by simp))
         simp only [e35]at hK
         go_simp
         refine hK _ _ hJ (Below.refl _ _) ?_
         first|exact rfl|exact j3 _|exact j4 _
        ·have e36:v 36=.pointer (some ⟨gs,7,none⟩):=hF 36 (hA 36 (by simp))
         obtain⟨c0,c1,c2,c3,c4,c5,c6,c7,_⟩:=CS.out _ hJ
         simp only [e36]at hK
         go_simp
         refine hK _ _ hJ (Below.refl _ _) ?_
         first|exact rfl|exact j3 _|exact j4 _
        ·go_simp
         refine hK _ _ hJ (Below.refl _ _) ?_
         first|exact rfl|exact j3 _|exact j4 _
        ·have e37:v 37=W32 s.h:=hF 37 (hA 37 (by simp))
         have e38:v 38=W32 rh:=hF 38 (hA 38 (by simp))
         simp only [e37,e38]at hK
         go_simp
         refine hK _ _ hJ (Below.refl _ _) ?_
         first|exact rfl|exact j3 _|exact j4 _
       case tail=>
        intro v w1 hJ hF
        have e0:v 0=.slice (some ⟨gs,0,none⟩) 8 8:=hF 0 (by simp)
        have e1:v 1=.pointer (some ⟨gs,0,none⟩):=hF 1 (by simp)
        have e2:v 2=W32 s.a:=hF 2 (by simp)
        have e3:v 3=W32 ra:=hF 3 (by simp)
        have e4:v 4=W32 (s.a+ra):=hF 4 (by simp)
        have e5:v 5=.slice (some ⟨gs,0,none⟩) 8 8:=hF 5 (by simp)
        have e6:v 6=.pointer (some ⟨gs,1,none⟩):=hF 6 (by simp)
        have e7:v 7=W32 s.b:=hF 7 (by simp)
        have e8:v 8=W32 rb:=hF 8 (by simp)
        have e9:v 9=W32 (s.b+rb):=hF 9 (by simp)
        have e10:v 10=.slice (some ⟨gs,0,none⟩) 8 8:=hF 10 (by simp)
        have e11:v 11=.pointer (some ⟨gs,2,none⟩):=hF 11 (by simp)
        have e12:v 12=W32 s.c:=hF 12 (by simp)
        have e13:v 13=W32 rc:=hF 13 (by simp)
        have e14:v 14=W32 (s.c+rc):=hF 14 (by simp)
        have e15:v 15=.slice (some ⟨gs,0,none⟩) 8 8:=hF 15 (by simp)
        have e16:v 16=.pointer (some ⟨gs,3,none⟩):=hF 16 (by simp)
        have e17:v 17=W32 s.d:=hF 17 (by simp)
        have e18:v 18=W32 rd:=hF 18 (by simp)
        have e19:v 19=W32 (s.d+rd):=hF 19 (by simp)
        have e20:v 20=.slice (some ⟨gs,0,none⟩) 8 8:=hF 20 (by simp)
        have e21:v 21=.pointer (some ⟨gs,4,none⟩):=hF 21 (by simp)
        have e22:v 22=W32 s.e:=hF 22 (by simp)
        have e23:v 23=W32 re:=hF 23 (by simp)
        have e24:v 24=W32 (s.e+re):=hF 24 (by simp)
        have e25:v 25=.slice (some ⟨gs,0,none⟩) 8 8:=hF 25 (by simp)
        have e26:v 26=.pointer (some ⟨gs,5,none⟩):=hF 26 (by simp)
        have e27:v 27=W32 s.f:=hF 27 (by simp)
        have e28:v 28=W32 rf:=hF 28 (by simp)
        have e29:v 29=W32 (s.f+rf):=hF 29 (by simp)
        have e30:v 30=.slice (some ⟨gs,0,none⟩) 8 8:=hF 30 (by simp)
        have e31:v 31=.pointer (some ⟨gs,6,none⟩):=hF 31 (by simp)
        have e32:v 32=W32 s.g:=hF 32 (by simp)
        have e33:v 33=W32 rg:=hF 33 (by simp)
        have e34:v 34=W32 (s.g+rg):=hF 34 (by simp)
        have e35:v 35=.slice (some ⟨gs,0,none⟩) 8 8:=hF 35 (by simp)
        have e36:v 36=.pointer (some ⟨gs,7,none⟩):=hF 36 (by simp)
        have e37:v 37=W32 s.h:=hF 37 (by simp)
        have e38:v 38=W32 rh:=hF 38 (by simp)
        have e39:v 39=W32 (s.h+rh):=hF 39 (by simp)
        simp only [List.drop_succ_cons,List.drop_zero,ja,Act.put,Nat.zero_add,Nat.reduceAdd,List.setIfInBounds_toArray,List.set_cons_zero,List.set_cons_succ]
        simp only [e4,e9,e14,e19,e24,e29,e34,e39]
        have H20:=Lib.hid hJ
        clear hJ hF
        go_wp2_with fail
        go_ret2
        refine⟨_,rfl,⟨_,rfl,⟨Nat.le_trans HBZ.out.size H20.out.size,by simp⟩,?_⟩,(HBZ.out.trans (H20.out.mono HBZ.out.size)).alloc (Nat.le_trans HBZ.out.size H20.out.size) _⟩
        unfold qQ
        rw [HRS.out]
        exact heap_alloc_new _ _
      ·obtain⟨m,rfl⟩:∃k,m=k+1:=⟨m - 1,by omega⟩
       have ht64:t<64:=by omega
       have htl:(t:Int)<64:=by omega
       obtain⟨k,hk⟩:∃k,YN.getD t 0=k:=⟨_,rfl⟩
       obtain⟨wt,hwt⟩:∃k,(jB b 64).getD t 0=k:=⟨_,rfl⟩
       have CK:Hid (∀W,Below wr.heap.size wr W->W.cell? ⟨1,t,none⟩=some (W32 k)):=Lib.hid (fun W h=>by
        rw [<-hk];exact(HK.out.below (HBZ.out.trans (h.mono HBZ.out.size)) HK.out.lt t ht64))
       have CW:Hid (∀W,Below wr.heap.size wr W->W.cell? ⟨w.heap.size,t,none⟩=some (W32 wt)):=Lib.hid (fun W h=>by
        rw [<-hwt]
        exact((HBQ.out.trans (h.mono HBQ.out.size)).cell (p:=⟨w.heap.size,t,none⟩) (Array.getElem?_eq_some_iff.1 HWB.out).1).trans (ku HWB.out (by rw [j7];exact ht64)))
       have HN:Hid (kB b s (t+1)=j28 ⟨ra,rb,rc,rd,re,rf,rg,rh⟩ k wt):=Lib.hid (by rw [kB,HRS.out,hk,hwt])
       have HT64:=Lib.hid htl
       clear hk hwt
       go_upto_region 17 with fail
       refine jg 27 [some 138,some 139,some 140,some 141,some 142,some 143,some 144,some 145,some 146,some 147,some 148,some 149,some 150,some 151,some 152,some 153,some 154,some 155,some 156,some 157,some 158,some 159,some 160,some 161,some 162,some 163,some 164] [[],[],[1],[],[1,2,3],[1,2,3,4],[],[1,2,3,4,6],[1,2,3,4,5,6,7],[0,1,2,3,4,5,6,7,8],[],[],[10,11],[],[13],[],[13,14,15],[10,11,12,13,14,15,16],[0,1,2,3,4,5,6,7,8,9,10,11,12,13,14,15,16,17],[],[19],[19,20],[0,1,2,3,4,5,6,7,8,9,10,11,12,13,14,15,16,17,18,19,20,21],[],[23],[23,24],[0,1,2,3,4,5,6,7,8,9,10,11,12,13,14,15,16,17,18,19,20,21,22,23,24,25]]
        (fun _ _ w1=>Below wr.heap.size wr w1) (fun w1 w2=>Below w1.heap.size w1 w2)
        [fun v _=>v 0=W32 rh,
         fun v _=>v 1=W32 re,
         fun v _=>v 2=W32 (j8 re 6),
         fun v _=>v 3=W32 re,
         fun v _=>v 4=W32 (j8 re 11),
         fun v _=>v 5=W32 (j8 re 6 ^^^ j8 re 11),
         fun v _=>v 6=W32 re,
         fun v _=>v 7=W32 (j8 re 25),
         fun v _=>v 8=W32 (j8 re 6 ^^^ j8 re 11 ^^^ j8 re 25),
         fun v _=>v 9=W32 (rh+(j8 re 6 ^^^ j8 re 11 ^^^ j8 re 25)),
         fun v _=>v 10=W32 re,
         fun v _=>v 11=W32 rf,
         fun v _=>v 12=W32 (re &&& rf),
         fun v _=>v 13=W32 re,
         fun v _=>v 14=W32 (ofW 4294967295 ^^^ re),
         fun v _=>v 15=W32 rg,
         fun v _=>v 16=W32 ((ofW 4294967295 ^^^ re) &&& rg),
         fun v _=>v 17=W32 ((re &&& rf) ^^^ ((ofW 4294967295 ^^^ re) &&& rg)),
         fun v _=>v 18=W32 (rh+(j8 re 6 ^^^ j8 re 11 ^^^ j8 re 25)+((re &&& rf) ^^^ ((ofW 4294967295 ^^^ re) &&& rg))),
         fun v _=>v 19=.int .i64 (t:Int),
         fun v _=>v 20=.pointer (some ⟨1,t,none⟩),
         fun v _=>v 21=W32 k,
         fun v _=>v 22=W32 (rh+(j8 re 6 ^^^ j8 re 11 ^^^ j8 re 25)+((re &&& rf) ^^^ ((ofW 4294967295 ^^^ re) &&& rg))+k),
         fun v _=>v 23=.int .i64 (t:Int),
         fun v _=>v 24=.pointer (some ⟨w.heap.size,t,none⟩),
         fun v _=>v 25=W32 wt,
         fun v _=>v 26=W32 (rh+(j8 re 6 ^^^ j8 re 11 ^^^ j8 re 25)+((re &&& rf) ^^^ ((ofW 4294967295 ^^^ re) &&& rg))+k+wt)]
        (by kernel_rfl) (by kernel_rfl) (fun _=>(Below.refl _ _).drew) ?st ?steps ?tail
       case st=>
        exact(.cons (fun _ _ _ _ _ _ h=>h) (.cons (fun _ _ _ _ _ _ h=>h) (.cons (fun _ _ _ _ _ _ h=>h) (.cons (fun _ _ _ _ _ _ h=>h) (.cons (fun _ _ _ _ _ _ h=>h) (.cons (fun _ _ _ _ _ _ h=>h) (.cons (fun _ _ _ _ _ _ h=>h) (.cons (fun _ _ _ _ _ _ h=>h) (.cons (fun _ _ _ _ _ _ h=>h) (.cons (fun _ _ _ _ _ _ h=>h) (.cons (fun _ _ _ _ _ _ h=>h) (.cons (fun _ _ _ _ _ _ h=>h) (.cons (fun _ _ _ _ _ _ h=>h) (.cons (fun _ _ _ _ _ _ h=>h) (.cons (fun _ _ _ _ _ _ h=>h) (.cons (fun _ _ _ _ _ _ h=>h) (.cons (fun _ _ _ _ _ _ h=>h) (.cons (fun _ _ _ _ _ _ h=>h) (.cons (fun _ _ _ _ _ _ h=>h) (.cons (fun _ _ _ _ _ _ h=>h) (.cons (fun _ _ _ _ _ _ h=>h) (.cons (fun _ _ _ _ _ _ h=>h) (.cons (fun _ _ _ _ _ _ h=>h) (.cons (fun _ _ _ _ _ _ h=>h) (.cons (fun _ _ _ _ _ _ h=>h) (.cons (fun _ _ _ _ _ _ h=>h) (.cons (fun _ _ _ _ _ _ h=>h) .nil)))))))))))))))))))))))))))
       case steps=>
        simp only [List.take_succ_cons,List.take_zero]
        refine(.cons ?_ (.cons ?_ (.cons ?_ (.cons ?_ (.cons ?_ (.cons ?_ (.cons ?_ (.cons ?_ (.cons ?_ (.cons ?_ (.cons ?_ (.cons ?_ (.cons ?_ (.cons ?_ (.cons ?_ (.cons ?_ (.cons ?_ (.cons ?_ (.cons ?_ (.cons ?_ (.cons ?_ (.cons ?_ (.cons ?_ (.cons ?_ (.cons ?_ (.cons ?_ (.cons ?_ .nil)))))))))))))))))))))))))))
        all_goals(intro L v w1 hJ hL hA hF K hK;simp only [ja,Act.put,Nat.zero_add,Nat.reduceAdd,List.setIfInBounds_toArray,List.set_cons_zero,List.set_cons_succ]at hK |-)
        ·go_simp
         refine hK _ _ hJ (Below.refl _ _) ?_
         first|exact rfl|exact j3 _|exact j4 _
        ·go_simp
         refine hK _ _ hJ (Below.refl _ _) ?_
         first|exact rfl|exact j3 _|exact j4 _
        ·have e1:v 1=W32 re:=hF 1 (hA 1 (by simp))
         simp only [e1]at hK
         go_simp
         refine(kr re 6 _ _ (by rfl) (by omega) (by omega)).mono ?_
         rintro e w5 ⟨rfl,hw5⟩
         rw [hw5]
         exact hK _ _ hJ (Below.refl _ _) rfl
        ·go_simp
         refine hK _ _ hJ (Below.refl _ _) ?_
         first|exact rfl|exact j3 _|exact j4 _
        ·have e3:v 3=W32 re:=hF 3 (hA 3 (by simp))
         simp only [e3]at hK
         go_simp
         refine(kr re 11 _ _ (by rfl) (by omega) (by omega)).mono ?_
         rintro e w5 ⟨rfl,hw5⟩
         rw [hw5]
         exact hK _ _ hJ (Below.refl _ _) rfl
        ·have e2:v 2=W32 (j8 re 6):=hF 2 (hA 2 (by simp))
         have e4:v 4=W32 (j8 re 11):=hF 4 (hA 4 (by simp))
         simp only [e2,e4]at hK
         go_simp
         refine hK _ _ hJ (Below.refl _ _) ?_
         first|exact rfl|exact j3 _|exact j4 _
        ·go_simp
         refine hK _ _ hJ (Below.refl _ _) ?_
         first|exact rfl|exact j3 _|exact j4 _
        ·have e6:v 6=W32 re:=hF 6 (hA 6 (by simp))
         simp only [e6]at hK
         go_simp
         refine(kr re 25 _ _ (by rfl) (by omega) (by omega)).mono ?_
         rintro e w5 ⟨rfl,hw5⟩
         rw [hw5]
         exact hK _ _ hJ (Below.refl _ _) rfl
        ·have e5:v 5=W32 (j8 re 6 ^^^ j8 re 11):=hF 5 (hA 5 (by simp))
         have e7:v 7=W32 (j8 re 25):=hF 7 (hA 7 (by simp))
         simp only [e5,e7]at hK
         go_simp
         refine hK _ _ hJ (Below.refl _ _) ?_
         first|exact rfl|exact j3 _|exact j4 _
        ·have e0:v 0=W32 rh:=hF 0 (hA 0 (by simp))
         have e8:v 8=W32 (j8 re 6 ^^^ j8 re 11 ^^^ j8 re 25):=hF 8 (hA 8 (by simp))
         simp only [e0,e8]at hK
         go_simp
         refine hK _ _ hJ (Below.refl _ _) ?_
         first|exact rfl|exact j3 _|exact j4 _
        ·go_simp
         refine hK _ _ hJ (Below.refl _ _) ?_
         first|exact rfl|exact j3 _|exact j4 _
        ·go_simp
         refine hK _ _ hJ (Below.refl _ _) ?_
         first|exact rfl|exact j3 _|exact j4 _
        ·have e10:v 10=W32 re:=hF 10 (hA 10 (by simp))
         have e11:v 11=W32 rf:=hF 11 (hA 11 (by simp))
         simp only [e10,e11]at hK
         go_simp
         refine hK _ _ hJ (Below.refl _ _) ?_
         first|exact rfl|exact j3 _|exact j4 _
        ·go_simp
         refine hK _ _ hJ (Below.refl _ _) ?_
         first|exact rfl|exact j3 _|exact j4 _
        ·have e13:v 13=W32 re:=hF 13 (hA 13 (by simp))
         simp only [e13]at hK
         go_simp
         refine hK _ _ hJ (Below.refl _ _) ?_
         first|exact rfl|exact j3 _|exact j4 _
        ·go_simp
         refine hK _ _ hJ (Below.refl _ _) ?_
         first|exact rfl|exact j3 _|exact j4 _
        ·have e14:v 14=W32 (ofW 4294967295 ^^^ re):=hF 14 (hA 14 (by simp))
         have e15:v 15=W32 rg:=hF 15 (hA 15 (by simp))
         simp only [e14,e15]at hK
         go_simp
         refine hK _ _ hJ (Below.refl _ _) ?_
         first|exact rfl|exact j3 _|exact j4 _
        ·have e12:v 12=W32 (re &&& rf):=hF 12 (hA 12 (by simp))
         have e16:v 16=W32 ((ofW 4294967295 ^^^ re) &&& rg):=hF 16 (hA 16 (by simp))
         simp only [e12,e16]at hK
         go_simp
         refine hK _ _ hJ (Below.refl _ _) ?_
         first|exact rfl|exact j3 _|exact j4 _
        ·have e9:v 9=W32 (rh+(j8 re 6 ^^^ j8 re 11 ^^^ j8 re 25)):=hF 9 (hA 9 (by simp))
         have e17:v 17=W32 ((re &&& rf) ^^^ ((ofW 4294967295 ^^^ re) &&& rg)):=hF 17 (hA 17 (by simp))
         simp only [e9,e17]at hK
         go_simp
         refine hK _ _ hJ (Below.refl _ _) ?_
         first|exact rfl|exact j3 _|exact j4 _
        ·go_simp
         refine hK _ _ hJ (Below.refl _ _) ?_
         first|exact rfl|exact j3 _|exact j4 _
        ·have e19:v 19=.int .i64 (t:Int):=hF 19 (hA 19 (by simp))
         have h64:(t:Int)<64:=HT64.out
         simp only [e19]at hK
         go_simp
         refine hK _ _ hJ (Below.refl _ _) ?_
         first|exact rfl|exact j3 _|exact j4 _
        ·have e20:v 20=.pointer (some ⟨1,t,none⟩):=hF 20 (hA 20 (by simp))
         have c0:=CK.out _ hJ
         simp only [e20]at hK
         go_simp
         refine hK _ _ hJ (Below.refl _ _) ?_
         first|exact rfl|exact j3 _|exact j4 _
        ·have e18:v 18=W32 (rh+(j8 re 6 ^^^ j8 re 11 ^^^ j8 re 25)+((re &&& rf) ^^^ ((ofW 4294967295 ^^^ re) &&& rg))):=hF 18 (hA 18 (by simp))
         have e21:v 21=W32 k:=hF 21 (hA 21 (by simp))
         simp only [e18,e21]at hK
         go_simp
         refine hK _ _ hJ (Below.refl _ _) ?_
         first|exact rfl|exact j3 _|exact j4 _
        ·go_simp
         refine hK _ _ hJ (Below.refl _ _) ?_
         first|exact rfl|exact j3 _|exact j4 _
        ·have e23:v 23=.int .i64 (t:Int):=hF 23 (hA 23 (by simp))
         have h64:(t:Int)<64:=HT64.out
         simp only [e23]at hK
         go_simp
         refine hK _ _ hJ (Below.refl _ _) ?_
         first|exact rfl|exact j3 _|exact j4 _
        ·have e24:v 24=.pointer (some ⟨w.heap.size,t,none⟩):=hF 24 (hA 24 (by simp))
         have c0:=CW.out _ hJ
         simp only [e24]at hK
         go_simp
         refine hK _ _ hJ (Below.refl _ _) ?_
         first|exact rfl|exact j3 _|exact j4 _
        ·have e22:v 22=W32 (rh+(j8 re 6 ^^^ j8 re 11 ^^^ j8 re 25)+((re &&& rf) ^^^ ((ofW 4294967295 ^^^ re) &&& rg))+k):=hF 22 (hA 22 (by simp))
         have e25:v 25=W32 wt:=hF 25 (hA 25 (by simp))
         simp only [e22,e25]at hK
         go_simp
         refine hK _ _ hJ (Below.refl _ _) ?_
         first|exact rfl|exact j3 _|exact j4 _
       case tail=>
        intro v w1 hJ hF
        have e0:v 0=W32 rh:=hF 0 (by simp)
        have e1:v 1=W32 re:=hF 1 (by simp)
        have e2:v 2=W32 (j8 re 6):=hF 2 (by simp)
        have e3:v 3=W32 re:=hF 3 (by simp)
        have e4:v 4=W32 (j8 re 11):=hF 4 (by simp)
        have e5:v 5=W32 (j8 re 6 ^^^ j8 re 11):=hF 5 (by simp)
        have e6:v 6=W32 re:=hF 6 (by simp)
        have e7:v 7=W32 (j8 re 25):=hF 7 (by simp)
        have e8:v 8=W32 (j8 re 6 ^^^ j8 re 11 ^^^ j8 re 25):=hF 8 (by simp)
        have e9:v 9=W32 (rh+(j8 re 6 ^^^ j8 re 11 ^^^ j8 re 25)):=hF 9 (by simp)
        have e10:v 10=W32 re:=hF 10 (by simp)
        have e11:v 11=W32 rf:=hF 11 (by simp)
        have e12:v 12=W32 (re &&& rf):=hF 12 (by simp)
        have e13:v 13=W32 re:=hF 13 (by simp)
        have e14:v 14=W32 (ofW 4294967295 ^^^ re):=hF 14 (by simp)
        have e15:v 15=W32 rg:=hF 15 (by simp)
        have e16:v 16=W32 ((ofW 4294967295 ^^^ re) &&& rg):=hF 16 (by simp)
        have e17:v 17=W32 ((re &&& rf) ^^^ ((ofW 4294967295 ^^^ re) &&& rg)):=hF 17 (by simp)
        have e18:v 18=W32 (rh+(j8 re 6 ^^^ j8 re 11 ^^^ j8 re 25)+((re &&& rf) ^^^ ((ofW 4294967295 ^^^ re) &&& rg))):=hF 18 (by simp)
        have e19:v 19=.int .i64 (t:Int):=hF 19 (by simp)
        have e20:v 20=.pointer (some ⟨1,t,none⟩):=hF 20 (by simp)
        have e21:v 21=W32 k:=hF 21 (by simp)
        have e22:v 22=W32 (rh+(j8 re 6 ^^^ j8 re 11 ^^^ j8 re 25)+((re &&& rf) ^^^ ((ofW 4294967295 ^^^ re) &&& rg))+k):=hF 22 (by simp)
        have e23:v 23=.int .i64 (t:Int):=hF 23 (by simp)
        have e24:v 24=.pointer (some ⟨w.heap.size,t,none⟩):=hF 24 (by simp)
        have e25:v 25=W32 wt:=hF 25 (by simp)
        have e26:v 26=W32 (rh+(j8 re 6 ^^^ j8 re 11 ^^^ j8 re 25)+((re &&& rf) ^^^ ((ofW 4294967295 ^^^ re) &&& rg))+k+wt):=hF 26 (by simp)
        simp only [List.drop_succ_cons,List.drop_zero,ja,Act.put,Nat.zero_add,Nat.reduceAdd,List.setIfInBounds_toArray,List.set_cons_zero,List.set_cons_succ]
        simp only [e26]
        have H17:=Lib.hid hJ
        clear hJ hF e0 e1 e2 e3 e4 e5 e6 e7 e8 e9 e10 e11 e12 e13 e14 e15 e16 e17 e18 e19 e20 e21 e22 e23 e24 e25 e26
        go_wp2_with(first
         |(go_at_call 148;refine(kr ra 2 _ _ (by rfl) (by omega) (by omega)).mono ?_;rintro e w5 ⟨rfl,hw5⟩;rw [hw5];clear hw5 w5)
         |(go_at_call 148;refine(kr ra 13 _ _ (by rfl) (by omega) (by omega)).mono ?_;rintro e w5 ⟨rfl,hw5⟩;rw [hw5];clear hw5 w5)
         |(go_at_call 148;refine(kr ra 22 _ _ (by rfl) (by omega) (by omega)).mono ?_;rintro e w5 ⟨rfl,hw5⟩;rw [hw5];clear hw5 w5))
        go_roundg m
        case measure=>omega
        case rel=>exact⟨t+1,m,_,_,_,_,_,_,_,_,rfl,by omega,by go_num,rfl,rfl,rfl,rfl,rfl,rfl,rfl,rfl,HN,HBQ.out.trans (H17.out.mono HBQ.out.size)⟩
    ·obtain⟨m,rfl⟩:∃k,m=k+1:=⟨m - 1,by omega⟩
     have ht64:t<64:=by omega
     have htl:(t:Int)<64:=by omega
     obtain⟨t15,q15⟩:∃k,t=k+15:=⟨t - 15,by omega⟩
     obtain⟨t2,q2⟩:∃k,t=k+2:=⟨t - 2,by omega⟩
     obtain⟨t7,q7⟩:∃k,t=k+7:=⟨t - 7,by omega⟩
     obtain⟨t16,q16⟩:∃k,t=k+16:=⟨t - 16,by omega⟩
     have W15:Value.int .i64 (IntKind.i64.wrap ((t:Int) - 15))=.int .i64 (t15:Int):=by rw [IntWalk.i64_in _ (by omega)];congr 1;omega
     have W2:Value.int .i64 (IntKind.i64.wrap ((t:Int) - 2))=.int .i64 (t2:Int):=by rw [IntWalk.i64_in _ (by omega)];congr 1;omega
     have W7:Hid (Value.int .i64 (IntKind.i64.wrap ((t:Int) - 7))=.int .i64 (t7:Int)):=Lib.hid (by rw [IntWalk.i64_in _ (by omega)];congr 1;omega)
     have W16:Hid (Value.int .i64 (IntKind.i64.wrap ((t:Int) - 16))=.int .i64 (t16:Int)):=Lib.hid (by rw [IntWalk.i64_in _ (by omega)];congr 1;omega)
     obtain⟨x,hx⟩:∃x,(jB b t).getD t15 0=x:=⟨_,rfl⟩
     obtain⟨y,hy⟩:∃x,(jB b t).getD t2 0=x:=⟨_,rfl⟩
     obtain⟨z7,hz7⟩:∃x,(jB b t).getD t7 0=x:=⟨_,rfl⟩
     obtain⟨z16,hz16⟩:∃x,(jB b t).getD t16 0=x:=⟨_,rfl⟩
     have c15:=ku HWB.out (j:=t15) (by rw [j7];omega)
     have c2:=ku HWB.out (j:=t2) (by rw [j7];omega)
     have c7:=ku HWB.out (j:=t7) (by rw [j7];omega)
     have c16:=ku HWB.out (j:=t16) (by rw [j7];omega)
     rw [hx]at c15
     rw [hy]at c2
     rw [hz7]at c7
     rw [hz16]at c16
     have HNX:Hid (Jb b (jB b t)=((j8 y 17 ^^^ j8 y 19) ^^^ (y / ofW 1024))+z7+((j8 x 7 ^^^ j8 x 18) ^^^ (x / ofW 8))+z16):=Lib.hid (by
      unfold Jb
      rw [j7,if_neg (by omega),show t - 2=t2 by omega,show t - 7=t7 by omega,show t - 15=t15 by omega,show t - 16=t16 by omega,hx,hy,hz7,hz16])
     have h15:(t15:Int)<64:=by omega
     have h2:(t2:Int)<64:=by omega
     have H7:Hid ((t7:Int)<64):=Lib.hid (by omega)
     have H16:Hid ((t16:Int)<64):=Lib.hid (by omega)
     have hgw:=(Array.getElem?_eq_some_iff.1 HWB.out).1
     have C7:Hid (∀W,Below wr.heap.size wr W->W.cell? ⟨w.heap.size,t7,none⟩=some (W32 z7)):=Lib.hid (fun W h=>(h.cell (p:=⟨w.heap.size,t7,none⟩) hgw).trans c7)
     have C16:Hid (∀W,Below wr.heap.size wr W->W.cell? ⟨w.heap.size,t16,none⟩=some (W32 z16)):=Lib.hid (fun W h=>(h.cell (p:=⟨w.heap.size,t16,none⟩) hgw).trans c16)
     have HBR:=Lib.hid hbr
     clear hx hy hz7 hz16 q15 q2 q7 q16 hbr c7 c16 hgw
     go_upto_region 11 with fail
     go_quiet (fail)
     clear c15 c2 W15 W2
     go_upto_region 12 with fail
     refine jg 28 [some 81,some 82,some 83,some 84,some 85,some 86,some 87,some 88,some 89,some 90,some 91,some 92,some 93,some 94,some 95,some 96,some 97,some 98,some 99,some 100,some 101,some 102,some 103,some 104,some 105,some 106,some 107,some 108] [[],[],[1],[],[1,2,3],[1,2,3,4],[],[6],[1,2,3,4,5,6,7],[],[9],[9,10],[9,10,11],[1,2,3,4,5,6,7,8,9,10,11,12],[],[1,2,3,4,14],[],[1,2,3,4,14,15,16],[1,2,3,4,14,15,16,17],[],[19],[1,2,3,4,14,15,16,17,18,19,20],[1,2,3,4,5,6,7,8,9,10,11,12,13,14,15,16,17,18,19,20,21],[],[23],[23,24],[23,24,25],[1,2,3,4,5,6,7,8,9,10,11,12,13,14,15,16,17,18,19,20,21,22,23,24,25,26]]
      (fun _ _ w1=>Below wr.heap.size wr w1) (fun w1 w2=>Below w1.heap.size w1 w2)
      [fun v _=>v 0=.int .i64 (t:Int),
       fun v _=>v 1=W32 y,
       fun v _=>v 2=W32 (j8 y 17),
       fun v _=>v 3=W32 y,
       fun v _=>v 4=W32 (j8 y 19),
       fun v _=>v 5=W32 (j8 y 17 ^^^ j8 y 19),
       fun v _=>v 6=W32 y,
       fun v _=>v 7=W32 (y / ofW 1024),
       fun v _=>v 8=W32 ((j8 y 17 ^^^ j8 y 19) ^^^ (y / ofW 1024)),
       fun v _=>v 9=.int .i64 (t:Int),
       fun v _=>v 10=.int .i64 (t7:Int),
       fun v _=>v 11=.pointer (some ⟨w.heap.size,t7,none⟩),
       fun v _=>v 12=W32 z7,
       fun v _=>v 13=W32 (((j8 y 17 ^^^ j8 y 19) ^^^ (y / ofW 1024))+z7),
       fun v _=>v 14=W32 x,
       fun v _=>v 15=W32 (j8 x 7),
       fun v _=>v 16=W32 x,
       fun v _=>v 17=W32 (j8 x 18),
       fun v _=>v 18=W32 (j8 x 7 ^^^ j8 x 18),
       fun v _=>v 19=W32 x,
       fun v _=>v 20=W32 (x / ofW 8),
       fun v _=>v 21=W32 ((j8 x 7 ^^^ j8 x 18) ^^^ (x / ofW 8)),
       fun v _=>v 22=W32 (((j8 y 17 ^^^ j8 y 19) ^^^ (y / ofW 1024))+z7+((j8 x 7 ^^^ j8 x 18) ^^^ (x / ofW 8))),
       fun v _=>v 23=.int .i64 (t:Int),
       fun v _=>v 24=.int .i64 (t16:Int),
       fun v _=>v 25=.pointer (some ⟨w.heap.size,t16,none⟩),
       fun v _=>v 26=W32 z16,
       fun v _=>v 27=W32 (((j8 y 17 ^^^ j8 y 19) ^^^ (y / ofW 1024))+z7+((j8 x 7 ^^^ j8 x 18) ^^^ (x / ofW 8))+z16)]
      (by kernel_rfl) (by kernel_rfl) (fun _=>(jh (Below.refl _ _) nq).drew) ?st ?steps ?tail
     case st=>
      exact(.cons (fun _ _ _ _ _ _ h=>h) (.cons (fun _ _ _ _ _ _ h=>h) (.cons (fun _ _ _ _ _ _ h=>h) (.cons (fun _ _ _ _ _ _ h=>h) (.cons (fun _ _ _ _ _ _ h=>h) (.cons (fun _ _ _ _ _ _ h=>h) (.cons (fun _ _ _ _ _ _ h=>h) (.cons (fun _ _ _ _ _ _ h=>h) (.cons (fun _ _ _ _ _ _ h=>h) (.cons (fun _ _ _ _ _ _ h=>h) (.cons (fun _ _ _ _ _ _ h=>h) (.cons (fun _ _ _ _ _ _ h=>h) (.cons (fun _ _ _ _ _ _ h=>h) (.cons (fun _ _ _ _ _ _ h=>h) (.cons (fun _ _ _ _ _ _ h=>h) (.cons (fun _ _ _ _ _ _ h=>h) (.cons (fun _ _ _ _ _ _ h=>h) (.cons (fun _ _ _ _ _ _ h=>h) (.cons (fun _ _ _ _ _ _ h=>h) (.cons (fun _ _ _ _ _ _ h=>h) (.cons (fun _ _ _ _ _ _ h=>h) (.cons (fun _ _ _ _ _ _ h=>h) (.cons (fun _ _ _ _ _ _ h=>h) (.cons (fun _ _ _ _ _ _ h=>h) (.cons (fun _ _ _ _ _ _ h=>h) (.cons (fun _ _ _ _ _ _ h=>h) (.cons (fun _ _ _ _ _ _ h=>h) (.cons (fun _ _ _ _ _ _ h=>h) .nil))))))))))))))))))))))))))))
     case steps=>
      simp only [List.take_succ_cons,List.take_zero]
      refine(.cons ?_ (.cons ?_ (.cons ?_ (.cons ?_ (.cons ?_ (.cons ?_ (.cons ?_ (.cons ?_ (.cons ?_ (.cons ?_ (.cons ?_ (.cons ?_ (.cons ?_ (.cons ?_ (.cons ?_ (.cons ?_ (.cons ?_ (.cons ?_ (.cons ?_ (.cons ?_ (.cons ?_ (.cons ?_ (.cons ?_ (.cons ?_ (.cons ?_ (.cons ?_ (.cons ?_ (.cons ?_ .nil))))))))))))))))))))))))))))
      all_goals(intro L v w1 hJ hL hA hF K hK;simp only [ja,Act.put,Nat.zero_add,Nat.reduceAdd,List.setIfInBounds_toArray,List.set_cons_zero,List.set_cons_succ]at hK |-)
      ·go_simp
       refine hK _ _ hJ (Below.refl _ _) ?_
       first|exact rfl|exact j3 _|exact j4 _
      ·go_simp
       refine hK _ _ hJ (Below.refl _ _) ?_
       first|exact rfl|exact j3 _|exact j4 _
      ·have e1:v 1=W32 y:=hF 1 (hA 1 (by simp))
       simp only [e1]at hK
       go_simp
       refine(kr y 17 _ _ (by rfl) (by omega) (by omega)).mono ?_
       rintro e w5 ⟨rfl,hw5⟩
       rw [hw5]
       exact hK _ _ hJ (Below.refl _ _) rfl
      ·go_simp
       refine hK _ _ hJ (Below.refl _ _) ?_
       first|exact rfl|exact j3 _|exact j4 _
      ·have e3:v 3=W32 y:=hF 3 (hA 3 (by simp))
       simp only [e3]at hK
       go_simp
       refine(kr y 19 _ _ (by rfl) (by omega) (by omega)).mono ?_
       rintro e w5 ⟨rfl,hw5⟩
       rw [hw5]
       exact hK _ _ hJ (Below.refl _ _) rfl
      ·have e2:v 2=W32 (j8 y 17):=hF 2 (hA 2 (by simp))
       have e4:v 4=W32 (j8 y 19):=hF 4 (hA 4 (by simp))
       simp only [e2,e4]at hK
       go_simp
       refine hK _ _ hJ (Below.refl _ _) ?_
       first|exact rfl|exact j3 _|exact j4 _
      ·go_simp
       refine hK _ _ hJ (Below.refl _ _) ?_
       first|exact rfl|exact j3 _|exact j4 _
      ·have e6:v 6=W32 y:=hF 6 (hA 6 (by simp))
       simp only [e6]at hK
       go_simp
       refine hK _ _ hJ (Below.refl _ _) ?_
       first|exact rfl|exact j3 _|exact j4 _
      ·have e5:v 5=W32 (j8 y 17 ^^^ j8 y 19):=hF 5 (hA 5 (by simp))
       have e7:v 7=W32 (y / ofW 1024):=hF 7 (hA 7 (by simp))
       simp only [e5,e7]at hK
       go_simp
       refine hK _ _ hJ (Below.refl _ _) ?_
       first|exact rfl|exact j3 _|exact j4 _
      ·go_simp
       refine hK _ _ hJ (Below.refl _ _) ?_
       first|exact rfl|exact j3 _|exact j4 _
      ·have e9:v 9=.int .i64 (t:Int):=hF 9 (hA 9 (by simp))
       have W:=W7.out
       simp only [e9]at hK
       go_simp
       refine hK _ _ hJ (Below.refl _ _) ?_
       first|exact rfl|exact j3 _|exact j4 _
      ·have e10:v 10=.int .i64 (t7:Int):=hF 10 (hA 10 (by simp))
       have h64:(t7:Int)<64:=(by have:=H7.out;omega)
       simp only [e10]at hK
       go_simp
       refine hK _ _ hJ (Below.refl _ _) ?_
       first|exact rfl|exact j3 _|exact j4 _
      ·have e11:v 11=.pointer (some ⟨w.heap.size,t7,none⟩):=hF 11 (hA 11 (by simp))
       have c0:=C7.out _ hJ
       simp only [e11]at hK
       go_simp
       refine hK _ _ hJ (Below.refl _ _) ?_
       first|exact rfl|exact j3 _|exact j4 _
      ·have e8:v 8=W32 ((j8 y 17 ^^^ j8 y 19) ^^^ (y / ofW 1024)):=hF 8 (hA 8 (by simp))
       have e12:v 12=W32 z7:=hF 12 (hA 12 (by simp))
       simp only [e8,e12]at hK
       go_simp
       refine hK _ _ hJ (Below.refl _ _) ?_
       first|exact rfl|exact j3 _|exact j4 _
      ·go_simp
       refine hK _ _ hJ (Below.refl _ _) ?_
       first|exact rfl|exact j3 _|exact j4 _
      ·have e14:v 14=W32 x:=hF 14 (hA 14 (by simp))
       simp only [e14]at hK
       go_simp
       refine(kr x 7 _ _ (by rfl) (by omega) (by omega)).mono ?_
       rintro e w5 ⟨rfl,hw5⟩
       rw [hw5]
       exact hK _ _ hJ (Below.refl _ _) rfl
      ·go_simp
       refine hK _ _ hJ (Below.refl _ _) ?_
       first|exact rfl|exact j3 _|exact j4 _
      ·have e16:v 16=W32 x:=hF 16 (hA 16 (by simp))
       simp only [e16]at hK
       go_simp
       refine(kr x 18 _ _ (by rfl) (by omega) (by omega)).mono ?_
       rintro e w5 ⟨rfl,hw5⟩
       rw [hw5]
       exact hK _ _ hJ (Below.refl _ _) rfl
      ·have e15:v 15=W32 (j8 x 7):=hF 15 (hA 15 (by simp))
       have e17:v 17=W32 (j8 x 18):=hF 17 (hA 17 (by simp))
       simp only [e15,e17]at hK
       go_simp
       refine hK _ _ hJ (Below.refl _ _) ?_
       first|exact rfl|exact j3 _|exact j4 _
      ·go_simp
       refine hK _ _ hJ (Below.refl _ _) ?_
       first|exact rfl|exact j3 _|exact j4 _
      ·have e19:v 19=W32 x:=hF 19 (hA 19 (by simp))
       simp only [e19]at hK
       go_simp
       refine hK _ _ hJ (Below.refl _ _) ?_
       first|exact rfl|exact j3 _|exact j4 _
      ·have e18:v 18=W32 (j8 x 7 ^^^ j8 x 18):=hF 18 (hA 18 (by simp))
       have e20:v 20=W32 (x / ofW 8):=hF 20 (hA 20 (by simp))
       simp only [e18,e20]at hK
       go_simp
       refine hK _ _ hJ (Below.refl _ _) ?_
       first|exact rfl|exact j3 _|exact j4 _
      ·have e13:v 13=W32 (((j8 y 17 ^^^ j8 y 19) ^^^ (y / ofW 1024))+z7):=hF 13 (hA 13 (by simp))
       have e21:v 21=W32 ((j8 x 7 ^^^ j8 x 18) ^^^ (x / ofW 8)):=hF 21 (hA 21 (by simp))
       simp only [e13,e21]at hK
       go_simp
       refine hK _ _ hJ (Below.refl _ _) ?_
       first|exact rfl|exact j3 _|exact j4 _
      ·go_simp
       refine hK _ _ hJ (Below.refl _ _) ?_
       first|exact rfl|exact j3 _|exact j4 _
      ·have e23:v 23=.int .i64 (t:Int):=hF 23 (hA 23 (by simp))
       have W:=W16.out
       simp only [e23]at hK
       go_simp
       refine hK _ _ hJ (Below.refl _ _) ?_
       first|exact rfl|exact j3 _|exact j4 _
      ·have e24:v 24=.int .i64 (t16:Int):=hF 24 (hA 24 (by simp))
       have h64:(t16:Int)<64:=(by have:=H16.out;omega)
       simp only [e24]at hK
       go_simp
       refine hK _ _ hJ (Below.refl _ _) ?_
       first|exact rfl|exact j3 _|exact j4 _
      ·have e25:v 25=.pointer (some ⟨w.heap.size,t16,none⟩):=hF 25 (hA 25 (by simp))
       have c0:=C16.out _ hJ
       simp only [e25]at hK
       go_simp
       refine hK _ _ hJ (Below.refl _ _) ?_
       first|exact rfl|exact j3 _|exact j4 _
      ·have e22:v 22=W32 (((j8 y 17 ^^^ j8 y 19) ^^^ (y / ofW 1024))+z7+((j8 x 7 ^^^ j8 x 18) ^^^ (x / ofW 8))):=hF 22 (hA 22 (by simp))
       have e26:v 26=W32 z16:=hF 26 (hA 26 (by simp))
       simp only [e22,e26]at hK
       go_simp
       refine hK _ _ hJ (Below.refl _ _) ?_
       first|exact rfl|exact j3 _|exact j4 _
     case tail=>
      intro v w1 hJ hF
      have e0:v 0=.int .i64 (t:Int):=hF 0 (by simp)
      have e1:v 1=W32 y:=hF 1 (by simp)
      have e2:v 2=W32 (j8 y 17):=hF 2 (by simp)
      have e3:v 3=W32 y:=hF 3 (by simp)
      have e4:v 4=W32 (j8 y 19):=hF 4 (by simp)
      have e5:v 5=W32 (j8 y 17 ^^^ j8 y 19):=hF 5 (by simp)
      have e6:v 6=W32 y:=hF 6 (by simp)
      have e7:v 7=W32 (y / ofW 1024):=hF 7 (by simp)
      have e8:v 8=W32 ((j8 y 17 ^^^ j8 y 19) ^^^ (y / ofW 1024)):=hF 8 (by simp)
      have e9:v 9=.int .i64 (t:Int):=hF 9 (by simp)
      have e10:v 10=.int .i64 (t7:Int):=hF 10 (by simp)
      have e11:v 11=.pointer (some ⟨w.heap.size,t7,none⟩):=hF 11 (by simp)
      have e12:v 12=W32 z7:=hF 12 (by simp)
      have e13:v 13=W32 (((j8 y 17 ^^^ j8 y 19) ^^^ (y / ofW 1024))+z7):=hF 13 (by simp)
      have e14:v 14=W32 x:=hF 14 (by simp)
      have e15:v 15=W32 (j8 x 7):=hF 15 (by simp)
      have e16:v 16=W32 x:=hF 16 (by simp)
      have e17:v 17=W32 (j8 x 18):=hF 17 (by simp)
      have e18:v 18=W32 (j8 x 7 ^^^ j8 x 18):=hF 18 (by simp)
      have e19:v 19=W32 x:=hF 19 (by simp)
      have e20:v 20=W32 (x / ofW 8):=hF 20 (by simp)
      have e21:v 21=W32 ((j8 x 7 ^^^ j8 x 18) ^^^ (x / ofW 8)):=hF 21 (by simp)
      have e22:v 22=W32 (((j8 y 17 ^^^ j8 y 19) ^^^ (y / ofW 1024))+z7+((j8 x 7 ^^^ j8 x 18) ^^^ (x / ofW 8))):=hF 22 (by simp)
      have e23:v 23=.int .i64 (t:Int):=hF 23 (by simp)
      have e24:v 24=.int .i64 (t16:Int):=hF 24 (by simp)
      have e25:v 25=.pointer (some ⟨w.heap.size,t16,none⟩):=hF 25 (by simp)
      have e26:v 26=W32 z16:=hF 26 (by simp)
      have e27:v 27=W32 (((j8 y 17 ^^^ j8 y 19) ^^^ (y / ofW 1024))+z7+((j8 x 7 ^^^ j8 x 18) ^^^ (x / ofW 8))+z16):=hF 27 (by simp)
      simp only [List.drop_succ_cons,List.drop_zero,ja,Act.put,Nat.zero_add,Nat.reduceAdd,List.setIfInBounds_toArray,List.set_cons_zero,List.set_cons_succ]
      have HJ:=Lib.hid hJ
      have hw2:w1.heap[w.heap.size]?=some (.cells (JB 64 (jB b t)) 142 (0,0)):=(hJ.block w.heap.size (Array.getElem?_eq_some_iff.1 HWB.out).1).trans HWB.out
      obtain⟨sc,sf⟩:=qt (by rw [j7];exact ht64) hw2
      rw [j7]at sc sf
      have HW2:=Lib.hid hw2
      simp only [e0,e27]
      clear hJ hF hw2
      go_wp2_with fail
      go_roundg m
      case measure=>omega
      case rel=>exact⟨t+1,m,rfl,by omega,by omega,by go_num,Lib.hid (by
       have h:=qs (x:=((j8 y 17 ^^^ j8 y 19) ^^^ (y / ofW 1024))+z7+((j8 x 7 ^^^ j8 x 18) ^^^ (x / ofW 8))+z16) (by rw [j7];exact ht64) HW2.out
       rw [j7]at h
       rw [jB,HNX.out];exact h),(HBR.out.trans (HJ.out.mono HBR.out.size)).setCell (p:=⟨w.heap.size,t,none⟩) (Nat.le_refl _) _⟩
  ·obtain⟨m,rfl⟩:∃k,m=k+1:=⟨m - 1,by omega⟩
   have ht16:t<16:=by omega
   have htl:(t:Int)<16:=by omega
   have hq:∀i,i<4->wr.cell? ⟨bb,bo+(4*t+i),none⟩=some (U8 (gb b (4*t+i))):=fun i hi=>(hbr.cell (p:=⟨bb,bo+(4*t+i),none⟩) hbl).trans (HCB.out (4*t+i) (by omega))
   obtain⟨b0,hb0⟩:∃x,gb b (4*t)=x:=⟨_,rfl⟩
   obtain⟨b1,hb1⟩:∃x,gb b (4*t+1)=x:=⟨_,rfl⟩
   obtain⟨b2,hb2⟩:∃x,gb b (4*t+2)=x:=⟨_,rfl⟩
   obtain⟨b3,hb3⟩:∃x,gb b (4*t+3)=x:=⟨_,rfl⟩
   have hbb:=Nat.lt_of_lt_of_le hbl hbr.size
   have C0:Hid (∀W,Below wr.heap.size wr W->W.cell? ⟨bb,bo+4*t,none⟩=some (U8 b0)):=Lib.hid (fun W h=>by rw [<-hb0];exact(h.cell (p:=⟨bb,bo+4*t,none⟩) hbb).trans (hq 0 (by omega)))
   have C1:Hid (∀W,Below wr.heap.size wr W->W.cell? ⟨bb,bo+(4*t+1),none⟩=some (U8 b1)):=Lib.hid (fun W h=>by rw [<-hb1];exact(h.cell (p:=⟨bb,bo+(4*t+1),none⟩) hbb).trans (hq 1 (by omega)))
   have C2:Hid (∀W,Below wr.heap.size wr W->W.cell? ⟨bb,bo+(4*t+2),none⟩=some (U8 b2)):=Lib.hid (fun W h=>by rw [<-hb2];exact(h.cell (p:=⟨bb,bo+(4*t+2),none⟩) hbb).trans (hq 2 (by omega)))
   have C3:Hid (∀W,Below wr.heap.size wr W->W.cell? ⟨bb,bo+(4*t+3),none⟩=some (U8 b3)):=Lib.hid (fun W h=>by rw [<-hb3];exact(h.cell (p:=⟨bb,bo+(4*t+3),none⟩) hbb).trans (hq 3 (by omega)))
   have HNX:Hid (Jb b (jB b t)=Z0 b0 b1 b2 b3):=Lib.hid (by
    unfold Jb;rw [j7,if_pos ht16,<-hb0,<-hb1,<-hb2,<-hb3];rfl)
   have HT:=Lib.hid htl
   have ht64:t<64:=by omega
   have ut:(t:Int)<64:=by omega
   have HBR:=Lib.hid hbr
   clear hq hbr hb0 hb1 hb2 hb3 hbb
   go_upto_region 7 with fail
   refine jg 34 [some 34,some 35,some 36,some 37,some 38,some 39,some 40,some 41,some 42,some 43,some 44,some 45,some 46,some 47,some 48,some 49,some 50,some 51,some 52,some 53,some 54,some 55,some 56,some 57,some 58,some 59,some 60,some 61,some 62,some 63,some 64,some 65,some 66,some 67] [[],[],[],[2],[1,2,3],[1,2,3,4],[1,2,3,4,5],[1,2,3,4,5,6],[],[],[9],[9,10],[8,9,10,11],[8,9,10,11,12],[8,9,10,11,12,13],[8,9,10,11,12,13,14],[1,2,3,4,5,6,7,8,9,10,11,12,13,14,15],[],[],[18],[18,19],[17,18,19,20],[17,18,19,20,21],[17,18,19,20,21,22],[17,18,19,20,21,22,23],[1,2,3,4,5,6,7,8,9,10,11,12,13,14,15,16,17,18,19,20,21,22,23,24],[],[],[27],[27,28],[26,27,28,29],[26,27,28,29,30],[26,27,28,29,30,31],[1,2,3,4,5,6,7,8,9,10,11,12,13,14,15,16,17,18,19,20,21,22,23,24,25,26,27,28,29,30,31,32]]
    (fun _ _ w1=>Below wr.heap.size wr w1) (fun w1 w2=>Below w1.heap.size w1 w2)
    [fun v _=>v 0=.int .i64 (t:Int),
     fun v _=>v 1=.slice (some ⟨bb,bo,none⟩) 64 cb,
     fun v _=>v 2=.int .i64 (t:Int),
     fun v _=>v 3=.int .i64 (4*(t:Int)),
     fun v _=>v 4=.pointer (some ⟨bb,bo+4*t,none⟩),
     fun v _=>v 5=U8 b0,
     fun v _=>v 6=W32 (ofW (bv b0)),
     fun v _=>v 7=W32 (ofW (wv (ofW (bv b0))*16777216)),
     fun v _=>v 8=.slice (some ⟨bb,bo,none⟩) 64 cb,
     fun v _=>v 9=.int .i64 (t:Int),
     fun v _=>v 10=.int .i64 (4*(t:Int)),
     fun v _=>v 11=.int .i64 (4*(t:Int)+1),
     fun v _=>v 12=.pointer (some ⟨bb,bo+(4*t+1),none⟩),
     fun v _=>v 13=U8 b1,
     fun v _=>v 14=W32 (ofW (bv b1)),
     fun v _=>v 15=W32 (ofW (wv (ofW (bv b1))*65536)),
     fun v _=>v 16=W32 (ofW (wv (ofW (bv b0))*16777216) ||| ofW (wv (ofW (bv b1))*65536)),
     fun v _=>v 17=.slice (some ⟨bb,bo,none⟩) 64 cb,
     fun v _=>v 18=.int .i64 (t:Int),
     fun v _=>v 19=.int .i64 (4*(t:Int)),
     fun v _=>v 20=.int .i64 (4*(t:Int)+2),
     fun v _=>v 21=.pointer (some ⟨bb,bo+(4*t+2),none⟩),
     fun v _=>v 22=U8 b2,
     fun v _=>v 23=W32 (ofW (bv b2)),
     fun v _=>v 24=W32 (ofW (wv (ofW (bv b2))*256)),
     fun v _=>v 25=W32 (ofW (wv (ofW (bv b0))*16777216) ||| ofW (wv (ofW (bv b1))*65536) ||| ofW (wv (ofW (bv b2))*256)),
     fun v _=>v 26=.slice (some ⟨bb,bo,none⟩) 64 cb,
     fun v _=>v 27=.int .i64 (t:Int),
     fun v _=>v 28=.int .i64 (4*(t:Int)),
     fun v _=>v 29=.int .i64 (4*(t:Int)+3),
     fun v _=>v 30=.pointer (some ⟨bb,bo+(4*t+3),none⟩),
     fun v _=>v 31=U8 b3,
     fun v _=>v 32=W32 (ofW (bv b3)),
     fun v _=>v 33=W32 (ofW (wv (ofW (bv b0))*16777216) ||| ofW (wv (ofW (bv b1))*65536) ||| ofW (wv (ofW (bv b2))*256) ||| ofW (bv b3))]
    (by kernel_rfl) (by kernel_rfl) (fun _=>(Below.refl _ _).drew) ?st ?steps ?tail
   case st=>
    exact(.cons (fun _ _ _ _ _ _ h=>h) (.cons (fun _ _ _ _ _ _ h=>h) (.cons (fun _ _ _ _ _ _ h=>h) (.cons (fun _ _ _ _ _ _ h=>h) (.cons (fun _ _ _ _ _ _ h=>h) (.cons (fun _ _ _ _ _ _ h=>h) (.cons (fun _ _ _ _ _ _ h=>h) (.cons (fun _ _ _ _ _ _ h=>h) (.cons (fun _ _ _ _ _ _ h=>h) (.cons (fun _ _ _ _ _ _ h=>h) (.cons (fun _ _ _ _ _ _ h=>h) (.cons (fun _ _ _ _ _ _ h=>h) (.cons (fun _ _ _ _ _ _ h=>h) (.cons (fun _ _ _ _ _ _ h=>h) (.cons (fun _ _ _ _ _ _ h=>h) (.cons (fun _ _ _ _ _ _ h=>h) (.cons (fun _ _ _ _ _ _ h=>h) (.cons (fun _ _ _ _ _ _ h=>h) (.cons (fun _ _ _ _ _ _ h=>h) (.cons (fun _ _ _ _ _ _ h=>h) (.cons (fun _ _ _ _ _ _ h=>h) (.cons (fun _ _ _ _ _ _ h=>h) (.cons (fun _ _ _ _ _ _ h=>h) (.cons (fun _ _ _ _ _ _ h=>h) (.cons (fun _ _ _ _ _ _ h=>h) (.cons (fun _ _ _ _ _ _ h=>h) (.cons (fun _ _ _ _ _ _ h=>h) (.cons (fun _ _ _ _ _ _ h=>h) (.cons (fun _ _ _ _ _ _ h=>h) (.cons (fun _ _ _ _ _ _ h=>h) (.cons (fun _ _ _ _ _ _ h=>h) (.cons (fun _ _ _ _ _ _ h=>h) (.cons (fun _ _ _ _ _ _ h=>h) (.cons (fun _ _ _ _ _ _ h=>h) .nil))))))))))))))))))))))))))))))))))
   case steps=>
    simp only [List.take_succ_cons,List.take_zero]
    refine(.cons ?_ (.cons ?_ (.cons ?_ (.cons ?_ (.cons ?_ (.cons ?_ (.cons ?_ (.cons ?_ (.cons ?_ (.cons ?_ (.cons ?_ (.cons ?_ (.cons ?_ (.cons ?_ (.cons ?_ (.cons ?_ (.cons ?_ (.cons ?_ (.cons ?_ (.cons ?_ (.cons ?_ (.cons ?_ (.cons ?_ (.cons ?_ (.cons ?_ (.cons ?_ (.cons ?_ (.cons ?_ (.cons ?_ (.cons ?_ (.cons ?_ (.cons ?_ (.cons ?_ (.cons ?_ .nil))))))))))))))))))))))))))))))))))
    all_goals(intro L v w1 hJ hL hA hF K hK;simp only [ja,Act.put,Nat.zero_add,Nat.reduceAdd,List.setIfInBounds_toArray,List.set_cons_zero,List.set_cons_succ]at hK |-)
    ·go_simp
     refine hK _ _ hJ (Below.refl _ _) ?_
     first|exact rfl|exact j3 _|exact j4 _
    ·go_simp
     refine hK _ _ hJ (Below.refl _ _) ?_
     first|exact rfl|exact j3 _|exact j4 _
    ·go_simp
     refine hK _ _ hJ (Below.refl _ _) ?_
     first|exact rfl|exact j3 _|exact j4 _
    ·have e2:v 2=.int .i64 (t:Int):=hF 2 (hA 2 (by simp))
     have W:Value.int .i64 (IntKind.i64.wrap (4*(t:Int)))=.int .i64 (4*(t:Int)):=(by rw [IntWalk.i64_in _ (by have:=HT.out;omega)])
     simp only [e2]at hK
     go_simp
     refine hK _ _ hJ (Below.refl _ _) ?_
     first|exact rfl|exact j3 _|exact j4 _
    ·have e1:v 1=.slice (some ⟨bb,bo,none⟩) 64 cb:=hF 1 (hA 1 (by simp))
     have e3:v 3=.int .i64 (4*(t:Int)):=hF 3 (hA 3 (by simp))
     have u0:0<=4*(t:Int):=(by have:=HT.out;omega)
     have u1:4*(t:Int)<64:=(by have:=HT.out;omega)
     simp only [e1,e3]at hK
     go_simp
     refine hK _ _ hJ (Below.refl _ _) ?_
     first|exact rfl|exact j3 _|exact j4 _
    ·have e4:v 4=.pointer (some ⟨bb,bo+4*t,none⟩):=hF 4 (hA 4 (by simp))
     have c0:=C0.out _ hJ
     simp only [e4]at hK
     go_simp
     refine hK _ _ hJ (Below.refl _ _) ?_
     first|exact rfl|exact j3 _|exact j4 _
    ·have e5:v 5=U8 b0:=hF 5 (hA 5 (by simp))
     simp only [e5]at hK
     go_simp
     refine hK _ _ hJ (Below.refl _ _) ?_
     first|exact rfl|exact j3 _|exact j4 _
    ·have e6:v 6=W32 (ofW (bv b0)):=hF 6 (hA 6 (by simp))
     simp only [e6]at hK
     go_simp
     refine hK _ _ hJ (Below.refl _ _) ?_
     first|exact rfl|exact j3 _|exact j4 _
    ·go_simp
     refine hK _ _ hJ (Below.refl _ _) ?_
     first|exact rfl|exact j3 _|exact j4 _
    ·go_simp
     refine hK _ _ hJ (Below.refl _ _) ?_
     first|exact rfl|exact j3 _|exact j4 _
    ·have e9:v 9=.int .i64 (t:Int):=hF 9 (hA 9 (by simp))
     have W:Value.int .i64 (IntKind.i64.wrap (4*(t:Int)))=.int .i64 (4*(t:Int)):=(by rw [IntWalk.i64_in _ (by have:=HT.out;omega)])
     simp only [e9]at hK
     go_simp
     refine hK _ _ hJ (Below.refl _ _) ?_
     first|exact rfl|exact j3 _|exact j4 _
    ·have e10:v 10=.int .i64 (4*(t:Int)):=hF 10 (hA 10 (by simp))
     have W:Value.int .i64 (IntKind.i64.wrap (4*(t:Int)+1))=.int .i64 (4*(t:Int)+1):=(by rw [IntWalk.i64_in _ (by have:=HT.out;omega)])
     simp only [e10]at hK
     go_simp
     refine hK _ _ hJ (Below.refl _ _) ?_
     first|exact rfl|exact j3 _|exact j4 _
    ·have e8:v 8=.slice (some ⟨bb,bo,none⟩) 64 cb:=hF 8 (hA 8 (by simp))
     have e11:v 11=.int .i64 (4*(t:Int)+1):=hF 11 (hA 11 (by simp))
     have u0:0<=4*(t:Int)+1:=(by have:=HT.out;omega)
     have u1:4*(t:Int)+1<64:=(by have:=HT.out;omega)
     simp only [e8,e11]at hK
     go_simp
     refine hK _ _ hJ (Below.refl _ _) ?_
     first|exact rfl|exact j3 _|exact j4 _
    ·have e12:v 12=.pointer (some ⟨bb,bo+(4*t+1),none⟩):=hF 12 (hA 12 (by simp))
     have c0:=C1.out _ hJ
     simp only [e12]at hK
     go_simp
     refine hK _ _ hJ (Below.refl _ _) ?_
     first|exact rfl|exact j3 _|exact j4 _
    ·have e13:v 13=U8 b1:=hF 13 (hA 13 (by simp))
     simp only [e13]at hK
     go_simp
     refine hK _ _ hJ (Below.refl _ _) ?_
     first|exact rfl|exact j3 _|exact j4 _
    ·have e14:v 14=W32 (ofW (bv b1)):=hF 14 (hA 14 (by simp))
     simp only [e14]at hK
     go_simp
     refine hK _ _ hJ (Below.refl _ _) ?_
     first|exact rfl|exact j3 _|exact j4 _
    ·have e7:v 7=W32 (ofW (wv (ofW (bv b0))*16777216)):=hF 7 (hA 7 (by simp))
     have e15:v 15=W32 (ofW (wv (ofW (bv b1))*65536)):=hF 15 (hA 15 (by simp))
     simp only [e7,e15]at hK
     go_simp
     refine hK _ _ hJ (Below.refl _ _) ?_
     first|exact rfl|exact j3 _|exact j4 _
    ·go_simp
     refine hK _ _ hJ (Below.refl _ _) ?_
     first|exact rfl|exact j3 _|exact j4 _
    ·go_simp
     refine hK _ _ hJ (Below.refl _ _) ?_
     first|exact rfl|exact j3 _|exact j4 _
    ·have e18:v 18=.int .i64 (t:Int):=hF 18 (hA 18 (by simp))
     have W:Value.int .i64 (IntKind.i64.wrap (4*(t:Int)))=.int .i64 (4*(t:Int)):=(by rw [IntWalk.i64_in _ (by have:=HT.out;omega)])
     simp only [e18]at hK
     go_simp
     refine hK _ _ hJ (Below.refl _ _) ?_
     first|exact rfl|exact j3 _|exact j4 _
    ·have e19:v 19=.int .i64 (4*(t:Int)):=hF 19 (hA 19 (by simp))
     have W:Value.int .i64 (IntKind.i64.wrap (4*(t:Int)+2))=.int .i64 (4*(t:Int)+2):=(by rw [IntWalk.i64_in _ (by have:=HT.out;omega)])
     simp only [e19]at hK
     go_simp
     refine hK _ _ hJ (Below.refl _ _) ?_
     first|exact rfl|exact j3 _|exact j4 _
    ·have e17:v 17=.slice (some ⟨bb,bo,none⟩) 64 cb:=hF 17 (hA 17 (by simp))
     have e20:v 20=.int .i64 (4*(t:Int)+2):=hF 20 (hA 20 (by simp))
     have u0:0<=4*(t:Int)+2:=(by have:=HT.out;omega)
     have u1:4*(t:Int)+2<64:=(by have:=HT.out;omega)
     simp only [e17,e20]at hK
     go_simp
     refine hK _ _ hJ (Below.refl _ _) ?_
     first|exact rfl|exact j3 _|exact j4 _
    ·have e21:v 21=.pointer (some ⟨bb,bo+(4*t+2),none⟩):=hF 21 (hA 21 (by simp))
     have c0:=C2.out _ hJ
     simp only [e21]at hK
     go_simp
     refine hK _ _ hJ (Below.refl _ _) ?_
     first|exact rfl|exact j3 _|exact j4 _
    ·have e22:v 22=U8 b2:=hF 22 (hA 22 (by simp))
     simp only [e22]at hK
     go_simp
     refine hK _ _ hJ (Below.refl _ _) ?_
     first|exact rfl|exact j3 _|exact j4 _
    ·have e23:v 23=W32 (ofW (bv b2)):=hF 23 (hA 23 (by simp))
     simp only [e23]at hK
     go_simp
     refine hK _ _ hJ (Below.refl _ _) ?_
     first|exact rfl|exact j3 _|exact j4 _
    ·have e16:v 16=W32 (ofW (wv (ofW (bv b0))*16777216) ||| ofW (wv (ofW (bv b1))*65536)):=hF 16 (hA 16 (by simp))
     have e24:v 24=W32 (ofW (wv (ofW (bv b2))*256)):=hF 24 (hA 24 (by simp))
     simp only [e16,e24]at hK
     go_simp
     refine hK _ _ hJ (Below.refl _ _) ?_
     first|exact rfl|exact j3 _|exact j4 _
    ·go_simp
     refine hK _ _ hJ (Below.refl _ _) ?_
     first|exact rfl|exact j3 _|exact j4 _
    ·go_simp
     refine hK _ _ hJ (Below.refl _ _) ?_
     first|exact rfl|exact j3 _|exact j4 _
    ·have e27:v 27=.int .i64 (t:Int):=hF 27 (hA 27 (by simp))
     have W:Value.int .i64 (IntKind.i64.wrap (4*(t:Int)))=.int .i64 (4*(t:Int)):=(by rw [IntWalk.i64_in _ (by have:=HT.out;omega)])
     simp only [e27]at hK
     go_simp
     refine hK _ _ hJ (Below.refl _ _) ?_
     first|exact rfl|exact j3 _|exact j4 _
    ·have e28:v 28=.int .i64 (4*(t:Int)):=hF 28 (hA 28 (by simp))
     have W:Value.int .i64 (IntKind.i64.wrap (4*(t:Int)+3))=.int .i64 (4*(t:Int)+3):=(by rw [IntWalk.i64_in _ (by have:=HT.out;omega)])
     simp only [e28]at hK
     go_simp
     refine hK _ _ hJ (Below.refl _ _) ?_
     first|exact rfl|exact j3 _|exact j4 _
    ·have e26:v 26=.slice (some ⟨bb,bo,none⟩) 64 cb:=hF 26 (hA 26 (by simp))
     have e29:v 29=.int .i64 (4*(t:Int)+3):=hF 29 (hA 29 (by simp))
     have u0:0<=4*(t:Int)+3:=(by have:=HT.out;omega)
     have u1:4*(t:Int)+3<64:=(by have:=HT.out;omega)
     simp only [e26,e29]at hK
     go_simp
     refine hK _ _ hJ (Below.refl _ _) ?_
     first|exact rfl|exact j3 _|exact j4 _
    ·have e30:v 30=.pointer (some ⟨bb,bo+(4*t+3),none⟩):=hF 30 (hA 30 (by simp))
     have c0:=C3.out _ hJ
     simp only [e30]at hK
     go_simp
     refine hK _ _ hJ (Below.refl _ _) ?_
     first|exact rfl|exact j3 _|exact j4 _
    ·have e31:v 31=U8 b3:=hF 31 (hA 31 (by simp))
     simp only [e31]at hK
     go_simp
     refine hK _ _ hJ (Below.refl _ _) ?_
     first|exact rfl|exact j3 _|exact j4 _
    ·have e25:v 25=W32 (ofW (wv (ofW (bv b0))*16777216) ||| ofW (wv (ofW (bv b1))*65536) ||| ofW (wv (ofW (bv b2))*256)):=hF 25 (hA 25 (by simp))
     have e32:v 32=W32 (ofW (bv b3)):=hF 32 (hA 32 (by simp))
     simp only [e25,e32]at hK
     go_simp
     refine hK _ _ hJ (Below.refl _ _) ?_
     first|exact rfl|exact j3 _|exact j4 _
   case tail=>
    intro v w1 hJ hF
    have e0:v 0=.int .i64 (t:Int):=hF 0 (by simp)
    have e1:v 1=.slice (some ⟨bb,bo,none⟩) 64 cb:=hF 1 (by simp)
    have e2:v 2=.int .i64 (t:Int):=hF 2 (by simp)
    have e3:v 3=.int .i64 (4*(t:Int)):=hF 3 (by simp)
    have e4:v 4=.pointer (some ⟨bb,bo+4*t,none⟩):=hF 4 (by simp)
    have e5:v 5=U8 b0:=hF 5 (by simp)
    have e6:v 6=W32 (ofW (bv b0)):=hF 6 (by simp)
    have e7:v 7=W32 (ofW (wv (ofW (bv b0))*16777216)):=hF 7 (by simp)
    have e8:v 8=.slice (some ⟨bb,bo,none⟩) 64 cb:=hF 8 (by simp)
    have e9:v 9=.int .i64 (t:Int):=hF 9 (by simp)
    have e10:v 10=.int .i64 (4*(t:Int)):=hF 10 (by simp)
    have e11:v 11=.int .i64 (4*(t:Int)+1):=hF 11 (by simp)
    have e12:v 12=.pointer (some ⟨bb,bo+(4*t+1),none⟩):=hF 12 (by simp)
    have e13:v 13=U8 b1:=hF 13 (by simp)
    have e14:v 14=W32 (ofW (bv b1)):=hF 14 (by simp)
    have e15:v 15=W32 (ofW (wv (ofW (bv b1))*65536)):=hF 15 (by simp)
    have e16:v 16=W32 (ofW (wv (ofW (bv b0))*16777216) ||| ofW (wv (ofW (bv b1))*65536)):=hF 16 (by simp)
    have e17:v 17=.slice (some ⟨bb,bo,none⟩) 64 cb:=hF 17 (by simp)
    have e18:v 18=.int .i64 (t:Int):=hF 18 (by simp)
    have e19:v 19=.int .i64 (4*(t:Int)):=hF 19 (by simp)
    have e20:v 20=.int .i64 (4*(t:Int)+2):=hF 20 (by simp)
    have e21:v 21=.pointer (some ⟨bb,bo+(4*t+2),none⟩):=hF 21 (by simp)
    have e22:v 22=U8 b2:=hF 22 (by simp)
    have e23:v 23=W32 (ofW (bv b2)):=hF 23 (by simp)
    have e24:v 24=W32 (ofW (wv (ofW (bv b2))*256)):=hF 24 (by simp)
    have e25:v 25=W32 (ofW (wv (ofW (bv b0))*16777216) ||| ofW (wv (ofW (bv b1))*65536) ||| ofW (wv (ofW (bv b2))*256)):=hF 25 (by simp)
    have e26:v 26=.slice (some ⟨bb,bo,none⟩) 64 cb:=hF 26 (by simp)
    have e27:v 27=.int .i64 (t:Int):=hF 27 (by simp)
    have e28:v 28=.int .i64 (4*(t:Int)):=hF 28 (by simp)
    have e29:v 29=.int .i64 (4*(t:Int)+3):=hF 29 (by simp)
    have e30:v 30=.pointer (some ⟨bb,bo+(4*t+3),none⟩):=hF 30 (by simp)
    have e31:v 31=U8 b3:=hF 31 (by simp)
    have e32:v 32=W32 (ofW (bv b3)):=hF 32 (by simp)
    have e33:v 33=W32 (ofW (wv (ofW (bv b0))*16777216) ||| ofW (wv (ofW (bv b1))*65536) ||| ofW (wv (ofW (bv b2))*256) ||| ofW (bv b3)):=hF 33 (by simp)
    simp only [List.drop_succ_cons,List.drop_zero,ja,Act.put,Nat.zero_add,Nat.reduceAdd,List.setIfInBounds_toArray,List.set_cons_zero,List.set_cons_succ]
    have HJ:=Lib.hid hJ
    have hw2:w1.heap[w.heap.size]?=some (.cells (JB 64 (jB b t)) 142 (0,0)):=(hJ.block w.heap.size (Array.getElem?_eq_some_iff.1 HWB.out).1).trans HWB.out
    obtain⟨sc,sf⟩:=qt (by rw [j7];exact ht64) hw2
    rw [j7]at sc sf
    have HW2:=Lib.hid hw2
    simp only [e0,e33]
    clear hJ hF hw2
    go_wp2_with fail
    go_roundg m
    case measure=>omega
    case rel=>exact⟨t+1,m,rfl,by omega,by go_num,Lib.hid (by
     have h:=qs (x:=Z0 b0 b1 b2 b3) (by rw [j7];exact ht64) HW2.out
     rw [j7]at h
     rw [jB,HNX.out];exact h),(HBR.out.trans (HJ.out.mono HBR.out.size)).setCell (p:=⟨w.heap.size,t,none⟩) (Nat.le_refl _) _⟩
end Go.Proofs.YtalmmiojbmpmiaaGreatDoor
