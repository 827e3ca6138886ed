/- The walks of the small functions of the package aes; The walks of the package aes: the tables, rotate, mix; The walk of (*block).mix; The walk of (*tables).e... -/
import Derived.BigQuiet
import Derived.Deep.RegionHeld3
import Derived.StillTailTactics
import Derived.Test.YtalmmiojbmpmiaaGreatDoorProg
import Derived.WalkLawsBesides
import Derived.WalkSpells
import Derived.Test.YtalmmiojbmpmiaaGreatDoorPb
set_option linter.all false
set_option maxRecDepth 100000
set_option maxHeartbeats 1000000
namespace Go.Proofs.YtalmmiojbmpmiaaGreatDoor
open Go.RowKit
def dbl(b:UInt8):UInt8:=if b &&& 128 != 0 then b*2 ^^^ 27 else b*2
theorem j4p(b:UInt8)(h:(b &&& 128 != 0)=true):dbl b=b*2 ^^^ 27:=by unfold dbl;rw [iT h]
theorem j6i(b:UInt8)(h:(b &&& 128 != 0)=false):dbl b=b*2:=by unfold dbl;rw [iF (by simp [h])]
theorem yp(b:UInt8)(w:World):
 Calls Tryz.prog 171 #[U8 b] w fun e w'=>e=.returned (U8 (dbl b))/\w'=w:=by
 go_enter Tryz.func171,Tryz.ntmps171
 go_wp2
 all_goals go_ret
 ·exact⟨by rw [j4p b ‹_›]<;>rfl,rfl⟩
 ·exact⟨by rw [j6i b ‹_›]<;>rfl,rfl⟩
def yW:Nat->UInt8->UInt8->UInt8->UInt8
 |0,_,_,out=>out
 |n+1,a,b,out=>if b != 0 then yW n (dbl a) (b / 2) (if b &&& 1==1 then out ^^^ a else out)else out
def j2c(a b:UInt8):UInt8:=yW 8 a b 0
section
variable(n:Nat)(a b out:UInt8)
include n a b out
theorem XA(h:(b != 0)=false):yW n a b out=out:=by cases n<;>simp [yW,h]
theorem XB(h:(b != 0)=true)(h1:(b &&& 1==1)=true):yW (n+1) a b out=yW n (dbl a) (b / 2) (out ^^^ a):=by
 rw [yW,iT h,iT h1]
theorem KC(h:(b != 0)=true)(h1:(b &&& 1==1)=false):yW (n+1) a b out=yW n (dbl a) (b / 2) out:=by
 rw [yW,iT h,iF (by simp [h1])]
end
theorem j0y(b:UInt8)(n:Nat)(h:bv b<2 ^ (n+1)):bv (b / 2)<2 ^ n:=by
 have:=Yr b 2 (by omega) (by omega)
 rw [j30]at this
 rw [<-this,Int.ediv_lt_iff_lt_mul (by omega)]
 have e:(2:Int) ^ (n+1)=2 ^ n*2:=Int.pow_succ ..
 omega
theorem VK(b:UInt8)(h:(b != 0)=true):(bv (b / 2)).toNat<(bv b).toNat:=by
 have h1:=Yr b 2 (by omega) (by omega)
 rw [j30]at h1
 have h2:=jP b
 have h3:bv b≠0:=fun e=>by
  have:b=0:=xy e
  simp [this]at h
 omega
theorem XP(n:Nat)(b:UInt8)(h:(b != 0)=true)(hlt:bv b<2 ^ n):∃m,n=m+1:=by
 rcases n with _|m
 ·exfalso
  have h2:=jP b
  have:b=0:=xy (by show bv b=0;omega)
  simp [this]at h
 ·exact⟨m,rfl⟩
theorem yO(a b:UInt8)(w:World):
 Calls Tryz.prog 172 #[U8 a,U8 b] w fun e w'=>e=.returned (U8 (j2c a b))/\w'=w:=by
 go_enter Tryz.func172,Tryz.ntmps172
 go_wp2
 go_loop [0,1,5] (fun x y o=>∃(n:Nat) (a' b' out:UInt8),x=U8 a'/\y=U8 b'/\o=U8 out/\bv b'<2 ^ n/\Hid (yW n a' b' out=j2c a b)) (fun _ y _=>(intOf y).toNat)
 case atStart=>exact⟨8,a,b,0,rfl,rfl,rfl,jT b,rfl⟩
 case round=>
  obtain⟨n,a',b',out,rfl,rfl,rfl,hlt,hg⟩:=hrel
  have H:=iH hlt;clear hlt
  go_wp2_with(go_at_call 171;refine(yp _ _).mono ?_;rintro e w' ⟨rfl,rfl⟩)
  ·go_round
   case rel=>
    obtain⟨m,rfl⟩:=XP n b' ‹_› H.out
    exact⟨m,_,_,_,rfl,rfl,rfl,j0y _ _ H.out,by rw [<-XB m a' b' out ‹_› ‹_›];exact hg⟩
   case measure=>exact VK b' ‹_›
  ·go_round
   case rel=>
    obtain⟨m,rfl⟩:=XP n b' ‹_› H.out
    exact⟨m,_,_,_,rfl,rfl,rfl,j0y _ _ H.out,by rw [<-KC m a' b' out ‹_› ‹_›];exact hg⟩
   case measure=>exact VK b' ‹_›
  ·go_ret
   refine⟨?_,rfl⟩
   have e:j2c a b=out:=by rw [<-hg.out,XA n a' b' out ‹_›]
   rw [e]
   rfl
theorem qk(g:Nat)(t:TypeId)(f k:Nat->UInt8)(w:World)(hg:w.rowIs g t 16 (fun j=>U8 (f j))):
 Calls Tryz.prog 151 #[.pointer (some ⟨g,0,none⟩),.agg (kO 16 k)] w fun e w'=>e=.returned (.tuple #[])/\w'.rowIs g t 16 (fun j=>U8 (f j ^^^ k j))/\w.grownBy w' (some g):=by
 have hlt:=hg.lt
 go_enter Tryz.func151,Tryz.ntmps151
 go_wp2
 go_loopw [5] (fun i wr=>∃n:Nat,n<=16/\i=.int .i64 n/\wr.rowIs g t 16 (fun j=>U8 (qI n (fun j=>f j ^^^ k j) f j))/\wr.rowIs w.heap.size 148 16 (fun j=>U8 (k j))/\w.grownBy wr (some g)) (fun i _=>16 - (intOf i).toNat)
 case atStart=>exact⟨0,by omega,rfl,jy (hg.alloc _) _,jR _ _ _ _,jQ (World.grownBy.refl _ _) _⟩
 case round=>
  obtain⟨n,hn,rfl,hr,hk,hgr⟩:=hrel
  by_cases hlt:n<16
  ·have hc1:=jJ hr hlt
   have hc2:=hk.cell hlt
   have hf:=hr.frozen n
   go_wp2
   go_still_tail 11,(by kernel_rfl)
   go_wp2
   go_roundw
   case rel=>
    exact⟨n+1,by omega,by go_num,(jE hr rfl).drew,hk.setOther (by simp;omega) _,kS (j7 hgr (.inl rfl) _)⟩
   case measure=>simp [intOf]<;>omega
  ·go_wp2
   go_end0
   exact⟨rfl,jx hr (by omega),hgr⟩
theorem qp(g tb off:Nat)(t:TypeId)(f T:Nat->UInt8)(w:World)(hg:w.rowIs g t 16 (fun j=>U8 (f j)))(hT:ArrB w tb off 256 T)(hne:tb≠g):
 Calls Tryz.prog 152 #[.pointer (some ⟨g,0,none⟩),.pointer (some ⟨tb,off,none⟩)] w fun e w'=>e=.returned (.tuple #[])/\w'.rowIs g t 16 (fun j=>U8 (T (f j).toNat))/\w.grownBy w' (some g):=by
 go_enter Tryz.func152,Tryz.ntmps152
 go_wp2
 go_loopw [5] (fun i wr=>∃n:Nat,n<=16/\i=.int .i64 n/\wr.rowIs g t 16 (fun j=>U8 (qI n (fun j=>T (f j).toNat) f j))/\w.grownBy wr (some g)) (fun i _=>16 - (intOf i).toNat)
 case atStart=>exact⟨0,by omega,rfl,jy hg _,World.grownBy.refl _ _⟩
 case round=>
  obtain⟨n,hn,rfl,hr,hgr⟩:=hrel
  by_cases hlt:n<16
  ·have hc1:=jJ hr hlt
   have hf:=hr.frozen n
   have hbn:=jP (f n)
   have hbl:=jT (f n)
   have hc2:=(hT.only hgr hne).at_ (f n).toNat_lt
   go_wp2
   go_still_tail 13,(by kernel_rfl)
   go_wp2
   go_roundw
   case rel=>
    exact⟨n+1,by omega,by go_num,(jE hr rfl).drew,kS (j7 hgr (.inl rfl) _)⟩
   case measure=>simp [intOf]<;>omega
  ·go_wp2
   go_end0
   exact⟨rfl,jx hr (by omega),hgr⟩
theorem ZO(a b:UInt8)(x y:Int)(hx:x=bv a)(hy:y=bv b)(w:World):
 Calls Tryz.prog 172 #[.int .u8 x,.int .u8 y] w fun e w'=>e=.returned (U8 (j2c a b))/\w'=w:=by
 subst hx;subst hy;exact yO a b w
def j84(y:UInt8)(n:Nat):UInt8:=y*ofI (2 ^ n) ||| ofI (bv y / 2 ^ (8 - n))
def j63(y:UInt8)(n:Nat):UInt8:=(List.range n).foldl (fun s i=>s ^^^ j84 y i) 99
theorem j0v(y:UInt8)(n:Nat):j63 y (n+1)=j63 y n ^^^ j84 y n:=by unfold j63;rw [List.range_succ,List.foldl_append]<;>rfl
def sbx(y:UInt8):UInt8:=j63 y 5
def j1q(F:Nat->UInt8)(x y:UInt8)(j:Nat):UInt8:=if j=256+(sbx y).toNat then x else if j=x.toNat then sbx y else F j
theorem j0x(g:Nat)(t:TypeId)(F:Nat->UInt8)(x y:UInt8)(w:World)(hg:w.rowIs g t 512 (fun j=>U8 (F j))):
 Calls Tryz.prog 170 #[.pointer (some ⟨g,0,none⟩),U8 x,U8 y] w fun e w'=>e=.returned (.tuple #[])/\
  w'.rowIs g t 512 (fun j=>U8 (j1q F x y j))/\w.grownBy w' (some g):=by
 go_enter Tryz.func170,Tryz.ntmps170
 go_wp2
 go_loopw [6,8] (fun s i wr=>∃(n:Nat),n<=5/\i=.int .i64 n/\s=U8 (j63 y n)/\wr.rowIs g t 512 (fun j=>U8 (F j))/\w.grownBy wr (some g)) (fun _ i _=>5 - (intOf i).toNat)
 case atStart=>exact⟨0,by omega,rfl,rfl,hg,World.grownBy.refl _ _⟩
 case round=>
  obtain⟨n,hn,rfl,rfl,hr,hgr⟩:=hrel
  by_cases hlt:n<5
  ·go_wp2
   go_quiet (fail)
   go_wp2
   go_roundw
   case rel=>exact⟨n+1,by omega,by go_num,by rw [j0v]<;>rfl,ZY hr _,jw hgr _⟩
   case measure=>simp [intOf]<;>omega
  ·have e5:n=5:=by omega
   subst e5
   have hx0:=jP x
   have hx1:=jT x
   obtain⟨s,hs⟩:∃s,s=j63 y 5:=⟨_,rfl⟩
   rw [<-hs]
   have Hs:=iH hs;clear hs
   have hs0:=jP s
   have hs1:=jT s
   have hxn:=x.toNat_lt
   have hsn:=s.toNat_lt
   have hc1:=hr.cell (i:=x.toNat) (by omega)
   have hf1:=hr.frozen x.toNat
   have hc2:=hr.cell (i:=256+s.toNat) (by omega)
   have hf2:=hr.frozen (256+s.toNat)
   go_wp2
   go_region
   go_wp2
   go_end0
   refine⟨rfl,((hr.set _ _).set _ _).drew.congr fun j hj=> ?_,kS (j7 (j7 hgr (.inl rfl) _) (.inl rfl) _)⟩
   have es:sbx y=s:=Hs.out.symm
   unfold j1q
   rw [es]
   by_cases e1:j=256+s.toNat
   ·rw [iT e1,iT e1]
   ·rw [iF e1,iF e1]
    by_cases e2:j=x.toNat
    ·rw [iT e2,iT e2]
    ·rw [iF e2,iF e2]
def JM:Nat->UInt8
 |0=>1
 |n+1=>JM n ^^^ dbl (JM n)
def j37:Nat->UInt8
 |0=>1
 |n+1=>j2c (j37 n) 246
def j5r:Nat->Nat->UInt8
 |0=>fun _=>0
 |n+1=>j1q (j5r n) (JM n) (j37 n)
def j5s(j:Nat):UInt8:=j1q (j5r 255) 0 0 j
theorem Vb(w:World):(zeroValue 158).run Tryz.prog w=.ok (.agg (kO 512 fun _=>0)) w:=by kernel_rfl
theorem Qu(w:World):
 Calls Tryz.prog 149 #[] w fun e w'=>e=.returned (.pointer (some ⟨w.heap.size,0,none⟩))/\w'.rowIs w.heap.size 158 512 (fun j=>U8 (j5s j))/\Below w.heap.size w w':=by
 have hz:=Vb
 go_enter Tryz.func149,Tryz.ntmps149
 go_wp2
 go_loopw [2,3,6] (fun x y i wr=>∃n:Nat,n<=255/\i=.int .i64 n/\x=U8 (JM n)/\y=U8 (j37 n)/\wr.rowIs w.heap.size 158 512 (fun j=>U8 (j5r n j))/\Below w.heap.size w wr) (fun _ _ i _=>255 - (intOf i).toNat)
 case atStart=>exact⟨0,by omega,rfl,rfl,rfl,jR _ _ _ _,iA⟩
 case round=>
  obtain⟨n,hn,rfl,rfl,rfl,hr,hgr⟩:=hrel
  by_cases hlt:n<255
  ·go_wp2_with fail
   refine(j0x _ _ _ _ _ _ hr).mono ?_
   rintro e w1 ⟨rfl,hr1,hg1⟩
   go_wp2_with fail
   refine(yp _ _).mono ?_
   rintro e w2 ⟨rfl,rfl⟩
   go_wp2_with fail
   refine(ZO (j37 n) 246 _ _ rfl rfl _).mono ?_
   rintro e w2 ⟨rfl,rfl⟩
   go_wp2
   go_roundw
   case rel=>exact⟨n+1,by omega,by go_num,rfl,rfl,hr1,hgr.trans (j8 hg1 hgr.size iL)⟩
   case measure=>simp [intOf]<;>omega
  ·have e5:n=255:=by omega
   subst e5
   go_wp2_with fail
   refine(j0x _ _ _ 0 0 _ hr).mono ?_
   rintro e w1 ⟨rfl,hr1,hg1⟩
   go_wp2
   go_ret
   exact⟨rfl,hr1,hgr.trans (j8 hg1 hgr.size iL)⟩
def Zq(s:Nat)(f:Nat->UInt8)(i:Nat):UInt8:=f (4*((i / 4+s*(i % 4)) % 4)+i % 4)
section
variable(g:Nat)(t:TypeId)(f:Nat->UInt8)(w:World)(hg:w.rowIs g t 16 (fun j=>U8 (f j)))
include g t f w hg
theorem JW:
 Calls Tryz.prog 153 #[.pointer (some ⟨g,0,none⟩),.int .i64 1] w fun e w'=>e=.returned (.tuple #[])/\w'.rowIs g t 16 (fun j=>U8 (Zq 1 f j))/\w.grownBy w' (some g):=by
 have hrow:=qD hg
 have hlt:=hg.lt
 have hst:=xP (P:=Tryz.prog) (T:=148) (n:=16) rfl f
 go_enter Tryz.func153,Tryz.ntmps153
 go_wp2_with(refine wpList_load_row rfl 148 (.tmp 9) rfl g rfl t (kO 16 f) (0,0) _ hrow Tryz.underlying148 rfl (by rw [jI]<;>rfl) ?_)
 go_loopw [11] (fun i wr=>∃n:Nat,n<=16/\i=.int .i64 n/\wr.rowIs g t 16 (fun j=>U8 (qI n (Zq 1 f) f j))/\wr.rowIs w.heap.size 148 16 (fun j=>U8 (f j))/\w.grownBy wr (some g)) (fun i _=>16 - (intOf i).toNat)
 case atStart=>exact⟨0,by omega,rfl,jy (hg.alloc _) _,jR _ _ _ _,jQ (World.grownBy.refl _ _) _⟩
 case round=>
  obtain⟨n,hn,rfl,hr,ho,hgr⟩:=hrel
  by_cases hlt:n<16
  ·have hc1:=jJ hr hlt
   have hf:=hr.frozen n
   have hc2:=fun j (h:j<16)=>ho.cell (i:=j) h
   have hi0:0<=4*(((n:Int) / 4+n) % 4)+(n:Int) % 4:=by omega
   have hi1:4*(((n:Int) / 4+n) % 4)+(n:Int) % 4<16:=by omega
   have hi2:4*((n / 4+n) % 4)+n % 4<16:=by omega
   have he:f (4*((n / 4+n) % 4)+n % 4)=Zq 1 f n:=by unfold Zq;congr 1;omega
   have He:=iH he;clear he
   go_wp2
   refine wp_region_still_tail 15 (by kernel_rfl) (by kernel_rfl) ?_
   simp only [List.take_succ_cons,List.take_zero,List.drop_succ_cons,List.drop_zero]
   repeat(refine wpStill_step (fun K hK=> ?_);go_simp;(try go_bits);refine hK _ ?_;clear hK K)
   refine wpStill_nil ?_
   go_wp2
   go_roundw
   case rel=>exact⟨n+1,by omega,by go_num,(jE hr He.out).drew,ho.setOther (by simp;omega) _,kS (j7 hgr (.inl rfl) _)⟩
   case measure=>simp [intOf]<;>omega
  ·go_wp2
   go_end0
   exact⟨rfl,jx hr (by omega),hgr⟩
theorem JX:
 Calls Tryz.prog 153 #[.pointer (some ⟨g,0,none⟩),.int .i64 3] w fun e w'=>e=.returned (.tuple #[])/\w'.rowIs g t 16 (fun j=>U8 (Zq 3 f j))/\w.grownBy w' (some g):=by
 have hrow:=qD hg
 have hlt:=hg.lt
 have hst:=xP (P:=Tryz.prog) (T:=148) (n:=16) rfl f
 go_enter Tryz.func153,Tryz.ntmps153
 go_wp2_with(refine wpList_load_row rfl 148 (.tmp 9) rfl g rfl t (kO 16 f) (0,0) _ hrow Tryz.underlying148 rfl (by rw [jI]<;>rfl) ?_)
 go_loopw [11] (fun i wr=>∃n:Nat,n<=16/\i=.int .i64 n/\wr.rowIs g t 16 (fun j=>U8 (qI n (Zq 3 f) f j))/\wr.rowIs w.heap.size 148 16 (fun j=>U8 (f j))/\w.grownBy wr (some g)) (fun i _=>16 - (intOf i).toNat)
 case atStart=>exact⟨0,by omega,rfl,jy (hg.alloc _) _,jR _ _ _ _,jQ (World.grownBy.refl _ _) _⟩
 case round=>
  obtain⟨n,hn,rfl,hr,ho,hgr⟩:=hrel
  by_cases hlt:n<16
  ·have hc1:=jJ hr hlt
   have hf:=hr.frozen n
   have hc2:=fun j (h:j<16)=>ho.cell (i:=j) h
   have hi0:0<=4*(((n:Int) / 4+3*((n:Int) % 4)) % 4)+(n:Int) % 4:=by omega
   have hi1:4*(((n:Int) / 4+3*((n:Int) % 4)) % 4)+(n:Int) % 4<16:=by omega
   have hi2:4*((n / 4+3*(n % 4)) % 4)+n % 4<16:=by omega
   have he:f (4*((n / 4+3*(n % 4)) % 4)+n % 4)=Zq 3 f n:=rfl
   have He:=iH he;clear he
   go_wp2
   refine wp_region_still_tail 15 (by kernel_rfl) (by kernel_rfl) ?_
   simp only [List.take_succ_cons,List.take_zero,List.drop_succ_cons,List.drop_zero]
   repeat(refine wpStill_step (fun K hK=> ?_);go_simp;(try go_bits);refine hK _ ?_;clear hK K)
   refine wpStill_nil ?_
   go_wp2
   go_roundw
   case rel=>exact⟨n+1,by omega,by go_num,(jE hr He.out).drew,ho.setOther (by simp;omega) _,kS (j7 hgr (.inl rfl) _)⟩
   case measure=>simp [intOf]<;>omega
  ·go_wp2
   go_end0
   exact⟨rfl,jx hr (by omega),hgr⟩
end
def j2r(row f:Nat->UInt8)(i n:Nat):UInt8:=(List.range n).foldl (fun s k=>s ^^^ j2c (f (i / 4*4+k)) (row ((k+4 - i % 4) % 4))) 0
theorem XJ(row f:Nat->UInt8)(i n:Nat):j2r row f i (n+1)=j2r row f i n ^^^ j2c (f (i / 4*4+n)) (row ((n+4 - i % 4) % 4)):=by
 unfold j2r;rw [List.range_succ,List.foldl_append]<;>rfl
def j2q(row f:Nat->UInt8)(i:Nat):UInt8:=j2r row f i 4
def Yl(n:Nat)(v:UInt8)(new old:Nat->UInt8)(j:Nat):UInt8:=if j=n then v else qI n new old j
theorem j02(g:Nat)(t:TypeId)(f row:Nat->UInt8)(a:Array Value)(ha:a=kO 4 row)(w:World)(hg:w.rowIs g t 16 (fun j=>U8 (f j))):
 Calls Tryz.prog 154 #[.pointer (some ⟨g,0,none⟩),.agg a] w fun e w'=>e=.returned (.tuple #[])/\w'.rowIs g t 16 (fun j=>U8 (j2q row f j))/\w.grownBy w' (some g):=by
 subst ha
 have hrow:=qD hg
 have hlt:=hg.lt
 have hst:=xP (P:=Tryz.prog) (T:=148) (n:=16) rfl f
 have hrow':(w.alloc (.cells (kO 4 row) 161)).heap[g]?=some (.cells (kO 16 f) t (0,0)):=by rw [Below.heap_alloc _ _ _ hlt];exact hrow
 go_enter Tryz.func154,Tryz.ntmps154
 go_wp2_with(refine wpList_load_row rfl 148 (.tmp 8) rfl g rfl t (kO 16 f) (0,0) _ hrow' Tryz.underlying148 rfl (by rw [jI]<;>rfl) ?_)
 go_loopw [10] (fun i wr=>∃n:Nat,n<=16/\i=.int .i64 n/\wr.rowIs g t 16 (fun j=>U8 (qI n (j2q row f) f j))/\wr.rowIs w.heap.size 161 4 (fun j=>U8 (row j))/\wr.rowIs (w.heap.size+1) 148 16 (fun j=>U8 (f j))/\w.grownBy wr (some g)) (fun i _=>16 - (intOf i).toNat)
 case atStart=>
  refine⟨0,by omega,rfl,jy ((hg.alloc _).alloc _) _,(jR _ _ _ _).alloc _,?_,jQ (jQ (World.grownBy.refl _ _) _) _⟩
  have:=jR (w.alloc (.cells (kO 4 row) 161)) 16 148 f
  simpa using this
 case round=>
  obtain⟨n,hn,rfl,hr,hw,ho,hgr⟩:=hrel
  by_cases hlt:n<16
  ·have hc1:=hr.cell hlt
   have hf:=hr.frozen n
   have hd:decide ((n:Int)<16)=true:=by simp;omega
   go_wp2
   obtain⟨wo,rfl⟩:∃wo:World,wo=wr.setCell ⟨g,n,none⟩ (U8 0):=⟨_,rfl⟩
   have hr1:(wr.setCell ⟨g,n,none⟩ (U8 0)).rowIs g t 16 (fun j=>U8 (Yl n (j2r row f n 0) (j2q row f) f j)):=(hr.set n _).congr fun j _=>by
    unfold Yl
    by_cases e:j=n
    ·rw [iT e,iT e]<;>rfl
    ·rw [iF e,iF e]
   have hw1:=hw.setOther (a:=⟨g,n,none⟩) (by simp;omega) (U8 0)
   have ho1:=ho.setOther (a:=⟨g,n,none⟩) (by simp;omega) (U8 0)
   have hg1:=j7 (p:=⟨g,n,none⟩) hgr (.inl rfl) (U8 0)
   clear hr hw ho hgr hc1 hf hst hrow hrow'
   go_loopw [17] (fun v wi=>∃k:Nat,k<=4/\v=.int .i64 k/\wi.rowIs g t 16 (fun j=>U8 (Yl n (j2r row f n k) (j2q row f) f j))/\wi.rowIs w.heap.size 161 4 (fun j=>U8 (row j))/\wi.rowIs (w.heap.size+1) 148 16 (fun j=>U8 (f j))/\w.grownBy wi (some g)) (fun v _=>4 - (intOf v).toNat)
   case atStart=>exact⟨0,by omega,rfl,hr1,hw1,ho1,hg1⟩
   case round=>
    clear hr1 hw1 ho1 hg1
    obtain⟨k,hk,rfl,hr,hw,ho,hgr⟩:=hrel
    by_cases hlt':k<4
    ·have hc1:=hr.cell hlt
     have hf:=hr.frozen n
     have hv:Yl n (j2r row f n k) (j2q row f) f n=j2r row f n k:=by unfold Yl;rw [iT rfl]
     rw [hv]at hc1
     clear hv
     have hc2:=fun j (h:j<16)=>ho.cell (i:=j) h
     have hq:(((k:Int) - (n:Int)) % 4).toNat=(k+4 - n % 4) % 4:=by omega
     have hc3:wr.cell? ⟨w.heap.size,(((k:Int) - (n:Int)) % 4).toNat,none⟩=some (U8 (row ((k+4 - n % 4) % 4))):=by rw [hq];exact hw.cell (by omega)
     clear hq
     have hi3:0<=((k:Int) - (n:Int)) % 4:=by omega
     have hi4:((k:Int) - (n:Int)) % 4<4:=by omega
     have hnI:(n:Int)<16:=by omega
     have hi0:0<=(n:Int) / 4*4+k:=by omega
     have hi1:(n:Int) / 4*4+k<16:=by omega
     have hi2:n / 4*4+k<16:=by omega
     go_wp2
     refine wp_region_still_tail 24 (by kernel_rfl) (by kernel_rfl) ?_
     simp only [List.take_succ_cons,List.take_zero,List.drop_succ_cons,List.drop_zero]
     repeat(refine wpStill_step (fun K hK=> ?_);go_simp;(try go_bits);refine hK _ ?_;clear hK K)
     refine wpStill_step (fun K hK=> ?_)
     go_simp
     refine⟨_,yO _ _ _,hK _ ?_⟩
     clear hK K
     repeat(refine wpStill_step (fun K hK=> ?_);go_simp;(try go_bits);refine hK _ ?_;clear hK K)
     refine wpStill_nil ?_
     go_wp2
     go_roundw
     case rel=>
      refine⟨k+1,by omega,by go_num,((hr.set n _).congr fun j _=> ?_).drew,hw.setOther (by simp;omega) _,ho.setOther (by simp;omega) _,kS (j7 hgr (.inl rfl) _)⟩
      unfold Yl
      by_cases e:j=n
      ·rw [iT e,iT e,XJ]
      ·simp only [iF e]
     case measure=>simp [intOf]<;>omega
    ·go_wp2
     have hk4:k=4:=by omega
     subst hk4
     go_roundw
     case rel=>
      refine⟨n+1,by omega,by go_num,hr.congr fun j _=> ?_,hw,ho,hgr⟩
      unfold Yl
      by_cases e:j=n
      ·subst e;rw [iT rfl];unfold qI;rw [iT (by omega)]<;>rfl
      ·rw [iF e];unfold qI
       by_cases e2:j<n
       ·rw [iT e2,iT (by omega)]
       ·rw [iF e2,iF (by omega)]
     case measure=>simp [intOf]<;>omega
  ·go_wp2
   go_end0
   exact⟨rfl,jx hr (by omega),hgr⟩
def kQ:Nat->UInt8
 |0=>1
 |n+1=>dbl (kQ n)
def kw0(T old:Nat->UInt8)(c:UInt8)(r:Nat):UInt8:=if r=0 then T (old 13).toNat ^^^ c else if r=1 then T (old 14).toNat else if r=2 then T (old 15).toNat else T (old 12).toNat
def kwF(T old:Nat->UInt8)(c:UInt8):Nat->Nat->UInt8
 |0=>kw0 T old c
 |n+1=>fun r=>if r=n % 4 then kwF T old c n r ^^^ old n else kwF T old c n r
theorem ZL(T old:Nat->UInt8)(c:UInt8)(n r:Nat)(e:r=n % 4):kwF T old c (n+1) r=kwF T old c n r ^^^ old n:=by show(if r=n % 4 then _ else _)=_;rw [iT e]
theorem YE(T old:Nat->UInt8)(c:UInt8)(n r:Nat)(e:¬r=n % 4):kwF T old c (n+1) r=kwF T old c n r:=by show(if r=n % 4 then _ else _)=_;rw [iF e]
def JH(T old:Nat->UInt8)(c:UInt8)(k:Nat):UInt8:=kwF T old c (k+1) (k % 4)
def qF(T key:Nat->UInt8):Nat->Nat->UInt8
 |0=>key
 |i+1=>JH T (qF T key i) (kQ i)
def kz(T key:Nat->UInt8)(j:Nat):UInt8:=qF T key (j / 16) (j % 16)
theorem j3v(w:World):(zeroValue 149).run Tryz.prog w=.ok (.agg (kO 176 fun _=>0)) w:=by kernel_rfl
theorem Up(tb off:Nat)(T:Nat->UInt8)(v:Value)(l:List UInt8)(hl:l.length=16)(w:World)(hT:ArrB w tb off 256 T)(htb:tb<w.heap.size)(hv:Bs w w.heap.size v l):
 Calls Tryz.prog 150 #[.pointer (some ⟨tb,off,none⟩),v] w fun e w'=>e=.returned (.agg (kO 176 (kz T (gb l))))/\Below w.heap.size w w':=by
 have hz:=j3v
 obtain⟨a,c,rfl,hlc,hc,_,hcell⟩:=hv
 obtain⟨kb,ko,rfl,hkb,hkey⟩:=hcell (by omega)
 rw [hl]at hlc hkey |-
 obtain⟨key,hkey'⟩:∃key:Nat->UInt8,key=gb l:=⟨_,rfl⟩
 rw [<-hkey']
 have hkey:∀j,j<16->w.cell? ⟨kb,ko+j,none⟩=some (U8 (key j)):=fun j hj=>by rw [hkey'];exact hkey j hj
 clear hkey' hcell
 have hg0:((w.alloc (.cells (kO 176 fun _=>0) 149)).alloc (.cells (kO 176 fun _=>0) 149)).heap[w.heap.size+1]?=some (.cells ((kO 176 fun _=>0).toList).toArray 149 (0,0)):=by rw [heap_alloc2_new]
 have hr0:((w.alloc (.cells (kO 176 fun _=>0) 149)).alloc (.cells (kO 176 fun _=>0) 149)).rowIs w.heap.size 149 176 (fun _=>U8 0):=(jR _ _ _ _).alloc _
 have hk0:∀(j:Nat) (u:Value),((List.range 16).map fun j=>U8 (key j))[j]?=some u->((w.alloc (.cells (kO 176 fun _=>0) 149)).alloc (.cells (kO 176 fun _=>0) 149)).cell? ((⟨kb,ko,none⟩:Addr).add j)=some u:=by
  intro j u hu
  have hj:j<16:=by
   rcases Nat.lt_or_ge j 16 with h|h
   ·exact h
   ·rw [List.getElem?_eq_none (by simp;omega)]at hu;cases hu
  have e:(⟨kb,ko,none⟩:Addr).add j=⟨kb,ko+j,none⟩:=by unfold Addr.add;split<;>simp_all
  rw [e,World.cell?_alloc_past _ _ _ (by simp;omega),World.cell?_alloc_past _ _ _ hkb,hkey j hj,<-hu]
  simp [hj]
 have Hg0:=iH hg0;clear hg0
 have Hr0:=iH hr0;clear hr0
 have Hk0:=iH hk0;clear hk0
 go_enter Tryz.func150,Tryz.ntmps150
 go_wp2_with(with_reducible refine wpList_copy_splice rfl (.tmp 12) (.tmp 13) 22 22 rfl 5 Tryz.underlying22 rfl _ _ 16 16 16 c rfl rfl (w.heap.size+1) 0 (kO 176 fun _=>0).toList 149 Hg0.out ((List.range 16).map fun j=>U8 (key j)) (by simp) (fun _=>⟨rfl,_,rfl,Hk0.out⟩) (by simp [kO]) (by simp [Value.oneCell']) (w.heap.size+1) _ iB iL ?_;intro w2 HG2 hB2)
 have hr2:w2.rowIs (w.heap.size+1) 149 176 (fun j=>U8 (qI 16 (kz T key) (fun _=>0) j)):=by
  have h:=HG2.out
  rw [Y6 176 16 0 _ _ (by omega)]at h
  refine⟨_,h,jI _ _,fun i hi=> ?_⟩
  rw [Js _ _ _ hi]
  unfold qI kz
  dsimp only
  by_cases e:i<16
  ·rw [iT (by omega),iT e,Nat.div_eq_of_lt e,Nat.mod_eq_of_lt e]<;>rfl
  ·rw [iF (by omega),iF e]
 have hs2:w2.rowIs w.heap.size 149 176 (fun _=>U8 0):=zD Hr0.out hB2 (by omega)
 have hb2:Below w.heap.size w w2:=((iA).alloc (by simp) _).trans (hB2.mono (by omega))
 clear hB2 HG2 Hg0 Hr0 Hk0 hkey
 go_loopw [6,7] (fun c i wr=>∃n:Nat,n<=10/\i=.int .i64 (n+1:Nat)/\c=U8 (kQ n)/\wr.rowIs (w.heap.size+1) 149 176 (fun j=>U8 (qI (16*(n+1)) (kz T key) (fun _=>0) j))/\wr.rowIs w.heap.size 149 176 (fun _=>U8 0)/\Below w.heap.size w wr) (fun _ i _=>11 - (intOf i).toNat)
 case atStart=>exact⟨0,by omega,rfl,rfl,hr2,hs2,hb2⟩
 case round=>
  clear hr2 hs2 hb2
  obtain⟨n,hn,rfl,rfl,hr,hs,hb⟩:=hrel
  obtain⟨wo,rfl⟩:∃wo:World,wo=wr:=⟨_,rfl⟩
  have hsz:=hr.lt
  by_cases hlt:n<10
  ·have hd:decide ((n:Int)+1<=10)=true:=by simp;omega
   go_wp2
   have hcl:∀k,k<16->wo.cell? ⟨w.heap.size+1,n*16+k,none⟩=some (U8 (qF T key n k)):=fun k hk=>by
    have h:=hr.cell (i:=n*16+k) (by omega)
    rw [h]
    unfold qI kz
    rw [iT (by omega),show(n*16+k) / 16=n by omega,show(n*16+k) % 16=k by omega]
   have hTr:ArrB wo tb off 256 T:=hT.of_block (hb.block tb htb)
   have c12:=hcl 12 (by omega)
   have c13:=hcl 13 (by omega)
   have c14:=hcl 14 (by omega)
   have c15:=hcl 15 (by omega)
   obtain⟨x12,e12⟩:∃x,x=qF T key n 12:=⟨_,rfl⟩
   rw [<-e12]at c12
   have E12:=iH e12;clear e12
   obtain⟨x13,e13⟩:∃x,x=qF T key n 13:=⟨_,rfl⟩
   rw [<-e13]at c13
   have E13:=iH e13;clear e13
   obtain⟨x14,e14⟩:∃x,x=qF T key n 14:=⟨_,rfl⟩
   rw [<-e14]at c14
   have E14:=iH e14;clear e14
   obtain⟨x15,e15⟩:∃x,x=qF T key n 15:=⟨_,rfl⟩
   rw [<-e15]at c15
   have E15:=iH e15;clear e15
   have t12:=hTr.at_ x12.toNat_lt
   have t13:=hTr.at_ x13.toNat_lt
   have t14:=hTr.at_ x14.toNat_lt
   have t15:=hTr.at_ x15.toNat_lt
   have b12:=jP x12
   have b13:=jP x13
   have b14:=jP x14
   have b15:=jP x15
   have d12:=jT x12
   have d13:=jT x13
   have d14:=jT x14
   have d15:=jT x15
   clear hTr hcl
   go_region_held3 (fun W=>W.cell? ⟨w.heap.size+1,n*16+12,none⟩=some (U8 x12)/\W.cell? ⟨w.heap.size+1,n*16+13,none⟩=some (U8 x13)/\W.cell? ⟨w.heap.size+1,n*16+14,none⟩=some (U8 x14)/\W.cell? ⟨w.heap.size+1,n*16+15,none⟩=some (U8 x15)/\
    W.cell? ⟨tb,off+x12.toNat,none⟩=some (U8 (T x12.toNat))/\W.cell? ⟨tb,off+x13.toNat,none⟩=some (U8 (T x13.toNat))/\W.cell? ⟨tb,off+x14.toNat,none⟩=some (U8 (T x14.toNat))/\W.cell? ⟨tb,off+x15.toNat,none⟩=some (U8 (T x15.toNat)))
    (go_keep) (fail)
   clear c12 c13 c14 c15 t12 t13 t14 t15 b12 b13 b14 b15 d12 d13 d14 d15
   have hw0:(wo.alloc (.cells #[U8 (T x13.toNat ^^^ kQ n),U8 (T x14.toNat),U8 (T x15.toNat),U8 (T x12.toNat)] 161)).rowIs wo.heap.size 161 4 (fun r=>U8 (kwF T (qF T key n) (kQ n) 0 r)):=by
    refine⟨_,iN,rfl,fun i hi=> ?_⟩
    unfold kwF kw0
    rw [<-E12.out,<-E13.out,<-E14.out,<-E15.out]
    rcases i with _|_|_|_|i
    ·rfl
    ·rfl
    ·rfl
    ·rfl
    ·omega
   have hr0:=hr.alloc (.cells #[U8 (T x13.toNat ^^^ kQ n),U8 (T x14.toNat),U8 (T x15.toNat),U8 (T x12.toNat)] 161)
   have hs0:=hs.alloc (.cells #[U8 (T x13.toNat ^^^ kQ n),U8 (T x14.toNat),U8 (T x15.toNat),U8 (T x12.toNat)] 161)
   have hb0:=(hb.alloc hb.size (.cells #[U8 (T x13.toNat ^^^ kQ n),U8 (T x14.toNat),U8 (T x15.toNat),U8 (T x12.toNat)] 161))
   clear hr hs hb E12 E13 E14 E15
   go_wp2_with(go_at_call 171;refine(yp _ _).mono ?_;rintro e w' ⟨rfl,rfl⟩)
   go_loopw [63] (fun v wi=>∃k:Nat,k<=16/\v=.int .i64 k/\wi.rowIs (w.heap.size+1) 149 176 (fun j=>U8 (qI (16*(n+1)+k) (kz T key) (fun _=>0) j))/\wi.rowIs wo.heap.size 161 4 (fun r=>U8 (kwF T (qF T key n) (kQ n) k r))/\wi.rowIs w.heap.size 149 176 (fun _=>U8 0)/\Below w.heap.size w wi) (fun v _=>16 - (intOf v).toNat)
   case atStart=>exact⟨0,by omega,rfl,hr0.drew,hw0.drew,hs0.drew,hb0.drew⟩
   case round=>
    clear hr0 hs0 hw0 hb0
    obtain⟨k,hk,rfl,hr,hw,hs,hb⟩:=hrel
    by_cases hlt':k<16
    ·have c1:=hr.cell (i:=n*16+k) (by omega)
     have hu:qI (16*(n+1)+k) (kz T key) (fun _=>0) (n*16+k)=qF T key n k:=by
      unfold qI kz
      rw [iT (by omega),show(n*16+k) / 16=n by omega,show(n*16+k) % 16=k by omega]
     rw [hu]at c1
     clear hu
     have c2:=hw.cell (i:=k % 4) (by omega)
     have f2:=hw.frozen (k % 4)
     have i1:(k:Int) % 4<4:=by omega
     have i0:0<=(k:Int) % 4:=by omega
     have j0:0<=(n:Int)+1:=by omega
     have j1:(n:Int)+1<11:=by omega
     have k1:(k:Int)<16:=by omega
     go_wp2
     refine wp_region_still_tail 11 (by kernel_rfl) (by kernel_rfl) ?_
     simp only [List.take_succ_cons,List.take_zero,List.drop_succ_cons,List.drop_zero]
     repeat(refine wpStill_step (fun K hK=> ?_);go_simp;(try go_bits);refine hK _ ?_;clear hK K)
     refine wpStill_nil ?_
     go_wp2
     have hw1:((wr.setCell ⟨wo.heap.size,k % 4,none⟩ (U8 (kwF T (qF T key n) (kQ n) k (k % 4) ^^^ qF T key n k))).drew).rowIs wo.heap.size 161 4 (fun r=>U8 (kwF T (qF T key n) (kQ n) (k+1) r)):=
      (hw.set (k % 4) _).drew.congr fun r _=>by
        by_cases e:r=k % 4
        ·rw [iT e,ZL _ _ _ _ _ e,e]
        ·rw [iF e,YE _ _ _ _ _ e]
     have hr1:=(hr.setOther (a:=⟨wo.heap.size,k % 4,none⟩) (by simp;omega) (U8 (kwF T (qF T key n) (kQ n) k (k % 4) ^^^ qF T key n k))).drew
     have hs1:=(hs.setOther (a:=⟨wo.heap.size,k % 4,none⟩) (by simp;omega) (U8 (kwF T (qF T key n) (kQ n) k (k % 4) ^^^ qF T key n k))).drew
     have hb1:=(hb.setCell (p:=⟨wo.heap.size,k % 4,none⟩) (by simp;omega) (U8 (kwF T (qF T key n) (kQ n) k (k % 4) ^^^ qF T key n k))).drew
     have c3:=hw1.cell (i:=k % 4) (by omega)
     have f4:=hr1.frozen ((n+1)*16+k)
     have c4:=hr1.cell (i:=(n+1)*16+k) (by omega)
     have hnk:kwF T (qF T key n) (kQ n) (k+1) (k % 4)=kz T key (16*(n+1)+k):=by
      unfold kz
      rw [show(16*(n+1)+k) / 16=n+1 by omega,show(16*(n+1)+k) % 16=k by omega]
      rfl
     rw [hnk]at c3
     clear hnk hr hw hs hb c1 c2 f2
     generalize (wr.setCell ⟨wo.heap.size,k % 4,none⟩ (U8 (kwF T (qF T key n) (kQ n) k (k % 4) ^^^ qF T key n k))).drew=w5 at*
     refine wp_region_still_tail 8 (by kernel_rfl) (by kernel_rfl) ?_
     simp only [List.take_succ_cons,List.take_zero,List.drop_succ_cons,List.drop_zero]
     repeat(refine wpStill_step (fun K hK=> ?_);go_simp;(try go_bits);refine hK _ ?_;clear hK K)
     refine wpStill_nil ?_
     go_wp2
     go_roundw
     case rel=>
      refine⟨k+1,by omega,by go_num,?_,(hw1.setOther (by simp;omega) _).drew,(hs1.setOther (by simp) _).drew,(hb1.setCell (by simp) _).drew⟩
      rw [show(n+1)*16+k=16*(n+1)+k by omega]
      exact(jE hr1 rfl).drew
     case measure=>simp [intOf]<;>omega
    ·go_wp2
     have hk16:k=16:=by omega
     subst hk16
     go_roundw
     case rel=>exact⟨n+1,by omega,by go_num,rfl,hr,hs,hb⟩
     case measure=>simp [intOf]<;>omega
  ·have hn10:n=10:=by omega
   subst hn10
   go_wp2_with(first
    |(refine wpList_load_row rfl 149 (.tmp 5) rfl (w.heap.size+1) rfl 149 (kO 176 _) (0,0) _ (qD hr) Tryz.underlying149 rfl (by rw [jI]<;>rfl) ?_)
    |(refine wpList_store_row rfl 149 (.tmp 4) (.tmp 86) rfl w.heap.size _ rfl rfl 149 (kO 176 _) (qD hs) (by rw [jI]<;>rfl) (by rw [jI,jI]) (Q9 _ _) ?_))
   have hb':=below_setRow hb iL (kO 176 (fun j=>qI (16*(10+1)) (kz T key) (fun _=>0) j))
   refine bodyPost_ret (results_cell_row rfl _ _ w.heap.size 149 (kO 176 (kz T key)) (0,0) _ rfl ?_ Tryz.underlying149 rfl (by rw [jI]<;>rfl)) rfl ⟨rfl,hb'⟩
   rw [setRow_heap _ _ _ _ _ _ (qD hs)]
   rw [Ud (g:=kz T key) fun j hj=>by unfold qI;rw [iT (by omega)]]
def fwd(j:Nat):UInt8:=j5s j
def bck(j:Nat):UInt8:=j5s (256+j)
def CipherAt(w:World)(B:Nat)(p:Value)(key:Nat->UInt8):Prop:=
 ∃tb cb,p=.pointer (some ⟨cb,0,none⟩)/\tb<B/\cb<B/\w.cell? ⟨cb,0,none⟩=some (.pointer (some ⟨tb,0,none⟩))/\ArrB w tb 0 512 j5s/\ArrB w cb 1 176 (kz fwd key)
def Ku(p:Option Addr)(K:Nat->UInt8):Array Value:=#[.pointer p]++kO 176 K
section
variable(p:Option Addr)(K:Nat->UInt8)
include p K
theorem Xk:Tryz.prog.built 152 [(0,.pointer p),(1,.agg (kO 176 K))]=some (Ku p K):=by kernel_rfl
theorem ZB:(Ku p K)[0]?=some (.pointer p):=by
 unfold Ku;rw [Array.getElem?_append_left (by simp)]<;>rfl
theorem ZA(j:Nat)(hj:j<176):(Ku p K)[1+j]?=some (U8 (K j)):=by
 unfold Ku;rw [Array.getElem?_append_right (by simp)]
 simp only [List.size_toArray,List.length_cons,List.length_nil]
 rw [show 1+j - (0+1)=j by omega]
 exact Js _ _ _ hj
end
theorem JT(v:Value)(l:List UInt8)(hl:l.length=16)(w:World)(hv:Bs w w.heap.size v l):
 Calls Tryz.prog 107 #[v] w fun e w'=>∃p,e=.returned p/\CipherAt w' w'.heap.size p (gb l)/\Below w.heap.size w w':=by
 have hv0:=hv
 have Hl:=iH hl
 obtain⟨a,c,hve,hlc,hc,_,hcell⟩:=hv
 rw [hl]at hve
 subst hve
 have Hv0:=iH hv0;clear hv0 hl hcell
 go_enter Tryz.func107,Tryz.ntmps107
 go_wp2_with fail
 refine(Qu _).mono ?_
 rintro e w1 ⟨rfl,hr1,hb1⟩
 go_wp2_with fail
 have hT1:ArrB w1 w.heap.size 0 256 fwd:=(ArrB.of_row (off:=0) hr1 (m:=256) (by omega)).congr fun j _=>by rw [Nat.zero_add]<;>rfl
 refine(Up w.heap.size 0 fwd (.slice a 16 c) l Hl.out w1 hT1 hr1.lt ((Hv0.out.below hb1).mono hb1.size)).mono ?_
 rintro e w2 ⟨rfl,hb2⟩
 have hr2:=zD hr1 hb2 hr1.lt
 have hb12:=hb1.trans (hb2.mono hb1.size)
 clear hr1 hT1
 go_wp2_with(with_reducible refine xT rfl 152 #[(0,.tmp 8),(1,.tmp 11)] rfl [(0,.pointer (some ⟨w.heap.size,0,none⟩)),(1,.agg (kO 176 (kz fwd (gb l))))] ?hl (Ku (some ⟨w.heap.size,0,none⟩) (kz fwd (gb l))) (Xk _ _) ?_)
 go_ret
 refine⟨_,rfl,⟨w.heap.size,w2.heap.size,rfl,?_,?_,?_,?_,?_⟩,hb12.alloc hb12.size _⟩
 ·have:=hr2.lt;simp;omega
 ·simp
 ·rw [cell_of_row _ _ _ _ _ _ (iN)];exact ZB _ _
 ·exact((ArrB.of_row (off:=0) hr2 (m:=512) (by omega)).congr fun j _=>by rw [Nat.zero_add]).alloc _
 ·intro j hj
  rw [cell_of_row _ _ _ _ _ _ (iN)]
  exact ZA _ _ j hj
def j6n(i:Nat):UInt8:=if i=0 then 2 else if i=1 then 3 else 1
def j6m(i:Nat):UInt8:=if i=0 then 14 else if i=1 then 11 else if i=2 then 13 else 9
def j5z(key f:Nat->UInt8):Nat->Nat->UInt8
 |0=>fun j=>f j ^^^ qF fwd key 0 j
 |n+1=>fun j=>(if n+1<10 then j2q j6n (Zq 1 fun j=>fwd (j5z key f n j).toNat) j else Zq 1 (fun j=>fwd (j5z key f n j).toNat) j) ^^^ qF fwd key (n+1) j
def j77(key f:Nat->UInt8)(j:Nat):UInt8:=j5z key f 10 j
theorem JF{w:World}{cb:Nat}{key:Nat->UInt8}(h:ArrB w cb 1 176 (kz fwd key))(n:Nat)(hn:n<11):ArrB w cb (1+n*16) 16 (qF fwd key n):=fun j hj=>by
 have:=h (n*16+j) (by omega)
 rw [<-Nat.add_assoc]at this
 rw [this]
 unfold kz
 rw [show(n*16+j) / 16=n by omega,show(n*16+j) % 16=j by omega]
theorem zK(b off c:Nat)(w:World):(Instr.arrayAt 148 (.slice (some ⟨b,off,none⟩) 16 c)).run Tryz.prog w=.ok (.pointer (some ⟨b,off,none⟩)) w:=by kernel_rfl
theorem JC(p v:Value)(key:Nat->UInt8)(l:List UInt8)(hl:l.length=16)(w:World)(hp:CipherAt w w.heap.size p key)(hv:Bs w w.heap.size v l):
 Calls Tryz.prog 108 #[p,v] w fun e w'=>∃v',e=.returned v'/\BsS w' (New w w') v' (jC 16 (j77 key (gb l)))/\Below w.heap.size w w':=by
 obtain⟨tb,cb,rfl,htb,hcb,hct,hT,hK⟩:=hp
 obtain⟨a,c,hve,hlc,hc,_,hcell⟩:=hv
 obtain⟨b,off,rfl,hb,hx⟩:=hcell (by omega)
 have hX:ArrB w b off 16 (gb l):=by rw [<-hl];exact hx
 rw [hl]at hve hlc
 subst hve
 clear hcell hx hl
 have HX:=iH hX;clear hX
 have hst:=xP (P:=Tryz.prog) (T:=148) (n:=16) rfl (gb l)
 have ha:=zK b off c
 have hx0:(w.alloc (.cells (kO 16 (gb l)) 148)).rowIs w.heap.size 148 16 (fun j=>U8 (gb l j)):=jR _ _ _ _
 have hb0:Below w.heap.size w (w.alloc (.cells (kO 16 (gb l)) 148)):=iA
 have Hx0:=iH hx0;clear hx0
 have Hb0:=iH hb0;clear hb0
 have HK:=iH hK;clear hK
 have HT:=iH hT;clear hT
 go_enter Tryz.func108,Tryz.ntmps108
 go_wp2_with(first
  |(with_reducible refine jp rfl 148 (.tmp 8) rfl b off 16 (gb l) rfl _ HX.out Tryz.underlying148 rfl rfl ?_)
  |(with_reducible refine jp rfl 148 (.tmp 13) rfl cb 1 16 (qF fwd key 0) rfl _ ((JF HK.out 0 (by omega)).alloc _) Tryz.underlying148 rfl rfl ?_))
 refine(qk _ _ _ (qF fwd key 0) _ Hx0.out).mono ?_
 rintro e w0 ⟨rfl,hr0,hg0⟩
 have hb0:=Hb0.out.trans (j8 hg0 Hb0.out.size iL)
 clear hg0
 go_wp2
 go_loopw [6] (fun i wr=>∃n:Nat,n<=10/\i=.int .i64 (n+1:Nat)/\wr.rowIs w.heap.size 148 16 (fun j=>U8 (j5z key (gb l) n j))/\Below w.heap.size w wr) (fun i _=>11 - (intOf i).toNat)
 case atStart=>exact⟨0,by omega,rfl,hr0,hb0⟩
 case round=>
  clear hr0 hb0
  obtain⟨n,hn,rfl,hr,hbb⟩:=hrel
  have hct':=(hbb.cell (p:=⟨cb,0,none⟩) hcb).trans hct
  have hT':ArrB wr tb 0 256 fwd:=fun j hj=>by
   have:=(HT.out.of_block (hbb.block tb htb)) j (by omega)
   rw [this,show fwd j=j5s j from rfl]
  have HT':=iH hT';clear hT'
  have j0:0<=(n:Int)+1:=by omega
  by_cases h9:n<9
  ·have hd1:decide ((n:Int)+1<=10)=true:=by simp;omega
   have hd2:decide ((n:Int)+1<10)=true:=by simp;omega
   have j1:(n:Int)+1<11:=by omega
   go_wp2_with fail
   refine(qp _ tb 0 _ _ fwd _ hr (HT'.out.congr fun j _=>rfl) (by omega)).mono ?_
   rintro e w1 ⟨rfl,hr1,hg1⟩
   have hbb1:=hbb.trans (j8 hg1 hbb.size iL)
   clear hr hg1 hbb
   go_wp2_with fail
   refine(JW _ _ _ _ hr1).mono ?_
   rintro e w2 ⟨rfl,hr2,hg2⟩
   have hbb2:=hbb1.trans (j8 hg2 hbb1.size iL)
   clear hr1 hg2 hbb1
   go_wp2_with fail
   refine(j02 _ _ _ j6n _ (by rfl) _ hr2).mono ?_
   rintro e w3 ⟨rfl,hr3,hg3⟩
   have hbb3:=hbb2.trans (j8 hg3 hbb2.size iL)
   clear hr2 hg3 hbb2
   have hk3:=HK.out
   have hk4:=JF (hk3.of_block (hbb3.block cb hcb)) (n+1) (by omega)
   have HK4:=iH hk4;clear hk3 hk4
   go_wp2_with(with_reducible refine jp rfl 148 (.tmp 36) rfl cb (1+(n+1)*16) 16 (qF fwd key (n+1)) rfl _ HK4.out Tryz.underlying148 rfl rfl ?_)
   refine(qk _ _ _ (qF fwd key (n+1)) _ hr3).mono ?_
   rintro e w4 ⟨rfl,hr4,hg4⟩
   have hbb4:=hbb3.trans (j8 hg4 hbb3.size iL)
   clear hr3 hg4 hbb3
   go_wp2
   go_roundw
   case rel=>
    refine⟨n+1,by omega,by go_num,hr4.congr fun j _=> ?_,hbb4⟩
    show _=U8 ((if n+1<10 then _ else _) ^^^ _)
    rw [iT (by omega)]
   case measure=>simp [intOf]<;>omega
  ·by_cases h10:n<10
   ·have hd1:decide ((n:Int)+1<=10)=true:=by simp;omega
    have hd2:decide ((n:Int)+1<10)=false:=by simp;omega
    have j1:(n:Int)+1<11:=by omega
    go_wp2_with fail
    refine(qp _ tb 0 _ _ fwd _ hr (HT'.out.congr fun j _=>rfl) (by omega)).mono ?_
    rintro e w1 ⟨rfl,hr1,hg1⟩
    have hbb1:=hbb.trans (j8 hg1 hbb.size iL)
    clear hr hg1 hbb
    go_wp2_with fail
    refine(JW _ _ _ _ hr1).mono ?_
    rintro e w2 ⟨rfl,hr2,hg2⟩
    have hbb2:=hbb1.trans (j8 hg2 hbb1.size iL)
    clear hr1 hg2 hbb1
    have hbb3:=hbb2
    have hr3:=hr2
    clear hr2 hbb2
    have hk3:=HK.out
    have hk4:=JF (hk3.of_block (hbb3.block cb hcb)) (n+1) (by omega)
    have HK4:=iH hk4;clear hk3 hk4
    go_wp2_with(with_reducible refine jp rfl 148 (.tmp 36) rfl cb (1+(n+1)*16) 16 (qF fwd key (n+1)) rfl _ HK4.out Tryz.underlying148 rfl rfl ?_)
    refine(qk _ _ _ (qF fwd key (n+1)) _ hr3).mono ?_
    rintro e w4 ⟨rfl,hr4,hg4⟩
    have hbb4:=hbb3.trans (j8 hg4 hbb3.size iL)
    clear hr3 hg4 hbb3
    go_wp2
    go_roundw
    case rel=>
     refine⟨n+1,by omega,by go_num,hr4.congr fun j _=> ?_,hbb4⟩
     show _=U8 ((if n+1<10 then _ else _) ^^^ _)
     rw [iF (by omega)]
    case measure=>simp [intOf]<;>omega
   ·have hn10:n=10:=by omega
    subst hn10
    go_wp2
    go_ret
    exact⟨_,rfl,BsS.of_row hr (by omega) ⟨Nat.le_refl _,hr.lt⟩,hbb⟩
def j5y(key f:Nat->UInt8):Nat->Nat->UInt8
 |0=>f
 |n+1=>fun j=>bck (Zq 3 (if 10 - n<10 then j2q j6m (fun j=>j5y key f n j ^^^ qF fwd key (10 - n) j)else fun j=>j5y key f n j ^^^ qF fwd key (10 - n) j) j).toNat
def j76(key f:Nat->UInt8)(j:Nat):UInt8:=j5y key f 10 j ^^^ qF fwd key 0 j
theorem Xs(p v:Value)(key:Nat->UInt8)(l:List UInt8)(hl:l.length=16)(w:World)(hp:CipherAt w w.heap.size p key)(hv:Bs w w.heap.size v l):
 Calls Tryz.prog 112 #[p,v] w fun e w'=>∃v',e=.returned v'/\BsS w' (New w w') v' (jC 16 (j76 key (gb l)))/\Below w.heap.size w w':=by
 obtain⟨tb,cb,rfl,htb,hcb,hct,hT,hK⟩:=hp
 obtain⟨a,c,hve,hlc,hc,_,hcell⟩:=hv
 obtain⟨b,off,rfl,hb,hx⟩:=hcell (by omega)
 have hX:ArrB w b off 16 (gb l):=by rw [<-hl];exact hx
 rw [hl]at hve hlc
 subst hve
 clear hcell hx hl
 have HX:=iH hX;clear hX
 have hst:=xP (P:=Tryz.prog) (T:=148) (n:=16) rfl (gb l)
 have ha:=zK b off c
 have hx0:(w.alloc (.cells (kO 16 (gb l)) 148)).rowIs w.heap.size 148 16 (fun j=>U8 (gb l j)):=jR _ _ _ _
 have hb0:Below w.heap.size w (w.alloc (.cells (kO 16 (gb l)) 148)):=iA
 have Hx0:=iH hx0;clear hx0
 have Hb0:=iH hb0;clear hb0
 have HK:=iH hK;clear hK
 have HT:=iH hT;clear hT
 go_enter Tryz.func112,Tryz.ntmps112
 go_wp2_with(with_reducible refine jp rfl 148 (.tmp 8) rfl b off 16 (gb l) rfl _ HX.out Tryz.underlying148 rfl rfl ?_)
 go_loopw [6] (fun i wr=>∃m:Nat,m<=10/\i=.int .i64 m/\wr.rowIs w.heap.size 148 16 (fun j=>U8 (j5y key (gb l) (10 - m) j))/\Below w.heap.size w wr) (fun i _=>(intOf i).toNat)
 case atStart=>exact⟨10,by omega,rfl,Hx0.out,Hb0.out⟩
 case round=>
  obtain⟨m,hm,rfl,hr,hbb⟩:=hrel
  have hct':=(hbb.cell (p:=⟨cb,0,none⟩) hcb).trans hct
  have hT':ArrB wr tb 256 256 bck:=fun j hj=>by
   have:=(HT.out.of_block (hbb.block tb htb)) (256+j) (by omega)
   rw [Nat.zero_add]at this
   rw [this]<;>rfl
  have HT':=iH hT';clear hT'
  have j0:0<=(m:Int):=by omega
  by_cases h0:0<m
  ·have hd1:decide (0<(m:Int))=true:=by simp;omega
   have j1:(m:Int)<11:=by omega
   have hk4:=JF (HK.out.of_block (hbb.block cb hcb)) m (by omega)
   have HK4:=iH hk4;clear hk4
   obtain⟨q,rfl⟩:∃q,m=q+1:=⟨m - 1,by omega⟩
   have e1:10 - q=(10 - (q+1))+1:=by omega
   have e2:10 - (10 - (q+1))=q+1:=by omega
   have E1:=iH e1;clear e1
   have E2:=iH e2;clear e2
   obtain⟨d,hdd⟩:∃d,d=10 - (q+1):=⟨_,rfl⟩
   rw [<-hdd]at hr E1 E2
   have Hd:=iH hdd;clear hdd
   by_cases h9:q+1<10
   ·have hd2:decide ((q:Int)+1<10)=true:=by simp;omega
    go_wp2_with(with_reducible refine jp rfl 148 (.tmp 18) rfl cb (1+(q+1)*16) 16 (qF fwd key (q+1)) rfl _ HK4.out Tryz.underlying148 rfl rfl ?_)
    refine(qk _ _ _ (qF fwd key (q+1)) _ hr).mono ?_
    rintro e w1 ⟨rfl,hr1,hg1⟩
    have hbb1:=hbb.trans (j8 hg1 hbb.size iL)
    go_wp2_with fail
    refine(j02 _ _ _ j6m _ (by rfl) _ hr1).mono ?_
    rintro e w2 ⟨rfl,hr2,hg2⟩
    have hbb2:=hbb1.trans (j8 hg2 hbb1.size iL)
    go_wp2_with fail
    refine(JX _ _ _ _ hr2).mono ?_
    rintro e w3 ⟨rfl,hr3,hg3⟩
    have hbb3:=hbb2.trans (j8 hg3 hbb2.size iL)
    have hct3:=(hbb3.cell (p:=⟨cb,0,none⟩) hcb).trans hct
    have hT3:ArrB w3 tb 256 256 bck:=fun j hj=>by
     have:=(HT.out.of_block (hbb3.block tb htb)) (256+j) (by omega)
     rw [Nat.zero_add]at this
     rw [this]<;>rfl
    have HT3:=iH hT3;clear hT3
    clear hr hg1 hbb hr1 hg2 hbb1 hr2 hg3 hbb2
    go_wp2_with fail
    refine(qp _ tb 256 _ _ bck _ hr3 HT3.out (by omega)).mono ?_
    rintro e w4 ⟨rfl,hr4,hg4⟩
    have hbb4:=hbb3.trans (j8 hg4 hbb3.size iL)
    clear hr3 hg4 hbb3
    go_wp2
    go_roundw
    case rel=>
     refine⟨q,by omega,by go_num,hr4.congr fun j _=> ?_,hbb4⟩
     rw [E1.out]
     show _=U8 (bck (Zq 3 (if 10 - d<10 then _ else _) j).toNat)
     rw [E2.out,iT (by omega)]
    case measure=>simp [intOf]<;>omega
   ·have hd2:decide ((q:Int)+1<10)=false:=by simp;omega
    go_wp2_with(with_reducible refine jp rfl 148 (.tmp 18) rfl cb (1+(q+1)*16) 16 (qF fwd key (q+1)) rfl _ HK4.out Tryz.underlying148 rfl rfl ?_)
    refine(qk _ _ _ (qF fwd key (q+1)) _ hr).mono ?_
    rintro e w1 ⟨rfl,hr1,hg1⟩
    have hbb1:=hbb.trans (j8 hg1 hbb.size iL)
    go_wp2_with fail
    refine(JX _ _ _ _ hr1).mono ?_
    rintro e w3 ⟨rfl,hr3,hg3⟩
    have hbb3:=hbb1.trans (j8 hg3 hbb1.size iL)
    have hct3:=(hbb3.cell (p:=⟨cb,0,none⟩) hcb).trans hct
    have hT3:ArrB w3 tb 256 256 bck:=fun j hj=>by
     have:=(HT.out.of_block (hbb3.block tb htb)) (256+j) (by omega)
     rw [Nat.zero_add]at this
     rw [this]<;>rfl
    have HT3:=iH hT3;clear hT3
    clear hr hg1 hbb hr1 hbb1 hg3
    go_wp2_with fail
    refine(qp _ tb 256 _ _ bck _ hr3 HT3.out (by omega)).mono ?_
    rintro e w4 ⟨rfl,hr4,hg4⟩
    have hbb4:=hbb3.trans (j8 hg4 hbb3.size iL)
    clear hr3 hg4 hbb3
    go_wp2
    go_roundw
    case rel=>
     refine⟨q,by omega,by go_num,hr4.congr fun j _=> ?_,hbb4⟩
     rw [E1.out]
     show _=U8 (bck (Zq 3 (if 10 - d<10 then _ else _) j).toNat)
     rw [E2.out,iF (by omega)]
    case measure=>simp [intOf]<;>omega
  ·have hm0:m=0:=by omega
   subst hm0
   have hk4:=JF (HK.out.of_block (hbb.block cb hcb)) 0 (by omega)
   have HK4:=iH hk4;clear hk4
   go_wp2_with(with_reducible refine jp rfl 148 (.tmp 36) rfl cb 1 16 (qF fwd key 0) rfl _ HK4.out Tryz.underlying148 rfl rfl ?_)
   refine(qk _ _ _ (qF fwd key 0) _ hr).mono ?_
   rintro e w1 ⟨rfl,hr1,hg1⟩
   have hbb1:=hbb.trans (j8 hg1 hbb.size iL)
   clear hr hg1 hbb
   go_wp2
   go_ret
   exact⟨_,rfl,BsS.of_row hr1 (by omega) ⟨Nat.le_refl _,hr1.lt⟩,hbb1⟩
theorem Xu(vk v:Value)(k l:List UInt8)(h1:k.length=16)(h2:l.length=16)(w:World)(hk:Bs w w.heap.size vk k)(hv:Bs w w.heap.size v l):
 Calls Tryz.prog 190 #[vk,v] w fun e w'=>∃v',e=.returned (.tuple #[v',.int .i64 0])/\Bs w' w'.heap.size v' (jC 16 (j77 (gb k) (gb l)))/\Below w.heap.size w w':=by
 have hk0:=hk
 have hv0:=hv
 obtain⟨ak,ck,hke,hlck,hck,hk3,hcellk⟩:=hk
 obtain⟨a,c,hve,hlc,hc,h3,hcell⟩:=hv
 rw [h1]at hke
 rw [h2]at hve
 subst hke hve
 have H1:=iH h1;have H2:=iH h2;have HK:=iH hk0;have HV:=iH hv0
 clear hcellk hcell h1 h2 hk0 hv0 hlck hlc hk3 h3
 go_enter Tryz.func190,Tryz.ntmps190
 go_wp2_with fail
 refine(JT _ k H1.out _ HK.out).mono ?_
 rintro e w1 ⟨p,rfl,hp,hb1⟩
 go_wp2_with fail
 refine(JC _ _ _ l H2.out _ hp ((HV.out.below hb1).mono hb1.size)).mono ?_
 rintro e w2 ⟨v',rfl,hv',hb2⟩
 go_wp2
 go_ret2
 exact⟨v',rfl,hv'.bs,hb1.trans (hb2.mono hb1.size)⟩
end Go.Proofs.YtalmmiojbmpmiaaGreatDoor
