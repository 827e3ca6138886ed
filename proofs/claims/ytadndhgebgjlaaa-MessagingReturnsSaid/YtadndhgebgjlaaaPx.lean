/- The walks of the small functions of the package aes; The walks of the package aes: the tables, rotate, mix; The walk of (*block).mix; The walk of (*tables).e... -/
import Derived.Deep.RegionHeld3
import Derived.LoopIn
import Derived.LoopNIn
import Derived.OwnWalkIn
import Derived.RangeFuncBound
import Derived.RangeFuncNested
import Derived.Shelf.RegionOpen
import Derived.Test.YtadndhgebgjlaaaPv
set_option linter.unusedVariables false
set_option linter.unusedSimpArgs false
set_option maxRecDepth 100000
set_option maxHeartbeats 2000000
namespace Go.Proofs.Ytadndhgebgjlaaa
open Go.RowKit
def dbl(b:UInt8):UInt8:=if b &&& 128 != 0 then b*2 ^^^ 27 else b*2
theorem Vh(b:UInt8)(h:(b &&& 128 != 0)=true):dbl b=b*2 ^^^ 27:=by unfold dbl;rw [iT h]
theorem j0d(b:UInt8)(h:(b &&& 128 != 0)=false):dbl b=b*2:=by unfold dbl;rw [iF (by simp [h])]
theorem xZ(b:UInt8)(w:World):
 Calls Try.prog 85 #[U8 b] w fun e w'=>e=.returned (U8 (dbl b))/\w'=w:=by
 go_enter Try.func85,Try.ntmps85
 go_wp2
 all_goals go_ret
 ·exact⟨by rw [Vh b ‹_›]<;>rfl,rfl⟩
 ·exact⟨by rw [j0d b ‹_›]<;>rfl,rfl⟩
def xu:Nat->UInt8->UInt8->UInt8->UInt8
 |0,_,_,out=>out
 |n+1,a,b,out=>if b != 0 then xu n (dbl a) (b / 2) (if b &&& 1==1 then out ^^^ a else out)else out
def xS(a b:UInt8):UInt8:=xu 8 a b 0
theorem xw(n:Nat)(a b out:UInt8)(h:(b != 0)=false):xu n a b out=out:=by cases n<;>simp [xu,h]
theorem xx(n:Nat)(a b out:UInt8)(h:(b != 0)=true)(h1:(b &&& 1==1)=true):xu (n+1) a b out=xu n (dbl a) (b / 2) (out ^^^ a):=by
 rw [xu,iT h,iT h1]
theorem qH(n:Nat)(a b out:UInt8)(h:(b != 0)=true)(h1:(b &&& 1==1)=false):xu (n+1) a b out=xu n (dbl a) (b / 2) out:=by
 rw [xu,iT h,iF (by simp [h1])]
theorem UX(b:UInt8)(n:Nat)(h:bv b<2 ^ (n+1)):bv (b / 2)<2 ^ n:=by
 have:=XT b 2 (by omega) (by omega)
 rw [VE]at this
 rw [<-this,Int.ediv_lt_iff_lt_mul (by omega)]
 have e:(2:Int) ^ (n+1)=2 ^ n*2:=Int.pow_succ ..
 omega
theorem Zf(b:UInt8)(h:(b != 0)=true):(bv (b / 2)).toNat<(bv b).toNat:=by
 have h1:=XT b 2 (by omega) (by omega)
 rw [VE]at h1
 have h2:=jF b
 have h3:bv b≠0:=fun e=>by
  have:b=0:=qn e
  simp [this]at h
 omega
theorem Kb(n:Nat)(b:UInt8)(h:(b != 0)=true)(hlt:bv b<2 ^ n):∃m,n=m+1:=by
 rcases n with _|m
 ·exfalso
  have h2:=jF b
  have:b=0:=qn (by show bv b=0;omega)
  simp [this]at h
 ·exact⟨m,rfl⟩
theorem zy(a b:UInt8)(w:World):
 Calls Try.prog 86 #[U8 a,U8 b] w fun e w'=>e=.returned (U8 (xS a b))/\w'=w:=by
 go_enter Try.func86,Try.ntmps86
 go_wp2
 go_loop [0,1,5] (fun x y o=>∃(n:Nat) (a' b' out:UInt8),x=U8 a'/\y=U8 b'/\o=U8 out/\bv b'<2 ^ n/\Hid (xu n a' b' out=xS a b)) (fun _ y _=>(intOf y).toNat)
 case atStart=>exact⟨8,a,b,0,rfl,rfl,rfl,jJ b,rfl⟩
 case round=>
  obtain⟨n,a',b',out,rfl,rfl,rfl,hlt,hg⟩:=hrel
  have H:=iH hlt;clear hlt
  go_wp2_with(go_at_call 85;refine(xZ _ _).mono ?_;rintro e w' ⟨rfl,rfl⟩)
  ·go_round
   case rel=>
    obtain⟨m,rfl⟩:=Kb n b' ‹_› H.out
    exact⟨m,_,_,_,rfl,rfl,rfl,UX _ _ H.out,by rw [<-xx m a' b' out ‹_› ‹_›];exact hg⟩
   case measure=>exact Zf b' ‹_›
  ·go_round
   case rel=>
    obtain⟨m,rfl⟩:=Kb n b' ‹_› H.out
    exact⟨m,_,_,_,rfl,rfl,rfl,UX _ _ H.out,by rw [<-qH m a' b' out ‹_› ‹_›];exact hg⟩
   case measure=>exact Zf b' ‹_›
  ·go_ret
   refine⟨?_,rfl⟩
   have e:xS a b=out:=by rw [<-hg.out,xw n a' b' out ‹_›]
   rw [e]
   rfl
theorem kj(g:Nat)(t:TypeId)(f k:Nat->UInt8)(w:World)(hg:w.rowIs g t 16 (fun j=>U8 (f j))):
 Calls Try.prog 75 #[.pointer (some ⟨g,0,none⟩),.agg (kx 16 k)] w fun e w'=>e=.returned (.tuple #[])/\w'.rowIs g t 16 (fun j=>U8 (f j ^^^ k j))/\w.grownBy w' (some g):=by
 have hlt:=hg.lt
 go_enter Try.func75,Try.ntmps75
 go_wp2
 go_loopw [5] (fun i wr=>∃n:Nat,n<=16/\i=.int .i64 n/\wr.rowIs g t 16 (fun j=>U8 (qV n (fun j=>f j ^^^ k j) f j))/\wr.rowIs w.heap.size 115 16 (fun j=>U8 (k j))/\w.grownBy wr (some g)) (fun i _=>16 - (intOf i).toNat)
 case atStart=>exact⟨0,by omega,rfl,k8 (hg.alloc _) _,jC _ _ _ _,jt (World.grownBy.refl _ _) _⟩
 case round=>
  obtain⟨n,hn,rfl,hr,hk,hgr⟩:=hrel
  by_cases hlt:n<16
  ·have hc1:=kF hr hlt
   have hc2:=hk.cell hlt
   have hf:=hr.frozen n
   go_wp2
   go_still_tail 11,(by kernel_rfl)
   go_wp2
   go_roundw
   case rel=>
    exact⟨n+1,by omega,by go_num,(kz hr rfl).drew,hk.setOther (by simp;omega) _,jO (j5 hgr (.inl rfl) _)⟩
   case measure=>simp [intOf]<;>omega
  ·go_wp2
   go_end0
   exact⟨rfl,k7 hr (by omega),hgr⟩
theorem ku(g tb off:Nat)(t:TypeId)(f T:Nat->UInt8)(w:World)(hg:w.rowIs g t 16 (fun j=>U8 (f j)))(hT:ArrB w tb off 256 T)(hne:tb≠g):
 Calls Try.prog 76 #[.pointer (some ⟨g,0,none⟩),.pointer (some ⟨tb,off,none⟩)] w fun e w'=>e=.returned (.tuple #[])/\w'.rowIs g t 16 (fun j=>U8 (T (f j).toNat))/\w.grownBy w' (some g):=by
 go_enter Try.func76,Try.ntmps76
 go_wp2
 go_loopw [5] (fun i wr=>∃n:Nat,n<=16/\i=.int .i64 n/\wr.rowIs g t 16 (fun j=>U8 (qV n (fun j=>T (f j).toNat) f j))/\w.grownBy wr (some g)) (fun i _=>16 - (intOf i).toNat)
 case atStart=>exact⟨0,by omega,rfl,k8 hg _,World.grownBy.refl _ _⟩
 case round=>
  obtain⟨n,hn,rfl,hr,hgr⟩:=hrel
  by_cases hlt:n<16
  ·have hc1:=kF hr hlt
   have hf:=hr.frozen n
   have hbn:=jF (f n)
   have hbl:=jJ (f n)
   have hc2:=(hT.only hgr hne).at_ (f n).toNat_lt
   go_wp2
   go_still_tail 13,(by kernel_rfl)
   go_wp2
   go_roundw
   case rel=>
    exact⟨n+1,by omega,by go_num,(kz hr rfl).drew,jO (j5 hgr (.inl rfl) _)⟩
   case measure=>simp [intOf]<;>omega
  ·go_wp2
   go_end0
   exact⟨rfl,k7 hr (by omega),hgr⟩
theorem KJ(a b:UInt8)(x y:Int)(hx:x=bv a)(hy:y=bv b)(w:World):
 Calls Try.prog 86 #[.int .u8 x,.int .u8 y] w fun e w'=>e=.returned (U8 (xS a b))/\w'=w:=by
 subst hx;subst hy;exact zy a b w
def j1u(y:UInt8)(n:Nat):UInt8:=y*ofI (2 ^ n) ||| ofI (bv y / 2 ^ (8 - n))
def j03(y:UInt8)(n:Nat):UInt8:=(List.range n).foldl (fun s i=>s ^^^ j1u y i) 99
theorem ZM(y:UInt8)(n:Nat):j03 y (n+1)=j03 y n ^^^ j1u y n:=by unfold j03;rw [List.range_succ,List.foldl_append]<;>rfl
def sbx(y:UInt8):UInt8:=j03 y 5
def Yq(F:Nat->UInt8)(x y:UInt8)(j:Nat):UInt8:=if j=256+(sbx y).toNat then x else if j=x.toNat then sbx y else F j
theorem ZS(g:Nat)(t:TypeId)(F:Nat->UInt8)(x y:UInt8)(w:World)(hg:w.rowIs g t 512 (fun j=>U8 (F j))):
 Calls Try.prog 84 #[.pointer (some ⟨g,0,none⟩),U8 x,U8 y] w fun e w'=>e=.returned (.tuple #[])/\
  w'.rowIs g t 512 (fun j=>U8 (Yq F x y j))/\w.grownBy w' (some g):=by
 go_enter Try.func84,Try.ntmps84
 go_wp2
 go_loopw [6,8] (fun s i wr=>∃(n:Nat),n<=5/\i=.int .i64 n/\s=U8 (j03 y n)/\wr.rowIs g t 512 (fun j=>U8 (F j))/\w.grownBy wr (some g)) (fun _ i _=>5 - (intOf i).toNat)
 case atStart=>exact⟨0,by omega,rfl,rfl,hg,World.grownBy.refl _ _⟩
 case round=>
  obtain⟨n,hn,rfl,rfl,hr,hgr⟩:=hrel
  by_cases hlt:n<5
  ·go_wp2
   go_quiet (fail)
   go_wp2
   go_roundw
   case rel=>exact⟨n+1,by omega,by go_num,by rw [ZM]<;>rfl,KV hr _,jg hgr _⟩
   case measure=>simp [intOf]<;>omega
  ·have e5:n=5:=by omega
   subst e5
   have hx0:=jF x
   have hx1:=jJ x
   obtain⟨s,hs⟩:∃s,s=j03 y 5:=⟨_,rfl⟩
   rw [<-hs]
   have Hs:=iH hs;clear hs
   have hs0:=jF s
   have hs1:=jJ s
   have hxn:=x.toNat_lt
   have hsn:=s.toNat_lt
   have hc1:=hr.cell (i:=x.toNat) (by omega)
   have hf1:=hr.frozen x.toNat
   have hc2:=hr.cell (i:=256+s.toNat) (by omega)
   have hf2:=hr.frozen (256+s.toNat)
   go_wp2
   go_region
   go_wp2
   go_end0
   refine⟨rfl,((hr.set _ _).set _ _).drew.congr fun j hj=> ?_,jO (j5 (j5 hgr (.inl rfl) _) (.inl rfl) _)⟩
   have es:sbx y=s:=Hs.out.symm
   unfold Yq
   rw [es]
   by_cases e1:j=256+s.toNat
   ·rw [iT e1,iT e1]
   ·rw [iF e1,iF e1]
    by_cases e2:j=x.toNat
    ·rw [iT e2,iT e2]
    ·rw [iF e2,iF e2]
def Jo:Nat->UInt8
 |0=>1
 |n+1=>Jo n ^^^ dbl (Jo n)
def Ul:Nat->UInt8
 |0=>1
 |n+1=>xS (Ul n) 246
def VT:Nat->Nat->UInt8
 |0=>fun _=>0
 |n+1=>Yq (VT n) (Jo n) (Ul n)
def VU(j:Nat):UInt8:=Yq (VT 255) 0 0 j
theorem XD(w:World):(zeroValue 125).run Try.prog w=.ok (.agg (kx 512 fun _=>0)) w:=by kernel_rfl
theorem Ji(w:World):
 Calls Try.prog 72 #[] w fun e w'=>e=.returned (.pointer (some ⟨w.heap.size,0,none⟩))/\w'.rowIs w.heap.size 125 512 (fun j=>U8 (VU j))/\Below w.heap.size w w':=by
 have hz:=XD
 go_enter Try.func72,Try.ntmps72
 go_wp2
 go_loopw [2,3,6] (fun x y i wr=>∃n:Nat,n<=255/\i=.int .i64 n/\x=U8 (Jo n)/\y=U8 (Ul n)/\wr.rowIs w.heap.size 125 512 (fun j=>U8 (VT n j))/\Below w.heap.size w wr) (fun _ _ i _=>255 - (intOf i).toNat)
 case atStart=>exact⟨0,by omega,rfl,rfl,rfl,jC _ _ _ _,iA⟩
 case round=>
  obtain⟨n,hn,rfl,rfl,rfl,hr,hgr⟩:=hrel
  by_cases hlt:n<255
  ·go_wp2_with fail
   refine(ZS _ _ _ _ _ _ hr).mono ?_
   rintro e w1 ⟨rfl,hr1,hg1⟩
   go_wp2_with fail
   refine(xZ _ _).mono ?_
   rintro e w2 ⟨rfl,rfl⟩
   go_wp2_with fail
   refine(KJ (Ul n) 246 _ _ rfl rfl _).mono ?_
   rintro e w2 ⟨rfl,rfl⟩
   go_wp2
   go_roundw
   case rel=>exact⟨n+1,by omega,by go_num,rfl,rfl,hr1,hgr.trans (j7 hg1 hgr.size iL)⟩
   case measure=>simp [intOf]<;>omega
  ·have e5:n=255:=by omega
   subst e5
   go_wp2_with fail
   refine(ZS _ _ _ 0 0 _ hr).mono ?_
   rintro e w1 ⟨rfl,hr1,hg1⟩
   go_wp2
   go_ret
   exact⟨rfl,hr1,hgr.trans (j7 hg1 hgr.size iL)⟩
def yy(s:Nat)(f:Nat->UInt8)(i:Nat):UInt8:=f (4*((i / 4+s*(i % 4)) % 4)+i % 4)
theorem yk(g:Nat)(t:TypeId)(f:Nat->UInt8)(w:World)(hg:w.rowIs g t 16 (fun j=>U8 (f j))):
 Calls Try.prog 77 #[.pointer (some ⟨g,0,none⟩),.int .i64 1] w fun e w'=>e=.returned (.tuple #[])/\w'.rowIs g t 16 (fun j=>U8 (yy 1 f j))/\w.grownBy w' (some g):=by
 have hrow:=qQ hg
 have hlt:=hg.lt
 have hst:=qB (P:=Try.prog) (T:=115) (n:=16) rfl f
 go_enter Try.func77,Try.ntmps77
 go_wp2_with(refine wpList_load_row rfl 115 (.tmp 9) rfl g rfl t (kx 16 f) (0,0) _ hrow Try.underlying115 rfl (by rw [jy]<;>rfl) ?_)
 go_loopw [11] (fun i wr=>∃n:Nat,n<=16/\i=.int .i64 n/\wr.rowIs g t 16 (fun j=>U8 (qV n (yy 1 f) f j))/\wr.rowIs w.heap.size 115 16 (fun j=>U8 (f j))/\w.grownBy wr (some g)) (fun i _=>16 - (intOf i).toNat)
 case atStart=>exact⟨0,by omega,rfl,k8 (hg.alloc _) _,jC _ _ _ _,jt (World.grownBy.refl _ _) _⟩
 case round=>
  obtain⟨n,hn,rfl,hr,ho,hgr⟩:=hrel
  by_cases hlt:n<16
  ·have hc1:=kF hr hlt
   have hf:=hr.frozen n
   have hc2:=fun j (h:j<16)=>ho.cell (i:=j) h
   have hi0:0<=4*(((n:Int) / 4+n) % 4)+(n:Int) % 4:=by omega
   have hi1:4*(((n:Int) / 4+n) % 4)+(n:Int) % 4<16:=by omega
   have hi2:4*((n / 4+n) % 4)+n % 4<16:=by omega
   have he:f (4*((n / 4+n) % 4)+n % 4)=yy 1 f n:=by unfold yy;congr 1;omega
   have He:=iH he;clear he
   go_wp2
   refine wp_region_still_tail 15 (by kernel_rfl) (by kernel_rfl) ?_
   simp only [iI,iK,iE,iJ]
   repeat(refine wpStill_step (fun K hK=> ?_);go_simp;(try go_bits);refine hK _ ?_;clear hK K)
   refine wpStill_nil ?_
   go_wp2
   go_roundw
   case rel=>exact⟨n+1,by omega,by go_num,(kz hr He.out).drew,ho.setOther (by simp;omega) _,jO (j5 hgr (.inl rfl) _)⟩
   case measure=>simp [intOf]<;>omega
  ·go_wp2
   go_end0
   exact⟨rfl,k7 hr (by omega),hgr⟩
theorem yl(g:Nat)(t:TypeId)(f:Nat->UInt8)(w:World)(hg:w.rowIs g t 16 (fun j=>U8 (f j))):
 Calls Try.prog 77 #[.pointer (some ⟨g,0,none⟩),.int .i64 3] w fun e w'=>e=.returned (.tuple #[])/\w'.rowIs g t 16 (fun j=>U8 (yy 3 f j))/\w.grownBy w' (some g):=by
 have hrow:=qQ hg
 have hlt:=hg.lt
 have hst:=qB (P:=Try.prog) (T:=115) (n:=16) rfl f
 go_enter Try.func77,Try.ntmps77
 go_wp2_with(refine wpList_load_row rfl 115 (.tmp 9) rfl g rfl t (kx 16 f) (0,0) _ hrow Try.underlying115 rfl (by rw [jy]<;>rfl) ?_)
 go_loopw [11] (fun i wr=>∃n:Nat,n<=16/\i=.int .i64 n/\wr.rowIs g t 16 (fun j=>U8 (qV n (yy 3 f) f j))/\wr.rowIs w.heap.size 115 16 (fun j=>U8 (f j))/\w.grownBy wr (some g)) (fun i _=>16 - (intOf i).toNat)
 case atStart=>exact⟨0,by omega,rfl,k8 (hg.alloc _) _,jC _ _ _ _,jt (World.grownBy.refl _ _) _⟩
 case round=>
  obtain⟨n,hn,rfl,hr,ho,hgr⟩:=hrel
  by_cases hlt:n<16
  ·have hc1:=kF hr hlt
   have hf:=hr.frozen n
   have hc2:=fun j (h:j<16)=>ho.cell (i:=j) h
   have hi0:0<=4*(((n:Int) / 4+3*((n:Int) % 4)) % 4)+(n:Int) % 4:=by omega
   have hi1:4*(((n:Int) / 4+3*((n:Int) % 4)) % 4)+(n:Int) % 4<16:=by omega
   have hi2:4*((n / 4+3*(n % 4)) % 4)+n % 4<16:=by omega
   have he:f (4*((n / 4+3*(n % 4)) % 4)+n % 4)=yy 3 f n:=rfl
   have He:=iH he;clear he
   go_wp2
   refine wp_region_still_tail 15 (by kernel_rfl) (by kernel_rfl) ?_
   simp only [iI,iK,iE,iJ]
   repeat(refine wpStill_step (fun K hK=> ?_);go_simp;(try go_bits);refine hK _ ?_;clear hK K)
   refine wpStill_nil ?_
   go_wp2
   go_roundw
   case rel=>exact⟨n+1,by omega,by go_num,(kz hr He.out).drew,ho.setOther (by simp;omega) _,jO (j5 hgr (.inl rfl) _)⟩
   case measure=>simp [intOf]<;>omega
  ·go_wp2
   go_end0
   exact⟨rfl,k7 hr (by omega),hgr⟩
def UR(row f:Nat->UInt8)(i n:Nat):UInt8:=(List.range n).foldl (fun s k=>s ^^^ xS (f (i / 4*4+k)) (row ((k+4 - i % 4) % 4))) 0
theorem qx(row f:Nat->UInt8)(i n:Nat):UR row f i (n+1)=UR row f i n ^^^ xS (f (i / 4*4+n)) (row ((n+4 - i % 4) % 4)):=by
 unfold UR;rw [List.range_succ,List.foldl_append]<;>rfl
def yO(row f:Nat->UInt8)(i:Nat):UInt8:=UR row f i 4
def Q6(n:Nat)(v:UInt8)(new old:Nat->UInt8)(j:Nat):UInt8:=if j=n then v else qV n new old j
theorem Zn(g:Nat)(t:TypeId)(f row:Nat->UInt8)(a:Array Value)(ha:a=kx 4 row)(w:World)(hg:w.rowIs g t 16 (fun j=>U8 (f j))):
 Calls Try.prog 78 #[.pointer (some ⟨g,0,none⟩),.agg a] w fun e w'=>e=.returned (.tuple #[])/\w'.rowIs g t 16 (fun j=>U8 (yO row f j))/\w.grownBy w' (some g):=by
 subst ha
 have hrow:=qQ hg
 have hlt:=hg.lt
 have hst:=qB (P:=Try.prog) (T:=115) (n:=16) rfl f
 have hrow':(w.alloc (.cells (kx 4 row) 128)).heap[g]?=some (.cells (kx 16 f) t (0,0)):=by rw [Below.heap_alloc _ _ _ hlt];exact hrow
 go_enter Try.func78,Try.ntmps78
 go_wp2_with(refine wpList_load_row rfl 115 (.tmp 8) rfl g rfl t (kx 16 f) (0,0) _ hrow' Try.underlying115 rfl (by rw [jy]<;>rfl) ?_)
 go_loopw [10] (fun i wr=>∃n:Nat,n<=16/\i=.int .i64 n/\wr.rowIs g t 16 (fun j=>U8 (qV n (yO row f) f j))/\wr.rowIs w.heap.size 128 4 (fun j=>U8 (row j))/\wr.rowIs (w.heap.size+1) 115 16 (fun j=>U8 (f j))/\w.grownBy wr (some g)) (fun i _=>16 - (intOf i).toNat)
 case atStart=>
  refine⟨0,by omega,rfl,k8 ((hg.alloc _).alloc _) _,(jC _ _ _ _).alloc _,?_,jt (jt (World.grownBy.refl _ _) _) _⟩
  have:=jC (w.alloc (.cells (kx 4 row) 128)) 16 115 f
  simpa using this
 case round=>
  obtain⟨n,hn,rfl,hr,hw,ho,hgr⟩:=hrel
  by_cases hlt:n<16
  ·have hc1:=hr.cell hlt
   have hf:=hr.frozen n
   have hd:decide ((n:Int)<16)=true:=by simp;omega
   go_wp2
   obtain⟨wo,rfl⟩:∃wo:World,wo=wr.setCell ⟨g,n,none⟩ (U8 0):=⟨_,rfl⟩
   have hr1:(wr.setCell ⟨g,n,none⟩ (U8 0)).rowIs g t 16 (fun j=>U8 (Q6 n (UR row f n 0) (yO row f) f j)):=(hr.set n _).congr fun j _=>by
    unfold Q6
    by_cases e:j=n
    ·rw [iT e,iT e]<;>rfl
    ·rw [iF e,iF e]
   have hw1:=hw.setOther (a:=⟨g,n,none⟩) (by simp;omega) (U8 0)
   have ho1:=ho.setOther (a:=⟨g,n,none⟩) (by simp;omega) (U8 0)
   have hg1:=j5 (p:=⟨g,n,none⟩) hgr (.inl rfl) (U8 0)
   clear hr hw ho hgr hc1 hf hst hrow hrow'
   go_loopw [17] (fun v wi=>∃k:Nat,k<=4/\v=.int .i64 k/\wi.rowIs g t 16 (fun j=>U8 (Q6 n (UR row f n k) (yO row f) f j))/\wi.rowIs w.heap.size 128 4 (fun j=>U8 (row j))/\wi.rowIs (w.heap.size+1) 115 16 (fun j=>U8 (f j))/\w.grownBy wi (some g)) (fun v _=>4 - (intOf v).toNat)
   case atStart=>exact⟨0,by omega,rfl,hr1,hw1,ho1,hg1⟩
   case round=>
    clear hr1 hw1 ho1 hg1
    obtain⟨k,hk,rfl,hr,hw,ho,hgr⟩:=hrel
    by_cases hlt':k<4
    ·have hc1:=hr.cell hlt
     have hf:=hr.frozen n
     have hv:Q6 n (UR row f n k) (yO row f) f n=UR row f n k:=by unfold Q6;rw [iT rfl]
     rw [hv]at hc1
     clear hv
     have hc2:=fun j (h:j<16)=>ho.cell (i:=j) h
     have hq:(((k:Int) - (n:Int)) % 4).toNat=(k+4 - n % 4) % 4:=by omega
     have hc3:wr.cell? ⟨w.heap.size,(((k:Int) - (n:Int)) % 4).toNat,none⟩=some (U8 (row ((k+4 - n % 4) % 4))):=by rw [hq];exact hw.cell (by omega)
     clear hq
     have hi3:0<=((k:Int) - (n:Int)) % 4:=by omega
     have hi4:((k:Int) - (n:Int)) % 4<4:=by omega
     have hnI:(n:Int)<16:=by omega
     have hi0:0<=(n:Int) / 4*4+k:=by omega
     have hi1:(n:Int) / 4*4+k<16:=by omega
     have hi2:n / 4*4+k<16:=by omega
     go_wp2
     refine wp_region_still_tail 24 (by kernel_rfl) (by kernel_rfl) ?_
     simp only [iI,iK,iE,iJ]
     repeat(refine wpStill_step (fun K hK=> ?_);go_simp;(try go_bits);refine hK _ ?_;clear hK K)
     refine wpStill_step (fun K hK=> ?_)
     go_simp
     refine⟨_,zy _ _ _,hK _ ?_⟩
     clear hK K
     repeat(refine wpStill_step (fun K hK=> ?_);go_simp;(try go_bits);refine hK _ ?_;clear hK K)
     refine wpStill_nil ?_
     go_wp2
     go_roundw
     case rel=>
      refine⟨k+1,by omega,by go_num,((hr.set n _).congr fun j _=> ?_).drew,hw.setOther (by simp;omega) _,ho.setOther (by simp;omega) _,jO (j5 hgr (.inl rfl) _)⟩
      unfold Q6
      by_cases e:j=n
      ·rw [iT e,iT e,qx]
      ·simp only [iF e]
     case measure=>simp [intOf]<;>omega
    ·go_wp2
     have hk4:k=4:=by omega
     subst hk4
     go_roundw
     case rel=>
      refine⟨n+1,by omega,by go_num,hr.congr fun j _=> ?_,hw,ho,hgr⟩
      unfold Q6
      by_cases e:j=n
      ·subst e;rw [iT rfl];unfold qV;rw [iT (by omega)]<;>rfl
      ·rw [iF e];unfold qV
       by_cases e2:j<n
       ·rw [iT e2,iT (by omega)]
       ·rw [iF e2,iF (by omega)]
     case measure=>simp [intOf]<;>omega
  ·go_wp2
   go_end0
   exact⟨rfl,k7 hr (by omega),hgr⟩
def x9:Nat->UInt8
 |0=>1
 |n+1=>dbl (x9 n)
def kw0(T old:Nat->UInt8)(c:UInt8)(r:Nat):UInt8:=if r=0 then T (old 13).toNat ^^^ c else if r=1 then T (old 14).toNat else if r=2 then T (old 15).toNat else T (old 12).toNat
def kwF(T old:Nat->UInt8)(c:UInt8):Nat->Nat->UInt8
 |0=>kw0 T old c
 |n+1=>fun r=>if r=n % 4 then kwF T old c n r ^^^ old n else kwF T old c n r
theorem Vm(T old:Nat->UInt8)(c:UInt8)(n r:Nat)(e:r=n % 4):kwF T old c (n+1) r=kwF T old c n r ^^^ old n:=by show(if r=n % 4 then _ else _)=_;rw [iT e]
theorem YO(T old:Nat->UInt8)(c:UInt8)(n r:Nat)(e:¬r=n % 4):kwF T old c (n+1) r=kwF T old c n r:=by show(if r=n % 4 then _ else _)=_;rw [iF e]
def j1g(T old:Nat->UInt8)(c:UInt8)(k:Nat):UInt8:=kwF T old c (k+1) (k % 4)
def kU(T key:Nat->UInt8):Nat->Nat->UInt8
 |0=>key
 |i+1=>j1g T (kU T key i) (x9 i)
def qp(T key:Nat->UInt8)(j:Nat):UInt8:=kU T key (j / 16) (j % 16)
theorem UB(w:World):(zeroValue 116).run Try.prog w=.ok (.agg (kx 176 fun _=>0)) w:=by kernel_rfl
theorem QU(tb off:Nat)(T:Nat->UInt8)(v:Value)(l:List UInt8)(hl:l.length=16)(w:World)(hT:ArrB w tb off 256 T)(htb:tb<w.heap.size)(hv:Bs w w.heap.size v l):
 Calls Try.prog 73 #[.pointer (some ⟨tb,off,none⟩),v] w fun e w'=>e=.returned (.agg (kx 176 (qp T (gb l))))/\Below w.heap.size w w':=by
 have hz:=UB
 obtain⟨a,c,rfl,hlc,hc,_,hcell⟩:=hv
 obtain⟨kb,ko,rfl,hkb,hkey⟩:=hcell (by omega)
 rw [hl]at hlc hkey |-
 obtain⟨key,hkey'⟩:∃key:Nat->UInt8,key=gb l:=⟨_,rfl⟩
 rw [<-hkey']
 have hkey:∀j,j<16->w.cell? ⟨kb,ko+j,none⟩=some (U8 (key j)):=fun j hj=>by rw [hkey'];exact hkey j hj
 clear hkey' hcell
 have hg0:((w.alloc (.cells (kx 176 fun _=>0) 116)).alloc (.cells (kx 176 fun _=>0) 116)).heap[w.heap.size+1]?=some (.cells ((kx 176 fun _=>0).toList).toArray 116 (0,0)):=by rw [heap_alloc2_new]
 have hr0:((w.alloc (.cells (kx 176 fun _=>0) 116)).alloc (.cells (kx 176 fun _=>0) 116)).rowIs w.heap.size 116 176 (fun _=>U8 0):=(jC _ _ _ _).alloc _
 have hk0:∀(j:Nat) (u:Value),((List.range 16).map fun j=>U8 (key j))[j]?=some u->((w.alloc (.cells (kx 176 fun _=>0) 116)).alloc (.cells (kx 176 fun _=>0) 116)).cell? ((⟨kb,ko,none⟩:Addr).add j)=some u:=by
  intro j u hu
  have hj:j<16:=by
   rcases Nat.lt_or_ge j 16 with h|h
   ·exact h
   ·rw [List.getElem?_eq_none (by simp;omega)]at hu;cases hu
  have e:(⟨kb,ko,none⟩:Addr).add j=⟨kb,ko+j,none⟩:=by unfold Addr.add;split<;>simp_all
  rw [e,World.cell?_alloc_past _ _ _ (by simp;omega),World.cell?_alloc_past _ _ _ hkb,hkey j hj,<-hu]
  simp [hj]
 have Hg0:=iH hg0;clear hg0
 have Hr0:=iH hr0;clear hr0
 have Hk0:=iH hk0;clear hk0
 go_enter Try.func73,Try.ntmps73
 go_wp2_with(with_reducible refine wpList_copy_splice rfl (.tmp 12) (.tmp 13) 23 23 rfl 5 Try.underlying23 rfl _ _ 16 16 16 c rfl rfl (w.heap.size+1) 0 (kx 176 fun _=>0).toList 116 Hg0.out ((List.range 16).map fun j=>U8 (key j)) (by simp) (fun _=>⟨rfl,_,rfl,Hk0.out⟩) (by simp [kx]) (by simp [Value.oneCell']) (w.heap.size+1) _ iB iL ?_;intro w2 HG2 hB2)
 have hr2:w2.rowIs (w.heap.size+1) 116 176 (fun j=>U8 (qV 16 (qp T key) (fun _=>0) j)):=by
  have h:=HG2.out
  rw [KZ 176 16 0 _ _ (by omega)]at h
  refine⟨_,h,jy _ _,fun i hi=> ?_⟩
  rw [J4 _ _ _ hi]
  unfold qV qp
  dsimp only
  by_cases e:i<16
  ·rw [iT (by omega),iT e,Nat.div_eq_of_lt e,Nat.mod_eq_of_lt e]<;>rfl
  ·rw [iF (by omega),iF e]
 have hs2:w2.rowIs w.heap.size 116 176 (fun _=>U8 0):=ym Hr0.out hB2 (by omega)
 have hb2:Below w.heap.size w w2:=((iA).alloc (by simp) _).trans (hB2.mono (by omega))
 clear hB2 HG2 Hg0 Hr0 Hk0 hkey
 go_loopw [6,7] (fun c i wr=>∃n:Nat,n<=10/\i=.int .i64 (n+1:Nat)/\c=U8 (x9 n)/\wr.rowIs (w.heap.size+1) 116 176 (fun j=>U8 (qV (16*(n+1)) (qp T key) (fun _=>0) j))/\wr.rowIs w.heap.size 116 176 (fun _=>U8 0)/\Below w.heap.size w wr) (fun _ i _=>11 - (intOf i).toNat)
 case atStart=>exact⟨0,by omega,rfl,rfl,hr2,hs2,hb2⟩
 case round=>
  clear hr2 hs2 hb2
  obtain⟨n,hn,rfl,rfl,hr,hs,hb⟩:=hrel
  obtain⟨wo,rfl⟩:∃wo:World,wo=wr:=⟨_,rfl⟩
  have hsz:=hr.lt
  by_cases hlt:n<10
  ·have hd:decide ((n:Int)+1<=10)=true:=by simp;omega
   go_wp2
   have hcl:∀k,k<16->wo.cell? ⟨w.heap.size+1,n*16+k,none⟩=some (U8 (kU T key n k)):=fun k hk=>by
    have h:=hr.cell (i:=n*16+k) (by omega)
    rw [h]
    unfold qV qp
    rw [iT (by omega),show(n*16+k) / 16=n by omega,show(n*16+k) % 16=k by omega]
   have hTr:ArrB wo tb off 256 T:=hT.of_block (hb.block tb htb)
   have c12:=hcl 12 (by omega)
   have c13:=hcl 13 (by omega)
   have c14:=hcl 14 (by omega)
   have c15:=hcl 15 (by omega)
   obtain⟨x12,e12⟩:∃x,x=kU T key n 12:=⟨_,rfl⟩
   rw [<-e12]at c12
   have E12:=iH e12;clear e12
   obtain⟨x13,e13⟩:∃x,x=kU T key n 13:=⟨_,rfl⟩
   rw [<-e13]at c13
   have E13:=iH e13;clear e13
   obtain⟨x14,e14⟩:∃x,x=kU T key n 14:=⟨_,rfl⟩
   rw [<-e14]at c14
   have E14:=iH e14;clear e14
   obtain⟨x15,e15⟩:∃x,x=kU T key n 15:=⟨_,rfl⟩
   rw [<-e15]at c15
   have E15:=iH e15;clear e15
   have t12:=hTr.at_ x12.toNat_lt
   have t13:=hTr.at_ x13.toNat_lt
   have t14:=hTr.at_ x14.toNat_lt
   have t15:=hTr.at_ x15.toNat_lt
   have b12:=jF x12
   have b13:=jF x13
   have b14:=jF x14
   have b15:=jF x15
   have d12:=jJ x12
   have d13:=jJ x13
   have d14:=jJ x14
   have d15:=jJ x15
   clear hTr hcl
   go_region_held3 (fun W=>W.cell? ⟨w.heap.size+1,n*16+12,none⟩=some (U8 x12)/\W.cell? ⟨w.heap.size+1,n*16+13,none⟩=some (U8 x13)/\W.cell? ⟨w.heap.size+1,n*16+14,none⟩=some (U8 x14)/\W.cell? ⟨w.heap.size+1,n*16+15,none⟩=some (U8 x15)/\
    W.cell? ⟨tb,off+x12.toNat,none⟩=some (U8 (T x12.toNat))/\W.cell? ⟨tb,off+x13.toNat,none⟩=some (U8 (T x13.toNat))/\W.cell? ⟨tb,off+x14.toNat,none⟩=some (U8 (T x14.toNat))/\W.cell? ⟨tb,off+x15.toNat,none⟩=some (U8 (T x15.toNat)))
    (go_keep) (fail)
   clear c12 c13 c14 c15 t12 t13 t14 t15 b12 b13 b14 b15 d12 d13 d14 d15
   have hw0:(wo.alloc (.cells #[U8 (T x13.toNat ^^^ x9 n),U8 (T x14.toNat),U8 (T x15.toNat),U8 (T x12.toNat)] 128)).rowIs wo.heap.size 128 4 (fun r=>U8 (kwF T (kU T key n) (x9 n) 0 r)):=by
    refine⟨_,iN,rfl,fun i hi=> ?_⟩
    unfold kwF kw0
    rw [<-E12.out,<-E13.out,<-E14.out,<-E15.out]
    rcases i with _|_|_|_|i
    ·rfl
    ·rfl
    ·rfl
    ·rfl
    ·omega
   have hr0:=hr.alloc (.cells #[U8 (T x13.toNat ^^^ x9 n),U8 (T x14.toNat),U8 (T x15.toNat),U8 (T x12.toNat)] 128)
   have hs0:=hs.alloc (.cells #[U8 (T x13.toNat ^^^ x9 n),U8 (T x14.toNat),U8 (T x15.toNat),U8 (T x12.toNat)] 128)
   have hb0:=(hb.alloc hb.size (.cells #[U8 (T x13.toNat ^^^ x9 n),U8 (T x14.toNat),U8 (T x15.toNat),U8 (T x12.toNat)] 128))
   clear hr hs hb E12 E13 E14 E15
   go_wp2_with(go_at_call 85;refine(xZ _ _).mono ?_;rintro e w' ⟨rfl,rfl⟩)
   go_loopw [63] (fun v wi=>∃k:Nat,k<=16/\v=.int .i64 k/\wi.rowIs (w.heap.size+1) 116 176 (fun j=>U8 (qV (16*(n+1)+k) (qp T key) (fun _=>0) j))/\wi.rowIs wo.heap.size 128 4 (fun r=>U8 (kwF T (kU T key n) (x9 n) k r))/\wi.rowIs w.heap.size 116 176 (fun _=>U8 0)/\Below w.heap.size w wi) (fun v _=>16 - (intOf v).toNat)
   case atStart=>exact⟨0,by omega,rfl,hr0.drew,hw0.drew,hs0.drew,hb0.drew⟩
   case round=>
    clear hr0 hs0 hw0 hb0
    obtain⟨k,hk,rfl,hr,hw,hs,hb⟩:=hrel
    by_cases hlt':k<16
    ·have c1:=hr.cell (i:=n*16+k) (by omega)
     have hu:qV (16*(n+1)+k) (qp T key) (fun _=>0) (n*16+k)=kU T key n k:=by
      unfold qV qp
      rw [iT (by omega),show(n*16+k) / 16=n by omega,show(n*16+k) % 16=k by omega]
     rw [hu]at c1
     clear hu
     have c2:=hw.cell (i:=k % 4) (by omega)
     have f2:=hw.frozen (k % 4)
     have i1:(k:Int) % 4<4:=by omega
     have i0:0<=(k:Int) % 4:=by omega
     have j0:0<=(n:Int)+1:=by omega
     have j1:(n:Int)+1<11:=by omega
     have k1:(k:Int)<16:=by omega
     go_wp2
     refine wp_region_still_tail 11 (by kernel_rfl) (by kernel_rfl) ?_
     simp only [iI,iK,iE,iJ]
     repeat(refine wpStill_step (fun K hK=> ?_);go_simp;(try go_bits);refine hK _ ?_;clear hK K)
     refine wpStill_nil ?_
     go_wp2
     have hw1:((wr.setCell ⟨wo.heap.size,k % 4,none⟩ (U8 (kwF T (kU T key n) (x9 n) k (k % 4) ^^^ kU T key n k))).drew).rowIs wo.heap.size 128 4 (fun r=>U8 (kwF T (kU T key n) (x9 n) (k+1) r)):=
      (hw.set (k % 4) _).drew.congr fun r _=>by
        by_cases e:r=k % 4
        ·rw [iT e,Vm _ _ _ _ _ e,e]
        ·rw [iF e,YO _ _ _ _ _ e]
     have hr1:=(hr.setOther (a:=⟨wo.heap.size,k % 4,none⟩) (by simp;omega) (U8 (kwF T (kU T key n) (x9 n) k (k % 4) ^^^ kU T key n k))).drew
     have hs1:=(hs.setOther (a:=⟨wo.heap.size,k % 4,none⟩) (by simp;omega) (U8 (kwF T (kU T key n) (x9 n) k (k % 4) ^^^ kU T key n k))).drew
     have hb1:=(hb.setCell (p:=⟨wo.heap.size,k % 4,none⟩) (by simp;omega) (U8 (kwF T (kU T key n) (x9 n) k (k % 4) ^^^ kU T key n k))).drew
     have c3:=hw1.cell (i:=k % 4) (by omega)
     have f4:=hr1.frozen ((n+1)*16+k)
     have c4:=hr1.cell (i:=(n+1)*16+k) (by omega)
     have hnk:kwF T (kU T key n) (x9 n) (k+1) (k % 4)=qp T key (16*(n+1)+k):=by
      unfold qp
      rw [show(16*(n+1)+k) / 16=n+1 by omega,show(16*(n+1)+k) % 16=k by omega]
      rfl
     rw [hnk]at c3
     clear hnk hr hw hs hb c1 c2 f2
     generalize (wr.setCell ⟨wo.heap.size,k % 4,none⟩ (U8 (kwF T (kU T key n) (x9 n) k (k % 4) ^^^ kU T key n k))).drew=w5 at*
     refine wp_region_still_tail 8 (by kernel_rfl) (by kernel_rfl) ?_
     simp only [iI,iK,iE,iJ]
     repeat(refine wpStill_step (fun K hK=> ?_);go_simp;(try go_bits);refine hK _ ?_;clear hK K)
     refine wpStill_nil ?_
     go_wp2
     go_roundw
     case rel=>
      refine⟨k+1,by omega,by go_num,?_,(hw1.setOther (by simp;omega) _).drew,(hs1.setOther (by simp) _).drew,(hb1.setCell (by simp) _).drew⟩
      rw [show(n+1)*16+k=16*(n+1)+k by omega]
      exact(kz hr1 rfl).drew
     case measure=>simp [intOf]<;>omega
    ·go_wp2
     have hk16:k=16:=by omega
     subst hk16
     go_roundw
     case rel=>exact⟨n+1,by omega,by go_num,rfl,hr,hs,hb⟩
     case measure=>simp [intOf]<;>omega
  ·have hn10:n=10:=by omega
   subst hn10
   go_wp2_with(first
    |(refine wpList_load_row rfl 116 (.tmp 5) rfl (w.heap.size+1) rfl 116 (kx 176 _) (0,0) _ (qQ hr) Try.underlying116 rfl (by rw [jy]<;>rfl) ?_)
    |(refine wpList_store_row rfl 116 (.tmp 4) (.tmp 86) rfl w.heap.size _ rfl rfl 116 (kx 176 _) (qQ hs) (by rw [jy]<;>rfl) (by rw [jy,jy]) (Q9 _ _) ?_))
   have hb':=below_setRow hb iL (kx 176 (fun j=>qV (16*(10+1)) (qp T key) (fun _=>0) j))
   refine bodyPost_ret (results_cell_row rfl _ _ w.heap.size 116 (kx 176 (qp T key)) (0,0) _ rfl ?_ Try.underlying116 rfl (by rw [jy]<;>rfl)) rfl ⟨rfl,hb'⟩
   rw [setRow_heap _ _ _ _ _ _ (qQ hs)]
   rw [QL (g:=qp T key) fun j hj=>by unfold qV;rw [iT (by omega)]]
def fwd(j:Nat):UInt8:=VU j
def bck(j:Nat):UInt8:=VU (256+j)
def CipherAt(w:World)(B:Nat)(p:Value)(key:Nat->UInt8):Prop:=
 ∃tb cb,p=.pointer (some ⟨cb,0,none⟩)/\tb<B/\cb<B/\w.cell? ⟨cb,0,none⟩=some (.pointer (some ⟨tb,0,none⟩))/\ArrB w tb 0 512 VU/\ArrB w cb 1 176 (qp fwd key)
def yH(p:Option Addr)(K:Nat->UInt8):Array Value:=#[.pointer p]++kx 176 K
theorem JH(p:Option Addr)(K:Nat->UInt8):Try.prog.built 119 [(0,.pointer p),(1,.agg (kx 176 K))]=some (yH p K):=by kernel_rfl
theorem KC(p:Option Addr)(K:Nat->UInt8):(yH p K)[0]?=some (.pointer p):=by
 unfold yH;rw [Array.getElem?_append_left (by simp)]<;>rfl
theorem KB(p:Option Addr)(K:Nat->UInt8)(j:Nat)(hj:j<176):(yH p K)[1+j]?=some (U8 (K j)):=by
 unfold yH;rw [Array.getElem?_append_right (by simp)]
 simp only [List.size_toArray,List.length_cons,List.length_nil]
 rw [show 1+j - (0+1)=j by omega]
 exact J4 _ _ _ hj
theorem yj(v:Value)(l:List UInt8)(hl:l.length=16)(w:World)(hv:Bs w w.heap.size v l):
 Calls Try.prog 57 #[v] w fun e w'=>∃p,e=.returned p/\CipherAt w' w'.heap.size p (gb l)/\Below w.heap.size w w':=by
 have hv0:=hv
 have Hl:=iH hl
 obtain⟨a,c,hve,hlc,hc,_,hcell⟩:=hv
 rw [hl]at hve
 subst hve
 have Hv0:=iH hv0;clear hv0 hl hcell
 go_enter Try.func57,Try.ntmps57
 go_wp2_with fail
 refine(Ji _).mono ?_
 rintro e w1 ⟨rfl,hr1,hb1⟩
 go_wp2_with fail
 have hT1:ArrB w1 w.heap.size 0 256 fwd:=(ArrB.of_row (off:=0) hr1 (m:=256) (by omega)).congr fun j _=>by rw [Nat.zero_add]<;>rfl
 refine(QU w.heap.size 0 fwd (.slice a 16 c) l Hl.out w1 hT1 hr1.lt ((Hv0.out.below hb1).mono hb1.size)).mono ?_
 rintro e w2 ⟨rfl,hb2⟩
 have hr2:=ym hr1 hb2 hr1.lt
 have hb12:=hb1.trans (hb2.mono hb1.size)
 clear hr1 hT1
 go_wp2_with(with_reducible refine yu rfl 119 #[(0,.tmp 8),(1,.tmp 11)] rfl [(0,.pointer (some ⟨w.heap.size,0,none⟩)),(1,.agg (kx 176 (qp fwd (gb l))))] ?hl (yH (some ⟨w.heap.size,0,none⟩) (qp fwd (gb l))) (JH _ _) ?_)
 go_ret
 refine⟨_,rfl,⟨w.heap.size,w2.heap.size,rfl,?_,?_,?_,?_,?_⟩,hb12.alloc hb12.size _⟩
 ·have:=hr2.lt;simp;omega
 ·simp
 ·rw [cell_of_row _ _ _ _ _ _ (iN)];exact KC _ _
 ·exact((ArrB.of_row (off:=0) hr2 (m:=512) (by omega)).congr fun j _=>by rw [Nat.zero_add]).alloc _
 ·intro j hj
  rw [cell_of_row _ _ _ _ _ _ (iN)]
  exact KB _ _ j hj
def UQ(i:Nat):UInt8:=if i=0 then 2 else if i=1 then 3 else 1
def YQ(i:Nat):UInt8:=if i=0 then 14 else if i=1 then 11 else if i=2 then 13 else 9
def UP(key f:Nat->UInt8):Nat->Nat->UInt8
 |0=>fun j=>f j ^^^ kU fwd key 0 j
 |n+1=>fun j=>(if n+1<10 then yO UQ (yy 1 fun j=>fwd (UP key f n j).toNat) j else yy 1 (fun j=>fwd (UP key f n j).toNat) j) ^^^ kU fwd key (n+1) j
def j00(key f:Nat->UInt8)(j:Nat):UInt8:=UP key f 10 j
theorem y9{w:World}{cb:Nat}{key:Nat->UInt8}(h:ArrB w cb 1 176 (qp fwd key))(n:Nat)(hn:n<11):ArrB w cb (1+n*16) 16 (kU fwd key n):=fun j hj=>by
 have:=h (n*16+j) (by omega)
 rw [<-Nat.add_assoc]at this
 rw [this]
 unfold qp
 rw [show(n*16+j) / 16=n by omega,show(n*16+j) % 16=j by omega]
theorem xn(b off c:Nat)(w:World):(Instr.arrayAt 115 (.slice (some ⟨b,off,none⟩) 16 c)).run Try.prog w=.ok (.pointer (some ⟨b,off,none⟩)) w:=by kernel_rfl
theorem y6(p v:Value)(key:Nat->UInt8)(l:List UInt8)(hl:l.length=16)(w:World)(hp:CipherAt w w.heap.size p key)(hv:Bs w w.heap.size v l):
 Calls Try.prog 59 #[p,v] w fun e w'=>∃v',e=.returned v'/\BsS w' (New w w') v' (kh 16 (j00 key (gb l)))/\Below w.heap.size w w':=by
 obtain⟨tb,cb,rfl,htb,hcb,hct,hT,hK⟩:=hp
 obtain⟨a,c,hve,hlc,hc,_,hcell⟩:=hv
 obtain⟨b,off,rfl,hb,hx⟩:=hcell (by omega)
 have hX:ArrB w b off 16 (gb l):=by rw [<-hl];exact hx
 rw [hl]at hve hlc
 subst hve
 clear hcell hx hl
 have HX:=iH hX;clear hX
 have hst:=qB (P:=Try.prog) (T:=115) (n:=16) rfl (gb l)
 have ha:=xn b off c
 have hx0:(w.alloc (.cells (kx 16 (gb l)) 115)).rowIs w.heap.size 115 16 (fun j=>U8 (gb l j)):=jC _ _ _ _
 have hb0:Below w.heap.size w (w.alloc (.cells (kx 16 (gb l)) 115)):=iA
 have Hx0:=iH hx0;clear hx0
 have Hb0:=iH hb0;clear hb0
 have HK:=iH hK;clear hK
 have HT:=iH hT;clear hT
 go_enter Try.func59,Try.ntmps59
 go_wp2_with(first
  |(with_reducible refine jn rfl 115 (.tmp 8) rfl b off 16 (gb l) rfl _ HX.out Try.underlying115 rfl rfl ?_)
  |(with_reducible refine jn rfl 115 (.tmp 13) rfl cb 1 16 (kU fwd key 0) rfl _ ((y9 HK.out 0 (by omega)).alloc _) Try.underlying115 rfl rfl ?_))
 refine(kj _ _ _ (kU fwd key 0) _ Hx0.out).mono ?_
 rintro e w0 ⟨rfl,hr0,hg0⟩
 have hb0:=Hb0.out.trans (j7 hg0 Hb0.out.size iL)
 clear hg0
 go_wp2
 go_loopw [6] (fun i wr=>∃n:Nat,n<=10/\i=.int .i64 (n+1:Nat)/\wr.rowIs w.heap.size 115 16 (fun j=>U8 (UP key (gb l) n j))/\Below w.heap.size w wr) (fun i _=>11 - (intOf i).toNat)
 case atStart=>exact⟨0,by omega,rfl,hr0,hb0⟩
 case round=>
  clear hr0 hb0
  obtain⟨n,hn,rfl,hr,hbb⟩:=hrel
  have hct':=(hbb.cell (p:=⟨cb,0,none⟩) hcb).trans hct
  have hT':ArrB wr tb 0 256 fwd:=fun j hj=>by
   have:=(HT.out.of_block (hbb.block tb htb)) j (by omega)
   rw [this,show fwd j=VU j from rfl]
  have HT':=iH hT';clear hT'
  have j0:0<=(n:Int)+1:=by omega
  by_cases h9:n<9
  ·have hd1:decide ((n:Int)+1<=10)=true:=by simp;omega
   have hd2:decide ((n:Int)+1<10)=true:=by simp;omega
   have j1:(n:Int)+1<11:=by omega
   go_wp2_with fail
   refine(ku _ tb 0 _ _ fwd _ hr (HT'.out.congr fun j _=>rfl) (by omega)).mono ?_
   rintro e w1 ⟨rfl,hr1,hg1⟩
   have hbb1:=hbb.trans (j7 hg1 hbb.size iL)
   clear hr hg1 hbb
   go_wp2_with fail
   refine(yk _ _ _ _ hr1).mono ?_
   rintro e w2 ⟨rfl,hr2,hg2⟩
   have hbb2:=hbb1.trans (j7 hg2 hbb1.size iL)
   clear hr1 hg2 hbb1
   go_wp2_with fail
   refine(Zn _ _ _ UQ _ (by rfl) _ hr2).mono ?_
   rintro e w3 ⟨rfl,hr3,hg3⟩
   have hbb3:=hbb2.trans (j7 hg3 hbb2.size iL)
   clear hr2 hg3 hbb2
   have hk3:=HK.out
   have hk4:=y9 (hk3.of_block (hbb3.block cb hcb)) (n+1) (by omega)
   have HK4:=iH hk4;clear hk3 hk4
   go_wp2_with(with_reducible refine jn rfl 115 (.tmp 36) rfl cb (1+(n+1)*16) 16 (kU fwd key (n+1)) rfl _ HK4.out Try.underlying115 rfl rfl ?_)
   refine(kj _ _ _ (kU fwd key (n+1)) _ hr3).mono ?_
   rintro e w4 ⟨rfl,hr4,hg4⟩
   have hbb4:=hbb3.trans (j7 hg4 hbb3.size iL)
   clear hr3 hg4 hbb3
   go_wp2
   go_roundw
   case rel=>
    refine⟨n+1,by omega,by go_num,hr4.congr fun j _=> ?_,hbb4⟩
    show _=U8 ((if n+1<10 then _ else _) ^^^ _)
    rw [iT (by omega)]
   case measure=>simp [intOf]<;>omega
  ·by_cases h10:n<10
   ·have hd1:decide ((n:Int)+1<=10)=true:=by simp;omega
    have hd2:decide ((n:Int)+1<10)=false:=by simp;omega
    have j1:(n:Int)+1<11:=by omega
    go_wp2_with fail
    refine(ku _ tb 0 _ _ fwd _ hr (HT'.out.congr fun j _=>rfl) (by omega)).mono ?_
    rintro e w1 ⟨rfl,hr1,hg1⟩
    have hbb1:=hbb.trans (j7 hg1 hbb.size iL)
    clear hr hg1 hbb
    go_wp2_with fail
    refine(yk _ _ _ _ hr1).mono ?_
    rintro e w2 ⟨rfl,hr2,hg2⟩
    have hbb2:=hbb1.trans (j7 hg2 hbb1.size iL)
    clear hr1 hg2 hbb1
    have hbb3:=hbb2
    have hr3:=hr2
    clear hr2 hbb2
    have hk3:=HK.out
    have hk4:=y9 (hk3.of_block (hbb3.block cb hcb)) (n+1) (by omega)
    have HK4:=iH hk4;clear hk3 hk4
    go_wp2_with(with_reducible refine jn rfl 115 (.tmp 36) rfl cb (1+(n+1)*16) 16 (kU fwd key (n+1)) rfl _ HK4.out Try.underlying115 rfl rfl ?_)
    refine(kj _ _ _ (kU fwd key (n+1)) _ hr3).mono ?_
    rintro e w4 ⟨rfl,hr4,hg4⟩
    have hbb4:=hbb3.trans (j7 hg4 hbb3.size iL)
    clear hr3 hg4 hbb3
    go_wp2
    go_roundw
    case rel=>
     refine⟨n+1,by omega,by go_num,hr4.congr fun j _=> ?_,hbb4⟩
     show _=U8 ((if n+1<10 then _ else _) ^^^ _)
     rw [iF (by omega)]
    case measure=>simp [intOf]<;>omega
   ·have hn10:n=10:=by omega
    subst hn10
    go_wp2
    go_ret
    exact⟨_,rfl,BsS.of_row hr (by omega) ⟨Nat.le_refl _,hr.lt⟩,hbb⟩
def UO(key f:Nat->UInt8):Nat->Nat->UInt8
 |0=>f
 |n+1=>fun j=>bck (yy 3 (if 10 - n<10 then yO YQ (fun j=>UO key f n j ^^^ kU fwd key (10 - n) j)else fun j=>UO key f n j ^^^ kU fwd key (10 - n) j) j).toNat
def j0e(key f:Nat->UInt8)(j:Nat):UInt8:=UO key f 10 j ^^^ kU fwd key 0 j
theorem JN(p v:Value)(key:Nat->UInt8)(l:List UInt8)(hl:l.length=16)(w:World)(hp:CipherAt w w.heap.size p key)(hv:Bs w w.heap.size v l):
 Calls Try.prog 70 #[p,v] w fun e w'=>∃v',e=.returned v'/\BsS w' (New w w') v' (kh 16 (j0e key (gb l)))/\Below w.heap.size w w':=by
 obtain⟨tb,cb,rfl,htb,hcb,hct,hT,hK⟩:=hp
 obtain⟨a,c,hve,hlc,hc,_,hcell⟩:=hv
 obtain⟨b,off,rfl,hb,hx⟩:=hcell (by omega)
 have hX:ArrB w b off 16 (gb l):=by rw [<-hl];exact hx
 rw [hl]at hve hlc
 subst hve
 clear hcell hx hl
 have HX:=iH hX;clear hX
 have hst:=qB (P:=Try.prog) (T:=115) (n:=16) rfl (gb l)
 have ha:=xn b off c
 have hx0:(w.alloc (.cells (kx 16 (gb l)) 115)).rowIs w.heap.size 115 16 (fun j=>U8 (gb l j)):=jC _ _ _ _
 have hb0:Below w.heap.size w (w.alloc (.cells (kx 16 (gb l)) 115)):=iA
 have Hx0:=iH hx0;clear hx0
 have Hb0:=iH hb0;clear hb0
 have HK:=iH hK;clear hK
 have HT:=iH hT;clear hT
 go_enter Try.func70,Try.ntmps70
 go_wp2_with(with_reducible refine jn rfl 115 (.tmp 8) rfl b off 16 (gb l) rfl _ HX.out Try.underlying115 rfl rfl ?_)
 go_loopw [6] (fun i wr=>∃m:Nat,m<=10/\i=.int .i64 m/\wr.rowIs w.heap.size 115 16 (fun j=>U8 (UO key (gb l) (10 - m) j))/\Below w.heap.size w wr) (fun i _=>(intOf i).toNat)
 case atStart=>exact⟨10,by omega,rfl,Hx0.out,Hb0.out⟩
 case round=>
  obtain⟨m,hm,rfl,hr,hbb⟩:=hrel
  have hct':=(hbb.cell (p:=⟨cb,0,none⟩) hcb).trans hct
  have hT':ArrB wr tb 256 256 bck:=fun j hj=>by
   have:=(HT.out.of_block (hbb.block tb htb)) (256+j) (by omega)
   rw [Nat.zero_add]at this
   rw [this]<;>rfl
  have HT':=iH hT';clear hT'
  have j0:0<=(m:Int):=by omega
  by_cases h0:0<m
  ·have hd1:decide (0<(m:Int))=true:=by simp;omega
   have j1:(m:Int)<11:=by omega
   have hk4:=y9 (HK.out.of_block (hbb.block cb hcb)) m (by omega)
   have HK4:=iH hk4;clear hk4
   obtain⟨q,rfl⟩:∃q,m=q+1:=⟨m - 1,by omega⟩
   have e1:10 - q=(10 - (q+1))+1:=by omega
   have e2:10 - (10 - (q+1))=q+1:=by omega
   have E1:=iH e1;clear e1
   have E2:=iH e2;clear e2
   obtain⟨d,hdd⟩:∃d,d=10 - (q+1):=⟨_,rfl⟩
   rw [<-hdd]at hr E1 E2
   have Hd:=iH hdd;clear hdd
   by_cases h9:q+1<10
   ·have hd2:decide ((q:Int)+1<10)=true:=by simp;omega
    go_wp2_with(with_reducible refine jn rfl 115 (.tmp 18) rfl cb (1+(q+1)*16) 16 (kU fwd key (q+1)) rfl _ HK4.out Try.underlying115 rfl rfl ?_)
    refine(kj _ _ _ (kU fwd key (q+1)) _ hr).mono ?_
    rintro e w1 ⟨rfl,hr1,hg1⟩
    have hbb1:=hbb.trans (j7 hg1 hbb.size iL)
    go_wp2_with fail
    refine(Zn _ _ _ YQ _ (by rfl) _ hr1).mono ?_
    rintro e w2 ⟨rfl,hr2,hg2⟩
    have hbb2:=hbb1.trans (j7 hg2 hbb1.size iL)
    go_wp2_with fail
    refine(yl _ _ _ _ hr2).mono ?_
    rintro e w3 ⟨rfl,hr3,hg3⟩
    have hbb3:=hbb2.trans (j7 hg3 hbb2.size iL)
    have hct3:=(hbb3.cell (p:=⟨cb,0,none⟩) hcb).trans hct
    have hT3:ArrB w3 tb 256 256 bck:=fun j hj=>by
     have:=(HT.out.of_block (hbb3.block tb htb)) (256+j) (by omega)
     rw [Nat.zero_add]at this
     rw [this]<;>rfl
    have HT3:=iH hT3;clear hT3
    clear hr hg1 hbb hr1 hg2 hbb1 hr2 hg3 hbb2
    go_wp2_with fail
    refine(ku _ tb 256 _ _ bck _ hr3 HT3.out (by omega)).mono ?_
    rintro e w4 ⟨rfl,hr4,hg4⟩
    have hbb4:=hbb3.trans (j7 hg4 hbb3.size iL)
    clear hr3 hg4 hbb3
    go_wp2
    go_roundw
    case rel=>
     refine⟨q,by omega,by go_num,hr4.congr fun j _=> ?_,hbb4⟩
     rw [E1.out]
     show _=U8 (bck (yy 3 (if 10 - d<10 then _ else _) j).toNat)
     rw [E2.out,iT (by omega)]
    case measure=>simp [intOf]<;>omega
   ·have hd2:decide ((q:Int)+1<10)=false:=by simp;omega
    go_wp2_with(with_reducible refine jn rfl 115 (.tmp 18) rfl cb (1+(q+1)*16) 16 (kU fwd key (q+1)) rfl _ HK4.out Try.underlying115 rfl rfl ?_)
    refine(kj _ _ _ (kU fwd key (q+1)) _ hr).mono ?_
    rintro e w1 ⟨rfl,hr1,hg1⟩
    have hbb1:=hbb.trans (j7 hg1 hbb.size iL)
    go_wp2_with fail
    refine(yl _ _ _ _ hr1).mono ?_
    rintro e w3 ⟨rfl,hr3,hg3⟩
    have hbb3:=hbb1.trans (j7 hg3 hbb1.size iL)
    have hct3:=(hbb3.cell (p:=⟨cb,0,none⟩) hcb).trans hct
    have hT3:ArrB w3 tb 256 256 bck:=fun j hj=>by
     have:=(HT.out.of_block (hbb3.block tb htb)) (256+j) (by omega)
     rw [Nat.zero_add]at this
     rw [this]<;>rfl
    have HT3:=iH hT3;clear hT3
    clear hr hg1 hbb hr1 hbb1 hg3
    go_wp2_with fail
    refine(ku _ tb 256 _ _ bck _ hr3 HT3.out (by omega)).mono ?_
    rintro e w4 ⟨rfl,hr4,hg4⟩
    have hbb4:=hbb3.trans (j7 hg4 hbb3.size iL)
    clear hr3 hg4 hbb3
    go_wp2
    go_roundw
    case rel=>
     refine⟨q,by omega,by go_num,hr4.congr fun j _=> ?_,hbb4⟩
     rw [E1.out]
     show _=U8 (bck (yy 3 (if 10 - d<10 then _ else _) j).toNat)
     rw [E2.out,iF (by omega)]
    case measure=>simp [intOf]<;>omega
  ·have hm0:m=0:=by omega
   subst hm0
   have hk4:=y9 (HK.out.of_block (hbb.block cb hcb)) 0 (by omega)
   have HK4:=iH hk4;clear hk4
   go_wp2_with(with_reducible refine jn rfl 115 (.tmp 36) rfl cb 1 16 (kU fwd key 0) rfl _ HK4.out Try.underlying115 rfl rfl ?_)
   refine(kj _ _ _ (kU fwd key 0) _ hr).mono ?_
   rintro e w1 ⟨rfl,hr1,hg1⟩
   have hbb1:=hbb.trans (j7 hg1 hbb.size iL)
   clear hr hg1 hbb
   go_wp2
   go_ret
   exact⟨_,rfl,BsS.of_row hr1 (by omega) ⟨Nat.le_refl _,hr1.lt⟩,hbb1⟩
theorem zt(vk v:Value)(k l:List UInt8)(h1:k.length=16)(h2:l.length=16)(w:World)(hk:Bs w w.heap.size vk k)(hv:Bs w w.heap.size v l):
 Calls Try.prog 61 #[vk,v] w fun e w'=>∃v',e=.returned (.tuple #[v',.int .i64 0])/\Bs w' w'.heap.size v' (kh 16 (j00 (gb k) (gb l)))/\Below w.heap.size w w':=by
 have hk0:=hk
 have hv0:=hv
 obtain⟨ak,ck,hke,hlck,hck,hk3,hcellk⟩:=hk
 obtain⟨a,c,hve,hlc,hc,h3,hcell⟩:=hv
 rw [h1]at hke
 rw [h2]at hve
 subst hke hve
 have H1:=iH h1;have H2:=iH h2;have HK:=iH hk0;have HV:=iH hv0
 clear hcellk hcell h1 h2 hk0 hv0 hlck hlc hk3 h3
 go_enter Try.func61,Try.ntmps61
 go_wp2_with fail
 refine(yj _ k H1.out _ HK.out).mono ?_
 rintro e w1 ⟨p,rfl,hp,hb1⟩
 go_wp2_with fail
 refine(y6 _ _ _ l H2.out _ hp ((HV.out.below hb1).mono hb1.size)).mono ?_
 rintro e w2 ⟨v',rfl,hv',hb2⟩
 go_wp2
 go_ret2
 exact⟨v',rfl,hv'.bs,hb1.trans (hb2.mono hb1.size)⟩
section
open Go.RowKit Go.Shelf
attribute [local go_sem] Oper.semAt_some
theorem Qe(F:Fence)(n:Nat)(hc:F.fn 58)(hro:F.round=none)(a:Option Addr)(len cap:Nat)(w:World):
 CallsIn F n Try.prog 58 #[.slice a len cap,.int .i64 16] w fun e w'=>e=.returned (.func (.func 74) #[] #[.pointer (some ⟨w.heap.size,0,none⟩),.pointer (some ⟨w.heap.size+1,0,none⟩)])/\
  w'=(w.alloc (.cells #[.slice a len cap] 23)).alloc (.cells #[.int .i64 16] 3):=by
 refine callsIn_of_wp Try.func58 rfl hc ?_ hro
 simp only [Try.ntmps58,List.size_toArray,List.length_cons,List.length_nil,Nat.reduceAdd,Nat.reduceSub,Array.replicate_succ,Array.replicate_zero,List.push_toArray,List.append_toArray,List.nil_append,List.cons_append]
 gi_wp2
 go_ret
 exact⟨rfl,rfl⟩
def qh(Bs Bn:Nat)(W W':World):Prop:=W'.heap[Bs]?=W.heap[Bs]?/\W'.heap[Bn]?=W.heap[Bn]?
theorem y7{Bs Bn:Nat}{A B C:World}(h:qh Bs Bn A B)(k:qh Bs Bn B C):qh Bs Bn A C:=⟨k.1.trans h.1,k.2.trans h.2⟩
theorem JV{Bs Bn:Nat}{w:World}(h1:Bs<w.heap.size)(h2:Bn<w.heap.size)(W:World)(l:Nat)(o o':Obj)(hl:w.heap.size<=l)(_:W.heap[l]?=some o) (_:o.isCells=false) (_:o.isWalk=false):qh Bs Bn W (W.putObj l o'):=
 ⟨World.putObj_heap_other (by omega),World.putObj_heap_other (by omega)⟩
theorem JW(Bs Bn:Nat)(W:World):qh Bs Bn W W:=⟨rfl,rfl⟩
theorem Us(m k:Nat)(hk:k<m):(List.finRange m).take (k+1)=(List.finRange m).take k++ [⟨k,hk⟩]:=by
 rw [List.take_succ_eq_append_getElem (by simpa using hk)]
 simp
theorem Z2(F:Fence)(n:Nat)(hc1:F.fn 74)(hro:F.round=none)(hn:1<=n)(l Bs Bn n₀ b off m cap:Nat)(hcap:16*m<=cap)(hm:16*m<=140737488355328)(J Jx:List (Fin m)->World->Prop)(hJ:AbidesFrom n₀ J)
 (hY:∀pre (x:Fin m) W,J pre W->pre.length<m->YieldAt F (n - 1) Try.prog l #[.slice (some ⟨b,off+16*x.1,none⟩) 16 16] W fun e W'=>
   (e=.returned (.bool true)/\J (pre++ [x]) W'/\qh Bs Bn W W')\/(e=.returned (.bool false)/\Jx (pre++ [x]) W'))
 (W:World) (hBs:W.cell? ⟨Bs,0,none⟩=some (.slice (some ⟨b,off,none⟩) (16*m) cap)) (hBn:W.cell? ⟨Bn,0,none⟩=some (.int .i64 16)) (h0:J [] W):
 CallsIn F n Try.prog 74 #[.func (.yield l) #[] #[],.pointer (some ⟨Bs,0,none⟩),.pointer (some ⟨Bn,0,none⟩)] W fun e W'=>(∃v,e=.returned v)/\
  ((∃ys,ys=List.finRange m/\J ys W')\/(∃pre,True/\Jx pre W')):=by
 refine callsIn_of_wp Try.func74 rfl hc1 ?_ hro
 simp only [Try.ntmps74,List.size_toArray,List.length_cons,List.length_nil,Nat.reduceAdd,Nat.reduceSub,Array.replicate_succ,Array.replicate_zero,List.push_toArray,List.append_toArray,List.nil_append,List.cons_append]
 gi_wp2
 gi_loopw [4] (fun i wr=>∃k q:Nat,k<=m/\Hid (q=16*k)/\i=.int .i64 q/\J ((List.finRange m).take k) wr/\qh Bs Bn W wr)
  (fun i _=>16*m - (intOf i).toNat)
 case atStart=>exact⟨0,0,Nat.zero_le _,rfl,rfl,by simpa using h0,JW _ _ _⟩
 case round=>
  obtain⟨k,q,hk,hq,rfl,hJs,hnx⟩:=hrel
  have c1:=(World.cell?_of_block (a:=⟨Bs,0,none⟩) hnx.1).trans hBs
  have c2:=(World.cell?_of_block (a:=⟨Bn,0,none⟩) hnx.2).trans hBn
  by_cases hlt:k<m
  ·have hJd:J ((List.finRange m).take k) wr.drew:=hJ _ wr wr.drew none hJs ⟨rfl,rfl,rfl,Nat.le_refl _,fun _ _ _=>rfl⟩ (fun r e=>by cases e)
   obtain⟨fn,tmps,assign,body,hy,hR⟩:=hY _ ⟨k,hlt⟩ wr.drew hJd (by simp;omega)
   have hq1:=hq.out
   have hq2:(q:Int)+16<=16*m:=by omega
   have hq3:(q:Int)<16*m:=by omega
   have hq4:q<=cap:=by omega
   have hq5:q<=16*m:=by omega
   have hcq:¬cap=q:=by omega
   dsimp only at hy
   rw [<-hq1]at hy
   clear hq1
   have hd:decide ((q:Int)<16*m)=true:=by simp;omega
   have hmin:(if(((16*m - q:Nat):Int)<16)then((16*m - q:Nat):Int)else 16)=16:=by rw [iF (by omega)]
   have Hmin:=iH hmin;clear hmin
   gi_wp2
   gi_region
   all_goals rw [Hmin.out]
   all_goals
    gi_wp2
    refine hR.mono ?_
    rintro e W3 (⟨rfl,hJ3,hk3⟩|⟨rfl,hJx3⟩)
    ·have c3:=(World.cell?_of_block (w:=wr.drew) (a:=⟨Bs,0,none⟩) hk3.1).trans c1
     have c4:=(World.cell?_of_block (w:=wr.drew) (a:=⟨Bn,0,none⟩) hk3.2).trans c2
     gi_wp2
     go_roundw
     case rel=>
      exact⟨k+1,q+16,by omega,by have:=hq.out;unfold Hid;omega,by go_num,by rw [Us m k hlt];exact hJ3,y7 hnx hk3⟩
     case measure=>simp [intOf]<;>omega
    ·gi_wp2
     refine bodyPost_ret (results_none rfl _ _ _) rfl ?_
     exact⟨⟨_,rfl⟩,.inr ⟨_,trivial,hJx3⟩⟩
  ·have hkm:k=m:=by omega
   subst hkm
   have hd:decide ((q:Int)<16*k)=false:=by have:=hq.out;simp;omega
   have hge:¬(q:Int)<16*k:=by have:=hq.out;omega
   gi_wp2
   go_end0
   exact⟨⟨_,rfl⟩,.inl (by rw [List.take_of_length_le (by simp)]at hJs;exact hJs)⟩
theorem J9(F:Fence)(n:Nat)(hc1:F.fn 74)(hro:F.round=none)(l Bs Bn cap:Nat)(a:Option Addr)(J:List (Fin 0)->World->Prop)(W:World)
 (hBs:W.cell? ⟨Bs,0,none⟩=some (.slice a 0 cap)) (h0:J [] W):
 CallsIn F n Try.prog 74 #[.func (.yield l) #[] #[],.pointer (some ⟨Bs,0,none⟩),.pointer (some ⟨Bn,0,none⟩)] W fun e W'=>(∃v,e=.returned v)/\J [] W':=by
 refine callsIn_of_wp Try.func74 rfl hc1 ?_ hro
 simp only [Try.ntmps74,List.size_toArray,List.length_cons,List.length_nil,Nat.reduceAdd,Nat.reduceSub,Array.replicate_succ,Array.replicate_zero,List.push_toArray,List.append_toArray,List.nil_append,List.cons_append]
 gi_wp2
 gi_loopw [4] (fun i wr=>i=.int .i64 0/\J [] wr/\wr.cell? ⟨Bs,0,none⟩=some (.slice a 0 cap)) (fun _ _=>0)
 case atStart=>exact⟨rfl,h0,hBs⟩
 case round=>
  obtain⟨rfl,hJs,hc⟩:=hrel
  gi_wp2
  go_end0
  exact⟨⟨_,rfl⟩,hJs⟩
theorem zW(F:Fence)(n:Nat)(hc1:F.fn 74)(hro:F.round=none)(hn:1<=n)(Bs Bn:Nat)(a:Option Addr)(m cap b off:Nat)(hcap:16*m<=cap)(ha:0<m->a=some ⟨b,off,none⟩)(hm:16*m<=140737488355328)
 (w:World) (hBs:Bs<w.heap.size) (hBn:Bn<w.heap.size) (hc:w.cell? ⟨Bs,0,none⟩=some (.slice a (16*m) cap)) (hcn:w.cell? ⟨Bn,0,none⟩=some (.int .i64 16)):
 SeqStopsK F n Try.prog 74 #[.pointer (some ⟨Bs,0,none⟩),.pointer (some ⟨Bn,0,none⟩)] (fun x:Fin m=>#[.slice (some ⟨b,off+16*x.1,none⟩) 16 16]) (qh Bs Bn) (fun ys=>ys=List.finRange m) (fun _=>True) m w:=fun lo J Jx W hW hJ _ hY h0=>by
 have hc':=(hW.cell (p:=⟨Bs,0,none⟩) hBs).trans hc
 have hcn':=(hW.cell (p:=⟨Bn,0,none⟩) hBn).trans hcn
 rcases Nat.eq_zero_or_pos m with h|h
 ·subst h
  exact(J9 F n hc1 hro lo Bs Bn cap a J W hc' h0).mono fun e W' ⟨he,hj⟩=>⟨he,.inl ⟨_,rfl,hj⟩⟩
 ·obtain rfl:=ha h
  exact Z2 F n hc1 hro hn lo Bs Bn _ b off m cap hcap hm J Jx hJ hY W hc' hcn' h0
end
section
open Go.RowKit
def blk(b:List UInt8)(n:Nat):List UInt8:=(b.drop (16*n)).take 16
theorem xX{b:List UInt8}{m n:Nat}(hb:b.length=16*m)(hn:n<m):(blk b n).length=16:=by
 unfold blk;rw [List.length_take,List.length_drop];omega
theorem XR(b:List UInt8)(n j:Nat)(hj:j<16):gb (blk b n) j=gb b (16*n+j):=by
 unfold gb blk
 rw [List.getD_eq_getElem?_getD,List.getD_eq_getElem?_getD,List.getElem?_take,iT hj,List.getElem?_drop]
def qZ(k l:List UInt8):List UInt8:=kh 16 (j00 (gb k) (gb l))
def Z9(k l:List UInt8):List UInt8:=kh 16 (j0e (gb k) (gb l))
theorem kE(k l:List UInt8):(qZ k l).length=16:=jX _ _
theorem YD(k l:List UInt8):(Z9 k l).length=16:=jX _ _
def qS(k b:List UInt8)(s:List UInt8×List UInt8)(x:Nat):List UInt8×List UInt8:=(qZ k (xU (blk b x) s.1),s.2++qZ k (xU (blk b x) s.1))
def qM(k b:List UInt8)(s:List UInt8×List UInt8)(x:Nat):List UInt8×List UInt8:=(blk b x,s.2++xU (Z9 k (blk b x)) s.1)
def xM(k iv b:List UInt8)(xs:List Nat):List UInt8×List UInt8:=xs.foldl (qS k b) (iv,[])
def xH(k iv b:List UInt8)(xs:List Nat):List UInt8×List UInt8:=xs.foldl (qM k b) (iv,[])
theorem qR(k iv b:List UInt8)(xs:List Nat)(x:Nat):xM k iv b (xs++ [x])=qS k b (xM k iv b xs) x:=by unfold xM;rw [List.foldl_append]<;>rfl
theorem qL(k iv b:List UInt8)(xs:List Nat)(x:Nat):xH k iv b (xs++ [x])=qM k b (xH k iv b xs) x:=by unfold xH;rw [List.foldl_append]<;>rfl
def kR(k iv b:List UInt8):List UInt8:=(xM k iv b (List.range (b.length / 16))).2
def yF(k iv b:List UInt8):List UInt8:=(xH k iv b (List.range (b.length / 16))).2
theorem ZO(k b:List UInt8)(xs:List Nat):∀s:List UInt8×List UInt8,s.1.length=16->(xs.foldl (qS k b) s).1.length=16/\(xs.foldl (qS k b) s).2.length=s.2.length+16*xs.length:=by
 induction xs with
 |nil=>intro s h;exact⟨h,by simp⟩
 |cons x xs ih=>
  intro s h
  obtain⟨h1,h2⟩:=ih (qS k b s x) (kE _ _)
  refine⟨h1,?_⟩
  have e:(qS k b s x).2.length=s.2.length+16:=by show(s.2++qZ k _).length=_;rw [List.length_append,kE]
  rw [List.foldl_cons,h2,e,List.length_cons]
  omega
theorem Qz{k iv b:List UInt8}(hiv:iv.length=16)(xs:List Nat):(xM k iv b xs).1.length=16/\(xM k iv b xs).2.length=16*xs.length:=by
 obtain⟨h1,h2⟩:=ZO k b xs (iv,[]) hiv
 exact⟨h1,by show _=_;unfold xM;rw [h2];simp⟩
theorem Zy(k:List UInt8){b:List UInt8}{m:Nat}(hb:b.length=16*m)(xs:List Nat):∀s:List UInt8×List UInt8,s.1.length=16->(∀x∈xs,x<m)->(xs.foldl (qM k b) s).1.length=16/\(xs.foldl (qM k b) s).2.length=s.2.length+16*xs.length:=by
 induction xs with
 |nil=>intro s h _;exact⟨h,by simp⟩
 |cons x xs ih=>
  intro s h hx
  obtain⟨h1,h2⟩:=ih (qM k b s x) (xX hb (hx x (by simp))) fun y hy=>hx y (by simp [hy])
  refine⟨h1,?_⟩
  have e:(qM k b s x).2.length=s.2.length+16:=by show(s.2++xU _ _).length=_;rw [List.length_append,jP]
  rw [List.foldl_cons,h2,e,List.length_cons]
  omega
theorem Qu{k iv b:List UInt8}{m:Nat}(hiv:iv.length=16)(hb:b.length=16*m)(xs:List Nat)(hx:∀x∈xs,x<m):(xH k iv b xs).1.length=16/\(xH k iv b xs).2.length=16*xs.length:=by
 obtain⟨h1,h2⟩:=Zy k hb xs (iv,[]) hiv hx
 exact⟨h1,by show _=_;unfold xH;rw [h2];simp⟩
structure Only2 (b1 b2:Nat) (a w:World):Prop where
 os:w.os=a.os
 tape:w.tape=a.tape
 output:w.output=a.output
 size:a.heap.size<=w.heap.size
 block:∀i,i<a.heap.size->i≠b1->i≠b2->w.heap[i]?=a.heap[i]?
theorem Only2.refl(b1 b2:Nat)(a:World):Only2 b1 b2 a a:=⟨rfl,rfl,rfl,Nat.le_refl _,fun _ _ _ _=>rfl⟩
theorem Only2.drew{b1 b2:Nat}{a w:World}(h:Only2 b1 b2 a w):Only2 b1 b2 a w.drew:=⟨h.os,h.tape,h.output,h.size,h.block⟩
theorem Only2.grown{b1 b2:Nat}{a w w':World}{row:Option Nat}(h:Only2 b1 b2 a w)(hg:w.grownBy w' row)(hr:∀r,row=some r->a.heap.size<=r\/r=b1\/r=b2):Only2 b1 b2 a w':=
 ⟨hg.os.trans h.os,hg.tape.trans h.tape,hg.output.trans h.output,Nat.le_trans h.size hg.size,fun i hi h1 h2=>(hg.block i (iZ hi h.size) (fun e=>by
  rcases hr i e.symm with h3|h3|h3
  ·omega
  ·exact h1 h3
  ·exact h2 h3)).trans (h.block i hi h1 h2)⟩
theorem Only2.below{b1 b2:Nat}{a w w':World}(h:Only2 b1 b2 a w)(hb:Below w.heap.size w w'):Only2 b1 b2 a w':=
 ⟨hb.os.trans h.os,hb.tape.trans h.tape,hb.output.trans h.output,Nat.le_trans h.size hb.size,fun i hi h1 h2=>(hb.block i (iZ hi h.size)).trans (h.block i hi h1 h2)⟩
theorem Only2.box{b1 b2:Nat}{a w:World}(h:Only2 b1 b2 a w)(b:Nat)(hb:b=b1\/b=b2)(v:Value):Only2 b1 b2 a (w.setCell ⟨b,0,none⟩ v):=
 h.grown (grownBy_setCell' w b v) (fun r e=>by cases e;exact .inr hb)
theorem Only2.toBelow{b1 b2 B:Nat}{a w:World}(h:Only2 b1 b2 a w)(h1:B<=b1)(h2:B<=b2)(hB:B<=a.heap.size):Below B a w:=
 ⟨h.os,h.tape,h.output,h.size,fun i hi=>h.block i (by omega) (by omega) (by omega)⟩
theorem Jm{β:Type}{b1 b2:Nat}{a:World}:OwnFrom a.heap.size (fun(_:β) W=>Only2 b1 b2 a W):=
 fun _ _ _ _ hs hg hr=>hs.grown hg fun r e=>.inl (hr r e).1
theorem BsS.keepC{w w':World}{S S':Nat->Prop}{v:Value}{l:List UInt8}(h:BsS w S v l)(hk:∀b,S b->(∃o:Obj,w.heap[b]?=some o/\o.isCells=true)->w'.heap[b]?=w.heap[b]?/\S' b):BsS w' S' v l:=by
 obtain⟨a,c,hv,h1,h2,h3,h4⟩:=h
 refine⟨a,c,hv,h1,h2,h3,fun hn=> ?_⟩
 obtain⟨b,off,ha,hb,hc⟩:=h4 hn
 have hk':=hk b hb (cells_of_cell (hc 0 hn))
 exact⟨b,off,ha,hk'.2,fun j hj=>(World.cell?_of_block (w:=w) hk'.1).trans (hc j hj)⟩
def j14(b1 b2:Nat)(ov:Value)(b:Nat):Prop:=b≠b1/\b≠b2/\ov.ownBlock≠some b
def UY(b1 b2:Nat)(a:World)(s:List UInt8×List UInt8)(W:World):Prop:=
 Only2 b1 b2 a W/\∃iv ov,Boxed W b1 23 iv/\Boxed W b2 23 ov/\BsS W (j14 b1 b2 ov) iv s.1/\W.ownsRow a.heap.size 5 1 ov s.2.length (s.2.map U8)
theorem JI{β:Type}(b1 b2:Nat)(a:World)(s:β->List UInt8×List UInt8)(h1:b1<a.heap.size)(h2:b2<a.heap.size):OwnFrom a.heap.size (fun(x:β) W=>UY b1 b2 a (s x) W):=by
 rintro x W W' row ⟨h,iv,ov,hi,ho,hbs,hown⟩ hg hr
 have hne:∀b,b<a.heap.size->some b≠row:=fun b hb e=>by have:=(hr b e.symm).1;omega
 refine⟨Jm (β:=β) x W W' row h hg hr,iv,ov,hi.kept hg (hne b1 h1),ho.kept hg (hne b2 h2),hbs.keepC fun b hb ⟨o,ho',hc⟩=>⟨?_,hb⟩,hown.kept hg ?_⟩
 ·refine hg.block b (iG ho') fun e=> ?_
  obtain⟨_,o',hq,hq'⟩:=hr b e.symm
  rw [ho']at hq;cases hq;rw [hc]at hq';cases hq'
 ·rcases hown.2 with ⟨rfl,_⟩|⟨g,cap,cur,rfl,_,hgb,_⟩
  ·exact .inl rfl
  ·refine .inr fun e'=> ?_
   obtain⟨_,o,ho',hc⟩:=hr g (by simpa [Value.ownBlock]using e'.symm)
   rw [hgb]at ho';cases ho';cases hc
open Go.RowKit
theorem zH{F:Fence}{nf:Nat}{P:Program}(w:World){ops:Array Oper}{rest:List Oper}{o:Oper}{a:Act}{Q:Exit->Act->World->Prop}(hgd:o.guard=none)(s x:Operand)(t:TypeId)
 (hop:o.op=.call {callee:=.builtin .append,args:=#[s,x],argTypes:=#[t,t]})
 (base:Nat) (e:TypeId) (z:Value) (bytes:Nat) (ht:P.underlying t=some (.slice e)) (hinfo:(P.info? e).map (fun i=>(i.zero,i.size,i.bytes))=some (some z,1,bytes))
 (hzs:z.cells.size=1) (hby:0<bytes) (v:Value) (n:Nat) (xs:List Value) (hs:a.eval s=v) (hown:w.ownsRow base e 1 v n xs)
 (A:Option Addr) (m c:Nat) (news:List Value) (hx:a.eval x=.slice A m c) (hsrc:SrcAt w A m news) (hbytes:(n+m)*bytes<=140737488355328) (hbase:base<=w.heap.size)
 (h:∀v' w',w'.ownsRow base e 1 v' (n+m) (xs++news)->w.grownBy w' v.ownBlock->(v'.ownBlock=v.ownBlock\/v'.ownBlock=some w.heap.size)->w'.ownsRow base e 1 v n xs->wpListIn F nf P ops Q rest (a.put o.dst v') w'):wpListIn F nf P ops Q (o :: rest) a w:=by
 refine wpListIn_plain hgd fun K hK'=> ?_
 obtain⟨v',w',hrun,h2,h3,h4,h5⟩:=xi (P:=P) w base t o.type e z bytes ht hinfo hzs hby v n xs hown A m c news hsrc hbytes hbase
 unfold Oper.wpIn
 refine⟨?_,?_⟩
 ·simp [Oper.about,hop,resolve,Target.leads,Sem.run_pure]
 ·rw [Oper.semAt_plain F _ _ (by rw [hop];intro c hc';cases hc')]
  simp [execOp,hop,resolve,invoke,builtin,hs,hx,hrun,Result.andThen]
  exact hK' _ _ (h v' w' h2 h3 h4 h5)
theorem CipherAt.keepBut{w w':World}{B b1:Nat}{t:TypeId}{p:Value}{key:Nat->UInt8}{A:Option Addr}{n c:Nat}(h:CipherAt w B p key)(hb1:Boxed w b1 t (.slice A n c))(hk:∀b,b<B->b≠b1->w'.heap[b]?=w.heap[b]?) (hB:B<=w'.heap.size):CipherAt w' w'.heap.size p key:=by
 obtain⟨tb,cb,hp,h1,h2,h3,h4,h5⟩:=h
 have n1:tb≠b1:=by
  intro e
  have h6:=h4 0 (by omega)
  rw [e]at h6
  rw [Nat.add_zero,hb1.cell]at h6
  cases h6
 have n2:cb≠b1:=by
  intro e
  rw [e,hb1.cell]at h3
  cases h3
 exact⟨tb,cb,hp,by omega,by omega,(World.cell?_of_block (a:=⟨cb,0,none⟩) (hk cb h2 n2)).trans h3,h4.of_block (hk tb h1 n1),h5.of_block (hk cb h2 n2)⟩
theorem Ja(va vb:Value)(a b:List UInt8)(ha:a.length=16)(hb:b.length=16)(w:World)(hva:Bs w w.heap.size va a)(hvb:Bs w w.heap.size vb b):
 Calls Try.prog 60 #[va,vb] w fun e w'=>∃v',e=.returned v'/\BsS w' (New w w') v' (xU a b)/\Below w.heap.size w w':=
 (JL va vb a b ha hb w hva hvb).mono fun _ _ ⟨v',h1,h2,h3⟩=>⟨v',h1,BsS.of_own h2 (by rw [jP];omega),h3⟩
theorem j1x(p v:Value)(k l:List UInt8)(hl:l.length=16)(w:World)(hp:CipherAt w w.heap.size p (gb k))(hv:Bs w w.heap.size v l):
 Calls Try.prog 59 #[p,v] w fun e w'=>∃v',e=.returned v'/\BsS w' (New w w') v' (qZ k l)/\Below w.heap.size w w':=y6 p v (gb k) l hl w hp hv
theorem j1w(p v:Value)(k l:List UInt8)(hl:l.length=16)(w:World)(hp:CipherAt w w.heap.size p (gb k))(hv:Bs w w.heap.size v l):
 Calls Try.prog 70 #[p,v] w fun e w'=>∃v',e=.returned v'/\BsS w' (New w w') v' (Z9 k l)/\Below w.heap.size w w':=JN p v (gb k) l hl w hp hv
theorem kX{W W':World}(h:Below W.heap.size W W'):KeepsOthers W W':=
 ⟨h.size,fun k o hk _=>(h.block k (iG hk)).trans hk⟩
theorem QR{b1 b2:Nat}{a W W2:World}{n:Nat}{xs:List Value}{iv ov v2:Value}{l2:List UInt8}(h12:b1≠b2)(hb1:b1<a.heap.size)(hb2:b2<a.heap.size)
 (hO:Only2 b1 b2 a W) (hI:Boxed W b1 23 iv) (hOv:Boxed W b2 23 ov) (hown:W.ownsRow a.heap.size 5 1 ov n xs)
 (hB:Below W.heap.size W W2) (hv2:BsS W2 (fun b=>W.heap.size<=b/\b<W2.heap.size) v2 l2):
 Boxed W2 b1 23 iv/\Boxed (W2.setCell ⟨b1,0,none⟩ v2) b1 23 v2/\Boxed (W2.setCell ⟨b1,0,none⟩ v2) b2 23 ov/\(W2.setCell ⟨b1,0,none⟩ v2).ownsRow a.heap.size 5 1 ov n xs/\
  BsS (W2.setCell ⟨b1,0,none⟩ v2) (fun b=>W.heap.size<=b/\b<W2.heap.size) v2 l2/\Only2 b1 b2 a (W2.setCell ⟨b1,0,none⟩ v2)/\KeepsOthers W (W2.setCell ⟨b1,0,none⟩ v2):=by
 have hs:=hO.size
 have hI2:Boxed W2 b1 23 iv:=(hB.block b1 (by omega)).trans hI
 have hO2:Boxed W2 b2 23 ov:=(hB.block b2 (by omega)).trans hOv
 have hg:=grownBy_setCell' W2 b1 v2
 refine⟨hI2,hI2.set v2,hO2.kept hg (by intro e;injection e;omega),(qy hown hB).kept hg (.inr fun e=>by have:=(hown.lt b1 e).1;omega),hv2.keep fun b hb _=>⟨hg.block b hb.2 (by intro e;injection e;omega),hb⟩,(hO.below hB).box b1 (.inl rfl) v2,(kX hB).trans (KeepsOthers.setCell _ _ _)⟩
theorem XW{b1 b2:Nat}{a W3 W4:World}{n m:Nat}{xs ys:List Value}{ov v2 v4:Value}{l2:List UInt8}(h12:b1≠b2)(hb1:b1<a.heap.size)(hb2:b2<a.heap.size)
 (hO:Only2 b1 b2 a W3) (hI:Boxed W3 b1 23 v2) (hOv:Boxed W3 b2 23 ov) (hown:W3.ownsRow a.heap.size 5 1 ov n xs)
 (hv2:BsS W3 (fun b=>b1≠b/\b2≠b/\ov.ownBlock≠some b/\b<W3.heap.size) v2 l2) (hown4:W4.ownsRow a.heap.size 5 1 v4 m ys) (hg4:W3.grownBy W4 ov.ownBlock) (hat4:v4.ownBlock=ov.ownBlock\/v4.ownBlock=some W3.heap.size):
 Boxed W4 b2 23 ov/\Only2 b1 b2 a (W4.setCell ⟨b2,0,none⟩ v4)/\Boxed (W4.setCell ⟨b2,0,none⟩ v4) b1 23 v2/\Boxed (W4.setCell ⟨b2,0,none⟩ v4) b2 23 v4/\BsS (W4.setCell ⟨b2,0,none⟩ v4) (j14 b1 b2 v4) v2 l2/\
  (W4.setCell ⟨b2,0,none⟩ v4).ownsRow a.heap.size 5 1 v4 m ys/\KeepsOthers W3 (W4.setCell ⟨b2,0,none⟩ v4):=by
 have hs:=hO.size
 have ne1:some b1≠ov.ownBlock:=fun e=>by have:=(hown.lt b1 e.symm).1;omega
 have ne2:some b2≠ov.ownBlock:=fun e=>by have:=(hown.lt b2 e.symm).1;omega
 have hO4:Boxed W4 b2 23 ov:=hOv.kept hg4 ne2
 have hI4:Boxed W4 b1 23 v2:=hI.kept hg4 ne1
 have hg:=grownBy_setCell' W4 b2 v4
 refine⟨hO4,(hO.grown hg4 fun r e=>.inl (hown.lt r e).1).box b2 (.inr rfl) v4,hI4.kept hg (by intro e;injection e;omega),hO4.set v4,?_,hown4.kept hg (.inr fun e=>by have:=(hown4.lt b2 e).1;omega),?_⟩
 ·refine BsS.keep hv2 fun b hb hlt=>⟨?_,Ne.symm hb.1,Ne.symm hb.2.1,?_⟩
  ·exact(hg.block b (by have:=hg4.size;omega) (by intro e;injection e with e;exact hb.2.1 e.symm)).trans (hg4.block b hlt (fun e=>hb.2.2.1 e.symm))
  ·rcases hat4 with e|e
   ·rw [e];exact hb.2.2.1
   ·rw [e];intro h;injection h with h;omega
 ·refine(KeepsOthers.of_grownBy hg4 fun j _ ej hj=> ?_).trans (KeepsOthers.setCell _ _ _)
  rcases hown.2 with ⟨rfl,_⟩|⟨g,cap,cur,rfl,_,hgb,_⟩
  ·simp [Value.ownBlock]at ej
  ·obtain rfl:g=j:=by simpa [Value.ownBlock]using ej
   rw [hgb]at hj;cases hj;rfl
theorem xz{b1 b2 x y:Nat}{a W W':World}(h:Only2 b1 b2 a W)(h':Only2 b1 b2 a W')(hx:x<a.heap.size)(hy:y<a.heap.size)(x1:x≠b1)(x2:x≠b2)(y1:y≠b1)(y2:y≠b2):qh x y W W':=
 ⟨(h'.block x hx x1 x2).trans (h.block x hx x1 x2).symm,(h'.block y hy y1 y2).trans (h.block y hy y1 y2).symm⟩
def qD(F:Fence)(nf:Nat)(P:Program)(o:Oper)(a:Act)(w:World)(K:Act->World->Prop)(Q:Exit->Act->World->Prop):Prop:=Oper.wpIn F nf P o a w K Q
theorem J3{F:Fence}{nf:Nat}{P:Program}{d:Option Tmp}{s x:Operand}{t1 t2 ty:TypeId}{ps:String}{af:Array Edge}{g:Option (Nat×Bool)}{a:Act}{w:World}{K:Act->World->Prop}{Q:Exit->Act->World->Prop}:
 Oper.wpIn F nf P {dst:=d,op:=Op.call {callee:=Callee.builtin Builtin.append,args:=#[s,x],argTypes:=#[t1,t2]},type:=ty,pos:=ps,after:=af,guard:=g} a w K Q=
  qD F nf P {dst:=d,op:=Op.call {callee:=Callee.builtin Builtin.append,args:=#[s,x],argTypes:=#[t1,t2]},type:=ty,pos:=ps,after:=af,guard:=g} a w K Q:=rfl
theorem Ks{F:Fence}{nf:Nat}{P:Program}{o:Oper}{l:List Oper}{h:0<(o :: l).toArray.size}{a:Act}{w:World}{K:Act->World->Prop}{Q:Exit->Act->World->Prop}:Oper.wpIn F nf P ((o :: l).toArray[0]'h) a w K Q=Oper.wpIn F nf P o a w K Q:=rfl
theorem Kr{F:Fence}{nf:Nat}{P:Program}{o:Oper}{l:List Oper}{n:Nat}{h:n+1<(o :: l).toArray.size}{a:Act}{w:World}{K:Act->World->Prop}{Q:Exit->Act->World->Prop}:Oper.wpIn F nf P ((o :: l).toArray[n+1]'h) a w K Q=Oper.wpIn F nf P (l.toArray[n]'(by simpa using h)) a w K Q:=rfl
theorem yz{F:Fence}{nf:Nat}{P:Program}(w:World){o:Oper}{a:Act}{K:Act->World->Prop}{Q:Exit->Act->World->Prop}(s x:Operand)(t:TypeId)
 (hop:o.op=.call {callee:=.builtin .append,args:=#[s,x],argTypes:=#[t,t]})
 (base:Nat) (e:TypeId) (z:Value) (bytes:Nat) (ht:P.underlying t=some (.slice e)) (hinfo:(P.info? e).map (fun i=>(i.zero,i.size,i.bytes))=some (some z,1,bytes))
 (hzs:z.cells.size=1) (hby:0<bytes) (v:Value) (n:Nat) (xs:List Value) (hs:a.eval s=v) (hown:w.ownsRow base e 1 v n xs)
 (A:Option Addr) (m c:Nat) (news:List Value) (hx:a.eval x=.slice A m c) (hsrc:SrcAt w A m news) (hbytes:(n+m)*bytes<=140737488355328) (hbase:base<=w.heap.size)
 (h:∀v' w',w'.ownsRow base e 1 v' (n+m) (xs++news)->w.grownBy w' v.ownBlock->(v'.ownBlock=v.ownBlock\/v'.ownBlock=some w.heap.size)->K (a.put o.dst v') w'):qD F nf P o a w K Q:=by
 obtain⟨v',w',hrun,h2,h3,h4,h5⟩:=xi (P:=P) w base t o.type e z bytes ht hinfo hzs hby v n xs hown A m c news hsrc hbytes hbase
 unfold qD Oper.wpIn
 refine⟨?_,?_⟩
 ·simp [Oper.about,hop,resolve,Target.leads,Sem.run_pure]
 ·rw [Oper.semAt_plain F _ _ (by rw [hop];intro c hc';cases hc')]
  simp [execOp,hop,resolve,invoke,builtin,hs,hx,hrun,Result.andThen]
  exact h v' w' h2 h3 h4
theorem QQ{b1 b2:Nat}{a W W2 W4:World}{n m:Nat}{xs ys:List Value}{iv ov xv v4:Value}{lx:List UInt8}(h12:b1≠b2)(hb1:b1<a.heap.size)(hb2:b2<a.heap.size)
 (hO:Only2 b1 b2 a W) (hI:Boxed W b1 23 iv) (hOv:Boxed W b2 23 ov) (hown:W.ownsRow a.heap.size 5 1 ov n xs)
 (hB:Below W.heap.size W W2) (hx:BsS W (fun b=>b≠b1/\b≠b2/\b<a.heap.size) xv lx) (hown4:W4.ownsRow a.heap.size 5 1 v4 m ys) (hg4:W2.grownBy W4 ov.ownBlock) (hat4:v4.ownBlock=ov.ownBlock\/v4.ownBlock=some W2.heap.size):
 Boxed W4 b2 23 ov/\Boxed (W4.setCell ⟨b2,0,none⟩ v4) b1 23 iv/\Only2 b1 b2 a ((W4.setCell ⟨b2,0,none⟩ v4).setCell ⟨b1,0,none⟩ xv)/\Boxed ((W4.setCell ⟨b2,0,none⟩ v4).setCell ⟨b1,0,none⟩ xv) b1 23 xv/\
  Boxed ((W4.setCell ⟨b2,0,none⟩ v4).setCell ⟨b1,0,none⟩ xv) b2 23 v4/\BsS ((W4.setCell ⟨b2,0,none⟩ v4).setCell ⟨b1,0,none⟩ xv) (j14 b1 b2 v4) xv lx/\
  ((W4.setCell ⟨b2,0,none⟩ v4).setCell ⟨b1,0,none⟩ xv).ownsRow a.heap.size 5 1 v4 m ys/\KeepsOthers W ((W4.setCell ⟨b2,0,none⟩ v4).setCell ⟨b1,0,none⟩ xv):=by
 have hs:=hO.size
 have hs2:=hB.size
 have ne1:some b1≠ov.ownBlock:=fun e=>by have:=(hown.lt b1 e.symm).1;omega
 have ne2:some b2≠ov.ownBlock:=fun e=>by have:=(hown.lt b2 e.symm).1;omega
 have hO4:Boxed W4 b2 23 ov:=Boxed.kept ((hB.block b2 (by omega)).trans hOv:Boxed W2 b2 23 ov) hg4 ne2
 have hI4:Boxed W4 b1 23 iv:=Boxed.kept ((hB.block b1 (by omega)).trans hI:Boxed W2 b1 23 iv) hg4 ne1
 have hg:=grownBy_setCell' W4 b2 v4
 have hg':=grownBy_setCell' (W4.setCell ⟨b2,0,none⟩ v4) b1 xv
 have hI5:Boxed (W4.setCell ⟨b2,0,none⟩ v4) b1 23 iv:=hI4.kept hg (by intro e;injection e;omega)
 refine⟨hO4,hI5,(((hO.below hB).grown hg4 fun r e=>.inl (hown.lt r e).1).box b2 (.inr rfl) v4).box b1 (.inl rfl) xv,hI5.set xv,(hO4.set v4).kept hg' (by intro e;injection e;omega),?_,
  (hown4.kept hg (.inr fun e=>by have:=(hown4.lt b2 e).1;omega)).kept hg' (.inr fun e=>by have:=(hown4.lt b1 e).1;omega),?_⟩
 ·refine BsS.keep hx fun b hb hlt=>⟨?_,hb.1,hb.2.1,?_⟩
  ·have h4:W4.heap[b]?=W.heap[b]? :=(hg4.block b (by omega) (fun e=>by have:=(hown.lt b e.symm).1;have:=hb.2.2;omega)).trans (hB.block b hlt)
   have h5:=hg.block b (by have:=hg4.size;omega) (by intro e;injection e with e;exact hb.2.1 e)
   exact(hg'.block b (by have:=hg4.size;have:=hg.size;omega) (by intro e;injection e with e;exact hb.1 e)).trans (h5.trans h4)
  ·intro e
   have:=(hown4.lt b e).1
   have:=hb.2.2
   omega
 ·refine((kX hB).trans (KeepsOthers.of_grownBy hg4 fun j o ej hj=> ?_)).trans ((KeepsOthers.setCell _ _ _).trans (KeepsOthers.setCell _ _ _))
  rcases(qy hown hB).2 with ⟨rfl,_⟩|⟨g,cap,cur,rfl,_,hgb,_⟩
  ·simp [Value.ownBlock]at ej
  ·obtain rfl:g=j:=by simpa [Value.ownBlock]using ej
   rw [hgb]at hj;cases hj;rfl
attribute [irreducible] qD
attribute [irreducible] qZ Z9
end
end Go.Proofs.Ytadndhgebgjlaaa
