/- The walks of the small functions of the package modes: combine, arguments; slices.Chunk of bytes by 16: what the iterator hands its loop; Plain law and memor... -/
import Derived.LoopIn
import Derived.LoopNIn
import Derived.OwnWalkIn
import Derived.RangeFuncBound
import Derived.RangeFuncNested
import Derived.Shelf.RegionOpen
import Derived.Test.YtalmmiojbmpmiaaGreatDoorPk
import Derived.Test.YtalmmiojbmpmiaaGreatDoorPj
import Derived.Test.YtalmmiojbmpmiaaGreatDoorPt
import Derived.Test.YtalmmiojbmpmiaaGreatDoorPs
set_option linter.all false
set_option maxRecDepth 100000
set_option maxHeartbeats 4000000
namespace Go.Proofs.YtalmmiojbmpmiaaGreatDoor
open Go.RowKit Go.Deep
theorem m2g{P:Prop}(h:P:=by
 subst h
 exact(yb F n hc1 hro lo Bs Bn cap a J W hc' h0).mono fun e W' ⟨he,hj⟩=>⟨he,.inl ⟨_,rfl,hj⟩⟩):P:=h
theorem m2i{P:Prop}(h:P:=by
 gi_wp2
 refine bodyPost_ret (results_none rfl _ _ _) rfl ?_
 exact⟨⟨_,rfl⟩,.inr ⟨_,trivial,hJx3⟩⟩):P:=h
theorem m2u{P:Prop}(h:P:=by
 obtain⟨_,o',hq,hq'⟩:=hr b e.symm
 rw [ho']at hq;cases hq;rw [hc]at hq';cases hq'):P:=h
theorem m2z{P:Prop}(h:P:=by
 exact⟨n+1,by omega,by go_num,h1,HB2.out.drew.setCell (by simpa using hg1) _⟩):P:=h
theorem m31{P:Prop}(h:P:=by
 obtain rfl:g=j:=by simpa [Value.ownBlock]using ej
 rw [hgb]at hj;cases hj;rfl):P:=h
theorem m3a{P:Prop}(h:P:=by
 have h:=Z8 b
 have h2:ym b.length<64:=Nat.mod_lt _ (by omega)
 omega):P:=h
def qR(a b:List UInt8):List UInt8:=jz 16 fun j=>gb a j ^^^ gb b j
theorem k8(a b:List UInt8):(qR a b).length=16:=jq _ _
theorem XF(va vb:Value)(a b:List UInt8)(ha:a.length=16)(hb:b.length=16)(w:World)(hva:Bs w w.heap.size va a)(hvb:Bs w w.heap.size vb b):
 Calls Tryz.prog 109 #[va,vb] w fun e w'=>∃v',e=.returned v'/\OwnB w' w.heap.size v' (qR a b)/\Below w.heap.size w w':=by
 obtain⟨Aa,na,ca,rfl⟩:=hva.form
 have Ha:=iH hva;have La:=iH ha
 obtain⟨Ab,cb,rfl,hcb,_,_,hcell⟩:=hvb
 obtain⟨bb,ob,rfl,hbb,hx⟩:=hcell (by omega)
 rw [hb]at hx hcb
 rw [hb]
 have HX:=iH hx
 clear hva hcell hx hb ha
 go_enter Tryz.func109,Tryz.ntmps109
 go_wp2_with fail
 refine(jr _ a _ Ha.out).mono ?_
 rintro e w1 ⟨v1,rfl,hown,hB⟩
 unfold OwnB at hown
 rw [La.out]at hown
 obtain⟨g,cap,rfl,hg1,hg2,hcap⟩:=kV hown (by omega)
 rw [Xo a 16 La.out]at hown
 have Hown:=iH hown;have HB:=iH hB;clear hown hB
 go_wp2
 go_loopw [11] (fun i wr=>∃n:Nat,n<=16/\i=.int .i64 n/\wr.ownsRow w.heap.size 5 1 (.slice (some ⟨g,0,none⟩) 16 cap) 16 (zt 16 (qE n (fun j=>gb a j ^^^ gb b j) (gb a)))/\Below w.heap.size w wr) (fun i _=>16 - (intOf i).toNat)
 case atStart=>exact⟨0,by omega,rfl,by rw [Zv];exact Hown.out,HB.out⟩
 case round=>
  obtain⟨n,hn,rfl,hown,hB⟩:=hrel
  have Hown2:=iH hown;have HB2:=iH hB;clear hown hB
  by_cases hlt:n<16
  ·have hd:decide ((n:Int)<16)=true:=by simp;omega
   have c1:wr.cell? ⟨g,n,none⟩=some (U8 (gb a n)):=by rw [Hown2.out.cellAt n (by omega),xp _ _ _ hlt,Xn iL]
   have f1:=Hown2.out.frozenAt n
   have c2:wr.cell? ⟨bb,ob+n,none⟩=some (U8 (gb b n)):=(HB2.out.cell (p:=⟨bb,ob+n,none⟩) hbb).trans (HX.out n hlt)
   have n1:(n:Int)<16:=by omega
   go_wp2
   refine wp_region_still_tail 10 (by kernel_rfl) (by kernel_rfl) ?_
   simp only [List.take_succ_cons,List.take_zero,List.drop_succ_cons,List.drop_zero]
   repeat(refine wpStill_step (fun K hK=> ?_);go_simp;(try go_bits);refine hK _ ?_;clear hK K)
   refine wpStill_nil ?_
   go_wp2
   go_roundw
   case rel=>
    obtain⟨h1,h2⟩:=Hown2.out.stored n (U8 (gb a n ^^^ gb b n))
    have e:=j1s 16 n (fun j=>gb a j ^^^ gb b j) (gb a)
    rw [e]at h1
    exact m2z
   case measure=>simp [intOf]<;>omega
  ·have hn16:n=16:=by omega
   subst hn16
   go_wp2
   go_ret
   refine⟨_,rfl,?_,HB2.out⟩
   show World.ownsRow _ _ _ _ _ (qR a b).length _
   rw [k8]
   unfold qR
   rw [<-Qj]
   have e:zt 16 (qE 16 (fun j=>gb a j ^^^ gb b j) (gb a))=zt 16 fun j=>gb a j ^^^ gb b j:=qi fun j hj=>by unfold qE;rw [iT hj]
   rw [<-e]
   exact Hown2.out
def j45(k iv b:List UInt8):Int:=if k.length=16/\iv.length=16 then(if b.length % 16=0 then 0 else 2)else 14
theorem zT(A1 A2 A3:Option Addr)(n1 n2 n3 c1 c2 c3:Nat)(k iv b:List UInt8)(h1:n1=k.length)(h2:n2=iv.length)(h3:n3=b.length)(w:World):
 Calls Tryz.prog 106 #[.slice A1 n1 c1,.slice A2 n2 c2,.slice A3 n3 c3] w fun e w'=>e=.returned (.int .i64 (j45 k iv b))/\w'=w:=by
 have E:Hid (j45 k iv b=if n1=16/\n2=16 then(if n3 % 16=0 then 0 else 2)else 14):=by rw [h1,h2,h3]<;>rfl
 clear h1 h2 h3
 by_cases a:n1=16
 ·have a':((n1:Int) != 16)=false:=by simp;omega
  by_cases b':n2=16
  ·have b'':((n2:Int) != 16)=false:=by simp;omega
   by_cases d:n3 % 16=0
   ·have d':((n3:Int) % 16 != 0)=false:=by simp;omega
    have E2:Hid (j45 k iv b=0):=by have:=E.out;rwa [iT ⟨a,b'⟩,iT d]at this
    clear a b' d E
    go_enter Tryz.func106,Tryz.ntmps106
    go_wp2
    go_ret
    exact⟨by rw [E2.out]<;>rfl,rfl⟩
   ·have d':((n3:Int) % 16 != 0)=true:=by simp;omega
    have E2:Hid (j45 k iv b=2):=by have:=E.out;rwa [iT ⟨a,b'⟩,iF d]at this
    clear a b' d E
    go_enter Tryz.func106,Tryz.ntmps106
    go_wp2
    go_ret
    exact⟨by rw [E2.out]<;>rfl,rfl⟩
  ·have b'':((n2:Int) != 16)=true:=by simp;omega
   have E2:Hid (j45 k iv b=14):=by have:=E.out;rwa [iF (fun h=>b' h.2)]at this
   clear a b' E
   go_enter Tryz.func106,Tryz.ntmps106
   go_wp2
   go_ret
   exact⟨by rw [E2.out]<;>rfl,rfl⟩
 ·have a':((n1:Int) != 16)=true:=by simp;omega
  have E2:Hid (j45 k iv b=14):=by have:=E.out;rwa [iF (fun h=>a h.1)]at this
  clear a E
  go_enter Tryz.func106,Tryz.ntmps106
  go_wp2
  go_ret
  exact⟨by rw [E2.out]<;>rfl,rfl⟩
section
open Go.RowKit Go.Shelf
attribute [local go_sem] Oper.semAt_some
theorem YD(F:Fence)(n:Nat)(hc:F.fn 97)(hro:F.round=none)(a:Option Addr)(len cap:Nat)(w:World):
 CallsIn F n Tryz.prog 97 #[.slice a len cap,.int .i64 16] w fun e w'=>e=.returned (.func (.func 144) #[] #[.pointer (some ⟨w.heap.size,0,none⟩),.pointer (some ⟨w.heap.size+1,0,none⟩)])/\
  w'=(w.alloc (.cells #[.slice a len cap] 22)).alloc (.cells #[.int .i64 16] 3):=by
 refine callsIn_of_wp Tryz.func97 rfl hc ?_ hro
 simp only [Tryz.ntmps97,List.size_toArray,List.length_cons,List.length_nil,Nat.reduceAdd,Nat.reduceSub,Array.replicate_succ,Array.replicate_zero,List.push_toArray,List.append_toArray,List.nil_append,List.cons_append]
 gi_wp2
 go_ret
 exact⟨rfl,rfl⟩
def qr(Bs Bn:Nat)(W W':World):Prop:=W'.heap[Bs]?=W.heap[Bs]?/\W'.heap[Bn]?=W.heap[Bn]?
theorem xK{Bs Bn:Nat}{A B C:World}(h:qr Bs Bn A B)(k:qr Bs Bn B C):qr Bs Bn A C:=⟨k.1.trans h.1,k.2.trans h.2⟩
theorem JU{Bs Bn:Nat}{w:World}(h1:Bs<w.heap.size)(h2:Bn<w.heap.size)(W:World)(l:Nat)(o o':Obj)(hl:w.heap.size<=l)(_:W.heap[l]?=some o)(_:o.isCells=false)(_:o.isWalk=false):qr Bs Bn W (W.putObj l o'):=
 ⟨World.putObj_heap_other (by omega),World.putObj_heap_other (by omega)⟩
theorem J9(Bs Bn:Nat)(W:World):qr Bs Bn W W:=⟨rfl,rfl⟩
theorem U7(m k:Nat)(hk:k<m):(List.finRange m).take (k+1)=(List.finRange m).take k++ [⟨k,hk⟩]:=by
 rw [List.take_succ_eq_append_getElem (by simpa using hk)]
 simp
theorem VK(F:Fence)(n:Nat)(hc1:F.fn 144)(hro:F.round=none)(hn:1<=n)(l Bs Bn n₀ b off m cap:Nat)(hcap:16*m<=cap)(hm:16*m<=140737488355328)(J Jx:List (Fin m)->World->Prop)(hJ:AbidesFrom n₀ J)
 (hY:∀pre (x:Fin m) W,J pre W->pre.length<m->YieldAt F (n - 1) Tryz.prog l #[.slice (some ⟨b,off+16*x.1,none⟩) 16 16] W fun e W'=>
   (e=.returned (.bool true)/\J (pre++ [x]) W'/\qr Bs Bn W W')\/(e=.returned (.bool false)/\Jx (pre++ [x]) W'))
 (W:World) (hBs:W.cell? ⟨Bs,0,none⟩=some (.slice (some ⟨b,off,none⟩) (16*m) cap)) (hBn:W.cell? ⟨Bn,0,none⟩=some (.int .i64 16)) (h0:J [] W):
 CallsIn F n Tryz.prog 144 #[.func (.yield l) #[] #[],.pointer (some ⟨Bs,0,none⟩),.pointer (some ⟨Bn,0,none⟩)] W fun e W'=>(∃v,e=.returned v)/\
  ((∃ys,ys=List.finRange m/\J ys W')\/(∃pre,True/\Jx pre W')):=by
 refine callsIn_of_wp Tryz.func144 rfl hc1 ?_ hro
 simp only [Tryz.ntmps144,List.size_toArray,List.length_cons,List.length_nil,Nat.reduceAdd,Nat.reduceSub,Array.replicate_succ,Array.replicate_zero,List.push_toArray,List.append_toArray,List.nil_append,List.cons_append]
 gi_wp2
 gi_loopw [4] (fun i wr=>∃k q:Nat,k<=m/\Hid (q=16*k)/\i=.int .i64 q/\J ((List.finRange m).take k) wr/\qr Bs Bn W wr)
  (fun i _=>16*m - (intOf i).toNat)
 case atStart=>exact⟨0,0,Nat.zero_le _,rfl,rfl,by simpa using h0,J9 _ _ _⟩
 case round=>
  obtain⟨k,q,hk,hq,rfl,hJs,hnx⟩:=hrel
  have c1:=(World.cell?_of_block (a:=⟨Bs,0,none⟩) hnx.1).trans hBs
  have c2:=(World.cell?_of_block (a:=⟨Bn,0,none⟩) hnx.2).trans hBn
  by_cases hlt:k<m
  ·have hJd:J ((List.finRange m).take k) wr.drew:=hJ _ wr wr.drew none hJs ⟨rfl,rfl,rfl,Nat.le_refl _,fun _ _ _=>rfl⟩ (fun r e=>by cases e)
   obtain⟨fn,tmps,assign,body,hy,hR⟩:=hY _ ⟨k,hlt⟩ wr.drew hJd (by simp;omega)
   have hq1:=hq.out
   have hq2:(q:Int)+16<=16*m:=by omega
   have hq3:(q:Int)<16*m:=by omega
   have hq4:q<=cap:=by omega
   have hq5:q<=16*m:=by omega
   have hcq:¬cap=q:=by omega
   dsimp only at hy
   rw [<-hq1]at hy
   clear hq1
   have hd:decide ((q:Int)<16*m)=true:=by simp;omega
   have hmin:(if(((16*m - q:Nat):Int)<16)then((16*m - q:Nat):Int)else 16)=16:=by rw [iF (by omega)]
   have Hmin:=iH hmin;clear hmin
   gi_wp2
   gi_region
   all_goals rw [Hmin.out]
   all_goals
    gi_wp2
    refine hR.mono ?_
    rintro e W3 (⟨rfl,hJ3,hk3⟩|⟨rfl,hJx3⟩)
    ·have c3:=(World.cell?_of_block (w:=wr.drew) (a:=⟨Bs,0,none⟩) hk3.1).trans c1
     have c4:=(World.cell?_of_block (w:=wr.drew) (a:=⟨Bn,0,none⟩) hk3.2).trans c2
     gi_wp2
     go_roundw
     case rel=>
      exact⟨k+1,q+16,by omega,by have:=hq.out;unfold Hid;omega,by go_num,by rw [U7 m k hlt];exact hJ3,xK hnx hk3⟩
     case measure=>simp [intOf]<;>omega
    ·exact m2i
  ·have hkm:k=m:=by omega
   subst hkm
   have hd:decide ((q:Int)<16*k)=false:=by have:=hq.out;simp;omega
   have hge:¬(q:Int)<16*k:=by have:=hq.out;omega
   gi_wp2
   go_end0
   exact⟨⟨_,rfl⟩,.inl (by rw [List.take_of_length_le (by simp)]at hJs;exact hJs)⟩
section
variable(F:Fence)(n:Nat)(hc1:F.fn 144)(hro:F.round=none)
include F n hc1 hro
theorem yb(l Bs Bn cap:Nat)(a:Option Addr)(J:List (Fin 0)->World->Prop)(W:World)(hBs:W.cell? ⟨Bs,0,none⟩=some (.slice a 0 cap))(h0:J [] W):
 CallsIn F n Tryz.prog 144 #[.func (.yield l) #[] #[],.pointer (some ⟨Bs,0,none⟩),.pointer (some ⟨Bn,0,none⟩)] W fun e W'=>(∃v,e=.returned v)/\J [] W':=by
 refine callsIn_of_wp Tryz.func144 rfl hc1 ?_ hro
 simp only [Tryz.ntmps144,List.size_toArray,List.length_cons,List.length_nil,Nat.reduceAdd,Nat.reduceSub,Array.replicate_succ,Array.replicate_zero,List.push_toArray,List.append_toArray,List.nil_append,List.cons_append]
 gi_wp2
 gi_loopw [4] (fun i wr=>i=.int .i64 0/\J [] wr/\wr.cell? ⟨Bs,0,none⟩=some (.slice a 0 cap)) (fun _ _=>0)
 case atStart=>exact⟨rfl,h0,hBs⟩
 case round=>
  obtain⟨rfl,hJs,hc⟩:=hrel
  gi_wp2
  go_end0
  exact⟨⟨_,rfl⟩,hJs⟩
theorem JN(hn:1<=n)(Bs Bn:Nat)(a:Option Addr)(m cap b off:Nat)(hcap:16*m<=cap)(ha:0<m->a=some ⟨b,off,none⟩)(hm:16*m<=140737488355328)(w:World)(hBs:Bs<w.heap.size)(hBn:Bn<w.heap.size)(hc:w.cell? ⟨Bs,0,none⟩=some (.slice a (16*m) cap))(hcn:w.cell? ⟨Bn,0,none⟩=some (.int .i64 16)):
 SeqStopsK F n Tryz.prog 144 #[.pointer (some ⟨Bs,0,none⟩),.pointer (some ⟨Bn,0,none⟩)] (fun x:Fin m=>#[.slice (some ⟨b,off+16*x.1,none⟩) 16 16]) (qr Bs Bn) (fun ys=>ys=List.finRange m) (fun _=>True) m w:=fun lo J Jx W hW hJ _ hY h0=>by
 have hc':=(hW.cell (p:=⟨Bs,0,none⟩) hBs).trans hc
 have hcn':=(hW.cell (p:=⟨Bn,0,none⟩) hBn).trans hcn
 rcases Nat.eq_zero_or_pos m with h|h
 ·exact m2g
 ·obtain rfl:=ha h
  exact VK F n hc1 hro hn lo Bs Bn _ b off m cap hcap hm J Jx hJ hY W hc' hcn' h0
end
end
section
open Go.RowKit
def blk(b:List UInt8)(n:Nat):List UInt8:=(b.drop (16*n)).take 16
theorem zD{b:List UInt8}{m n:Nat}(hb:b.length=16*m)(hn:n<m):(blk b n).length=16:=by
 unfold blk;rw [List.length_take,List.length_drop];omega
theorem Qt(b:List UInt8)(n j:Nat)(hj:j<16):gb (blk b n) j=gb b (16*n+j):=by
 unfold gb blk
 rw [List.getD_eq_getElem?_getD,List.getD_eq_getElem?_getD,List.getElem?_take,iT hj,List.getElem?_drop]
def Jr(k l:List UInt8):List UInt8:=jz 16 (j78 (gb k) (gb l))
def KS(k l:List UInt8):List UInt8:=jz 16 (j77 (gb k) (gb l))
theorem qu(k l:List UInt8):(Jr k l).length=16:=jq _ _
theorem Jp(k l:List UInt8):(KS k l).length=16:=jq _ _
def zq(k b:List UInt8)(s:List UInt8×List UInt8)(x:Nat):List UInt8×List UInt8:=(Jr k (qR (blk b x) s.1),s.2++Jr k (qR (blk b x) s.1))
def zj(k b:List UInt8)(s:List UInt8×List UInt8)(x:Nat):List UInt8×List UInt8:=(blk b x,s.2++qR (KS k (blk b x)) s.1)
def xQ(k iv b:List UInt8)(xs:List Nat):List UInt8×List UInt8:=xs.foldl (zq k b) (iv,[])
def xN(k iv b:List UInt8)(xs:List Nat):List UInt8×List UInt8:=xs.foldl (zj k b) (iv,[])
theorem qD(k iv b:List UInt8)(xs:List Nat)(x:Nat):xQ k iv b (xs++ [x])=zq k b (xQ k iv b xs) x:=by unfold xQ;rw [List.foldl_append]<;>rfl
theorem qS(k iv b:List UInt8)(xs:List Nat)(x:Nat):xN k iv b (xs++ [x])=zj k b (xN k iv b xs) x:=by unfold xN;rw [List.foldl_append]<;>rfl
def kZ(k iv b:List UInt8):List UInt8:=(xQ k iv b (List.range (b.length / 16))).2
def zH(k iv b:List UInt8):List UInt8:=(xN k iv b (List.range (b.length / 16))).2
theorem j13(k b:List UInt8)(xs:List Nat):∀s:List UInt8×List UInt8,s.1.length=16->(xs.foldl (zq k b) s).1.length=16/\(xs.foldl (zq k b) s).2.length=s.2.length+16*xs.length:=by
 induction xs with
 |nil=>intro s h;exact⟨h,by simp⟩
 |cons x xs ih=>
  intro s h
  obtain⟨h1,h2⟩:=ih (zq k b s x) (qu _ _)
  refine⟨h1,?_⟩
  have e:(zq k b s x).2.length=s.2.length+16:=by show(s.2++Jr k _).length=_;rw [List.length_append,qu]
  rw [List.foldl_cons,h2,e,List.length_cons]
  omega
theorem Xc{k iv b:List UInt8}(hiv:iv.length=16)(xs:List Nat):(xQ k iv b xs).1.length=16/\(xQ k iv b xs).2.length=16*xs.length:=by
 obtain⟨h1,h2⟩:=j13 k b xs (iv,[]) hiv
 exact⟨h1,by show _=_;unfold xQ;rw [h2];simp⟩
theorem j0h(k:List UInt8){b:List UInt8}{m:Nat}(hb:b.length=16*m)(xs:List Nat):∀s:List UInt8×List UInt8,s.1.length=16->(∀x∈xs,x<m)->(xs.foldl (zj k b) s).1.length=16/\(xs.foldl (zj k b) s).2.length=s.2.length+16*xs.length:=by
 induction xs with
 |nil=>intro s h _;exact⟨h,by simp⟩
 |cons x xs ih=>
  intro s h hx
  obtain⟨h1,h2⟩:=ih (zj k b s x) (zD hb (hx x (by simp))) fun y hy=>hx y (by simp [hy])
  refine⟨h1,?_⟩
  have e:(zj k b s x).2.length=s.2.length+16:=by show(s.2++qR _ _).length=_;rw [List.length_append,k8]
  rw [List.foldl_cons,h2,e,List.length_cons]
  omega
theorem QS{k iv b:List UInt8}{m:Nat}(hiv:iv.length=16)(hb:b.length=16*m)(xs:List Nat)(hx:∀x∈xs,x<m):(xN k iv b xs).1.length=16/\(xN k iv b xs).2.length=16*xs.length:=by
 obtain⟨h1,h2⟩:=j0h k hb xs (iv,[]) hiv hx
 exact⟨h1,by show _=_;unfold xN;rw [h2];simp⟩
structure Only2 (b1 b2:Nat) (a w:World):Prop where
 os:w.os=a.os
 tape:w.tape=a.tape
 output:w.output=a.output
 size:a.heap.size<=w.heap.size
 block:∀i,i<a.heap.size->i≠b1->i≠b2->w.heap[i]?=a.heap[i]?
theorem Only2.refl(b1 b2:Nat)(a:World):Only2 b1 b2 a a:=⟨rfl,rfl,rfl,Nat.le_refl _,fun _ _ _ _=>rfl⟩
theorem Only2.drew{b1 b2:Nat}{a w:World}(h:Only2 b1 b2 a w):Only2 b1 b2 a w.drew:=⟨h.os,h.tape,h.output,h.size,h.block⟩
theorem Only2.grown{b1 b2:Nat}{a w w':World}{row:Option Nat}(h:Only2 b1 b2 a w)(hg:w.grownBy w' row)(hr:∀r,row=some r->a.heap.size<=r\/r=b1\/r=b2):Only2 b1 b2 a w':=
 ⟨hg.os.trans h.os,hg.tape.trans h.tape,hg.output.trans h.output,Nat.le_trans h.size hg.size,fun i hi h1 h2=>(hg.block i (iZ hi h.size) (fun e=>by
  rcases hr i e.symm with h3|h3|h3
  ·omega
  ·exact h1 h3
  ·exact h2 h3)).trans (h.block i hi h1 h2)⟩
theorem Only2.below{b1 b2:Nat}{a w w':World}(h:Only2 b1 b2 a w)(hb:Below w.heap.size w w'):Only2 b1 b2 a w':=
 ⟨hb.os.trans h.os,hb.tape.trans h.tape,hb.output.trans h.output,Nat.le_trans h.size hb.size,fun i hi h1 h2=>(hb.block i (iZ hi h.size)).trans (h.block i hi h1 h2)⟩
theorem Only2.box{b1 b2:Nat}{a w:World}(h:Only2 b1 b2 a w)(b:Nat)(hb:b=b1\/b=b2)(v:Value):Only2 b1 b2 a (w.setCell ⟨b,0,none⟩ v):=
 h.grown (grownBy_setCell' w b v) (fun r e=>by cases e;exact .inr hb)
theorem Only2.toBelow{b1 b2 B:Nat}{a w:World}(h:Only2 b1 b2 a w)(h1:B<=b1)(h2:B<=b2)(hB:B<=a.heap.size):Below B a w:=
 ⟨h.os,h.tape,h.output,h.size,fun i hi=>h.block i (by omega) (by omega) (by omega)⟩
theorem yk{β:Type}{b1 b2:Nat}{a:World}:OwnFrom a.heap.size (fun(_:β) W=>Only2 b1 b2 a W):=
 fun _ _ _ _ hs hg hr=>hs.grown hg fun r e=>.inl (hr r e).1
theorem BsS.keepC{w w':World}{S S':Nat->Prop}{v:Value}{l:List UInt8}(h:BsS w S v l)(hk:∀b,S b->(∃o:Obj,w.heap[b]?=some o/\o.isCells=true)->w'.heap[b]?=w.heap[b]?/\S' b):BsS w' S' v l:=by
 obtain⟨a,c,hv,h1,h2,h3,h4⟩:=h
 refine⟨a,c,hv,h1,h2,h3,fun hn=> ?_⟩
 obtain⟨b,off,ha,hb,hc⟩:=h4 hn
 have hk':=hk b hb (cells_of_cell (hc 0 hn))
 exact⟨b,off,ha,hk'.2,fun j hj=>(World.cell?_of_block (w:=w) hk'.1).trans (hc j hj)⟩
def j79(b1 b2:Nat)(ov:Value)(b:Nat):Prop:=b≠b1/\b≠b2/\ov.ownBlock≠some b
def j4o(b1 b2:Nat)(a:World)(s:List UInt8×List UInt8)(W:World):Prop:=
 Only2 b1 b2 a W/\∃iv ov,Boxed W b1 22 iv/\Boxed W b2 22 ov/\BsS W (j79 b1 b2 ov) iv s.1/\W.ownsRow a.heap.size 5 1 ov s.2.length (s.2.map U8)
theorem XB{β:Type}(b1 b2:Nat)(a:World)(s:β->List UInt8×List UInt8)(h1:b1<a.heap.size)(h2:b2<a.heap.size):OwnFrom a.heap.size (fun(x:β) W=>j4o b1 b2 a (s x) W):=by
 rintro x W W' row ⟨h,iv,ov,hi,ho,hbs,hown⟩ hg hr
 have hne:∀b,b<a.heap.size->some b≠row:=fun b hb e=>by have:=(hr b e.symm).1;omega
 refine⟨yk (β:=β) x W W' row h hg hr,iv,ov,hi.kept hg (hne b1 h1),ho.kept hg (hne b2 h2),hbs.keepC fun b hb ⟨o,ho',hc⟩=>⟨?_,hb⟩,hown.kept hg ?_⟩
 ·refine hg.block b (iG ho') fun e=> ?_
  exact m2u
 ·rcases hown.2 with ⟨rfl,_⟩|⟨g,cap,cur,rfl,_,hgb,_⟩
  ·exact .inl rfl
  ·refine .inr fun e'=> ?_
   obtain⟨_,o,ho',hc⟩:=hr g (by simpa [Value.ownBlock]using e'.symm)
   rw [hgb]at ho';cases ho';cases hc
open Go.RowKit
theorem xt{F:Fence}{nf:Nat}{P:Program}(w:World){ops:Array Oper}{rest:List Oper}{o:Oper}{a:Act}{Q:Exit->Act->World->Prop}(hgd:o.guard=none)(s x:Operand)(t:TypeId)(hop:o.op=.call {callee:=.builtin .append,args:=#[s,x],argTypes:=#[t,t]})(base:Nat)(e:TypeId)(z:Value)(bytes:Nat)(ht:P.underlying t=some (.slice e))(hinfo:(P.info? e).map (fun i=>(i.zero,i.size,i.bytes))=some (some z,1,bytes))(hzs:z.cells.size=1)(hby:0<bytes)(v:Value)(n:Nat)(xs:List Value)(hs:a.eval s=v)(hown:w.ownsRow base e 1 v n xs)(A:Option Addr)(m c:Nat)(news:List Value)(hx:a.eval x=.slice A m c)(hsrc:SrcAt w A m news)(hbytes:(n+m)*bytes<=140737488355328)(hbase:base<=w.heap.size)(h:∀v' w',w'.ownsRow base e 1 v' (n+m) (xs++news)->w.grownBy w' v.ownBlock->(v'.ownBlock=v.ownBlock\/v'.ownBlock=some w.heap.size)->w'.ownsRow base e 1 v n xs->wpListIn F nf P ops Q rest (a.put o.dst v') w'):wpListIn F nf P ops Q (o :: rest) a w:=by
 refine wpListIn_plain hgd fun K hK'=> ?_
 obtain⟨v',w',hrun,h2,h3,h4,h5⟩:=zN (P:=P) w base t o.type e z bytes ht hinfo hzs hby v n xs hown A m c news hsrc hbytes hbase
 unfold Oper.wpIn
 refine⟨?_,?_⟩
 ·simp [Oper.about,hop,resolve,Target.leads,Sem.run_pure]
 ·rw [Oper.semAt_plain F _ _ (by rw [hop];intro c hc';cases hc')]
  simp [execOp,hop,resolve,invoke,builtin,hs,hx,hrun,Result.andThen]
  exact hK' _ _ (h v' w' h2 h3 h4 h5)
theorem CipherAt.keepBut{w w':World}{B b1:Nat}{t:TypeId}{p:Value}{key:Nat->UInt8}{A:Option Addr}{n c:Nat}(h:CipherAt w B p key)(hb1:Boxed w b1 t (.slice A n c))(hk:∀b,b<B->b≠b1->w'.heap[b]?=w.heap[b]?)(hB:B<=w'.heap.size):CipherAt w' w'.heap.size p key:=by
 obtain⟨tb,cb,hp,h1,h2,h3,h4,h5⟩:=h
 have n1:tb≠b1:=by
  intro e
  have h6:=h4 0 (by omega)
  rw [e]at h6
  rw [Nat.add_zero,hb1.cell]at h6
  cases h6
 have n2:cb≠b1:=by
  intro e
  rw [e,hb1.cell]at h3
  cases h3
 exact⟨tb,cb,hp,by omega,by omega,(World.cell?_of_block (a:=⟨cb,0,none⟩) (hk cb h2 n2)).trans h3,h4.of_block (hk tb h1 n1),h5.of_block (hk cb h2 n2)⟩
theorem Qz(va vb:Value)(a b:List UInt8)(ha:a.length=16)(hb:b.length=16)(w:World)(hva:Bs w w.heap.size va a)(hvb:Bs w w.heap.size vb b):
 Calls Tryz.prog 109 #[va,vb] w fun e w'=>∃v',e=.returned v'/\BsS w' (New w w') v' (qR a b)/\Below w.heap.size w w':=
 (XF va vb a b ha hb w hva hvb).mono fun _ _ ⟨v',h1,h2,h3⟩=>⟨v',h1,BsS.of_own h2 (by rw [k8];omega),h3⟩
section
variable(p v:Value)(k l:List UInt8)(hl:l.length=16)(w:World)(hp:CipherAt w w.heap.size p (gb k))(hv:Bs w w.heap.size v l)
include p v k l hl w hp hv
theorem j8i:
 Calls Tryz.prog 108 #[p,v] w fun e w'=>∃v',e=.returned v'/\BsS w' (New w w') v' (Jr k l)/\Below w.heap.size w w':=JS p v (gb k) l hl w hp hv
theorem j8h:
 Calls Tryz.prog 112 #[p,v] w fun e w'=>∃v',e=.returned v'/\BsS w' (New w w') v' (KS k l)/\Below w.heap.size w w':=XI p v (gb k) l hl w hp hv
end
theorem qg{W W':World}(h:Below W.heap.size W W'):KeepsOthers W W':=
 ⟨h.size,fun k o hk _=>(h.block k (iG hk)).trans hk⟩
theorem Um{b1 b2:Nat}{a W W2:World}{n:Nat}{xs:List Value}{iv ov v2:Value}{l2:List UInt8}(h12:b1≠b2)(hb1:b1<a.heap.size)(hb2:b2<a.heap.size)(hO:Only2 b1 b2 a W)(hI:Boxed W b1 22 iv)(hOv:Boxed W b2 22 ov)(hown:W.ownsRow a.heap.size 5 1 ov n xs)(hB:Below W.heap.size W W2)(hv2:BsS W2 (fun b=>W.heap.size<=b/\b<W2.heap.size) v2 l2):
 Boxed W2 b1 22 iv/\Boxed (W2.setCell ⟨b1,0,none⟩ v2) b1 22 v2/\Boxed (W2.setCell ⟨b1,0,none⟩ v2) b2 22 ov/\(W2.setCell ⟨b1,0,none⟩ v2).ownsRow a.heap.size 5 1 ov n xs/\
  BsS (W2.setCell ⟨b1,0,none⟩ v2) (fun b=>W.heap.size<=b/\b<W2.heap.size) v2 l2/\Only2 b1 b2 a (W2.setCell ⟨b1,0,none⟩ v2)/\KeepsOthers W (W2.setCell ⟨b1,0,none⟩ v2):=by
 have hs:=hO.size
 have hI2:Boxed W2 b1 22 iv:=(hB.block b1 (by omega)).trans hI
 have hO2:Boxed W2 b2 22 ov:=(hB.block b2 (by omega)).trans hOv
 have hg:=grownBy_setCell' W2 b1 v2
 refine⟨hI2,hI2.set v2,hO2.kept hg (by intro e;injection e;omega),(kO hown hB).kept hg (.inr fun e=>by have:=(hown.lt b1 e).1;omega),hv2.keep fun b hb _=>⟨hg.block b hb.2 (by intro e;injection e;omega),hb⟩,(hO.below hB).box b1 (.inl rfl) v2,(qg hB).trans (KeepsOthers.setCell _ _ _)⟩
theorem VG{b1 b2:Nat}{a W3 W4:World}{n m:Nat}{xs ys:List Value}{ov v2 v4:Value}{l2:List UInt8}(h12:b1≠b2)(hb1:b1<a.heap.size)(hb2:b2<a.heap.size)(hO:Only2 b1 b2 a W3)(hI:Boxed W3 b1 22 v2)(hOv:Boxed W3 b2 22 ov)(hown:W3.ownsRow a.heap.size 5 1 ov n xs)(hv2:BsS W3 (fun b=>b1≠b/\b2≠b/\ov.ownBlock≠some b/\b<W3.heap.size) v2 l2)(hown4:W4.ownsRow a.heap.size 5 1 v4 m ys)(hg4:W3.grownBy W4 ov.ownBlock)(hat4:v4.ownBlock=ov.ownBlock\/v4.ownBlock=some W3.heap.size):
 Boxed W4 b2 22 ov/\Only2 b1 b2 a (W4.setCell ⟨b2,0,none⟩ v4)/\Boxed (W4.setCell ⟨b2,0,none⟩ v4) b1 22 v2/\Boxed (W4.setCell ⟨b2,0,none⟩ v4) b2 22 v4/\BsS (W4.setCell ⟨b2,0,none⟩ v4) (j79 b1 b2 v4) v2 l2/\
  (W4.setCell ⟨b2,0,none⟩ v4).ownsRow a.heap.size 5 1 v4 m ys/\KeepsOthers W3 (W4.setCell ⟨b2,0,none⟩ v4):=by
 have hs:=hO.size
 have ne1:some b1≠ov.ownBlock:=fun e=>by have:=(hown.lt b1 e.symm).1;omega
 have ne2:some b2≠ov.ownBlock:=fun e=>by have:=(hown.lt b2 e.symm).1;omega
 have hO4:Boxed W4 b2 22 ov:=hOv.kept hg4 ne2
 have hI4:Boxed W4 b1 22 v2:=hI.kept hg4 ne1
 have hg:=grownBy_setCell' W4 b2 v4
 refine⟨hO4,(hO.grown hg4 fun r e=>.inl (hown.lt r e).1).box b2 (.inr rfl) v4,hI4.kept hg (by intro e;injection e;omega),hO4.set v4,?_,hown4.kept hg (.inr fun e=>by have:=(hown4.lt b2 e).1;omega),?_⟩
 ·refine BsS.keep hv2 fun b hb hlt=>⟨?_,Ne.symm hb.1,Ne.symm hb.2.1,?_⟩
  ·exact(hg.block b (by have:=hg4.size;omega) (by intro e;injection e with e;exact hb.2.1 e.symm)).trans (hg4.block b hlt (fun e=>hb.2.2.1 e.symm))
  ·rcases hat4 with e|e
   ·rw [e];exact hb.2.2.1
   ·rw [e];intro h;injection h with h;omega
 ·refine(KeepsOthers.of_grownBy hg4 fun j _ ej hj=> ?_).trans (KeepsOthers.setCell _ _ _)
  rcases hown.2 with ⟨rfl,_⟩|⟨g,cap,cur,rfl,_,hgb,_⟩
  ·simp [Value.ownBlock]at ej
  ·exact m31
theorem xi{b1 b2 x y:Nat}{a W W':World}(h:Only2 b1 b2 a W)(h':Only2 b1 b2 a W')(hx:x<a.heap.size)(hy:y<a.heap.size)(x1:x≠b1)(x2:x≠b2)(y1:y≠b1)(y2:y≠b2):qr x y W W':=
 ⟨(h'.block x hx x1 x2).trans (h.block x hx x1 x2).symm,(h'.block y hy y1 y2).trans (h.block y hy y1 y2).symm⟩
def xY(F:Fence)(nf:Nat)(P:Program)(o:Oper)(a:Act)(w:World)(K:Act->World->Prop)(Q:Exit->Act->World->Prop):Prop:=Oper.wpIn F nf P o a w K Q
section
variable{F:Fence}{nf:Nat}{P:Program}
include F nf P
theorem Qo{d:Option Tmp}{s x:Operand}{t1 t2 ty:TypeId}{ps:String}{af:Array Edge}{g:Option (Nat×Bool)}{a:Act}{w:World}{K:Act->World->Prop}{Q:Exit->Act->World->Prop}:
 Oper.wpIn F nf P {dst:=d,op:=Op.call {callee:=Callee.builtin Builtin.append,args:=#[s,x],argTypes:=#[t1,t2]},type:=ty,pos:=ps,after:=af,guard:=g} a w K Q=
  xY F nf P {dst:=d,op:=Op.call {callee:=Callee.builtin Builtin.append,args:=#[s,x],argTypes:=#[t1,t2]},type:=ty,pos:=ps,after:=af,guard:=g} a w K Q:=rfl
theorem Zz{o:Oper}{l:List Oper}{h:0<(o :: l).toArray.size}{a:Act}{w:World}{K:Act->World->Prop}{Q:Exit->Act->World->Prop}:Oper.wpIn F nf P ((o :: l).toArray[0]'h) a w K Q=Oper.wpIn F nf P o a w K Q:=rfl
theorem Zy{o:Oper}{l:List Oper}{n:Nat}{h:n+1<(o :: l).toArray.size}{a:Act}{w:World}{K:Act->World->Prop}{Q:Exit->Act->World->Prop}:Oper.wpIn F nf P ((o :: l).toArray[n+1]'h) a w K Q=Oper.wpIn F nf P (l.toArray[n]'(by simpa using h)) a w K Q:=rfl
theorem Kw(w:World){o:Oper}{a:Act}{K:Act->World->Prop}{Q:Exit->Act->World->Prop}(s x:Operand)(t:TypeId)(hop:o.op=.call {callee:=.builtin .append,args:=#[s,x],argTypes:=#[t,t]})(base:Nat)(e:TypeId)(z:Value)(bytes:Nat)(ht:P.underlying t=some (.slice e))(hinfo:(P.info? e).map (fun i=>(i.zero,i.size,i.bytes))=some (some z,1,bytes))(hzs:z.cells.size=1)(hby:0<bytes)(v:Value)(n:Nat)(xs:List Value)(hs:a.eval s=v)(hown:w.ownsRow base e 1 v n xs)(A:Option Addr)(m c:Nat)(news:List Value)(hx:a.eval x=.slice A m c)(hsrc:SrcAt w A m news)(hbytes:(n+m)*bytes<=140737488355328)(hbase:base<=w.heap.size)(h:∀v' w',w'.ownsRow base e 1 v' (n+m) (xs++news)->w.grownBy w' v.ownBlock->(v'.ownBlock=v.ownBlock\/v'.ownBlock=some w.heap.size)->K (a.put o.dst v') w'):xY F nf P o a w K Q:=by
 obtain⟨v',w',hrun,h2,h3,h4,h5⟩:=zN (P:=P) w base t o.type e z bytes ht hinfo hzs hby v n xs hown A m c news hsrc hbytes hbase
 unfold xY Oper.wpIn
 refine⟨?_,?_⟩
 ·simp [Oper.about,hop,resolve,Target.leads,Sem.run_pure]
 ·rw [Oper.semAt_plain F _ _ (by rw [hop];intro c hc';cases hc')]
  simp [execOp,hop,resolve,invoke,builtin,hs,hx,hrun,Result.andThen]
  exact h v' w' h2 h3 h4
end
theorem Ul{b1 b2:Nat}{a W W2 W4:World}{n m:Nat}{xs ys:List Value}{iv ov xv v4:Value}{lx:List UInt8}(h12:b1≠b2)(hb1:b1<a.heap.size)(hb2:b2<a.heap.size)(hO:Only2 b1 b2 a W)(hI:Boxed W b1 22 iv)(hOv:Boxed W b2 22 ov)(hown:W.ownsRow a.heap.size 5 1 ov n xs)(hB:Below W.heap.size W W2)(hx:BsS W (fun b=>b≠b1/\b≠b2/\b<a.heap.size) xv lx)(hown4:W4.ownsRow a.heap.size 5 1 v4 m ys)(hg4:W2.grownBy W4 ov.ownBlock)(hat4:v4.ownBlock=ov.ownBlock\/v4.ownBlock=some W2.heap.size):
 Boxed W4 b2 22 ov/\Boxed (W4.setCell ⟨b2,0,none⟩ v4) b1 22 iv/\Only2 b1 b2 a ((W4.setCell ⟨b2,0,none⟩ v4).setCell ⟨b1,0,none⟩ xv)/\Boxed ((W4.setCell ⟨b2,0,none⟩ v4).setCell ⟨b1,0,none⟩ xv) b1 22 xv/\
  Boxed ((W4.setCell ⟨b2,0,none⟩ v4).setCell ⟨b1,0,none⟩ xv) b2 22 v4/\BsS ((W4.setCell ⟨b2,0,none⟩ v4).setCell ⟨b1,0,none⟩ xv) (j79 b1 b2 v4) xv lx/\
  ((W4.setCell ⟨b2,0,none⟩ v4).setCell ⟨b1,0,none⟩ xv).ownsRow a.heap.size 5 1 v4 m ys/\KeepsOthers W ((W4.setCell ⟨b2,0,none⟩ v4).setCell ⟨b1,0,none⟩ xv):=by
 have hs:=hO.size
 have hs2:=hB.size
 have ne1:some b1≠ov.ownBlock:=fun e=>by have:=(hown.lt b1 e.symm).1;omega
 have ne2:some b2≠ov.ownBlock:=fun e=>by have:=(hown.lt b2 e.symm).1;omega
 have hO4:Boxed W4 b2 22 ov:=Boxed.kept ((hB.block b2 (by omega)).trans hOv:Boxed W2 b2 22 ov) hg4 ne2
 have hI4:Boxed W4 b1 22 iv:=Boxed.kept ((hB.block b1 (by omega)).trans hI:Boxed W2 b1 22 iv) hg4 ne1
 have hg:=grownBy_setCell' W4 b2 v4
 have hg':=grownBy_setCell' (W4.setCell ⟨b2,0,none⟩ v4) b1 xv
 have hI5:Boxed (W4.setCell ⟨b2,0,none⟩ v4) b1 22 iv:=hI4.kept hg (by intro e;injection e;omega)
 refine⟨hO4,hI5,(((hO.below hB).grown hg4 fun r e=>.inl (hown.lt r e).1).box b2 (.inr rfl) v4).box b1 (.inl rfl) xv,hI5.set xv,(hO4.set v4).kept hg' (by intro e;injection e;omega),?_,
  (hown4.kept hg (.inr fun e=>by have:=(hown4.lt b2 e).1;omega)).kept hg' (.inr fun e=>by have:=(hown4.lt b1 e).1;omega),?_⟩
 ·refine BsS.keep hx fun b hb hlt=>⟨?_,hb.1,hb.2.1,?_⟩
  ·have h4:W4.heap[b]?=W.heap[b]? :=(hg4.block b (by omega) (fun e=>by have:=(hown.lt b e.symm).1;have:=hb.2.2;omega)).trans (hB.block b hlt)
   have h5:=hg.block b (by have:=hg4.size;omega) (by intro e;injection e with e;exact hb.2.1 e)
   exact(hg'.block b (by have:=hg4.size;have:=hg.size;omega) (by intro e;injection e with e;exact hb.1 e)).trans (h5.trans h4)
  ·intro e
   have:=(hown4.lt b e).1
   have:=hb.2.2
   omega
 ·refine((qg hB).trans (KeepsOthers.of_grownBy hg4 fun j o ej hj=> ?_)).trans ((KeepsOthers.setCell _ _ _).trans (KeepsOthers.setCell _ _ _))
  rcases(kO hown hB).2 with ⟨rfl,_⟩|⟨g,cap,cur,rfl,_,hgb,_⟩
  ·simp [Value.ownBlock]at ej
  ·exact m31
attribute [irreducible] xY
attribute [irreducible] Jr KS
end
section
open Go.RowKit Go.Shelf
attribute [local go_sem] Oper.semAt_some
theorem Up(F:Fence)(n:Nat)(hc:F.fn 97)(hro:F.round=none)(a:Option Addr)(len cap:Nat)(w:World):
 CallsIn F n Tryz.prog 97 #[.slice a len cap,.int .i64 64] w fun e w'=>e=.returned (.func (.func 144) #[] #[.pointer (some ⟨w.heap.size,0,none⟩),.pointer (some ⟨w.heap.size+1,0,none⟩)])/\
  w'=(w.alloc (.cells #[.slice a len cap] 22)).alloc (.cells #[.int .i64 64] 3):=by
 refine callsIn_of_wp Tryz.func97 rfl hc ?_ hro
 simp only [Tryz.ntmps97,List.size_toArray,List.length_cons,List.length_nil,Nat.reduceAdd,Nat.reduceSub,Array.replicate_succ,Array.replicate_zero,List.push_toArray,List.append_toArray,List.nil_append,List.cons_append]
 gi_wp2
 go_ret
 exact⟨rfl,rfl⟩
theorem ZM(F:Fence)(n:Nat)(hc1:F.fn 144)(hro:F.round=none)(hn:1<=n)(l Bs Bn n₀ b off m cap:Nat)(hcap:64*m<=cap)(hm:64*m<=140737488355328)(J Jx:List (Fin m)->World->Prop)(hJ:AbidesFrom n₀ J)
 (hY:∀pre (x:Fin m) W,J pre W->pre.length<m->YieldAt F (n - 1) Tryz.prog l #[.slice (some ⟨b,off+64*x.1,none⟩) 64 64] W fun e W'=>
   (e=.returned (.bool true)/\J (pre++ [x]) W'/\qr Bs Bn W W')\/(e=.returned (.bool false)/\Jx (pre++ [x]) W'))
 (W:World) (hBs:W.cell? ⟨Bs,0,none⟩=some (.slice (some ⟨b,off,none⟩) (64*m) cap)) (hBn:W.cell? ⟨Bn,0,none⟩=some (.int .i64 64)) (h0:J [] W):
 CallsIn F n Tryz.prog 144 #[.func (.yield l) #[] #[],.pointer (some ⟨Bs,0,none⟩),.pointer (some ⟨Bn,0,none⟩)] W fun e W'=>(∃v,e=.returned v)/\
  ((∃ys,ys=List.finRange m/\J ys W')\/(∃pre,True/\Jx pre W')):=by
 refine callsIn_of_wp Tryz.func144 rfl hc1 ?_ hro
 simp only [Tryz.ntmps144,List.size_toArray,List.length_cons,List.length_nil,Nat.reduceAdd,Nat.reduceSub,Array.replicate_succ,Array.replicate_zero,List.push_toArray,List.append_toArray,List.nil_append,List.cons_append]
 gi_wp2
 gi_loopw [4] (fun i wr=>∃k q:Nat,k<=m/\Hid (q=64*k)/\i=.int .i64 q/\J ((List.finRange m).take k) wr/\qr Bs Bn W wr)
  (fun i _=>64*m - (intOf i).toNat)
 case atStart=>exact⟨0,0,Nat.zero_le _,rfl,rfl,by simpa using h0,J9 _ _ _⟩
 case round=>
  obtain⟨k,q,hk,hq,rfl,hJs,hnx⟩:=hrel
  have c1:=(World.cell?_of_block (a:=⟨Bs,0,none⟩) hnx.1).trans hBs
  have c2:=(World.cell?_of_block (a:=⟨Bn,0,none⟩) hnx.2).trans hBn
  by_cases hlt:k<m
  ·have hJd:J ((List.finRange m).take k) wr.drew:=hJ _ wr wr.drew none hJs ⟨rfl,rfl,rfl,Nat.le_refl _,fun _ _ _=>rfl⟩ (fun r e=>by cases e)
   obtain⟨fn,tmps,assign,body,hy,hR⟩:=hY _ ⟨k,hlt⟩ wr.drew hJd (by simp;omega)
   have hq1:=hq.out
   have hq2:(q:Int)+64<=64*m:=by omega
   have hq3:(q:Int)<64*m:=by omega
   have hq4:q<=cap:=by omega
   have hq5:q<=64*m:=by omega
   have hcq:¬cap=q:=by omega
   dsimp only at hy
   rw [<-hq1]at hy
   clear hq1
   have hd:decide ((q:Int)<64*m)=true:=by simp;omega
   have hmin:(if(((64*m - q:Nat):Int)<64)then((64*m - q:Nat):Int)else 64)=64:=by rw [iF (by omega)]
   have Hmin:=iH hmin;clear hmin
   gi_wp2
   gi_region
   all_goals rw [Hmin.out]
   all_goals
    gi_wp2
    refine hR.mono ?_
    rintro e W3 (⟨rfl,hJ3,hk3⟩|⟨rfl,hJx3⟩)
    ·have c3:=(World.cell?_of_block (w:=wr.drew) (a:=⟨Bs,0,none⟩) hk3.1).trans c1
     have c4:=(World.cell?_of_block (w:=wr.drew) (a:=⟨Bn,0,none⟩) hk3.2).trans c2
     gi_wp2
     go_roundw
     case rel=>
      exact⟨k+1,q+64,by omega,by have:=hq.out;unfold Hid;omega,by go_num,by rw [U7 m k hlt];exact hJ3,xK hnx hk3⟩
     case measure=>simp [intOf]<;>omega
    ·exact m2i
  ·have hkm:k=m:=by omega
   subst hkm
   have hd:decide ((q:Int)<64*k)=false:=by have:=hq.out;simp;omega
   have hge:¬(q:Int)<64*k:=by have:=hq.out;omega
   gi_wp2
   go_end0
   exact⟨⟨_,rfl⟩,.inl (by rw [List.take_of_length_le (by simp)]at hJs;exact hJs)⟩
theorem Qy(F:Fence)(n:Nat)(hc1:F.fn 144)(hro:F.round=none)(hn:1<=n)(Bs Bn:Nat)(a:Option Addr)(m cap b off:Nat)(hcap:64*m<=cap)(ha:0<m->a=some ⟨b,off,none⟩)(hm:64*m<=140737488355328)(w:World)(hBs:Bs<w.heap.size)(hBn:Bn<w.heap.size)(hc:w.cell? ⟨Bs,0,none⟩=some (.slice a (64*m) cap))(hcn:w.cell? ⟨Bn,0,none⟩=some (.int .i64 64)):
 SeqStopsK F n Tryz.prog 144 #[.pointer (some ⟨Bs,0,none⟩),.pointer (some ⟨Bn,0,none⟩)] (fun x:Fin m=>#[.slice (some ⟨b,off+64*x.1,none⟩) 64 64]) (qr Bs Bn) (fun ys=>ys=List.finRange m) (fun _=>True) m w:=fun lo J Jx W hW hJ _ hY h0=>by
 have hc':=(hW.cell (p:=⟨Bs,0,none⟩) hBs).trans hc
 have hcn':=(hW.cell (p:=⟨Bn,0,none⟩) hBn).trans hcn
 rcases Nat.eq_zero_or_pos m with h|h
 ·exact m2g
 ·obtain rfl:=ha h
  exact ZM F n hc1 hro hn lo Bs Bn _ b off m cap hcap hm J Jx hJ hY W hc' hcn' h0
end
section
open Go.RowKit Go.Shelf
attribute [local go_sem] Oper.semAt_some
theorem StS.keepC{w w':World}{S S':Nat->Prop}{v:Value}{s:St8}(h:StS w S v s)(hk:∀b,S b->(∃o:Obj,w.heap[b]?=some o/\o.isCells=true)->w'.heap[b]?=w.heap[b]?/\S' b):StS w' S' v s:=by
 obtain⟨g,e,hs,hg⟩:=h
 have hk':=hk g hs ⟨_,hg,rfl⟩
 exact⟨g,e,hk'.2,hk'.1.trans hg⟩
def j81(b1:Nat)(a:World)(s:St8)(W:World):Prop:=Only2 b1 b1 a W/\∃v,Boxed W b1 106 v/\StS W (fun g=>g≠b1) v s
theorem j5t{β:Type}(b1:Nat)(a:World)(s:β->St8)(h1:b1<a.heap.size):OwnFrom a.heap.size (fun(x:β) W=>j81 b1 a (s x) W):=by
 rintro x W W' row ⟨h,v,hi,hst⟩ hg hr
 have hne:∀b,b<a.heap.size->some b≠row:=fun b hb e=>by have:=(hr b e.symm).1;omega
 refine⟨yk (β:=β) x W W' row h hg hr,v,hi.kept hg (hne b1 h1),hst.keepC fun b hb ⟨o,ho',hc⟩=>⟨?_,hb⟩⟩
 refine hg.block b (Array.getElem?_eq_some_iff.1 ho').1 fun e=> ?_
 exact m2u
theorem j0y{w:World}{base:Nat}{e:TypeId}{size n:Nat}{o:Value}{xs:List Value}(h:w.ownsRow base e size o n xs):∃A c,o=.slice A n c:=by
 rcases h.2 with ⟨rfl,rfl⟩|⟨g,cap,cur,hv,_⟩
 ·exact⟨_,_,rfl⟩
 ·exact⟨_,_,hv⟩
theorem Zp(p:List UInt8):∀m,(List.range m).foldl (fun s i=>zF s (Ui p i)) Jg=zO p m:=by
 intro m
 induction m with
 |zero=>rfl
 |succ m ih=>rw [List.range_succ,List.foldl_append,ih];rfl
theorem Jo{p:List UInt8}{m i:Nat}(hp:p.length=64*m)(hi:i<m):(Ui p i).length=64:=by
 unfold Ui;rw [List.length_take,List.length_drop];omega
theorem YA(p:List UInt8)(i j:Nat)(hj:j<64):gb (Ui p i) j=gb p (64*i+j):=by
 unfold gb Ui
 rw [List.getD_eq_getElem?_getD,List.getD_eq_getElem?_getD,List.getElem?_take,if_pos hj,List.getElem?_drop]
theorem QD(m:Nat):(List.finRange m).map Fin.val=List.range m:=by
 apply List.ext_getElem
 ·simp
 ·intro i h1 h2;simp
def Kv(s:St8)(j:Nat):List UInt8:=((s.list.take j).map kI).flatten
theorem Z7(s:St8){j:Nat}(hj:j<8):Kv s (j+1)=Kv s j++kI (s.list.getD j 0):=by
 obtain rfl|rfl|rfl|rfl|rfl|rfl|rfl|rfl:j=0\/j=1\/j=2\/j=3\/j=4\/j=5\/j=6\/j=7:=by omega
 all_goals simp [Kv,St8.list]
theorem Yl(v:Value)(b:List UInt8)(hl:b.length<=140737488355000)(w:World)(hK:KD w)(hv:Bs w w.heap.size v b):
 Calls Tryz.prog 46 #[v] w fun e w'=>∃v',e=.returned v'/\BsS w' (New w w') v' (xz b)/\Below w.heap.size w w':=by
 obtain⟨A,n,c,rfl⟩:=hv.form
 obtain rfl:=Bs.lenEq hv
 obtain⟨m,hm⟩:∃m,(yH b).length=64*m:=⟨_,YV b⟩
 have hm0:0<m/\64*m<=140737488355200:=by
  exact m3a
 have HMM:=Lib.hid hm;have HM0:=Lib.hid hm0
 have HV:=Lib.hid hv;have HK:=Lib.hid hK;have HL:=Lib.hid hl
 clear hv hK
 refine(callsIn_wide (n:=9)).1 ?_
 refine callsIn_of_wp_marks Tryz.func46 rfl trivial ?_ rfl
 simp only [Tryz.ntmps46,List.size_toArray,List.length_cons,List.length_nil,Nat.reduceAdd,Nat.reduceSub,Array.replicate_succ,Array.replicate_zero,List.push_toArray,List.append_toArray,List.nil_append,List.cons_append]
 gi_wp2_with fail
 refine⟨trivial,(callsIn_wide.2 (j19 _)).mono ?_⟩
 rintro e w1 ⟨v1,rfl,hs1,hb1⟩
 obtain⟨g1,rfl,⟨hg1,hg1'⟩,hh1⟩:=hs1
 have HB1:=Lib.hid hb1;have HH1:=Lib.hid hh1
 clear hb1 hh1
 gi_wp2_with fail
 obtain⟨w2,hw2⟩:∃w2,w2=w1.alloc (.cells #[.slice (some ⟨g1,0,none⟩) 8 8] 106):=⟨_,rfl⟩
 rw [<-hw2]
 have bS2:Boxed w2 w1.heap.size 106 (.slice (some ⟨g1,0,none⟩) 8 8):=by rw [hw2];exact Boxed.new w1 _ _
 have hb12:Below w1.heap.size w1 w2:=by rw [hw2];exact(Below.refl _ _).alloc (Nat.le_refl _) _
 have HB2:Hid (Below w.heap.size w w2):=Lib.hid (HB1.out.trans (hb12.mono HB1.out.size))
 have HBB:=Lib.hid hb12;have BS2:=Lib.hid bS2
 clear hw2 hb12 bS2
 refine⟨trivial,(callsIn_wide.2 (j0k _ b HL.out w2 (HV.out.lift HB2.out))).mono ?_⟩
 rintro e w3 ⟨v3,rfl,ho3,hb3⟩
 obtain⟨A3,c3,hv3⟩:=ho3.form
 rw [hm]at hv3
 subst hv3
 have hs3:BsS w3 (New w2 w3) (.slice A3 (64*m) c3) (yH b):=ho3.out (by rw [hm];omega) w2 (Nat.le_refl _)
 obtain⟨_,_,ev,hc3,hc3',_,hcell3⟩:=hs3
 obtain⟨e1,e2,e3⟩:=Value.slice.inj ev
 clear e2 ev
 subst e1 e3
 rw [hm]at hc3 hcell3
 obtain⟨bb,bo,rfl,hbb,hcell3⟩:=hcell3 (by omega)
 have HC3:=Lib.hid hcell3;have HB3:=Lib.hid hb3
 have HBBX:=Lib.hid hbb;have HCC:=Lib.hid hc3
 clear ho3 hb3 hcell3 hm hm0 hbb hc3
 gi_wp2_with fail
 refine⟨trivial,(Up Fence.wide _ trivial rfl (some ⟨bb,bo,none⟩) (64*m) c3 _).mono ?_⟩
 rintro e w4 ⟨rfl,rfl⟩
 gi_wp2_with fail
 have hbb:=HBBX.out;have hc3:=HCC.out;have hm0:=HM0.out
 obtain⟨w5,hw5⟩:∃w5,w5=(w3.alloc (.cells #[.slice (some ⟨bb,bo,none⟩) (64*m) c3] 22)).alloc (.cells #[.int .i64 64] 3):=⟨_,rfl⟩
 rw [<-hw5]
 have hsz5:w5.heap.size=w3.heap.size+2:=by rw [hw5];simp
 have hb35:Below w3.heap.size w3 w5:=by rw [hw5];exact((Below.refl _ _).alloc (Nat.le_refl _) _).alloc (by simp) _
 have bS5:Boxed w5 w3.heap.size 22 (.slice (some ⟨bb,bo,none⟩) (64*m) c3):=by rw [hw5];exact(Boxed.new w3 _ _).alloc _
 have bN5:Boxed w5 (w3.heap.size+1) 3 (.int .i64 64):=by
  have:=Boxed.new (w3.alloc (.cells #[.slice (some ⟨bb,bo,none⟩) (64*m) c3] 22)) 3 (.int .i64 64)
  rw [World.size_alloc]at this
  rw [hw5];exact this
 have hb25:Below w2.heap.size w2 w5:=HB3.out.trans (hb35.mono HB3.out.size)
 have hl12:w1.heap.size<w2.heap.size:=BS2.out.lt
 have hl23:=HB3.out.size
 have hl01:=HB1.out.size
 have bB5:Boxed w5 w1.heap.size 106 (.slice (some ⟨g1,0,none⟩) 8 8):=(hb25.block w1.heap.size hl12).trans BS2.out
 have hst5:StS w5 (fun g=>g≠w1.heap.size) (.slice (some ⟨g1,0,none⟩) 8 8) Jg:=⟨g1,rfl,by omega,(hb25.block g1 (by omega)).trans ((HBB.out.block g1 hg1').trans HH1.out)⟩
 have HB5:Hid (Below w.heap.size w w5):=Lib.hid (HB2.out.trans (hb25.mono HB2.out.size))
 have HBX:Hid (∀W,Only2 w1.heap.size w1.heap.size w5 W->∀j,j<64*m->W.cell? ⟨bb,bo+j,none⟩=some (U8 (gb (yH b) j))):=Lib.hid (fun W hO j hj=>by
  have h1:=HC3.out j hj
  have hlt:=hbb.2
  have hge:=hbb.1
  exact(World.cell?_of_block (a:=⟨bb,bo+j,none⟩) ((hO.block bb (by omega) (by omega) (by omega)).trans (hb35.block bb hlt))).trans h1)
 have HK5:Hid (∀W,Only2 w1.heap.size w1.heap.size w5 W->KD W):=Lib.hid (fun W hO j hj=>by
  have hk:=HK.out.below HB5.out HK.out.lt j hj
  have hlt:=HK.out.lt
  exact(World.cell?_of_block (a:=⟨0,j,none⟩) (hO.block 0 (by omega) (by omega) (by omega))).trans hk)
 have HS5:=Lib.hid hsz5
 have hb1lt:w1.heap.size<w5.heap.size:=by omega
 clear hw5
 refine wpIn_rangeFunc_ownG rfl (by omega) (gf:=144) (lb:=#[.pointer (some ⟨w3.heap.size,0,none⟩),.pointer (some ⟨w3.heap.size+1,0,none⟩)]) rfl trivial (enters_of Tryz.func144 (by kernel_rfl) rfl)
  (Qy Fence.wide _ trivial rfl (by omega) w3.heap.size (w3.heap.size+1) (some ⟨bb,bo,none⟩) m c3 bb bo hc3 (fun _=>rfl) (by omega) w5 bS5.lt bN5.lt bS5.cell bN5.cell) xK (JU bS5.lt bN5.lt) (Below.refl _ _) (fun _=>rfl)
  (fun pre W=>j81 w1.heap.size w5 ((pre.map Fin.val).foldl (fun s i=>zF s (Ui (yH b) i)) Jg) W)
  (fun _ _ _=>False)
  (j5t w1.heap.size w5 (fun pre:List (Fin m)=>(pre.map Fin.val).foldl (fun s i=>zF s (Ui (yH b) i)) Jg) (by omega))
  (fun _ _ _ _ _ hs _ _=>hs)
  ⟨Only2.refl _ _ _,_,bB5,hst5⟩
  (fun x=>{tmps:=#[.slice A b.length c,undef,.slice none 0 0,.pointer (some ⟨w1.heap.size,0,none⟩),.slice (some ⟨bb,bo+64*x.1,none⟩) 64 64,undef,undef,undef,.slice (some ⟨g1,0,none⟩) 8 8,.slice A b.length c,.slice (some ⟨bb,bo,none⟩) (64*m) c3,.func (.func 144) #[] #[.pointer (some ⟨w3.heap.size,0,none⟩),.pointer (some ⟨w3.heap.size+1,0,none⟩)],.slice (some ⟨bb,bo+64*x.1,none⟩) 64 64,undef,undef,undef,undef,undef,undef,undef,undef,undef,undef,undef,undef,undef,undef,undef,undef,undef,undef],defers:=[]}) ?assign ?body ?done ?stop
 case assign=>
  intro l x W K hK
  gi_wp2
  exact hK
 case body=>
  rintro l pre x W ⟨hO,vS,hI,hst⟩ hlt
  obtain⟨s,hs⟩:∃s,s=(pre.map Fin.val).foldl (fun s i=>zF s (Ui (yH b) i)) Jg:=⟨_,rfl⟩
  rw [<-hs]at hst
  have hX:BsS W (fun _=>True) (.slice (some ⟨bb,bo+64*x.1,none⟩) 64 64) (Ui (yH b) x.1):=by
   have hlx:=Jo HMM.out x.2
   refine⟨some ⟨bb,bo+64*x.1,none⟩,64,by rw [hlx],by omega,by omega,by omega,fun _=>⟨bb,bo+64*x.1,rfl,trivial,fun j hj=> ?_⟩⟩
   rw [hlx]at hj
   rw [YA _ _ _ hj,Nat.add_assoc]
   exact HBX.out W hO _ (by have:=x.2;omega)
  have HCM:=Lib.hid (XG s (Ui (yH b) x.1) vS _ _ _ W (HK5.out W hO) hst hX (Jo HMM.out x.2))
  obtain⟨gS,rfl,_,_⟩:=hst
  have cI:=hI.cell
  have HI:=Lib.hid hI;have HO:=Lib.hid hO;have HSS:=Lib.hid hs
  clear hI hO hs hX
  gi_wp2_with fail
  refine⟨trivial,(CallsIn.inRound l (callsIn_wide.2 HCM.out)).mono ?_⟩
  rintro e W2 ⟨v2,rfl,hst2,hB2⟩
  obtain⟨g2,rfl,⟨hg2,_⟩,hh2⟩:=hst2
  have hbl:=HI.out.lt
  have hI2:Boxed W2 w1.heap.size 106 (.slice (some ⟨gS,0,none⟩) 8 8):=(hB2.block w1.heap.size hbl).trans HI.out
  have c2:=hI2.cell
  have f2:=hI2.frozen
  have HI2:=Lib.hid hI2;have HB2':=Lib.hid hB2;have HH2:=Lib.hid hh2
  clear hI2 hB2 hh2 cI
  gi_wp2_with fail
  have hO3:Only2 w1.heap.size w1.heap.size w5 (W2.setCell ⟨w1.heap.size,0,none⟩ (.slice (some ⟨g2,0,none⟩) 8 8)):=(HO.out.below HB2'.out).box w1.heap.size (.inl rfl) _
  refine⟨((qg HB2'.out).trans (KeepsOthers.setCell _ _ _)).from _,xi HO.out hO3 (by omega) (by omega) (by omega) (by omega) (by omega) (by omega),hO3,_,HI2.out.set _,?_⟩
  rw [List.map_append,List.map_cons,List.map_nil,List.foldl_append,<-HSS.out]
  exact⟨g2,rfl,by omega,(Below.heap_setCell _ _ _ _ (by show g2≠w1.heap.size;omega)).trans HH2.out⟩
 case done=>
  rintro D ys W hD rfl ⟨hO,vS,hI,hst⟩ hK
  rw [QD,Zp]at hst
  obtain⟨gS,rfl,hgS,hhS⟩:=hst
  obtain⟨s,hs⟩:∃s,zO (yH b) m=s:=⟨_,rfl⟩
  rw [hs]at hhS
  have E:Hid (xz b=Kv s 8):=Lib.hid (by unfold xz;rw [HMM.out,Nat.mul_div_cancel_left _ (by omega),hs];rfl)
  have hgl:=(Array.getElem?_eq_some_iff.1 hhS).1
  have cI:=hI.cell
  have HHS:=Lib.hid hhS;have HO:=Lib.hid hO;have HKK:=Lib.hid hK
  have HN:=Lib.hid (World.ownsRow_nil W W.heap.size 5 1)
  clear hhS hI hO hs hK
  gi_wp2_with fail
  gi_loopw [5,21] (fun o i wr=>∃(j N:Nat) (A c:_),j<=8/\N=4*j/\o=.slice A N c/\i=.int .i64 j/\wr.ownsRow W.heap.size 5 1 (.slice A N c) N ((Kv s j).map U8)/\Below W.heap.size W wr)
   (fun _ i _=>8 - (intOf i).toNat)
  case atStart=>exact⟨0,0,none,0,by omega,rfl,rfl,rfl,HN.out,Below.refl _ _⟩
  case round=>
   obtain⟨j,N,Ao,co,hj,hN,rfl,rfl,hown,hbr⟩:=hrel
   have HBR:=Lib.hid hbr
   have hsz:=hbr.size
   by_cases hlt:j<8
   ·have hlt':(j:Int)<8:=by omega
    obtain⟨x,hx⟩:∃x,s.list.getD j 0=x:=⟨_,rfl⟩
    have cx:wr.cell? ⟨gS,j,none⟩=some (W32 x):=by
     rw [<-hx];exact yh ((hbr.block gS hgl).trans HHS.out) hlt
    have HON:Hid (Kv s (j+1)=Kv s j++kI x):=Lib.hid (by rw [<-hx];exact Z7 s hlt)
    have HOWN:=Lib.hid hown
    have HNN:=Lib.hid hN
    have hN2:N<=28:=by omega
    clear hx hbr hown hN
    gi_wp2_with fail
    refine⟨trivial,(callsIn_wide.2 (zE x wr)).mono ?_⟩
    rintro e w6 ⟨v6,rfl,hs6,hb6⟩
    obtain⟨A6,c6,rfl⟩:∃A c,v6=.slice A 4 c:=(by obtain⟨a,c,e,_⟩:=hs6;exact⟨a,c,e⟩)
    have HSRC:=Lib.hid (show SrcAt w6 A6 4 ((kI x).map U8) from hs6.src.2)
    have HO6:=Lib.hid (kO HOWN.out hb6)
    have HB6:=Lib.hid (HBR.out.trans (hb6.mono HBR.out.size))
    clear hs6 hb6
    gi_wp2_with (gi_at_builtin;(with_reducible refine xt _ rfl (.tmp 25) (.tmp 27) 22 rfl W.heap.size 5 (.int .u8 0) 1 Tryz.underlying22 kJ rfl (by omega) (.slice Ao N co) N ((Kv s j).map U8) rfl HO6.out A6 4 c6 ((kI x).map U8) rfl HSRC.out (by omega) HB6.out.size ?_);intro v4 W4 hown4 hg4 _ _;obtain⟨A4,c4,rfl⟩:=j0y hown4;have HO4:=Lib.hid hown4;have HB4:=Lib.hid (HB6.out.trans (jj HO6.out hg4 (Nat.le_refl _) HB6.out.size));clear hown4 hg4)
    go_roundw
    case rel=>exact⟨j+1,N+4,A4,c4,by omega,by have:=HNN.out;omega,rfl,by go_num,by rw [HON.out,List.map_append];exact HO4.out,HB4.out⟩
    case measure=>simp [intOf];omega
   ·obtain rfl:j=8:=by omega
    subst hN
    have hK2:=(hbr.block D (Array.getElem?_eq_some_iff.1 HKK.out).1).trans HKK.out
    have HOWN:=Lib.hid hown
    have HSW:=HO.out.size
    clear hbr hown
    gi_wp2_with fail
    refine⟨by simp,.inl ⟨_,_,rfl,run_takeDeferred hK2,?_⟩⟩
    refine⟨_,results_tmp rfl _ _ _,_,rfl,?_,?_⟩
    ·have hown':=ownsRow_putObj HOWN.out (.deferred none) hK2 rfl
     have hlen:(Kv s 8).length=4*8:=by simp [Kv,St8.list,kE]
     rw [E.out]
     have hown2:(wr.putObj D (.deferred none)).ownsRow W.heap.size 5 1 (.slice Ao (4*8) co) (Kv s 8).length ((Kv s 8).map U8):=by rw [hlen];exact hown'
     refine(BsS.of_own hown2 (by rw [hlen];omega)).keep fun g hg _=>⟨rfl,?_,hg.2⟩
     have:=hg.1
     have:=HB5.out.size
     omega
    ·exact((HB5.out.trans (HO.out.toBelow (B:=w.heap.size) (by omega) (by omega) HB5.out.size)).trans (HBR.out.mono (by have:=HB5.out.size;omega))).trans (belowK_b (w:=w) (Nat.le_refl _) wr D _ _ (by have:=HB5.out.size;omega) hK2 rfl rfl)
 case stop=>
  rintro D c pre W _ _ h _
  exact h.elim
end
theorem j6z{w:World}{q:Nat}{l:List UInt8}{t:TypeId}{n:Nat}(hn:n=l.length)(hl:l.length<=1000)(h:w.heap[q]?=some (.cells (l.map U8).toArray t (0,0))):BsS w (fun _=>True) (.slice (some ⟨q,0,none⟩) n n) l:=by
 subst hn
 refine⟨_,_,rfl,Nat.le_refl _,by omega,by omega,fun _=>⟨q,0,rfl,trivial,fun j hj=> ?_⟩⟩
 rw [Nat.zero_add,cell_of_row _ _ _ _ _ _ h]
 exact(List.getElem?_toArray ..).trans (jT l j hj)
theorem QT(s:St8){j:Nat}(hj:j<=8):(Kv s j).length=4*j:=by
 obtain rfl|rfl|rfl|rfl|rfl|rfl|rfl|rfl|rfl:j=0\/j=1\/j=2\/j=3\/j=4\/j=5\/j=6\/j=7\/j=8:=by omega
 all_goals simp [Kv,St8.list,kE]
theorem yx(v:Value)(b:List UInt8)(hl:b.length<=140737488355000)(w:World)(hK:KR w)(hv:Bs w w.heap.size v b):
 Calls Tryz.prog 49 #[v] w fun e w'=>∃v',e=.returned v'/\BsS w' (New w w') v' (xz b)/\Below w.heap.size w w':=by
 obtain⟨A,n,c,rfl⟩:=hv.form
 obtain rfl:=Bs.lenEq hv
 obtain⟨m,hm⟩:∃m,(yH b).length=64*m:=⟨_,YV b⟩
 have hm0:0<m/\64*m<=140737488355200:=by
  exact m3a
 have HP:=Lib.hid (UY _ b hl w hv)
 have HK:=Lib.hid hK;have HMM:=Lib.hid hm;have HM0:=Lib.hid hm0
 clear hv hK hm hm0
 go_enter Tryz.func49,Tryz.ntmps49
 go_upto_region 3 with (first
  |(go_at_call 104;refine(VQ w1).mono ?_;rintro e w2 ⟨v2,rfl,hs2,hb2⟩;obtain⟨gF,rfl,⟨hgF,_⟩,hhF⟩:=hs2;have HF:=Lib.hid hhF;have HB2:=Lib.hid hb2;clear hhF hb2)
  |(go_at_call 103;refine HP.out.mono ?_;rintro e w1 ⟨v1,rfl,ho1,hb1⟩;obtain⟨A1,c1,hv1⟩:=ho1.form;rw [HMM.out]at hv1;subst hv1;have HO1:=Lib.hid ho1;have HB1:=Lib.hid hb1;clear ho1 hb1))
 have hm0:=HM0.out
 have hs1:BsS w1 (New w w1) (.slice A1 (64*m) c1) (yH b):=HO1.out.out (by rw [HMM.out];omega) w (Nat.le_refl _)
 obtain⟨_,_,ev,hc1,hc1',_,hcell1⟩:=hs1
 obtain⟨q1,q2,q3⟩:=Value.slice.inj ev
 clear ev q2
 subst q1 q3
 rw [HMM.out]at hc1 hcell1
 obtain⟨bb,bo,rfl,hbb,hcell1⟩:=hcell1 (by omega)
 have HC1:Hid (∀W,Below w2.heap.size w2 W->∀j,j<64*m->W.cell? ⟨bb,bo+j,none⟩=some (U8 (gb (yH b) j))):=Lib.hid (fun W h j hj=>by
  have hlt:=hbb.2
  exact(World.cell?_of_block (a:=⟨bb,bo+j,none⟩) ((h.block bb (Nat.lt_of_lt_of_le hlt HB2.out.size)).trans (HB2.out.block bb hlt))).trans (hcell1 j hj))
 have HBW:Hid (Below w.heap.size w w2):=Lib.hid (HB1.out.trans (HB2.out.mono HB1.out.size))
 have hm47:(64*m:Nat)<=140737488355200:=hm0.2
 have hm1:0<m:=hm0.1
 clear hcell1 hm0 hbb
 go_wp2_with fail
 go_loopg [4,5] m (fun m0 hv iv wr=>∃j q g:Nat,j+m0=m/\Hid (q=64*j)/\hv=.slice (some ⟨g,0,none⟩) 8 8/\iv=.int .i64 (q:Int)/\w.heap.size<=g/\Hid (wr.heap[g]?=some (.cells (zO (yH b) j).cells 113 (0,0)))/\Below w2.heap.size w2 wr)
 case atStart=>exact⟨0,0,gF,by omega,rfl,rfl,rfl,Nat.le_trans HB1.out.size hgF,HF,Below.refl _ _⟩
 case round=>
  obtain⟨j,q,g,hj,hq,rfl,rfl,hg,HG,hbr⟩:=hrel
  have HBR:=Lib.hid hbr
  have hsz:=hbr.size
  clear hbr
  by_cases hlt:j<m
  ·have hq1:q+64<=64*m:=by have:=hq.out;omega
   have hq2:(q:Int)+64<=((64*m:Nat):Int):=by omega
   have hqc:q<c1:=by omega
   have hX:BsS wr (fun _=>True) (.slice (some ⟨bb,bo+q,none⟩) 64 (c1 - q)) (Ui (yH b) j):=by
    have hlx:=Jo HMM.out hlt
    refine⟨some ⟨bb,bo+q,none⟩,c1 - q,by rw [hlx],by omega,by omega,by omega,fun _=>⟨bb,bo+q,rfl,trivial,fun i hi=> ?_⟩⟩
    rw [hlx]at hi
    rw [YA _ _ _ hi,Nat.add_assoc,hq.out]
    exact HC1.out wr HBR.out _ (by have:=hq.out;omega)
   have HK2:KR wr:=(HK.out.below HBW.out HK.out.lt).below HBR.out (Nat.lt_of_lt_of_le HK.out.lt HBW.out.size)
   have HCM:=Lib.hid (QZ (zO (yH b) j) (Ui (yH b) j) (.slice (some ⟨g,0,none⟩) 8 8) _ (fun _=>True) _ wr HK2 ⟨g,rfl,trivial,HG.out⟩ hX (Jo HMM.out hlt))
   have HJM:=Lib.hid hj
   clear hX HK2
   go_wp2_with(go_at_call 105;refine HCM.out.mono ?_;rintro e w6 ⟨v6,rfl,hs6,hb6⟩;obtain⟨g6,rfl,⟨hg6,_⟩,hh6⟩:=hs6;have HH6:=Lib.hid hh6;have HB6:=Lib.hid (HBR.out.trans (hb6.mono HBR.out.size));clear hh6 hb6)
   go_roundg (m - (j+1))
   case measure=>omega
   case rel=>exact⟨j+1,q+64,g6,by omega,by have:=hq.out;unfold Hid;omega,rfl,by go_num,Nat.le_trans HBW.out.size (Nat.le_trans hsz hg6),HH6,HB6.out⟩
  ·obtain rfl:j=m:=by omega
   have hqm:q=64*j:=hq.out
   have hd:decide ((q:Int)+64<=((64*j:Nat):Int))=false:=decide_eq_false (by omega)
   obtain⟨s,hs⟩:∃s,zO (yH b) j=s:=⟨_,rfl⟩
   rw [hs]at HG
   have E:Hid (xz b=Kv s 8):=Lib.hid (by unfold xz;rw [HMM.out,Nat.mul_div_cancel_left _ (by omega),hs];rfl)
   obtain⟨wo,rfl⟩:∃wo:World,wo=wr:=⟨_,rfl⟩
   obtain⟨gS,rfl⟩:∃gS,gS=g:=⟨_,rfl⟩
   have hgS:=(Array.getElem?_eq_some_iff.1 HG.out).1
   have hq5:q<=140737488355200:=by omega
   have hgt:64*(j:Int)<(q:Int)+64:=by omega
   clear hs hj hq hlt hqm
   go_wp2_with fail
   clear hd hgt hq5
   go_loopg [6,7] 8 (fun m0 ov iv wr=>∃(j N:Nat) (A c:_),j+m0=8/\N=4*j/\ov=.slice A N c/\iv=.int .i64 (j:Int)/\Hid (OwnB wr wo.heap.size (.slice A N c) (Kv s j))/\Below wo.heap.size wo wr)
   case atStart=>exact⟨0,0,none,0,by omega,rfl,rfl,rfl,Lib.hid (OwnB.nil _ _),Below.refl _ _⟩
   case round=>
    obtain⟨j,N,Ao,co,hj,hN,rfl,rfl,HOWN,hbr⟩:=hrel
    have HBO:=Lib.hid (hbr)
    clear hbr
    by_cases hlt:j<8
    ·obtain⟨x,hx⟩:∃x,s.list.getD j 0=x:=⟨_,rfl⟩
     have CX:Hid (∀W,Below wr.heap.size wr W->W.cell? ⟨gS,j,none⟩=some (W32 x)):=Lib.hid (fun W h=>by
      rw [<-hx];exact yh (((HBO.out.trans (h.mono HBO.out.size)).block gS hgS).trans HG.out) hlt)
     have HON:Hid (Kv s (j+1)=Kv s j++kI x):=Lib.hid (by rw [<-hx];exact Z7 s hlt)
     have HLN:Hid ((Kv s j).length=N):=Lib.hid (by rw [QT s (by omega),hN])
     have HLN2:Hid ((Kv s (j+1)).length=N+4):=Lib.hid (by rw [QT s (by omega),hN];omega)
     have HNN:=Lib.hid hN
     have HN28:Hid (N<=28):=Lib.hid (by omega)
     have HJ8:Hid ((j:Int)<8):=Lib.hid (by omega)
     have hlt8:(j:Int)<8:=by omega
     have HBR:=HBO
     clear hx hN
     go_upto_region 11 with fail
     refine j9 25 [some 34,some 35,some 36,some 37,some 38,some 39,some 40,some 41,some 42,some 43,some 44,some 45,some 46,some 47,some 48,some 49,some 50,some 51,some 52,some 53,some 54,some 55,some 56,some 57,some 58] [[],[],[],[1,2],[1,2,3],[1,2,3,4],[1,2,3,4,5],[],[],[7,8],[7,8,9],[7,8,9,10],[7,8,9,10,11],[],[],[13,14],[13,14,15],[13,14,15,16],[13,14,15,16,17],[],[],[19,20],[19,20,21],[19,20,21,22],[1,2,3,4,5,6,7,8,9,10,11,12,13,14,15,16,17,18,19,20,21,22,23]]
      (fun _ _ w1=>Below wr.heap.size wr w1) (fun w1 w2=>Below w1.heap.size w1 w2)
      [.v (.slice Ao N co),
       .v (.slice (some ⟨gS,0,none⟩) 8 8),
       .v (.int .i64 (j:Int)),
       .v (.pointer (some ⟨gS,j,none⟩)),
       .v (W32 x),
       .v (W32 (x / ofW 16777216)),
       .v (U8 (ofI (wv (x / ofW 16777216)))),
       .v (.slice (some ⟨gS,0,none⟩) 8 8),
       .v (.int .i64 (j:Int)),
       .v (.pointer (some ⟨gS,j,none⟩)),
       .v (W32 x),
       .v (W32 (x / ofW 65536)),
       .v (U8 (ofI (wv (x / ofW 65536)))),
       .v (.slice (some ⟨gS,0,none⟩) 8 8),
       .v (.int .i64 (j:Int)),
       .v (.pointer (some ⟨gS,j,none⟩)),
       .v (W32 x),
       .v (W32 (x / ofW 256)),
       .v (U8 (ofI (wv (x / ofW 256)))),
       .v (.slice (some ⟨gS,0,none⟩) 8 8),
       .v (.int .i64 (j:Int)),
       .v (.pointer (some ⟨gS,j,none⟩)),
       .v (W32 x),
       .v (U8 (ofI (wv x))),
       .p (fun v w1=>∃q,v 24=.slice (some ⟨q,0,none⟩) 4 4/\w1.heap[q]?=some (.cells ((kI x).map U8).toArray 5 (0,0))) (fun _ _ _ _ _ hr ⟨q,e,h⟩=>⟨q,e,(hr.block q (Array.getElem?_eq_some_iff.1 h).1).trans h⟩)]
      (by kernel_rfl) (by kernel_rfl) rfl (fun _=>(Below.refl _ _).drew) ?steps ?tail
     case steps=>
      simp only [List.take_succ_cons,List.take_zero]
      repeat' (with_reducible first|exact StepsRG.nil|refine StepsRG.cons ?_ ?_)
      all_goals(intro L v w1 hJ hL hF hD K hK;simp only [jb,Act.put,Nat.zero_add,Nat.reduceAdd,List.setIfInBounds_toArray,List.set_cons_zero,List.set_cons_succ,↓jP,List.getD_cons_zero,List.getD_cons_succ,Nat.reduceEqDiff,↓reduceIte]at hD hK |-)
      all_goals try(have h8:(j:Int)<8:=HJ8.out;have c0:=CX.out _ hJ;(try simp only [hD]at hK |-);go_simp;refine hK _ _ hJ (Below.refl _ _) ?_;first|exact rfl|exact jf _|exact yW _)
      ·simp only [hD]at hK |-
       exact mE
     case tail=>
      intro v w1 hJ hF hD
      simp only [jZ]at hD
      obtain⟨e0,e1,e2,e3,e4,e5,e6,e7,e8,e9,e10,e11,e12,e13,e14,e15,e16,e17,e18,e19,e20,e21,e22,e23, -⟩:=hD
      obtain⟨qb,e24,hqb⟩:∃q,v 24=_/\_:=hF 24 (by simp)
      simp only [List.drop_succ_cons,List.drop_zero,jb,Act.put,Nat.zero_add,Nat.reduceAdd,List.setIfInBounds_toArray,List.set_cons_zero,List.set_cons_succ]
      have HJJ:=Lib.hid hJ;have HQB:=Lib.hid (j6z (n:=4) rfl (by rw [kE];omega) hqb)
      clear hJ hF hqb
      simp only [e0,e24]
      go_wp2_with(at_builtin;(with_reducible refine j5 (w:=w1) rfl (.tmp 34) (.tmp 58) rfl wo.heap.size (.slice Ao N co) (Kv s j) rfl (K0 HOWN.out HJJ.out) (some ⟨qb,0,none⟩) 4 4 (kI x) (fun _=>True) rfl HQB.out (by rw [HLN.out,kE];have:=HN28.out;omega) (Nat.le_trans HBR.out.size HJJ.out.size) ?_);intro o2 w2 hG;rw [<-HON.out]at hG;obtain⟨A2,c2,ho2⟩:=hG.1.form;rw [HLN2.out]at ho2;subst ho2;have HO2:=Lib.hid hG.1;have HB2:=Lib.hid ((HBR.out.trans (HJJ.out.mono HBR.out.size)).trans hG.2.1);clear hG)
      go_roundg (8 - (j+1))
      case measure=>omega
      case rel=>exact⟨j+1,N+4,A2,c2,by omega,by have:=HNN.out;omega,rfl,by go_num,HO2,HB2.out⟩
    ·obtain rfl:j=8:=by omega
     subst hN
     clear hj
     go_wp2_with fail
     go_ret
     have hlen:(Kv s 8).length=4*8:=QT s (by omega)
     refine⟨_,rfl,?_,?_⟩
     ·rw [E.out]
      have hown:=HOWN.out
      refine(OwnB.out hown (by rw [hlen];omega) wo (Nat.le_refl _)).keep fun g hg _=>⟨rfl,?_,hg.2⟩
      have:=hg.1
      have:=HBW.out.size
      omega
     ·exact(HBW.out.trans (HBR.out.mono HBW.out.size)).trans (HBO.out.mono (by have:=HBW.out.size;omega))
def zw(s:List UInt8)(u:Int):List UInt8:=(xz (s++jc u)).take 16
theorem jL(s:List UInt8)(u:Int):(zw s u).length=16:=by unfold zw;rw [List.length_take,je]<;>rfl
theorem BsS.cut{w:World}{S:Nat->Prop}{A:Option Addr}{n c k d:Nat}{l:List UInt8}(h:BsS w S (.slice A n c) l)(hk:k<=l.length)(hd:k<=d)(hd2:d<=9223372036854775807):BsS w S (.slice A k d) (l.take k):=by
 obtain⟨a,c',hv,h1,h2,h3,h4⟩:=h
 obtain⟨ha,hn,hc⟩:=Value.slice.inj hv
 subst ha
 have hl:(l.take k).length=k:=by rw [List.length_take];omega
 refine⟨A,d,by rw [hl],by omega,hd2,by omega,fun hp=> ?_⟩
 rw [hl]at hp
 obtain⟨b,off,rfl,hb,hcell⟩:=h4 (by omega)
 refine⟨b,off,rfl,hb,fun j hj=> ?_⟩
 rw [hl]at hj
 rw [hcell j (by omega)]
 congr 2
 unfold gb
 rw [List.getD_eq_getElem?_getD,List.getD_eq_getElem?_getD,List.getElem?_take,iT hj]
theorem OwnB.bs{w w':World}{v:Value}{l:List UInt8}(h:OwnB w' w.heap.size v l)(hl:l.length<=140737488355328):Bs w' w'.heap.size v l:=(h.out hl w iL).keep fun _ hs _=>⟨rfl,hs.2⟩
theorem Xq(va vb:Value)(a b:List UInt8)(w:World)(hK:KD w)(ha:Bs w w.heap.size va a)(hb:Bs w w.heap.size vb b)(hl:a.length+b.length<=140737488355000):
 Calls Tryz.prog 102 #[va,vb] w fun e w'=>∃v',e=.returned v'/\BsS w' (New w w') v' (xz (a++b))/\Below w.heap.size w w':=by
 obtain⟨w1,hw1⟩:∃w1,w1=w.alloc (.cells #[va,vb] 22):=⟨_,rfl⟩
 have hB1:Below w.heap.size w w1:=by rw [hw1];exact iA
 have hh:w1.heap[w.heap.size]?=some (.cells #[va,vb] 22 (0,0)):=by rw [hw1];exact iN
 have e:JL [(va,a),(vb,b)]=a++b:=by simp [JL]
 have HC:=iH (KQ [(va,a),(vb,b)] w.heap.size (·<w.heap.size) w1 22 hh (by
  intro p hp
  simp only [List.mem_cons,List.not_mem_nil,or_false]at hp
  rcases hp with rfl|rfl
  ·exact BsS.keep ha fun g hs hl=>⟨hB1.block g hl,hs⟩
  ·exact BsS.keep hb fun g hs hl=>⟨hB1.block g hl,hs⟩) (by rw [e,List.length_append];exact hl) (by simp))
 rw [e]at HC
 have HW1:=iH hw1;have HB1:=iH hB1;have HK:=iH hK;have HL:=iH hl
 obtain⟨A,n,c,rfl⟩:=ha.form
 obtain⟨B,m,d,rfl⟩:=hb.form
 clear ha hb hw1 hB1 hh hK e
 go_enter Tryz.func102,Tryz.ntmps102
 go_wp2_with(first
  |(go_at_call 46;refine(Yl _ (a++b) (by have:=HL.out;rw [List.length_append];exact this) w2 (HK.out.below HB2.out HK.out.lt) HS2.out).mono ?_;rintro e w3 ⟨v3,rfl,hs,hb3⟩;have HS3:=iH hs;have HB3:=iH hb3;clear hs hb3)
  |(go_at_call 63;rw [<-HW1.out];refine HC.out.mono ?_;rintro e w2 ⟨v2,rfl,ho,hb2⟩;have HS2:Hid (Bs w2 w2.heap.size v2 (a++b)):=iH (ho.bs (by have:=HL.out;rw [List.length_append];omega));have HB2:Hid (Below w.heap.size w w2):=iH (HB1.out.trans (hb2.mono HB1.out.size));clear ho hb2))
 go_ret
 refine⟨_,rfl,HS3.out.keep fun g hg _=>⟨rfl,Nat.le_trans HB2.out.size hg.1,hg.2⟩,HB2.out.trans (HB3.out.mono HB2.out.size)⟩
section
variable(u:Int)(h0:0<=u)(h1:u<=65535)(v:Value)(s:List UInt8)(w:World)
include u h0 h1 v s w
theorem Jq(hK:KD w)(hv:Bs w w.heap.size v s)(hl:s.length<=140737488354000):
 Calls Tryz.prog 47 #[v,.int .i64 u] w fun e w'=>∃v',e=.returned (.tuple #[v',.int .i64 0])/\BsS w' (New w w') v' (zw s u)/\Below w.heap.size w w':=by
 obtain⟨A,n,c,rfl⟩:=hv.form
 have HV:=iH hv;have HK:=iH hK;have HL:=iH hl
 have HO:=iH (YR u w h0 (by omega))
 have g1:decide (u<0)=false:=decide_eq_false (by omega)
 have g2:decide (u>65535)=false:=decide_eq_false (by omega)
 clear hv hK h0 h1
 go_enter Tryz.func47,Tryz.ntmps47
 go_wp2_with(first
  |(go_at_call 102;refine(Xq _ _ s (jc u) w1 (HK.out.below HB1.out HK.out.lt) (HV.out.lift HB1.out) HS1.out (by have:=HL.out;simp only [jc,List.length_cons,List.length_nil];omega)).mono ?_;rintro e w2 ⟨v2,rfl,hs,hb2⟩;obtain⟨A2,c2,hv2,hc2,hc2'⟩:∃A c,v2=.slice A 32 c/\32<=c/\c<=9223372036854775807:=(by obtain⟨a,c,e,h1,h2,_⟩:=hs;rw [je]at e h1;exact⟨a,c,e,h1,h2⟩);subst hv2;have HS2:=iH hs;have HB2:=iH (HB1.out.trans (hb2.mono HB1.out.size));have HZ2:=iH hb2;clear hs hb2)
  |(go_at_call 101;refine HO.out.mono ?_;rintro e w1 ⟨v1,rfl,hs,hb1⟩;obtain⟨A1,c1,rfl⟩:∃A c,v1=.slice A 4 c:=(by obtain⟨a,c,e,_⟩:=hs;exact⟨a,c,e⟩);have HS1:Hid (Bs w1 w1.heap.size (.slice A1 4 c1) (jc u)):=iH (BsS.keep hs fun g hg _=>⟨rfl,hg.2⟩);have HB1:=iH hb1;clear hs hb1))
 go_ret2
 refine⟨_,rfl,?_,HB2.out⟩
 exact BsS.keep (BsS.cut HS2.out (k:=16) (d:=16) (by rw [je];omega) (by omega) (by omega)) fun g hg _=>⟨rfl,Nat.le_trans HB1.out.size hg.1,hg.2⟩
theorem yq(hK:KR w)(hv:Bs w w.heap.size v s)(hl:s.length<=140737488354000):
 Calls Tryz.prog 50 #[v,.int .i64 u] w fun e w'=>∃v',e=.returned (.tuple #[v',.int .i64 0])/\BsS w' (New w w') v' (zw s u)/\Below w.heap.size w w':=by
 obtain⟨A,n,c,rfl⟩:=hv.form
 have HV:=iH hv;have HK:=iH hK;have HL:=iH hl
 have HO:=iH (VT u w h0 (by omega))
 have g1:decide (u<0)=false:=decide_eq_false (by omega)
 have g2:decide (u>65535)=false:=decide_eq_false (by omega)
 clear hv hK h0 h1
 go_enter Tryz.func50,Tryz.ntmps50
 go_wp2_with(first
  |(go_at_call 49;refine(yx _ (s++jc u) (by have:=HL.out;rw [List.length_append];simp only [jc,List.length_cons,List.length_nil];omega) w3 (HK.out.below HB3.out HK.out.lt) HS3.out).mono ?_;rintro e w2 ⟨v2,rfl,hs,hb2⟩;obtain⟨A2,c2,hv2,hc2,hc2'⟩:∃A c,v2=.slice A 32 c/\32<=c/\c<=9223372036854775807:=(by obtain⟨a,c,e,h1,h2,_⟩:=hs;rw [je]at e h1;exact⟨a,c,e,h1,h2⟩);subst hv2;have HS2:=iH hs;have HB2:=iH (HB3.out.trans (hb2.mono HB3.out.size));clear hs hb2)
  |(go_at_call 64;refine(Jt _ _ s (jc u) _ _ w1 (HV.out.lift HB1.out) HS1.out (by have:=HL.out;simp only [jc,List.length_cons,List.length_nil];omega)).mono ?_;rintro e w3 ⟨v3,rfl,ho,hb3⟩;have HS3:Hid (Bs w3 w3.heap.size v3 (s++jc u)):=iH (ho.bs (by have:=HL.out;rw [List.length_append];simp only [jc,List.length_cons,List.length_nil];omega));have HB3:=iH (HB1.out.trans (hb3.mono HB1.out.size));clear ho hb3)
  |(go_at_call 83;refine HO.out.mono ?_;rintro e w1 ⟨v1,rfl,hs,hb1⟩;have HS1:Hid (Bs w1 w1.heap.size v1 (jc u)):=iH (BsS.keep hs fun g hg _=>⟨rfl,hg.2⟩);have HB1:=iH hb1;clear hs hb1))
 go_ret2
 refine⟨_,rfl,?_,HB2.out⟩
 exact BsS.keep (BsS.cut HS2.out (k:=16) (d:=c2) (by rw [je];omega) (by omega) (by omega)) fun g hg _=>⟨rfl,Nat.le_trans HB3.out.size hg.1,hg.2⟩
end
end Go.Proofs.YtalmmiojbmpmiaaGreatDoor
