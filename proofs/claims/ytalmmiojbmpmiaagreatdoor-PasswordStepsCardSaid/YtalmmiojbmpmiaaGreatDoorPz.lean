/- The walks of the small functions of the package modes: combine, arguments; slices.Chunk of bytes by 16: what the iterator hands its loop; Plain law and memor... -/
import Derived.LoopIn
import Derived.LoopNIn
import Derived.OwnWalkIn
import Derived.RangeFuncBound
import Derived.RangeFuncNested
import Derived.Shelf.RegionOpen
import Derived.Test.YtalmmiojbmpmiaaGreatDoorPk
import Derived.Test.YtalmmiojbmpmiaaGreatDoorPx
import Derived.Test.YtalmmiojbmpmiaaGreatDoorPy
set_option linter.all false
set_option maxRecDepth 100000
set_option maxHeartbeats 2000000
namespace Go.Proofs.YtalmmiojbmpmiaaGreatDoor
open Go.RowKit
def qU(a b:List UInt8):List UInt8:=jC 16 fun j=>gb a j ^^^ gb b j
theorem k9(a b:List UInt8):(qU a b).length=16:=jr _ _
theorem Xp(va vb:Value)(a b:List UInt8)(ha:a.length=16)(hb:b.length=16)(w:World)(hva:Bs w w.heap.size va a)(hvb:Bs w w.heap.size vb b):
 Calls Tryz.prog 109 #[va,vb] w fun e w'=>∃v',e=.returned v'/\OwnB w' w.heap.size v' (qU a b)/\Below w.heap.size w w':=by
 obtain⟨Aa,na,ca,rfl⟩:=hva.form
 have Ha:=iH hva;have La:=iH ha
 obtain⟨Ab,cb,rfl,hcb,_,_,hcell⟩:=hvb
 obtain⟨bb,ob,rfl,hbb,hx⟩:=hcell (by omega)
 rw [hb]at hx hcb
 rw [hb]
 have HX:=iH hx
 clear hva hcell hx hb ha
 go_enter Tryz.func109,Tryz.ntmps109
 go_wp2_with fail
 refine(js _ a _ Ha.out).mono ?_
 rintro e w1 ⟨v1,rfl,hown,hB⟩
 unfold OwnB at hown
 rw [La.out]at hown
 obtain⟨g,cap,rfl,hg1,hg2,hcap⟩:=kZ hown (by omega)
 rw [X8 a 16 La.out]at hown
 have Hown:=iH hown;have HB:=iH hB;clear hown hB
 go_wp2
 go_loopw [11] (fun i wr=>∃n:Nat,n<=16/\i=.int .i64 n/\wr.ownsRow w.heap.size 5 1 (.slice (some ⟨g,0,none⟩) 16 cap) 16 (zj 16 (qI n (fun j=>gb a j ^^^ gb b j) (gb a)))/\Below w.heap.size w wr) (fun i _=>16 - (intOf i).toNat)
 case atStart=>exact⟨0,by omega,rfl,by rw [Zh];exact Hown.out,HB.out⟩
 case round=>
  obtain⟨n,hn,rfl,hown,hB⟩:=hrel
  have Hown2:=iH hown;have HB2:=iH hB;clear hown hB
  by_cases hlt:n<16
  ·have hd:decide ((n:Int)<16)=true:=by simp;omega
   have c1:wr.cell? ⟨g,n,none⟩=some (U8 (gb a n)):=by rw [Hown2.out.cellAt n (by omega),xm _ _ _ hlt,X7 iL]
   have f1:=Hown2.out.frozenAt n
   have c2:wr.cell? ⟨bb,ob+n,none⟩=some (U8 (gb b n)):=(HB2.out.cell (p:=⟨bb,ob+n,none⟩) hbb).trans (HX.out n hlt)
   have n1:(n:Int)<16:=by omega
   go_wp2
   refine wp_region_still_tail 10 (by kernel_rfl) (by kernel_rfl) ?_
   simp only [List.take_succ_cons,List.take_zero,List.drop_succ_cons,List.drop_zero]
   repeat(refine wpStill_step (fun K hK=> ?_);go_simp;(try go_bits);refine hK _ ?_;clear hK K)
   refine wpStill_nil ?_
   go_wp2
   go_roundw
   case rel=>
    obtain⟨h1,h2⟩:=Hown2.out.stored n (U8 (gb a n ^^^ gb b n))
    have e:=j1j 16 n (fun j=>gb a j ^^^ gb b j) (gb a)
    rw [e]at h1
    exact⟨n+1,by omega,by go_num,h1,HB2.out.drew.setCell (by simpa using hg1) _⟩
   case measure=>simp [intOf]<;>omega
  ·have hn16:n=16:=by omega
   subst hn16
   go_wp2
   go_ret
   refine⟨_,rfl,?_,HB2.out⟩
   show World.ownsRow _ _ _ _ _ (qU a b).length _
   rw [k9]
   unfold qU
   rw [<-Q1]
   have e:zj 16 (qI 16 (fun j=>gb a j ^^^ gb b j) (gb a))=zj 16 fun j=>gb a j ^^^ gb b j:=qn fun j hj=>by unfold qI;rw [iT hj]
   rw [<-e]
   exact Hown2.out
def j3z(k iv b:List UInt8):Int:=if k.length=16/\iv.length=16 then(if b.length % 16=0 then 0 else 2)else 14
theorem zJ(A1 A2 A3:Option Addr)(n1 n2 n3 c1 c2 c3:Nat)(k iv b:List UInt8)(h1:n1=k.length)(h2:n2=iv.length)(h3:n3=b.length)(w:World):
 Calls Tryz.prog 106 #[.slice A1 n1 c1,.slice A2 n2 c2,.slice A3 n3 c3] w fun e w'=>e=.returned (.int .i64 (j3z k iv b))/\w'=w:=by
 have E:Hid (j3z k iv b=if n1=16/\n2=16 then(if n3 % 16=0 then 0 else 2)else 14):=by rw [h1,h2,h3]<;>rfl
 clear h1 h2 h3
 by_cases a:n1=16
 ·have a':((n1:Int) != 16)=false:=by simp;omega
  by_cases b':n2=16
  ·have b'':((n2:Int) != 16)=false:=by simp;omega
   by_cases d:n3 % 16=0
   ·have d':((n3:Int) % 16 != 0)=false:=by simp;omega
    have E2:Hid (j3z k iv b=0):=by have:=E.out;rwa [iT ⟨a,b'⟩,iT d]at this
    clear a b' d E
    go_enter Tryz.func106,Tryz.ntmps106
    go_wp2
    go_ret
    exact⟨by rw [E2.out]<;>rfl,rfl⟩
   ·have d':((n3:Int) % 16 != 0)=true:=by simp;omega
    have E2:Hid (j3z k iv b=2):=by have:=E.out;rwa [iT ⟨a,b'⟩,iF d]at this
    clear a b' d E
    go_enter Tryz.func106,Tryz.ntmps106
    go_wp2
    go_ret
    exact⟨by rw [E2.out]<;>rfl,rfl⟩
  ·have b'':((n2:Int) != 16)=true:=by simp;omega
   have E2:Hid (j3z k iv b=14):=by have:=E.out;rwa [iF (fun h=>b' h.2)]at this
   clear a b' E
   go_enter Tryz.func106,Tryz.ntmps106
   go_wp2
   go_ret
   exact⟨by rw [E2.out]<;>rfl,rfl⟩
 ·have a':((n1:Int) != 16)=true:=by simp;omega
  have E2:Hid (j3z k iv b=14):=by have:=E.out;rwa [iF (fun h=>a h.1)]at this
  clear a E
  go_enter Tryz.func106,Tryz.ntmps106
  go_wp2
  go_ret
  exact⟨by rw [E2.out]<;>rfl,rfl⟩
section
open Go.RowKit Go.Shelf
attribute [local go_sem] Oper.semAt_some
theorem Yt(F:Fence)(n:Nat)(hc:F.fn 97)(hro:F.round=none)(a:Option Addr)(len cap:Nat)(w:World):
 CallsIn F n Tryz.prog 97 #[.slice a len cap,.int .i64 16] w fun e w'=>e=.returned (.func (.func 144) #[] #[.pointer (some ⟨w.heap.size,0,none⟩),.pointer (some ⟨w.heap.size+1,0,none⟩)])/\
  w'=(w.alloc (.cells #[.slice a len cap] 22)).alloc (.cells #[.int .i64 16] 3):=by
 refine callsIn_of_wp Tryz.func97 rfl hc ?_ hro
 simp only [Tryz.ntmps97,List.size_toArray,List.length_cons,List.length_nil,Nat.reduceAdd,Nat.reduceSub,Array.replicate_succ,Array.replicate_zero,List.push_toArray,List.append_toArray,List.nil_append,List.cons_append]
 gi_wp2
 go_ret
 exact⟨rfl,rfl⟩
def qu(Bs Bn:Nat)(W W':World):Prop:=W'.heap[Bs]?=W.heap[Bs]?/\W'.heap[Bn]?=W.heap[Bn]?
theorem xF{Bs Bn:Nat}{A B C:World}(h:qu Bs Bn A B)(k:qu Bs Bn B C):qu Bs Bn A C:=⟨k.1.trans h.1,k.2.trans h.2⟩
theorem JE{Bs Bn:Nat}{w:World}(h1:Bs<w.heap.size)(h2:Bn<w.heap.size)(W:World)(l:Nat)(o o':Obj)(hl:w.heap.size<=l)(_:W.heap[l]?=some o)(_:o.isCells=false)(_:o.isWalk=false):qu Bs Bn W (W.putObj l o'):=
 ⟨World.putObj_heap_other (by omega),World.putObj_heap_other (by omega)⟩
theorem yM(Bs Bn:Nat)(W:World):qu Bs Bn W W:=⟨rfl,rfl⟩
theorem YZ(m k:Nat)(hk:k<m):(List.finRange m).take (k+1)=(List.finRange m).take k++ [⟨k,hk⟩]:=by
 rw [List.take_succ_eq_append_getElem (by simpa using hk)]
 simp
theorem Vx(F:Fence)(n:Nat)(hc1:F.fn 144)(hro:F.round=none)(hn:1<=n)(l Bs Bn n₀ b off m cap:Nat)(hcap:16*m<=cap)(hm:16*m<=140737488355328)(J Jx:List (Fin m)->World->Prop)(hJ:AbidesFrom n₀ J)
 (hY:∀pre (x:Fin m) W,J pre W->pre.length<m->YieldAt F (n - 1) Tryz.prog l #[.slice (some ⟨b,off+16*x.1,none⟩) 16 16] W fun e W'=>
   (e=.returned (.bool true)/\J (pre++ [x]) W'/\qu Bs Bn W W')\/(e=.returned (.bool false)/\Jx (pre++ [x]) W'))
 (W:World) (hBs:W.cell? ⟨Bs,0,none⟩=some (.slice (some ⟨b,off,none⟩) (16*m) cap)) (hBn:W.cell? ⟨Bn,0,none⟩=some (.int .i64 16)) (h0:J [] W):
 CallsIn F n Tryz.prog 144 #[.func (.yield l) #[] #[],.pointer (some ⟨Bs,0,none⟩),.pointer (some ⟨Bn,0,none⟩)] W fun e W'=>(∃v,e=.returned v)/\
  ((∃ys,ys=List.finRange m/\J ys W')\/(∃pre,True/\Jx pre W')):=by
 refine callsIn_of_wp Tryz.func144 rfl hc1 ?_ hro
 simp only [Tryz.ntmps144,List.size_toArray,List.length_cons,List.length_nil,Nat.reduceAdd,Nat.reduceSub,Array.replicate_succ,Array.replicate_zero,List.push_toArray,List.append_toArray,List.nil_append,List.cons_append]
 gi_wp2
 gi_loopw [4] (fun i wr=>∃k q:Nat,k<=m/\Hid (q=16*k)/\i=.int .i64 q/\J ((List.finRange m).take k) wr/\qu Bs Bn W wr)
  (fun i _=>16*m - (intOf i).toNat)
 case atStart=>exact⟨0,0,Nat.zero_le _,rfl,rfl,by simpa using h0,yM _ _ _⟩
 case round=>
  obtain⟨k,q,hk,hq,rfl,hJs,hnx⟩:=hrel
  have c1:=(World.cell?_of_block (a:=⟨Bs,0,none⟩) hnx.1).trans hBs
  have c2:=(World.cell?_of_block (a:=⟨Bn,0,none⟩) hnx.2).trans hBn
  by_cases hlt:k<m
  ·have hJd:J ((List.finRange m).take k) wr.drew:=hJ _ wr wr.drew none hJs ⟨rfl,rfl,rfl,Nat.le_refl _,fun _ _ _=>rfl⟩ (fun r e=>by cases e)
   obtain⟨fn,tmps,assign,body,hy,hR⟩:=hY _ ⟨k,hlt⟩ wr.drew hJd (by simp;omega)
   have hq1:=hq.out
   have hq2:(q:Int)+16<=16*m:=by omega
   have hq3:(q:Int)<16*m:=by omega
   have hq4:q<=cap:=by omega
   have hq5:q<=16*m:=by omega
   have hcq:¬cap=q:=by omega
   dsimp only at hy
   rw [<-hq1]at hy
   clear hq1
   have hd:decide ((q:Int)<16*m)=true:=by simp;omega
   have hmin:(if(((16*m - q:Nat):Int)<16)then((16*m - q:Nat):Int)else 16)=16:=by rw [iF (by omega)]
   have Hmin:=iH hmin;clear hmin
   gi_wp2
   gi_region
   all_goals rw [Hmin.out]
   all_goals
    gi_wp2
    refine hR.mono ?_
    rintro e W3 (⟨rfl,hJ3,hk3⟩|⟨rfl,hJx3⟩)
    ·have c3:=(World.cell?_of_block (w:=wr.drew) (a:=⟨Bs,0,none⟩) hk3.1).trans c1
     have c4:=(World.cell?_of_block (w:=wr.drew) (a:=⟨Bn,0,none⟩) hk3.2).trans c2
     gi_wp2
     go_roundw
     case rel=>
      exact⟨k+1,q+16,by omega,by have:=hq.out;unfold Hid;omega,by go_num,by rw [YZ m k hlt];exact hJ3,xF hnx hk3⟩
     case measure=>simp [intOf]<;>omega
    ·gi_wp2
     refine bodyPost_ret (results_none rfl _ _ _) rfl ?_
     exact⟨⟨_,rfl⟩,.inr ⟨_,trivial,hJx3⟩⟩
  ·have hkm:k=m:=by omega
   subst hkm
   have hd:decide ((q:Int)<16*k)=false:=by have:=hq.out;simp;omega
   have hge:¬(q:Int)<16*k:=by have:=hq.out;omega
   gi_wp2
   go_end0
   exact⟨⟨_,rfl⟩,.inl (by rw [List.take_of_length_le (by simp)]at hJs;exact hJs)⟩
section
variable(F:Fence)(n:Nat)(hc1:F.fn 144)(hro:F.round=none)
include F n hc1 hro
theorem zO(l Bs Bn cap:Nat)(a:Option Addr)(J:List (Fin 0)->World->Prop)(W:World)(hBs:W.cell? ⟨Bs,0,none⟩=some (.slice a 0 cap))(h0:J [] W):
 CallsIn F n Tryz.prog 144 #[.func (.yield l) #[] #[],.pointer (some ⟨Bs,0,none⟩),.pointer (some ⟨Bn,0,none⟩)] W fun e W'=>(∃v,e=.returned v)/\J [] W':=by
 refine callsIn_of_wp Tryz.func144 rfl hc1 ?_ hro
 simp only [Tryz.ntmps144,List.size_toArray,List.length_cons,List.length_nil,Nat.reduceAdd,Nat.reduceSub,Array.replicate_succ,Array.replicate_zero,List.push_toArray,List.append_toArray,List.nil_append,List.cons_append]
 gi_wp2
 gi_loopw [4] (fun i wr=>i=.int .i64 0/\J [] wr/\wr.cell? ⟨Bs,0,none⟩=some (.slice a 0 cap)) (fun _ _=>0)
 case atStart=>exact⟨rfl,h0,hBs⟩
 case round=>
  obtain⟨rfl,hJs,hc⟩:=hrel
  gi_wp2
  go_end0
  exact⟨⟨_,rfl⟩,hJs⟩
theorem Jw(hn:1<=n)(Bs Bn:Nat)(a:Option Addr)(m cap b off:Nat)(hcap:16*m<=cap)(ha:0<m->a=some ⟨b,off,none⟩)(hm:16*m<=140737488355328)(w:World)(hBs:Bs<w.heap.size)(hBn:Bn<w.heap.size)(hc:w.cell? ⟨Bs,0,none⟩=some (.slice a (16*m) cap))(hcn:w.cell? ⟨Bn,0,none⟩=some (.int .i64 16)):
 SeqStopsK F n Tryz.prog 144 #[.pointer (some ⟨Bs,0,none⟩),.pointer (some ⟨Bn,0,none⟩)] (fun x:Fin m=>#[.slice (some ⟨b,off+16*x.1,none⟩) 16 16]) (qu Bs Bn) (fun ys=>ys=List.finRange m) (fun _=>True) m w:=fun lo J Jx W hW hJ _ hY h0=>by
 have hc':=(hW.cell (p:=⟨Bs,0,none⟩) hBs).trans hc
 have hcn':=(hW.cell (p:=⟨Bn,0,none⟩) hBn).trans hcn
 rcases Nat.eq_zero_or_pos m with h|h
 ·subst h
  exact(zO F n hc1 hro lo Bs Bn cap a J W hc' h0).mono fun e W' ⟨he,hj⟩=>⟨he,.inl ⟨_,rfl,hj⟩⟩
 ·obtain rfl:=ha h
  exact Vx F n hc1 hro hn lo Bs Bn _ b off m cap hcap hm J Jx hJ hY W hc' hcn' h0
end
end
section
open Go.RowKit
def blk(b:List UInt8)(n:Nat):List UInt8:=(b.drop (16*n)).take 16
theorem zv{b:List UInt8}{m n:Nat}(hb:b.length=16*m)(hn:n<m):(blk b n).length=16:=by
 unfold blk;rw [List.length_take,List.length_drop];omega
theorem Qe(b:List UInt8)(n j:Nat)(hj:j<16):gb (blk b n) j=gb b (16*n+j):=by
 unfold gb blk
 rw [List.getD_eq_getElem?_getD,List.getD_eq_getElem?_getD,List.getElem?_take,iT hj,List.getElem?_drop]
def Jb(k l:List UInt8):List UInt8:=jC 16 (j77 (gb k) (gb l))
def Kx(k l:List UInt8):List UInt8:=jC 16 (j76 (gb k) (gb l))
theorem qy(k l:List UInt8):(Jb k l).length=16:=jr _ _
theorem J9(k l:List UInt8):(Kx k l).length=16:=jr _ _
def zh(k b:List UInt8)(s:List UInt8×List UInt8)(x:Nat):List UInt8×List UInt8:=(Jb k (qU (blk b x) s.1),s.2++Jb k (qU (blk b x) s.1))
def z6(k b:List UInt8)(s:List UInt8×List UInt8)(x:Nat):List UInt8×List UInt8:=(blk b x,s.2++qU (Kx k (blk b x)) s.1)
def xM(k iv b:List UInt8)(xs:List Nat):List UInt8×List UInt8:=xs.foldl (zh k b) (iv,[])
def xJ(k iv b:List UInt8)(xs:List Nat):List UInt8×List UInt8:=xs.foldl (z6 k b) (iv,[])
theorem qG(k iv b:List UInt8)(xs:List Nat)(x:Nat):xM k iv b (xs++ [x])=zh k b (xM k iv b xs) x:=by unfold xM;rw [List.foldl_append]<;>rfl
theorem qW(k iv b:List UInt8)(xs:List Nat)(x:Nat):xJ k iv b (xs++ [x])=z6 k b (xJ k iv b xs) x:=by unfold xJ;rw [List.foldl_append]<;>rfl
def qg(k iv b:List UInt8):List UInt8:=(xM k iv b (List.range (b.length / 16))).2
def zp(k iv b:List UInt8):List UInt8:=(xJ k iv b (List.range (b.length / 16))).2
theorem j0w(k b:List UInt8)(xs:List Nat):∀s:List UInt8×List UInt8,s.1.length=16->(xs.foldl (zh k b) s).1.length=16/\(xs.foldl (zh k b) s).2.length=s.2.length+16*xs.length:=by
 induction xs with
 |nil=>intro s h;exact⟨h,by simp⟩
 |cons x xs ih=>
  intro s h
  obtain⟨h1,h2⟩:=ih (zh k b s x) (qy _ _)
  refine⟨h1,?_⟩
  have e:(zh k b s x).2.length=s.2.length+16:=by show(s.2++Jb k _).length=_;rw [List.length_append,qy]
  rw [List.foldl_cons,h2,e,List.length_cons]
  omega
theorem QR{k iv b:List UInt8}(hiv:iv.length=16)(xs:List Nat):(xM k iv b xs).1.length=16/\(xM k iv b xs).2.length=16*xs.length:=by
 obtain⟨h1,h2⟩:=j0w k b xs (iv,[]) hiv
 exact⟨h1,by show _=_;unfold xM;rw [h2];simp⟩
theorem j09(k:List UInt8){b:List UInt8}{m:Nat}(hb:b.length=16*m)(xs:List Nat):∀s:List UInt8×List UInt8,s.1.length=16->(∀x∈xs,x<m)->(xs.foldl (z6 k b) s).1.length=16/\(xs.foldl (z6 k b) s).2.length=s.2.length+16*xs.length:=by
 induction xs with
 |nil=>intro s h _;exact⟨h,by simp⟩
 |cons x xs ih=>
  intro s h hx
  obtain⟨h1,h2⟩:=ih (z6 k b s x) (zv hb (hx x (by simp))) fun y hy=>hx y (by simp [hy])
  refine⟨h1,?_⟩
  have e:(z6 k b s x).2.length=s.2.length+16:=by show(s.2++qU _ _).length=_;rw [List.length_append,k9]
  rw [List.foldl_cons,h2,e,List.length_cons]
  omega
theorem QB{k iv b:List UInt8}{m:Nat}(hiv:iv.length=16)(hb:b.length=16*m)(xs:List Nat)(hx:∀x∈xs,x<m):(xJ k iv b xs).1.length=16/\(xJ k iv b xs).2.length=16*xs.length:=by
 obtain⟨h1,h2⟩:=j09 k hb xs (iv,[]) hiv hx
 exact⟨h1,by show _=_;unfold xJ;rw [h2];simp⟩
structure Only2 (b1 b2:Nat) (a w:World):Prop where
 os:w.os=a.os
 tape:w.tape=a.tape
 output:w.output=a.output
 size:a.heap.size<=w.heap.size
 block:∀i,i<a.heap.size->i≠b1->i≠b2->w.heap[i]?=a.heap[i]?
theorem Only2.refl(b1 b2:Nat)(a:World):Only2 b1 b2 a a:=⟨rfl,rfl,rfl,Nat.le_refl _,fun _ _ _ _=>rfl⟩
theorem Only2.drew{b1 b2:Nat}{a w:World}(h:Only2 b1 b2 a w):Only2 b1 b2 a w.drew:=⟨h.os,h.tape,h.output,h.size,h.block⟩
theorem Only2.grown{b1 b2:Nat}{a w w':World}{row:Option Nat}(h:Only2 b1 b2 a w)(hg:w.grownBy w' row)(hr:∀r,row=some r->a.heap.size<=r\/r=b1\/r=b2):Only2 b1 b2 a w':=
 ⟨hg.os.trans h.os,hg.tape.trans h.tape,hg.output.trans h.output,Nat.le_trans h.size hg.size,fun i hi h1 h2=>(hg.block i (iZ hi h.size) (fun e=>by
  rcases hr i e.symm with h3|h3|h3
  ·omega
  ·exact h1 h3
  ·exact h2 h3)).trans (h.block i hi h1 h2)⟩
theorem Only2.below{b1 b2:Nat}{a w w':World}(h:Only2 b1 b2 a w)(hb:Below w.heap.size w w'):Only2 b1 b2 a w':=
 ⟨hb.os.trans h.os,hb.tape.trans h.tape,hb.output.trans h.output,Nat.le_trans h.size hb.size,fun i hi h1 h2=>(hb.block i (iZ hi h.size)).trans (h.block i hi h1 h2)⟩
theorem Only2.box{b1 b2:Nat}{a w:World}(h:Only2 b1 b2 a w)(b:Nat)(hb:b=b1\/b=b2)(v:Value):Only2 b1 b2 a (w.setCell ⟨b,0,none⟩ v):=
 h.grown (grownBy_setCell' w b v) (fun r e=>by cases e;exact .inr hb)
theorem Only2.toBelow{b1 b2 B:Nat}{a w:World}(h:Only2 b1 b2 a w)(h1:B<=b1)(h2:B<=b2)(hB:B<=a.heap.size):Below B a w:=
 ⟨h.os,h.tape,h.output,h.size,fun i hi=>h.block i (by omega) (by omega) (by omega)⟩
theorem zV{β:Type}{b1 b2:Nat}{a:World}:OwnFrom a.heap.size (fun(_:β) W=>Only2 b1 b2 a W):=
 fun _ _ _ _ hs hg hr=>hs.grown hg fun r e=>.inl (hr r e).1
theorem BsS.keepC{w w':World}{S S':Nat->Prop}{v:Value}{l:List UInt8}(h:BsS w S v l)(hk:∀b,S b->(∃o:Obj,w.heap[b]?=some o/\o.isCells=true)->w'.heap[b]?=w.heap[b]?/\S' b):BsS w' S' v l:=by
 obtain⟨a,c,hv,h1,h2,h3,h4⟩:=h
 refine⟨a,c,hv,h1,h2,h3,fun hn=> ?_⟩
 obtain⟨b,off,ha,hb,hc⟩:=h4 hn
 have hk':=hk b hb (cells_of_cell (hc 0 hn))
 exact⟨b,off,ha,hk'.2,fun j hj=>(World.cell?_of_block (w:=w) hk'.1).trans (hc j hj)⟩
def j79(b1 b2:Nat)(ov:Value)(b:Nat):Prop:=b≠b1/\b≠b2/\ov.ownBlock≠some b
def j4h(b1 b2:Nat)(a:World)(s:List UInt8×List UInt8)(W:World):Prop:=
 Only2 b1 b2 a W/\∃iv ov,Boxed W b1 22 iv/\Boxed W b2 22 ov/\BsS W (j79 b1 b2 ov) iv s.1/\W.ownsRow a.heap.size 5 1 ov s.2.length (s.2.map U8)
theorem Xl{β:Type}(b1 b2:Nat)(a:World)(s:β->List UInt8×List UInt8)(h1:b1<a.heap.size)(h2:b2<a.heap.size):OwnFrom a.heap.size (fun(x:β) W=>j4h b1 b2 a (s x) W):=by
 rintro x W W' row ⟨h,iv,ov,hi,ho,hbs,hown⟩ hg hr
 have hne:∀b,b<a.heap.size->some b≠row:=fun b hb e=>by have:=(hr b e.symm).1;omega
 refine⟨zV (β:=β) x W W' row h hg hr,iv,ov,hi.kept hg (hne b1 h1),ho.kept hg (hne b2 h2),hbs.keepC fun b hb ⟨o,ho',hc⟩=>⟨?_,hb⟩,hown.kept hg ?_⟩
 ·refine hg.block b (iG ho') fun e=> ?_
  obtain⟨_,o',hq,hq'⟩:=hr b e.symm
  rw [ho']at hq;cases hq;rw [hc]at hq';cases hq'
 ·rcases hown.2 with ⟨rfl,_⟩|⟨g,cap,cur,rfl,_,hgb,_⟩
  ·exact .inl rfl
  ·refine .inr fun e'=> ?_
   obtain⟨_,o,ho',hc⟩:=hr g (by simpa [Value.ownBlock]using e'.symm)
   rw [hgb]at ho';cases ho';cases hc
open Go.RowKit
theorem xq{F:Fence}{nf:Nat}{P:Program}(w:World){ops:Array Oper}{rest:List Oper}{o:Oper}{a:Act}{Q:Exit->Act->World->Prop}(hgd:o.guard=none)(s x:Operand)(t:TypeId)(hop:o.op=.call {callee:=.builtin .append,args:=#[s,x],argTypes:=#[t,t]})(base:Nat)(e:TypeId)(z:Value)(bytes:Nat)(ht:P.underlying t=some (.slice e))(hinfo:(P.info? e).map (fun i=>(i.zero,i.size,i.bytes))=some (some z,1,bytes))(hzs:z.cells.size=1)(hby:0<bytes)(v:Value)(n:Nat)(xs:List Value)(hs:a.eval s=v)(hown:w.ownsRow base e 1 v n xs)(A:Option Addr)(m c:Nat)(news:List Value)(hx:a.eval x=.slice A m c)(hsrc:SrcAt w A m news)(hbytes:(n+m)*bytes<=140737488355328)(hbase:base<=w.heap.size)(h:∀v' w',w'.ownsRow base e 1 v' (n+m) (xs++news)->w.grownBy w' v.ownBlock->(v'.ownBlock=v.ownBlock\/v'.ownBlock=some w.heap.size)->w'.ownsRow base e 1 v n xs->wpListIn F nf P ops Q rest (a.put o.dst v') w'):wpListIn F nf P ops Q (o :: rest) a w:=by
 refine wpListIn_plain hgd fun K hK'=> ?_
 obtain⟨v',w',hrun,h2,h3,h4,h5⟩:=zE (P:=P) w base t o.type e z bytes ht hinfo hzs hby v n xs hown A m c news hsrc hbytes hbase
 unfold Oper.wpIn
 refine⟨?_,?_⟩
 ·simp [Oper.about,hop,resolve,Target.leads,Sem.run_pure]
 ·rw [Oper.semAt_plain F _ _ (by rw [hop];intro c hc';cases hc')]
  simp [execOp,hop,resolve,invoke,builtin,hs,hx,hrun,Result.andThen]
  exact hK' _ _ (h v' w' h2 h3 h4 h5)
theorem CipherAt.keepBut{w w':World}{B b1:Nat}{t:TypeId}{p:Value}{key:Nat->UInt8}{A:Option Addr}{n c:Nat}(h:CipherAt w B p key)(hb1:Boxed w b1 t (.slice A n c))(hk:∀b,b<B->b≠b1->w'.heap[b]?=w.heap[b]?)(hB:B<=w'.heap.size):CipherAt w' w'.heap.size p key:=by
 obtain⟨tb,cb,hp,h1,h2,h3,h4,h5⟩:=h
 have n1:tb≠b1:=by
  intro e
  have h6:=h4 0 (by omega)
  rw [e]at h6
  rw [Nat.add_zero,hb1.cell]at h6
  cases h6
 have n2:cb≠b1:=by
  intro e
  rw [e,hb1.cell]at h3
  cases h3
 exact⟨tb,cb,hp,by omega,by omega,(World.cell?_of_block (a:=⟨cb,0,none⟩) (hk cb h2 n2)).trans h3,h4.of_block (hk tb h1 n1),h5.of_block (hk cb h2 n2)⟩
theorem Qk(va vb:Value)(a b:List UInt8)(ha:a.length=16)(hb:b.length=16)(w:World)(hva:Bs w w.heap.size va a)(hvb:Bs w w.heap.size vb b):
 Calls Tryz.prog 109 #[va,vb] w fun e w'=>∃v',e=.returned v'/\BsS w' (New w w') v' (qU a b)/\Below w.heap.size w w':=
 (Xp va vb a b ha hb w hva hvb).mono fun _ _ ⟨v',h1,h2,h3⟩=>⟨v',h1,BsS.of_own h2 (by rw [k9];omega),h3⟩
section
variable(p v:Value)(k l:List UInt8)(hl:l.length=16)(w:World)(hp:CipherAt w w.heap.size p (gb k))(hv:Bs w w.heap.size v l)
include p v k l hl w hp hv
theorem j8a:
 Calls Tryz.prog 108 #[p,v] w fun e w'=>∃v',e=.returned v'/\BsS w' (New w w') v' (Jb k l)/\Below w.heap.size w w':=JC p v (gb k) l hl w hp hv
theorem j89:
 Calls Tryz.prog 112 #[p,v] w fun e w'=>∃v',e=.returned v'/\BsS w' (New w w') v' (Kx k l)/\Below w.heap.size w w':=Xs p v (gb k) l hl w hp hv
end
theorem ql{W W':World}(h:Below W.heap.size W W'):KeepsOthers W W':=
 ⟨h.size,fun k o hk _=>(h.block k (iG hk)).trans hk⟩
theorem Uj{b1 b2:Nat}{a W W2:World}{n:Nat}{xs:List Value}{iv ov v2:Value}{l2:List UInt8}(h12:b1≠b2)(hb1:b1<a.heap.size)(hb2:b2<a.heap.size)(hO:Only2 b1 b2 a W)(hI:Boxed W b1 22 iv)(hOv:Boxed W b2 22 ov)(hown:W.ownsRow a.heap.size 5 1 ov n xs)(hB:Below W.heap.size W W2)(hv2:BsS W2 (fun b=>W.heap.size<=b/\b<W2.heap.size) v2 l2):
 Boxed W2 b1 22 iv/\Boxed (W2.setCell ⟨b1,0,none⟩ v2) b1 22 v2/\Boxed (W2.setCell ⟨b1,0,none⟩ v2) b2 22 ov/\(W2.setCell ⟨b1,0,none⟩ v2).ownsRow a.heap.size 5 1 ov n xs/\
  BsS (W2.setCell ⟨b1,0,none⟩ v2) (fun b=>W.heap.size<=b/\b<W2.heap.size) v2 l2/\Only2 b1 b2 a (W2.setCell ⟨b1,0,none⟩ v2)/\KeepsOthers W (W2.setCell ⟨b1,0,none⟩ v2):=by
 have hs:=hO.size
 have hI2:Boxed W2 b1 22 iv:=(hB.block b1 (by omega)).trans hI
 have hO2:Boxed W2 b2 22 ov:=(hB.block b2 (by omega)).trans hOv
 have hg:=grownBy_setCell' W2 b1 v2
 refine⟨hI2,hI2.set v2,hO2.kept hg (by intro e;injection e;omega),(kT hown hB).kept hg (.inr fun e=>by have:=(hown.lt b1 e).1;omega),hv2.keep fun b hb _=>⟨hg.block b hb.2 (by intro e;injection e;omega),hb⟩,(hO.below hB).box b1 (.inl rfl) v2,(ql hB).trans (KeepsOthers.setCell _ _ _)⟩
theorem Vt{b1 b2:Nat}{a W3 W4:World}{n m:Nat}{xs ys:List Value}{ov v2 v4:Value}{l2:List UInt8}(h12:b1≠b2)(hb1:b1<a.heap.size)(hb2:b2<a.heap.size)(hO:Only2 b1 b2 a W3)(hI:Boxed W3 b1 22 v2)(hOv:Boxed W3 b2 22 ov)(hown:W3.ownsRow a.heap.size 5 1 ov n xs)(hv2:BsS W3 (fun b=>b1≠b/\b2≠b/\ov.ownBlock≠some b/\b<W3.heap.size) v2 l2)(hown4:W4.ownsRow a.heap.size 5 1 v4 m ys)(hg4:W3.grownBy W4 ov.ownBlock)(hat4:v4.ownBlock=ov.ownBlock\/v4.ownBlock=some W3.heap.size):
 Boxed W4 b2 22 ov/\Only2 b1 b2 a (W4.setCell ⟨b2,0,none⟩ v4)/\Boxed (W4.setCell ⟨b2,0,none⟩ v4) b1 22 v2/\Boxed (W4.setCell ⟨b2,0,none⟩ v4) b2 22 v4/\BsS (W4.setCell ⟨b2,0,none⟩ v4) (j79 b1 b2 v4) v2 l2/\
  (W4.setCell ⟨b2,0,none⟩ v4).ownsRow a.heap.size 5 1 v4 m ys/\KeepsOthers W3 (W4.setCell ⟨b2,0,none⟩ v4):=by
 have hs:=hO.size
 have ne1:some b1≠ov.ownBlock:=fun e=>by have:=(hown.lt b1 e.symm).1;omega
 have ne2:some b2≠ov.ownBlock:=fun e=>by have:=(hown.lt b2 e.symm).1;omega
 have hO4:Boxed W4 b2 22 ov:=hOv.kept hg4 ne2
 have hI4:Boxed W4 b1 22 v2:=hI.kept hg4 ne1
 have hg:=grownBy_setCell' W4 b2 v4
 refine⟨hO4,(hO.grown hg4 fun r e=>.inl (hown.lt r e).1).box b2 (.inr rfl) v4,hI4.kept hg (by intro e;injection e;omega),hO4.set v4,?_,hown4.kept hg (.inr fun e=>by have:=(hown4.lt b2 e).1;omega),?_⟩
 ·refine BsS.keep hv2 fun b hb hlt=>⟨?_,Ne.symm hb.1,Ne.symm hb.2.1,?_⟩
  ·exact(hg.block b (by have:=hg4.size;omega) (by intro e;injection e with e;exact hb.2.1 e.symm)).trans (hg4.block b hlt (fun e=>hb.2.2.1 e.symm))
  ·rcases hat4 with e|e
   ·rw [e];exact hb.2.2.1
   ·rw [e];intro h;injection h with h;omega
 ·refine(KeepsOthers.of_grownBy hg4 fun j _ ej hj=> ?_).trans (KeepsOthers.setCell _ _ _)
  rcases hown.2 with ⟨rfl,_⟩|⟨g,cap,cur,rfl,_,hgb,_⟩
  ·simp [Value.ownBlock]at ej
  ·obtain rfl:g=j:=by simpa [Value.ownBlock]using ej
   rw [hgb]at hj;cases hj;rfl
theorem xh{b1 b2 x y:Nat}{a W W':World}(h:Only2 b1 b2 a W)(h':Only2 b1 b2 a W')(hx:x<a.heap.size)(hy:y<a.heap.size)(x1:x≠b1)(x2:x≠b2)(y1:y≠b1)(y2:y≠b2):qu x y W W':=
 ⟨(h'.block x hx x1 x2).trans (h.block x hx x1 x2).symm,(h'.block y hy y1 y2).trans (h.block y hy y1 y2).symm⟩
def xU(F:Fence)(nf:Nat)(P:Program)(o:Oper)(a:Act)(w:World)(K:Act->World->Prop)(Q:Exit->Act->World->Prop):Prop:=Oper.wpIn F nf P o a w K Q
section
variable{F:Fence}{nf:Nat}{P:Program}
include F nf P
theorem Q8{d:Option Tmp}{s x:Operand}{t1 t2 ty:TypeId}{ps:String}{af:Array Edge}{g:Option (Nat×Bool)}{a:Act}{w:World}{K:Act->World->Prop}{Q:Exit->Act->World->Prop}:
 Oper.wpIn F nf P {dst:=d,op:=Op.call {callee:=Callee.builtin Builtin.append,args:=#[s,x],argTypes:=#[t1,t2]},type:=ty,pos:=ps,after:=af,guard:=g} a w K Q=
  xU F nf P {dst:=d,op:=Op.call {callee:=Callee.builtin Builtin.append,args:=#[s,x],argTypes:=#[t1,t2]},type:=ty,pos:=ps,after:=af,guard:=g} a w K Q:=rfl
theorem Zl{o:Oper}{l:List Oper}{h:0<(o :: l).toArray.size}{a:Act}{w:World}{K:Act->World->Prop}{Q:Exit->Act->World->Prop}:Oper.wpIn F nf P ((o :: l).toArray[0]'h) a w K Q=Oper.wpIn F nf P o a w K Q:=rfl
theorem Zk{o:Oper}{l:List Oper}{n:Nat}{h:n+1<(o :: l).toArray.size}{a:Act}{w:World}{K:Act->World->Prop}{Q:Exit->Act->World->Prop}:Oper.wpIn F nf P ((o :: l).toArray[n+1]'h) a w K Q=Oper.wpIn F nf P (l.toArray[n]'(by simpa using h)) a w K Q:=rfl
theorem Kf(w:World){o:Oper}{a:Act}{K:Act->World->Prop}{Q:Exit->Act->World->Prop}(s x:Operand)(t:TypeId)(hop:o.op=.call {callee:=.builtin .append,args:=#[s,x],argTypes:=#[t,t]})(base:Nat)(e:TypeId)(z:Value)(bytes:Nat)(ht:P.underlying t=some (.slice e))(hinfo:(P.info? e).map (fun i=>(i.zero,i.size,i.bytes))=some (some z,1,bytes))(hzs:z.cells.size=1)(hby:0<bytes)(v:Value)(n:Nat)(xs:List Value)(hs:a.eval s=v)(hown:w.ownsRow base e 1 v n xs)(A:Option Addr)(m c:Nat)(news:List Value)(hx:a.eval x=.slice A m c)(hsrc:SrcAt w A m news)(hbytes:(n+m)*bytes<=140737488355328)(hbase:base<=w.heap.size)(h:∀v' w',w'.ownsRow base e 1 v' (n+m) (xs++news)->w.grownBy w' v.ownBlock->(v'.ownBlock=v.ownBlock\/v'.ownBlock=some w.heap.size)->K (a.put o.dst v') w'):xU F nf P o a w K Q:=by
 obtain⟨v',w',hrun,h2,h3,h4,h5⟩:=zE (P:=P) w base t o.type e z bytes ht hinfo hzs hby v n xs hown A m c news hsrc hbytes hbase
 unfold xU Oper.wpIn
 refine⟨?_,?_⟩
 ·simp [Oper.about,hop,resolve,Target.leads,Sem.run_pure]
 ·rw [Oper.semAt_plain F _ _ (by rw [hop];intro c hc';cases hc')]
  simp [execOp,hop,resolve,invoke,builtin,hs,hx,hrun,Result.andThen]
  exact h v' w' h2 h3 h4
end
theorem Ui{b1 b2:Nat}{a W W2 W4:World}{n m:Nat}{xs ys:List Value}{iv ov xv v4:Value}{lx:List UInt8}(h12:b1≠b2)(hb1:b1<a.heap.size)(hb2:b2<a.heap.size)(hO:Only2 b1 b2 a W)(hI:Boxed W b1 22 iv)(hOv:Boxed W b2 22 ov)(hown:W.ownsRow a.heap.size 5 1 ov n xs)(hB:Below W.heap.size W W2)(hx:BsS W (fun b=>b≠b1/\b≠b2/\b<a.heap.size) xv lx)(hown4:W4.ownsRow a.heap.size 5 1 v4 m ys)(hg4:W2.grownBy W4 ov.ownBlock)(hat4:v4.ownBlock=ov.ownBlock\/v4.ownBlock=some W2.heap.size):
 Boxed W4 b2 22 ov/\Boxed (W4.setCell ⟨b2,0,none⟩ v4) b1 22 iv/\Only2 b1 b2 a ((W4.setCell ⟨b2,0,none⟩ v4).setCell ⟨b1,0,none⟩ xv)/\Boxed ((W4.setCell ⟨b2,0,none⟩ v4).setCell ⟨b1,0,none⟩ xv) b1 22 xv/\
  Boxed ((W4.setCell ⟨b2,0,none⟩ v4).setCell ⟨b1,0,none⟩ xv) b2 22 v4/\BsS ((W4.setCell ⟨b2,0,none⟩ v4).setCell ⟨b1,0,none⟩ xv) (j79 b1 b2 v4) xv lx/\
  ((W4.setCell ⟨b2,0,none⟩ v4).setCell ⟨b1,0,none⟩ xv).ownsRow a.heap.size 5 1 v4 m ys/\KeepsOthers W ((W4.setCell ⟨b2,0,none⟩ v4).setCell ⟨b1,0,none⟩ xv):=by
 have hs:=hO.size
 have hs2:=hB.size
 have ne1:some b1≠ov.ownBlock:=fun e=>by have:=(hown.lt b1 e.symm).1;omega
 have ne2:some b2≠ov.ownBlock:=fun e=>by have:=(hown.lt b2 e.symm).1;omega
 have hO4:Boxed W4 b2 22 ov:=Boxed.kept ((hB.block b2 (by omega)).trans hOv:Boxed W2 b2 22 ov) hg4 ne2
 have hI4:Boxed W4 b1 22 iv:=Boxed.kept ((hB.block b1 (by omega)).trans hI:Boxed W2 b1 22 iv) hg4 ne1
 have hg:=grownBy_setCell' W4 b2 v4
 have hg':=grownBy_setCell' (W4.setCell ⟨b2,0,none⟩ v4) b1 xv
 have hI5:Boxed (W4.setCell ⟨b2,0,none⟩ v4) b1 22 iv:=hI4.kept hg (by intro e;injection e;omega)
 refine⟨hO4,hI5,(((hO.below hB).grown hg4 fun r e=>.inl (hown.lt r e).1).box b2 (.inr rfl) v4).box b1 (.inl rfl) xv,hI5.set xv,(hO4.set v4).kept hg' (by intro e;injection e;omega),?_,
  (hown4.kept hg (.inr fun e=>by have:=(hown4.lt b2 e).1;omega)).kept hg' (.inr fun e=>by have:=(hown4.lt b1 e).1;omega),?_⟩
 ·refine BsS.keep hx fun b hb hlt=>⟨?_,hb.1,hb.2.1,?_⟩
  ·have h4:W4.heap[b]?=W.heap[b]? :=(hg4.block b (by omega) (fun e=>by have:=(hown.lt b e.symm).1;have:=hb.2.2;omega)).trans (hB.block b hlt)
   have h5:=hg.block b (by have:=hg4.size;omega) (by intro e;injection e with e;exact hb.2.1 e)
   exact(hg'.block b (by have:=hg4.size;have:=hg.size;omega) (by intro e;injection e with e;exact hb.1 e)).trans (h5.trans h4)
  ·intro e
   have:=(hown4.lt b e).1
   have:=hb.2.2
   omega
 ·refine((ql hB).trans (KeepsOthers.of_grownBy hg4 fun j o ej hj=> ?_)).trans ((KeepsOthers.setCell _ _ _).trans (KeepsOthers.setCell _ _ _))
  rcases(kT hown hB).2 with ⟨rfl,_⟩|⟨g,cap,cur,rfl,_,hgb,_⟩
  ·simp [Value.ownBlock]at ej
  ·obtain rfl:g=j:=by simpa [Value.ownBlock]using ej
   rw [hgb]at hj;cases hj;rfl
attribute [irreducible] xU
attribute [irreducible] Jb Kx
end
end Go.Proofs.YtalmmiojbmpmiaaGreatDoor
