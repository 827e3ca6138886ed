/- make([]byte, 16); double, both sides: the shift of a block to the left by one bit; The walks of Pad and Unpad of both sides; Cuts of slices of bytes. No prog... -/
import Derived.Deep.CutRange
import Derived.Test.YtalmmiojbmpmiaaGreatDoorPBc
import Derived.Test.YtalmmiojbmpmiaaGreatDoorPBd
import Derived.Test.YtalmmiojbmpmiaaGreatDoorPz
set_option linter.all false
set_option maxRecDepth 100000
set_option maxHeartbeats 2000000
namespace Go.Proofs.YtalmmiojbmpmiaaGreatDoor
open Go.RowKit
section
open Go.RowKit
def wz(w:World):World:=w.alloc (.cells (kO 16 fun _=>0) 5)
theorem yN(w:World):(Instr.makeSlice 22 (.int .i64 16) (.int .i64 16)).run Tryz.prog w=.ok (.slice (some ⟨w.heap.size,0,none⟩) 16 16) (wz w):=by kernel_rfl
theorem j71(w:World):BsS (wz w) (New w (wz w)) (.slice (some ⟨w.heap.size,0,none⟩) 16 16) (List.replicate 16 0):=by
 have hr:(w.alloc (.cells (kO 16 fun _=>0) 5)).rowIs w.heap.size 5 16 (fun j=>U8 ((fun _=>0) j)):=jR _ _ _ _
 exact BsS.of_row (S:=New w (wz w)) hr (by omega) ⟨Nat.le_refl _,by unfold wz;simp⟩
theorem jm(w:World):Below w.heap.size w (wz w):=iA
def Z16:List UInt8:=List.replicate 16 0
theorem xx:Z16.length=16:=rfl
theorem yh(w:World):BsS (wz w) (New w (wz w)) (.slice (some ⟨w.heap.size,0,none⟩) 16 16) Z16:=j71 w
attribute [irreducible] wz Z16
end
def Vd(f:Nat->UInt8)(j:Nat):UInt8:=f j*2 ||| if j+1<16 then f (j+1) / 128 else 0
def j6h(f:Nat->UInt8)(j:Nat):UInt8:=if j=15/\128<=bv (f 0)then Vd f j ^^^ 135 else Vd f j
def j45(l:List UInt8):List UInt8:=jC 16 (j6h (gb l))
theorem Yw(l:List UInt8):(j45 l).length=16:=jr _ _
def Ut(m:Nat)(new:Nat->UInt8)(j:Nat):UInt8:=if m<=j then new j else 0
theorem Z4{w:World}{g N n:Nat}{t:TypeId}{new:Nat->UInt8}{v:UInt8}(h:w.rowIs g t N (fun j=>U8 (Ut (n+1) new j)))(hv:v=new n):
 (w.setCell ⟨g,n,none⟩ (U8 v)).rowIs g t N (fun j=>U8 (Ut n new j)):=
 (h.set n _).congr fun j _=>by
   unfold Ut
   by_cases e:j=n
   ·subst e;simp [hv]
   ·by_cases e2:n<=j
    ·simp [e,e2,show n+1<=j by omega]
    ·simp [e,e2,show ¬n+1<=j by omega]
def j4m(f:Nat->UInt8)(m:Nat):UInt8:=if m<16 then f m / 128 else 0
theorem j4g(w:World):(wz w).rowIs w.heap.size 5 16 (fun j=>U8 ((fun _=>0) j)):=by unfold wz;exact jR _ _ _ _
theorem YD(b:UInt8):(b / 128==1)=decide (128<=bv b):=by
 have h:(b / 128).toNat=b.toNat / 128:=by rw [UInt8.toNat_div]<;>rfl
 have h2:=b.toNat_lt
 by_cases e:128<=bv b
 ·have:b / 128=1:=UInt8.toNat_inj.1 (by rw [h];unfold bv at e;show _=1;omega)
  rw [this];simp [e]
 ·have:¬b / 128=1:=fun hh=>by rw [hh]at h;unfold bv at e;have:(1:UInt8).toNat=1:=rfl;omega
  simp [e,this]
section
variable{w:World}{g:Nat}{t:TypeId}{f:Nat->UInt8}(h:w.rowIs g t 16 (fun j=>U8 (Vd f j)))
include w g t f h
theorem j0q(hb:¬128<=bv (f 0)):w.rowIs g t 16 (fun j=>U8 (j6h f j)):=
 h.congr fun j _=>by unfold j6h;rw [iF (fun e=>hb e.2)]
theorem JZ(hb:128<=bv (f 0)):(w.setCell ⟨g,15,none⟩ (U8 (Vd f 15 ^^^ 135))).rowIs g t 16 (fun j=>U8 (j6h f j)):=
 (h.set 15 _).congr fun j _=>by
   unfold j6h
   by_cases e:j=15
   ·subst e;rw [iT rfl,iT ⟨rfl,hb⟩]
   ·rw [iF e,iF (fun x=>e x.1)]
end
theorem JB(v:Value)(l:List UInt8)(hl:l.length=16)(w:World)(hv:Bs w w.heap.size v l):
 Calls Tryz.prog 191 #[v] w fun e w'=>∃v',e=.returned v'/\BsS w' (New w w') v' (j45 l)/\Below w.heap.size w w':=by
 obtain⟨A0,n,c,rfl⟩:=hv.form
 obtain⟨a,c0,e0,hc,_,_,hcell⟩:=hv
 injection e0 with e1 e2 e3
 subst e1 e3
 rw [hl]at e2
 subst e2
 obtain⟨bb,ob,rfl,hbb,hx⟩:=hcell (by omega)
 rw [hl]at hx
 have HX:=iH hx;have HC:=iH hc;have HL:=iH hl;have Hm:=yN
 clear hx hcell hc hl
 go_enter Tryz.func191,Tryz.ntmps191
 go_wp2_with fail
 go_loopw [5,4] (fun i cr wr=>∃m:Nat,m<=16/\i=.int .i64 ((m:Int) - 1)/\cr=U8 (j4m (gb l) m)/\wr.rowIs w.heap.size 5 16 (fun j=>U8 (Ut m (Vd (gb l)) j))/\Below w.heap.size w wr) (fun i _ _=>(intOf i+1).toNat)
 case atStart=>exact⟨16,by omega,rfl,rfl,(j4g w).congr fun j hj=>by unfold Ut;rw [iF (by omega)],jm w⟩
 case round=>
  obtain⟨m,hm,hi,rfl,hr,hb⟩:=hrel
  cases m with
  |zero=>
   have hd:decide ((-1:Int)>=0)=false:=by decide
   have hi:_=Value.int .i64 (-1):=hi
   subst hi
   have hr0:=hr.congr (g:=fun j=>U8 (Vd (gb l) j)) fun j _=>by unfold Ut;rw [iT (by omega)]
   have c1:wr.cell? ⟨w.heap.size,15,none⟩=some (U8 (Vd (gb l) 15)):=hr0.cell (by omega)
   have f1:=hr0.frozen 15
   have hr1:=iH hr0;have hb1:=iH hb;clear hr hr0 hb
   by_cases hh:128<=bv (gb l 0)
   ·have hq:(j4m (gb l) 0==1)=true:=by unfold j4m;rw [iT (by omega),YD];simp [hh]
    have H:=iH hh;clear hh
    go_wp2_with fail
    go_ret
    have hr2:=JZ hr1.out H.out
    refine⟨_,rfl,BsS.of_row (S:=New w _) hr2 (by omega) ⟨Nat.le_refl _,by have:=hr2.lt;exact this⟩,hb1.out.setCell (by simp) _⟩
   ·have hq:(j4m (gb l) 0==1)=false:=by unfold j4m;rw [iT (by omega),YD];simp [hh]
    have H:=iH hh;clear hh
    go_wp2_with fail
    go_ret
    have hr2:=j0q hr1.out (by have:=H.out;omega)
    refine⟨_,rfl,BsS.of_row (S:=New w _) hr2 (by omega) ⟨Nat.le_refl _,by have:=hr2.lt;exact this⟩,hb1.out⟩
  |succ k=>
   rw [show((k+1:Nat):Int) - 1=k by omega]at hi
   subst hi
   have hr1:=iH hr;have hb1:=iH hb;clear hr hb
   have c1:wr.cell? ⟨bb,ob+k,none⟩=some (U8 (gb l k)):=(hb1.out.cell (p:=⟨bb,ob+k,none⟩) hbb).trans (HX.out k (by omega))
   have f1:=hr1.out.frozen k
   have c3:=hr1.out.cell (i:=k) (by omega)
   have hn:¬w.heap.size=bb:=by omega
   have hk:(k:Int)<16:=by omega
   have hd:decide ((k:Int)>=0)=true:=by simp
   have c2:(wr.setCell ⟨w.heap.size,k,none⟩ (.int .u8 (bv (gb l k*2 ||| j4m (gb l) (k+1))))).cell? ⟨bb,ob+k,none⟩=some (U8 (gb l k)):=((hb1.out.setCell (p:=⟨w.heap.size,k,none⟩) (by simp) _).cell (p:=⟨bb,ob+k,none⟩) hbb).trans (HX.out k (by omega))
   go_wp2_with fail
   go_roundw
   case rel=>
    refine⟨k,by omega,by go_num,?_,Z4 hr1.out ?_,hb1.out.setCell (by simp) _⟩
    ·unfold j4m;rw [iT (by omega)]
    ·rfl
   case measure=>simp [intOf]<;>omega
theorem QO{w:World}{g N n:Nat}{t:TypeId}{new old:Nat->UInt8}{v u:UInt8}(h:w.rowIs g t N (fun j=>U8 (qI n new old j)))(hv:v=new n):
 ((w.setCell ⟨g,n,none⟩ (U8 u)).setCell ⟨g,n,none⟩ (U8 v)).rowIs g t N (fun j=>U8 (qI (n+1) new old j)):=
 ((h.set n _).set n _).congr fun j _=>by
   unfold qI
   by_cases e:j=n
   ·subst e;simp [hv]
   ·by_cases e2:j<n
    ·simp [e,e2,show j<n+1 by omega]
    ·simp [e,e2,show ¬j<n+1 by omega]
theorem JS(v:Value)(l:List UInt8)(hl:l.length=16)(w:World)(hv:Bs w w.heap.size v l):
 Calls Tryz.prog 182 #[v] w fun e w'=>∃v',e=.returned v'/\BsS w' (New w w') v' (j45 l)/\Below w.heap.size w w':=by
 obtain⟨A0,n,c,rfl⟩:=hv.form
 obtain⟨a,c0,e0,hc,_,_,hcell⟩:=hv
 injection e0 with e1 e2 e3
 subst e1 e3
 rw [hl]at e2
 subst e2
 obtain⟨bb,ob,rfl,hbb,hx⟩:=hcell (by omega)
 rw [hl]at hx
 have HX:=iH hx;have HC:=iH hc;have HL:=iH hl;have Hm:=yN
 clear hx hcell hc hl
 go_enter Tryz.func182,Tryz.ntmps182
 go_wp2_with fail
 go_loopw [4] (fun i wr=>∃m:Nat,m<=16/\i=.int .i64 (m:Int)/\wr.rowIs w.heap.size 5 16 (fun j=>U8 (qI m (Vd (gb l)) (fun _=>0) j))/\Below w.heap.size w wr) (fun i _=>16 - (intOf i).toNat)
 case atStart=>exact⟨0,by omega,rfl,jy (j4g w) _,jm w⟩
 case round=>
  obtain⟨k,hm,rfl,hr,hb⟩:=hrel
  by_cases hk16:k<16
  ·have c3:=jJ hr hk16
   have c1:wr.cell? ⟨bb,ob+k,none⟩=some (U8 (gb l k)):=(hb.cell (p:=⟨bb,ob+k,none⟩) hbb).trans (HX.out k (by omega))
   have f1:=hr.frozen k
   have hn:¬w.heap.size=bb:=by omega
   have hd:decide ((k:Int)<16)=true:=by simp;omega
   by_cases h15:k<15
   ·have hd2:decide ((k:Int)<15)=true:=by simp;omega
    have r2:=hr.set k (U8 (gb l k*2))
    have b2:=hb.setCell (p:=⟨w.heap.size,k,none⟩) (by simp) (U8 (gb l k*2))
    have d1:(wr.setCell ⟨w.heap.size,k,none⟩ (U8 (gb l k*2))).cell? ⟨bb,ob+(k+1),none⟩=some (U8 (gb l (k+1))):=(b2.cell (p:=⟨bb,ob+(k+1),none⟩) hbb).trans (HX.out (k+1) (by omega))
    have d2:(wr.setCell ⟨w.heap.size,k,none⟩ (U8 (gb l k*2))).cell? ⟨w.heap.size,k,none⟩=some (U8 (gb l k*2)):=by have:=r2.cell (i:=k) (by omega);simpa using this
    have d3:=r2.frozen k
    have k1:(k:Int)+1<16:=by omega
    have k2:((k:Int)+1).toNat=k+1:=by omega
    have hr1:=iH hr;have hb1:=iH hb;clear hr hb r2 b2
    go_wp2_with fail
    go_region
    go_wp2_with fail
    go_roundw
    case rel=>
     refine⟨k+1,by omega,by go_num,(QO hr1.out ?_).drew,((hb1.out.setCell (by simp) _).setCell (by simp) _).drew⟩
     unfold Vd;rw [iT (by omega)]
    case measure=>simp [intOf]<;>omega
   ·have hd2:decide ((k:Int)<15)=false:=by simp;omega
    have hr1:=iH hr;have hb1:=iH hb;clear hr hb
    go_wp2_with fail
    go_roundw
    case rel=>
     refine⟨k+1,by omega,by go_num,jE hr1.out ?_,hb1.out.setCell (by simp) _⟩
     unfold Vd;rw [iF (by omega)];simp
    case measure=>simp [intOf]<;>omega
  ·have hd:decide ((k:Int)<16)=false:=by simp;omega
   have hr0:=jx hr (by omega)
   have c1:wr.cell? ⟨w.heap.size,15,none⟩=some (U8 (Vd (gb l) 15)):=hr0.cell (by omega)
   have c2:wr.cell? ⟨bb,ob,none⟩=some (U8 (gb l 0)):=(hb.cell (p:=⟨bb,ob,none⟩) hbb).trans (HX.out 0 (by omega))
   have f1:=hr0.frozen 15
   have hr1:=iH hr0;have hb1:=iH hb;clear hr hr0 hb
   by_cases hh:128<=bv (gb l 0)
   ·have hq:decide (bv (gb l 0)>=128)=true:=by simp;omega
    have H:=iH hh
    go_wp2_with fail
    go_ret
    have hr2:=JZ hr1.out H.out
    refine⟨_,rfl,BsS.of_row (S:=New w _) hr2 (by omega) ⟨Nat.le_refl _,by have:=hr2.lt;exact this⟩,hb1.out.setCell (by simp) _⟩
   ·have hq:decide (bv (gb l 0)>=128)=false:=by simp;omega
    have H:=iH hh
    go_wp2_with fail
    go_ret
    have hr2:=j0q hr1.out (by have:=H.out;omega)
    refine⟨_,rfl,BsS.of_row (S:=New w _) hr2 (by omega) ⟨Nat.le_refl _,by have:=hr2.lt;exact this⟩,hb1.out⟩
def j81:Value->Nat
 |.slice _ n _=>n
 |_=>0
theorem yB{P:Program}(w:World)(base:Nat)(t tn ty e:TypeId)(z:Value)(bytes:Nat)(kq kn:IntKind)(ht:P.underlying t=some (.slice e))(htn:P.underlying tn=some (.int kn))(hinfo:(P.info? e).map (fun i=>(i.zero,i.size,i.bytes))=some (some z,1,bytes))(v:Value)(n:Nat)(xs:List Value)(hown:w.ownsRow base e 1 v n xs):(Builtin.append_ #[t,tn] ty #[v,.int kq 0]).run P w=.ok v w:=by
 obtain⟨i,hi,hzz⟩:=Option.map_eq_some_iff.1 hinfo
 simp only [Prod.mk.injEq]at hzz
 obtain⟨hz,hsize,hbb⟩:=hzz
 have hw:IntKind.i64.wrap 0=0:=by rw [IntKind.wrap_i64];omega
 rcases hown.2 with ⟨rfl,rfl⟩|⟨g,cap,cur,rfl,_,_,hnc,_⟩
 ·simp [Builtin.append_,run_underlying ht,run_underlying htn,sizeOf,typeInfo,hi,asInt,asIntOf,hw]
 ·simp [Builtin.append_,run_underlying ht,run_underlying htn,sizeOf,typeInfo,hi,asInt,asIntOf,hw,hnc,storeCells]
theorem j72{base:Nat}{v:Value}{n:Nat}{xs:List Value}{w:World}(hown:w.ownsRow base 5 1 v n xs)(k:Nat)(hb:n+k<=140737488355328)(hbase:base<=w.heap.size)(ty:TypeId):
 ∃v' w',(Builtin.append_ #[22,3] ty #[v,.int .i64 k]).run Tryz.prog w=.ok v' w'/\w'.ownsRow base 5 1 v' (n+k) (xs++List.replicate k (.int .u8 0))/\w.grownBy w' v.ownBlock:=by
 rcases Nat.eq_zero_or_pos k with h|h
 ·subst h
  exact⟨v,w,yB w base 22 3 ty 5 (.int .u8 0) 1 .i64 .i64 Tryz.underlying22 Tryz.underlying3 kC v n xs hown,by simpa using hown,World.grownBy.refl _ _⟩
 ·exact xp (P:=Tryz.prog) w base 22 3 ty 5 (.int .u8 0) 1 .i64 .i64 Tryz.underlying22 Tryz.underlying3 kC rfl rfl (by omega) v n xs hown k h (by omega) hbase
def QD(n:Nat):Nat:=(16 - (n+1) % 16) % 16
def YK(l:List UInt8):List UInt8:=l++ [128]++List.replicate (QD l.length) 0
theorem xi(l:List UInt8):(YK l).length=l.length+1+QD l.length:=by simp [YK];omega
theorem j36(l:List UInt8):(YK l).length=16*((l.length+1+QD l.length) / 16):=by rw [xi];unfold QD;omega
theorem QE(n:Nat):QD n<=15:=by unfold QD;omega
theorem YL(l:List UInt8):(YK l).map U8=l.map U8++ [.int .u8 128]++List.replicate (QD l.length) (.int .u8 0):=by
 unfold YK
 rw [List.map_append,List.map_append,List.map_replicate]
 rfl
section
variable(v:Value)(l:List UInt8)(hl:l.length<=140737488351232)(w:World)(hv:Bs w w.heap.size v l)
include v l hl w hv
theorem j5h:
 Calls Tryz.prog 192 #[v] w fun e w'=>∃v',e=.returned v'/\OwnB w' w.heap.size v' (YK l)/\Below w.heap.size w w':=by
 have Hv:=iH hv;have Hl:=iH hl;clear hv hl
 go_enter Tryz.func192,Tryz.ntmps192
 go_wp2_with fail
 refine(js _ l _ Hv.out).mono ?_
 rintro e w1 ⟨v1,rfl,hown,hB⟩
 have hown:w1.ownsRow w.heap.size 5 1 v1 l.length (l.map U8):=hown
 have Hown:=iH (hown.alloc (.cells #[Value.int .u8 128] 5));have HB:=iH hB
 have Hsrc:=iH (show SrcAt (w1.alloc (.cells #[Value.int .u8 128] 5)) (some ⟨w1.heap.size,0,none⟩) 1 [Value.int .u8 128] from SrcAt.one _ _ rfl)
 have Hbase:=iH (show w.heap.size<=(w1.alloc (.cells #[Value.int .u8 128] 5)).heap.size by have:=hB.size;simp;omega)
 clear hown hB
 have hk1:((QD l.length:Nat):Int)=(16 - ((l.length:Int)+1) % 16) % 16:=by unfold QD;omega
 have hk2:((QD l.length:Nat):Int)= -(((l.length:Int)+1) % 16) % 16:=by unfold QD;omega
 have Hk1:=iH hk1;have Hk2:=iH hk2;clear hk1 hk2
 go_wp2_with(first
  |(at_builtin
    (with_reducible refine jn _ rfl (.tmp 5) (.tmp 6) 22 rfl w.heap.size 5 (.int .u8 0) 1 Tryz.underlying22 kC rfl (by omega) v1 l.length (l.map U8) rfl Hown.out (some ⟨w1.heap.size,0,none⟩) 1 1 [.int .u8 128] rfl Hsrc.out (by have:=Hl.out;omega) Hbase.out ?_)
    intro v2 w2 hown2 hg2 _ _
    have hb2:=jj Hown.out hg2 iL Hbase.out
    have hbase2:w.heap.size<=w2.heap.size:=Nat.le_trans Hbase.out hb2.size
    obtain⟨v3,w3,hrun3,hown3,hg3⟩:=j72 hown2 (QD l.length) (by have:=Hl.out;have:=QE l.length;omega) hbase2 22
    have hb3:=(((HB.out.alloc HB.out.size _).trans hb2).trans (jj hown2 hg3 iL hbase2))
    obtain⟨g2,cap2,rfl,_,_,_⟩:=kZ hown2 (by omega)
    have hrun4:=hrun3;rw [Hk1.out]at hrun3;rw [Hk2.out]at hrun4;have Hrun3:=iH hrun3;have Hrun4:=iH hrun4;clear hrun4;have Hown3:=iH hown3;have Hb3:=iH hb3
    clear hown2 hg2 hb2 hbase2 hrun3 hown3 hg3 hb3)
  |(at_builtin
    first
     |(with_reducible refine Lib.wpList_append_run _ rfl (.tmp 8) (.tmp 13) 22 3 rfl (.slice (some ⟨g2,0,none⟩) (l.length+1) cap2) (.int .i64 ((16 - ((l.length:Int)+1) % 16) % 16)) rfl rfl v3 w3 Hrun3.out ?_)
     |(with_reducible refine Lib.wpList_append_run _ rfl (.tmp 8) (.tmp 13) 22 3 rfl (.slice (some ⟨g2,0,none⟩) (l.length+1) cap2) (.int .i64 (-(((l.length:Int)+1) % 16) % 16)) rfl rfl v3 w3 Hrun4.out ?_)))
 go_ret
 refine⟨v3,rfl,?_,Hb3.out⟩
 have h:=Hown3.out
 rw [<-YL,<-xi]at h
 exact h
theorem j3f:
 Calls Tryz.prog 183 #[v] w fun e w'=>∃v',e=.returned v'/\OwnB w' w.heap.size v' (YK l)/\Below w.heap.size w w':=by
 obtain⟨A,n,c,rfl⟩:=hv.form
 obtain⟨rfl,hsrc⟩:=hv.src
 have Hsrc:=iH hsrc;have Hl:=iH hl;clear hsrc hl hv
 have h0:w.ownsRow w.heap.size 5 1 (.slice none 0 0) 0 []:=World.ownsRow_nil _ _ _ _
 go_enter Tryz.func183,Tryz.ntmps183
 go_wp2_with(first
  |(at_builtin
    (with_reducible refine jn _ rfl (.const (.slice none 0 0)) (.tmp 4) 22 rfl w.heap.size 5 (.int .u8 0) 1 Tryz.underlying22 kC rfl (by omega) (.slice none 0 0) 0 [] rfl h0 A l.length c (l.map U8) rfl Hsrc.out (by have:=Hl.out;omega) iL ?_)
    intro v1 w1 hown1 hg1 _ _
    have hb1:=jj h0 hg1 iL iL
    have hown1:w1.ownsRow w.heap.size 5 1 v1 l.length (l.map U8):=by simpa using hown1
    have Hown1:=iH (hown1.alloc (.cells #[.int .u8 128] 5));have Hb1:=iH hb1
    have Hsrc1:=iH (show SrcAt (w1.alloc (.cells #[.int .u8 128] 5)) (some ⟨w1.heap.size,0,none⟩) 1 [.int .u8 128] from SrcAt.one _ _ rfl)
    have Hbase1:=iH (show w.heap.size<=(w1.alloc (.cells #[.int .u8 128] 5)).heap.size by have:=hb1.size;simp;omega)
    clear hown1 hg1 hb1)
  |(at_builtin
    (with_reducible refine jn _ rfl (.tmp 5) (.tmp 6) 22 rfl w.heap.size 5 (.int .u8 0) 1 Tryz.underlying22 kC rfl (by omega) v1 l.length (l.map U8) rfl Hown1.out (some ⟨w1.heap.size,0,none⟩) 1 1 [.int .u8 128] rfl Hsrc1.out (by have:=Hl.out;omega) Hbase1.out ?_)
    intro v2 w2 hown2 hg2 _ _
    have hb2:=(Hb1.out.alloc Hb1.out.size _).trans (jj Hown1.out hg2 iL Hbase1.out)
    have Hown2:=iH hown2;have Hb2:=iH hb2
    clear hown2 hg2 hb2))
 go_loopw [3] (fun o wr=>∃j:Nat,j<=QD l.length/\wr.ownsRow w.heap.size 5 1 o (l.length+1+j) (l.map U8++ [.int .u8 128]++List.replicate j (.int .u8 0))/\Below w.heap.size w wr) (fun o _=>l.length+1+QD l.length - j81 o)
 case atStart=>exact⟨0,by omega,by simpa using Hown2.out,Hb2.out⟩
 case round=>
  obtain⟨j,hj,hown,hb⟩:=hrel
  obtain⟨g,cap,rfl,_,_,_⟩:=kZ hown (by omega)
  have hl2:l.length<=140737488351232:=Hl.out
  have hp:=QE l.length
  by_cases hlt:j<QD l.length
  ·have t1:(((l.length:Int)+1+j) % 16 != 0)=true:=by
    have:QD l.length=(16 - (l.length+1) % 16) % 16:=rfl
    simp;omega
   have Hown:=iH (hown.alloc (.cells #[.int .u8 0] 5));have Hb:=iH hb
   have Hsrc:=iH (show SrcAt (wr.alloc (.cells #[.int .u8 0] 5)) (some ⟨wr.heap.size,0,none⟩) 1 [.int .u8 0] from SrcAt.one _ _ rfl)
   have Hbase:=iH (show w.heap.size<=(wr.alloc (.cells #[.int .u8 0] 5)).heap.size by have:=hb.size;simp;omega)
   clear hown hb
   go_wp2_with(at_builtin;(with_reducible refine jn _ rfl (.tmp 12) (.tmp 13) 22 rfl w.heap.size 5 (.int .u8 0) 1 Tryz.underlying22 kC rfl (by omega) (.slice (some ⟨g,0,none⟩) (l.length+1+j) cap) (l.length+1+j) (l.map U8++ [.int .u8 128]++List.replicate j (.int .u8 0)) rfl Hown.out (some ⟨wr.heap.size,0,none⟩) 1 1 [.int .u8 0] rfl Hsrc.out (by omega) Hbase.out ?_);intro v4 w4 hown4 hg4 _ _
               obtain⟨g4,cap4,rfl,_,_,_⟩:=kZ hown4 (by omega))
   go_roundw
   case rel=>
    refine⟨j+1,by omega,?_,(Hb.out.alloc Hb.out.size _).trans (jj Hown.out hg4 iL Hbase.out)⟩
    rw [<-Nat.add_assoc,List.replicate_succ',<-List.append_assoc]
    exact hown4
   case measure=>simp only [j81];omega
  ·have hjp:j=QD l.length:=by omega
   have t1:(((l.length:Int)+1+j) % 16 != 0)=false:=by
    have:QD l.length=(16 - (l.length+1) % 16) % 16:=rfl
    simp;omega
   rw [hjp,<-YL,<-xi]at hown
   have e:l.length+1+j=(YK l).length:=by rw [xi,hjp]
   have Hown:=iH hown;have Hb:=iH hb;have E:=iH e
   clear hown hb hjp e
   go_wp2
   go_ret
   refine⟨_,rfl,?_,Hb.out⟩
   rw [E.out]
   exact Hown.out
end
theorem Bs.cutTo{w:World}{S:Nat->Prop}{A:Option Addr}{n c:Nat}{l:List UInt8}(h:BsS w S (.slice A n c) l)(k:Nat)(hk:k<=l.length):BsS w S (.slice A k c) (l.take k):=by
 obtain⟨a,c',hv,h1,h2,h3,h4⟩:=h
 injection hv with ha hn hc
 subst ha hc
 have hl:(l.take k).length=k:=by simp;omega
 refine⟨A,c,by rw [hl],by omega,h2,by omega,fun hp=> ?_⟩
 rw [hl]at hp
 obtain⟨b,off,rfl,hb,hcell⟩:=h4 (by omega)
 refine⟨b,off,rfl,hb,fun j hj=> ?_⟩
 rw [hl]at hj
 rw [hcell j (by omega)]
 congr 2
 unfold gb
 rw [List.getD_eq_getElem?_getD,List.getD_eq_getElem?_getD,List.getElem?_take,iT hj]
section
variable{w:World}{S:Nat->Prop}{b off n c:Nat}{l:List UInt8}(h:BsS w S (.slice (some ⟨b,off,none⟩) n c) l)(k:Nat)(hk:k<=l.length)
include w S b off n c l h k hk
theorem j6g:BsS w S (.slice (some ⟨b,off+k,none⟩) (n - k) (c - k)) (l.drop k):=by
 obtain⟨a,c',hv,h1,h2,h3,h4⟩:=h
 injection hv with ha hn hc
 subst ha hc hn
 refine⟨_,c - k,by rw [List.length_drop],by rw [List.length_drop];omega,by omega,by rw [List.length_drop];omega,fun hp=> ?_⟩
 rw [List.length_drop]at hp
 obtain⟨b',off',e,hb,hcell⟩:=h4 (by omega)
 injection e with e
 injection e with e1 e2
 subst e1 e2
 refine⟨b,off+k,rfl,hb,fun j hj=> ?_⟩
 rw [List.length_drop]at hj
 rw [Nat.add_assoc,hcell (k+j) (by omega)]
 congr 2
 unfold gb
 rw [List.getD_eq_getElem?_getD,List.getD_eq_getElem?_getD,List.getElem?_drop]
theorem j44(n' c':Nat)(hn:n'=n - k)(hc:c'=c - k):BsS w S (.slice (some ⟨b,off+k,none⟩) n' c') (l.drop k):=by
 subst hn hc
 exact j6g h k hk
end
theorem j3y{w:World}{S:Nat->Prop}{A:Option Addr}{n c:Nat}{l:List UInt8}(h:BsS w S (.slice A n c) l)(hl:0<l.length):∃b off,A=some ⟨b,off,none⟩:=by
 obtain⟨_,_,hv,_,_,_,h4⟩:=h
 injection hv with ha hn hc
 obtain⟨b,off,e,_⟩:=h4 hl
 exact⟨b,off,ha.trans e⟩
theorem YC{P:Nat->List UInt8}{c:Nat->List UInt8}(h0:P 0= [])(hP:∀n,P (n+1)=P n++c n){m:Nat}(hc:∀n,n<m->(c n).length=16)(n:Nat)(hn:n<=m):(P n).length=16*n:=by
 induction n with
 |zero=>rw [h0]<;>rfl
 |succ n ih=>rw [hP,List.length_append,ih (by omega),hc n (by omega)];omega
section
variable (k iv b:List UInt8)
def sC(n:Nat):List UInt8:=(xM k iv b (List.range n)).1
def sP(n:Nat):List UInt8:=(xM k iv b (List.range n)).2
def oC(n:Nat):List UInt8:=(xJ k iv b (List.range n)).1
def oP(n:Nat):List UInt8:=(xJ k iv b (List.range n)).2
theorem j0u(n:Nat):sC k iv b (n+1)=Jb k (qU (blk b n) (sC k iv b n)):=by unfold sC;rw [List.range_succ,qG]<;>rfl
theorem j5p(n:Nat):sP k iv b (n+1)=sP k iv b n++sC k iv b (n+1):=by rw [j0u];unfold sP sC;rw [List.range_succ,qG]<;>rfl
theorem j59(n:Nat):oP k iv b (n+1)=oP k iv b n++qU (Kx k (blk b n)) (oC k iv b n):=by unfold oP oC;rw [List.range_succ,qW]<;>rfl
theorem ze{m:Nat}(hb:b.length=16*m):qg k iv b=sP k iv b m:=by unfold qg sP;rw [hb,Nat.mul_div_cancel_left _ (by omega)]
theorem j33{m:Nat}(hb:b.length=16*m):zp k iv b=oP k iv b m:=by unfold zp oP;rw [hb,Nat.mul_div_cancel_left _ (by omega)]
theorem KU(m:Nat):(sP k iv b m).length=16*m:=YC (P:=sP k iv b) (c:=fun n=>sC k iv b (n+1)) rfl (j5p k iv b) (m:=m) (fun _ _=>by rw [j0u];exact qy _ _) m iL
theorem j6p(m:Nat):(oP k iv b m).length=16*m:=YC (P:=oP k iv b) (c:=fun n=>qU (Kx k (blk b n)) (oC k iv b n)) rfl (j59 k iv b) (m:=m) (fun _ _=>k9 _ _) m iL
end
section
open Go.RowKit Go.Shelf
attribute [local go_sem] Oper.semAt_some
theorem Vl{k iv b:List UInt8}{m:Nat}(hk:k.length=16)(hi:iv.length=16)(hb:b.length=16*m):j3z k iv b=0:=by
 unfold j3z;rw [iT ⟨hk,hi⟩,iT (by omega)]
theorem yK(m:Nat):(List.finRange m).map Fin.val=List.range m:=by
 apply List.ext_getElem
 ·simp
 ·intro i h1 h2;simp
theorem CipherAt.form{w:World}{B:Nat}{p:Value}{key:Nat->UInt8}(h:CipherAt w B p key):∃a,p=.pointer (some a):=by
 obtain⟨_,cb,hp,_⟩:=h;exact⟨_,hp⟩
section
variable(vk vi vb:Value)(k iv b:List UInt8)(m:Nat)(hk:k.length=16)(hi:iv.length=16)(hb:b.length=16*m)(w:World)(hvk:Bs w w.heap.size vk k)(hvi:Bs w w.heap.size vi iv)(hvb:Bs w w.heap.size vb b)
include vk vi vb k iv b m hk hi hb w hvk hvi hvb
theorem j3j:
 Calls Tryz.prog 52 #[vk,vi,vb] w fun e w'=>∃v',e=.returned (.tuple #[v',.int .i64 0])/\OwnB w' w.heap.size v' (qg k iv b)/\Below w.heap.size w w':=by
 obtain⟨A1,n1,c1,rfl⟩:=hvk.form
 obtain⟨A2,n2,c2,rfl⟩:=hvi.form
 obtain⟨A3,n3,c3,rfl⟩:=hvb.form
 have e1:=Bs.lenEq hvk;have e2:=Bs.lenEq hvi;have e3:=Bs.lenEq hvb
 have HA:=fun w=>zJ A1 A2 A3 n1 n2 n3 c1 c2 c3 k iv b e1 e2 e3 w
 rw [Vl hk hi hb]at HA
 have HA:=iH HA
 have Hk:=iH hvk;have Hi:=iH hvi;have Hb:=iH hvb;have Lk:=iH hk;have Li:=iH hi;have Lb:=iH hb;have E3:=iH e3
 clear hvk hvi hvb hk hi hb e1 e2 e3
 refine(callsIn_wide (n:=9)).1 ?_
 refine callsIn_of_wp_marks Tryz.func52 rfl trivial ?_ rfl
 simp only [Tryz.ntmps52,List.size_toArray,List.length_cons,List.length_nil,Nat.reduceAdd,Nat.reduceSub,Array.replicate_succ,Array.replicate_zero,List.push_toArray,List.append_toArray,List.nil_append,List.cons_append]
 gi_wp2_with fail
 refine⟨trivial,(callsIn_wide.2 (HA.out _)).mono ?_⟩
 rintro e w1 ⟨rfl,rfl⟩
 gi_wp2_with fail
 have hb1:Below w.heap.size w (w.alloc (.cells #[.slice A2 n2 c2] 22)):=iA
 refine⟨trivial,(callsIn_wide.2 (JT _ k Lk.out _ (Hk.out.lift hb1))).mono ?_⟩
 rintro e w2 ⟨p,rfl,hp,hb2⟩
 obtain⟨pa,rfl⟩:=hp.form
 have bI:=(Boxed.new w 22 (.slice A2 n2 c2)).kept (row:=none) ⟨hb2.os,hb2.tape,hb2.output,hb2.size,fun i hi _=>hb2.block i hi⟩ (by simp)
 have hb12:=hb1.trans (hb2.mono hb1.size)
 have BI:=iH bI;have HP:=iH hp;have HB:=iH hb12;clear bI hp hb12 hb1 hb2
 gi_wp2_with fail
 refine⟨trivial,(Yt Fence.wide _ trivial rfl A3 n3 c3 _).mono ?_⟩
 rintro e w3 ⟨rfl,rfl⟩
 gi_wp2_with fail
 obtain⟨w5,hw5⟩:∃w5,w5=((((w2.alloc (.cells #[.pointer (some pa)] 118)).alloc (.cells #[.slice none 0 0] 22)).alloc (.cells #[.slice A3 n3 c3] 22)).alloc (.cells #[.int .i64 16] 3)):=⟨_,rfl⟩
 rw [<-hw5]
 have hsz5:w5.heap.size=w2.heap.size+4:=by rw [hw5];simp
 have hb25:Below w2.heap.size w2 w5:=by rw [hw5];exact(((iA).alloc (by simp) _).alloc (by simp;omega) _).alloc (by simp;omega) _
 have bC5:Boxed w5 w2.heap.size 118 (.pointer (some pa)):=by rw [hw5];exact(((Boxed.new w2 _ _).alloc _).alloc _).alloc _
 have bO5:Boxed w5 (w2.heap.size+1) 22 (.slice none 0 0):=by
  have:=Boxed.new (w2.alloc (.cells #[.pointer (some pa)] 118)) 22 (.slice none 0 0)
  rw [World.size_alloc]at this
  rw [hw5];exact(this.alloc _).alloc _
 have bS5:Boxed w5 (w2.heap.size+1+1) 22 (.slice A3 n3 c3):=by
  have:=Boxed.new ((w2.alloc (.cells #[.pointer (some pa)] 118)).alloc (.cells #[.slice none 0 0] 22)) 22 (.slice A3 n3 c3)
  rw [World.size_alloc,World.size_alloc]at this
  rw [hw5];exact this.alloc _
 have bN5:Boxed w5 (w2.heap.size+1+1+1) 3 (.int .i64 16):=by
  have:=Boxed.new (((w2.alloc (.cells #[.pointer (some pa)] 118)).alloc (.cells #[.slice none 0 0] 22)).alloc (.cells #[.slice A3 n3 c3] 22)) 3 (.int .i64 16)
  rw [World.size_alloc,World.size_alloc,World.size_alloc]at this
  rw [hw5];exact this
 have hsz2:w.heap.size+1<=w2.heap.size:=by have:=BI.out.lt;omega
 have bI5:Boxed w5 w.heap.size 22 (.slice A2 n2 c2):=(hb25.block w.heap.size (by omega)).trans BI.out
 have hB5:Below w.heap.size w w5:=HB.out.trans (hb25.mono HB.out.size)
 have hcip5:∀W:World,Only2 w.heap.size (w2.heap.size+1) w5 W->CipherAt W W.heap.size (.pointer (some pa)) (gb k):=fun W hO=>
  HP.out.keepBut BI.out (fun b hb hne=>(hO.block b (by omega) hne (by omega)).trans (hb25.block b hb)) (by have:=hO.size;omega)
 clear hw5
 obtain⟨a3,cc3,hv3,hcap3,_,hle3,hcell3⟩:=Hb.out
 injection hv3 with ha3 hn3 hc3
 subst ha3 hc3
 rw [Lb.out]at hn3 hcap3 hle3
 subst hn3
 obtain⟨bb,bo,hab,hbb,hcellb⟩:∃bb bo,(0<m->A3=some ⟨bb,bo,none⟩)/\(0<m->bb<w.heap.size)/\(0<m->∀j,j<16*m->w.cell? ⟨bb,bo+j,none⟩=some (U8 (gb b j))):=by
  rcases Nat.eq_zero_or_pos m with h0|h0
  ·exact⟨0,0,fun h=>by omega,fun h=>by omega,fun h=>by omega⟩
  ·obtain⟨bb,bo,h1,h2,h3⟩:=hcell3 (by rw [Lb.out];omega)
   exact⟨bb,bo,fun _=>h1,fun _=>h2,fun _ j hj=>h3 j (by rw [Lb.out];exact hj)⟩
 have BC5:=iH bC5;have HB5:=iH hB5;have HC5:=iH hcip5;have HCB:=iH hcellb;have HBB:=iH hbb;have HAB:=iH hab;have HS2:=iH hsz5
 refine wpIn_rangeFunc_ownG rfl (by omega) (gf:=144) (lb:=#[.pointer (some ⟨w2.heap.size+1+1,0,none⟩),.pointer (some ⟨w2.heap.size+1+1+1,0,none⟩)]) rfl trivial (enters_of Tryz.func144 (by kernel_rfl) rfl)
  (Jw Fence.wide _ trivial rfl (by omega) (w2.heap.size+1+1) (w2.heap.size+1+1+1) A3 m c3 bb bo hcap3 hab hle3 w5 bS5.lt bN5.lt bS5.cell bN5.cell) xF (JE bS5.lt bN5.lt) iB (fun _=>rfl)
  (fun pre W=>j4h w.heap.size (w2.heap.size+1) w5 (xM k iv b (pre.map Fin.val)) W)
  (fun _ _ _=>False)
  (Xl w.heap.size (w2.heap.size+1) w5 (fun pre:List (Fin m)=>xM k iv b (pre.map Fin.val)) (by omega) (by omega))
  (fun _ _ _ _ _ hs _ _=>hs)
  ⟨Only2.refl _ _ _,_,_,bI5,bO5,?start,World.ownsRow_nil _ _ _ _⟩
  (fun x=>{tmps:=#[.slice A1 n1 c1,.slice A2 n2 c2,.slice A3 (16*m) c3,undef,.pointer (some ⟨w.heap.size,0,none⟩),undef,.slice none 0 0,.int .i64 0,.int .i64 0,.pointer (some ⟨w2.heap.size,0,none⟩),.pointer (some ⟨w2.heap.size+1,0,none⟩),.slice (some ⟨bb,bo+16*x.1,none⟩) 16 16,.slice A1 n1 c1,.slice A2 n2 c2,.slice A3 (16*m) c3,.int .i64 0,.int .i64 0,.bool false,undef,.slice A1 n1 c1,.pointer (some pa),.slice A3 (16*m) c3,.func (.func 144) #[] #[.pointer (some ⟨w2.heap.size+1+1,0,none⟩),.pointer (some ⟨w2.heap.size+1+1+1,0,none⟩)],.slice (some ⟨bb,bo+16*x.1,none⟩) 16 16,undef,undef,undef,undef,undef,undef,undef,undef,undef],defers:=[]}) ?assign ?body ?done ?stop
 case start=>exact BsS.keep Hi.out fun b hb _=>⟨HB5.out.block b hb,by omega,by omega,by simp [Value.ownBlock]⟩
 case assign=>
  intro l x W K hK
  gi_wp2
  exact hK
 case body=>
  rintro l pre x W ⟨hO,iv1,ov,hI,hOv,hivb,hown⟩ hlt
  have hm:0<m:=by have:=x.2;omega
  obtain⟨l1,l2⟩:=QR (k:=k) (b:=b) Li.out (pre.map Fin.val)
  obtain⟨s,hs⟩:∃s,s=xM k iv b (pre.map Fin.val):=⟨_,rfl⟩
  rw [<-hs]at hivb hown l1 l2
  have hX:Bs W W.heap.size (.slice (some ⟨bb,bo+16*x.1,none⟩) 16 16) (blk b x.1):=by
   have hl:=zv Lb.out x.2
   refine⟨some ⟨bb,bo+16*x.1,none⟩,16,by rw [hl],by omega,by omega,by omega,fun _=>⟨bb,bo+16*x.1,rfl,?_,fun j hj=> ?_⟩⟩
   ·have:=HBB.out hm;have:=hO.size;omega
   ·rw [hl]at hj
    have hbb:=HBB.out hm
    have h1:=HCB.out hm (16*x.1+j) (by have:=x.2;omega)
    rw [Qe _ _ _ hj,Nat.add_assoc]
    exact(World.cell?_of_block (a:=⟨bb,bo+(16*x.1+j),none⟩) ((hO.block bb (by omega) (by omega) (by omega)).trans (HB5.out.block bb hbb))).trans h1
  obtain⟨Ai,ni,ci,rfl⟩:=hivb.form
  have hiv:Bs W W.heap.size (.slice Ai ni ci) s.1:=hivb.keepC fun b _ ⟨o,ho,_⟩=>⟨rfl,(iG ho)⟩
  have hcip:=HC5.out W hO
  have bcw:Boxed W w2.heap.size 118 (.pointer (some pa)):=(hO.block w2.heap.size (by omega) (by omega) (by omega)).trans BC5.out
  have cc:=bcw.cell
  have Hbcw:=iH bcw;clear bcw
  have ci1:=hI.cell
  have HX:=iH hX;have HI:=iH hiv;have HCip:=iH hcip;have HO:=iH hO;have HBI:=iH hI;have HBO:=iH hOv;have Hown:=iH hown;have L1:=iH l1;have L2:=iH l2;have HS:=iH hs
  clear hX hiv hcip hO hI hOv hown l1 l2 hs hivb
  gi_wp2_with fail
  have hmx:Tryz.prog.follows .mixedOrders=true:=by kernel_rfl
  gi_region_with_o (first
   |(refine⟨trivial,?_⟩;gi_at_call 109;refine(CallsIn.inRound l (callsIn_wide.2 (Qk _ _ (blk b x.1) s.1 (zv Lb.out x.2) L1.out _ (by exact HX.out) (by exact HI.out)))).mono ?_
     rintro e W1 ⟨v1,rfl,hv1,hB1⟩
     have cc1:=(hB1.cell (p:=⟨w2.heap.size,0,none⟩) (block_lt_of_cell cc)).trans cc
     have ci2:=(hB1.cell (p:=⟨w.heap.size,0,none⟩) (block_lt_of_cell ci1)).trans ci1)
   |(refine⟨trivial,?_⟩;gi_at_call 108;refine(CallsIn.inRound l (callsIn_wide.2 (j8a _ _ k (qU (blk b x.1) s.1) (k9 _ _) _ (by exact HC5.out _ ((HO.out.drew).below hB1)) (by exact hv1.bs)))).mono ?_
     rintro e W2 ⟨v2,rfl,hv2,hB2⟩
     obtain⟨Aj,nj,cj,rfl⟩:=hv2.form
     have hB12:Below W.heap.size W W2:=Below.undrew (hB1.trans (hB2.mono hB1.size))
     have hv2n:BsS W2 (fun b=>W.heap.size<=b/\b<W2.heap.size) (.slice Aj nj cj) (Jb k (qU (blk b x.1) s.1)):=hv2.keep fun b hb _=>⟨rfl,Nat.le_trans hB1.size hb.1,hb.2⟩
     obtain⟨hI2,hI3,hO3,hown3,hv3,hOn3,hK3⟩:=Uj (b1:=w.heap.size) (b2:=w2.heap.size+1) (a:=w5) (by omega) (by omega) (by omega) HO.out HBI.out HBO.out Hown.out hB12 hv2n
     have ci3:=hI2.cell
     have fi3:=hI2.frozen))
  all_goals
   have hn16:nj=16:=by have:=Bs.lenEq hv2;rw [qy]at this;exact this
   subst hn16
   have hsrc3:=hv3.src.2
   have c4:=hI3.cell
   have c5:=hO3.cell
   have l3:s.2.length+16<=140737488355328:=by have h:=L2.out;rw [List.length_map]at h;omega
   have hdis:BsS (W2.setCell ⟨w.heap.size,0,none⟩ (.slice Aj 16 cj)) (fun b=>w.heap.size≠b/\w2.heap.size+1≠b/\ov.ownBlock≠some b/\b<(W2.setCell ⟨w.heap.size,0,none⟩ (.slice Aj 16 cj)).heap.size) (.slice Aj 16 cj) (Jb k (qU (blk b x.1) s.1)):=
    hv3.keep fun b hb hlt=>⟨rfl,by have:=HO.out.size;have:=hb.1;omega,by have:=HO.out.size;have:=hb.1;omega,fun e=>by have:=(Hown.out.lt b e).2;have:=hb.1;omega,hlt⟩
   have hbase3:w5.heap.size<=(W2.setCell ⟨w.heap.size,0,none⟩ (.slice Aj 16 cj)).heap.size:=hOn3.size
   have Hown3:=iH hown3;have Hsrc3:=iH hsrc3;have Hdis:=iH hdis;have HOn3:=iH hOn3;have HI3:=iH hI3;have HO3:=iH hO3;have HK3:=iH hK3;have Hbase3:=iH hbase3
   clear hown3 hsrc3 hdis hOn3 hI3 hO3 hK3 hv3 hv2 hv2n hI2 hB12 hB1 hB2 ci3 fi3 ci2 cc1 hbase3
   gi_wp2_with (gi_at_builtin;(with_reducible refine xq _ rfl (.tmp 29) (.tmp 30) 22 rfl w5.heap.size 5 (.int .u8 0) 1 Tryz.underlying22 kC rfl (by omega) ov s.2.length (s.2.map U8) rfl Hown3.out Aj 16 cj ((Jb k (qU (blk b x.1) s.1)).map U8) rfl Hsrc3.out (by omega) Hbase3.out ?_);intro v4 W4 hown4 hg4 hat4 _
                obtain⟨g4,cap4,rfl,_,_,_⟩:=kZ hown4 (by omega)
                obtain⟨hO4,e1,e2,e3,e4,e5,e6⟩:=Vt (b1:=w.heap.size) (b2:=w2.heap.size+1) (a:=w5) (by omega) (by omega) (by omega) HOn3.out HI3.out HO3.out Hown3.out Hdis.out hown4 hg4 hat4
                have c6:=hO4.cell
                have f6:=hO4.frozen)
   refine⟨((HK3.out.trans e6)).from _,xh HO.out e1 (by omega) (by omega) (by omega) (by omega) (by omega) (by omega),e1,_,_,e2,e3,?_,?_⟩
   ·rw [List.map_append,List.map_cons,List.map_nil,qG,<-HS.out];exact e4
   ·rw [List.map_append,List.map_cons,List.map_nil,qG,<-HS.out]
    show World.ownsRow _ _ _ _ _ (s.2++Jb k (qU (blk b x.1) s.1)).length _
    rw [List.length_append,qy]
    show World.ownsRow _ _ _ _ _ _ ((s.2++Jb k (qU (blk b x.1) s.1)).map U8)
    rw [List.map_append]
    exact e5
 case done=>
  rintro D ys W hD rfl ⟨hO,iv1,ov,hI,hOv,hivb,hown⟩ hK
  have cO:=hOv.cell
  gi_wp2
  refine⟨by simp,.inl ⟨_,_,rfl,run_takeDeferred hK,?_⟩⟩
  refine⟨_,results_tmp2 rfl _ _ _,ov,rfl,?_,?_⟩
  ·have hown':=ownsRow_putObj hown (.deferred none) hK rfl
   have hs:=hO.size
   have e:(xM k iv b (List.map Fin.val (List.finRange m))).2=qg k iv b:=by
    unfold qg
    rw [Lb.out,Nat.mul_div_cancel_left _ (by omega),yK]
   rw [e]at hown'
   exact⟨hown'.1,hown'.2.imp id fun⟨g,cap,cur,h1,h2,h3⟩=>⟨g,cap,cur,h1,by omega,h3⟩⟩
  ·exact(HB5.out.trans ((hO.toBelow (B:=w.heap.size) iL (by omega) HB5.out.size))).trans (belowK_b (w:=w) iL W D _ _ (by have:=HB5.out.size;omega) hK rfl rfl)
 case stop=>
  rintro D c pre W _ _ h _
  exact h.elim
theorem Z7:
 Calls Tryz.prog 52 #[vk,vi,vb] w fun e w'=>∃v',e=.returned (.tuple #[v',.int .i64 0])/\BsS w' (New w w') v' (qg k iv b)/\Below w.heap.size w w':=by
 have hlen:(qg k iv b).length<=140737488355328:=by
  have h:(qg k iv b).length=16*m:=by
   unfold qg
   rw [(QR hi _).2,List.length_range,hb,Nat.mul_div_cancel_left _ (by omega)]
  have h2:=hvb.len
  omega
 exact(j3j vk vi vb k iv b m hk hi hb w hvk hvi hvb).mono fun _ _ ⟨v,h1,h2,h3⟩=>⟨v,h1,(BsS.of_own h2 hlen).keep fun _ hg _=>⟨rfl,hg.1,hg.2⟩,h3⟩
end
end
section
open Go.RowKit Go.Shelf
attribute [local go_sem] Oper.semAt_some
attribute [local go_sem ↓] Q8 Zl Zk
theorem j0a(vk vi vb:Value)(k iv b:List UInt8)(m:Nat)(hk:k.length=16)(hi:iv.length=16)(hb:b.length=16*m)(w:World)(hvk:Bs w w.heap.size vk k)(hvi:Bs w w.heap.size vi iv)(hvb:Bs w w.heap.size vb b):
 Calls Tryz.prog 54 #[vk,vi,vb] w fun e w'=>∃v',e=.returned (.tuple #[v',.int .i64 0])/\BsS w' (New w w') v' (zp k iv b)/\Below w.heap.size w w':=by
 obtain⟨A1,n1,c1,rfl⟩:=hvk.form
 obtain⟨A2,n2,c2,rfl⟩:=hvi.form
 obtain⟨A3,n3,c3,rfl⟩:=hvb.form
 have e1:=Bs.lenEq hvk;have e2:=Bs.lenEq hvi;have e3:=Bs.lenEq hvb
 have HA:=fun w=>zJ A1 A2 A3 n1 n2 n3 c1 c2 c3 k iv b e1 e2 e3 w
 rw [Vl hk hi hb]at HA
 have HA:=iH HA
 have Hk:=iH hvk;have Hi:=iH hvi;have Hb:=iH hvb;have Lk:=iH hk;have Li:=iH hi;have Lb:=iH hb;have E3:=iH e3
 clear hvk hvi hvb hk hi hb e1 e2 e3
 refine(callsIn_wide (n:=9)).1 ?_
 refine callsIn_of_wp_marks Tryz.func54 rfl trivial ?_ rfl
 simp only [Tryz.ntmps54,List.size_toArray,List.length_cons,List.length_nil,Nat.reduceAdd,Nat.reduceSub,Array.replicate_succ,Array.replicate_zero,List.push_toArray,List.append_toArray,List.nil_append,List.cons_append]
 gi_wp2_with fail
 refine⟨trivial,(callsIn_wide.2 (HA.out _)).mono ?_⟩
 rintro e w1 ⟨rfl,rfl⟩
 gi_wp2_with fail
 have hb1:Below w.heap.size w (w.alloc (.cells #[.slice A2 n2 c2] 22)):=iA
 refine⟨trivial,(callsIn_wide.2 (JT _ k Lk.out _ (Hk.out.lift hb1))).mono ?_⟩
 rintro e w2 ⟨p,rfl,hp,hb2⟩
 obtain⟨pa,rfl⟩:=hp.form
 have bI:=(Boxed.new w 22 (.slice A2 n2 c2)).kept (row:=none) ⟨hb2.os,hb2.tape,hb2.output,hb2.size,fun i hi _=>hb2.block i hi⟩ (by simp)
 have hb12:=hb1.trans (hb2.mono hb1.size)
 have BI:=iH bI;have HP:=iH hp;have HB:=iH hb12;clear bI hp hb12 hb1 hb2
 gi_wp2_with fail
 refine⟨trivial,(Yt Fence.wide _ trivial rfl A3 n3 c3 _).mono ?_⟩
 rintro e w3 ⟨rfl,rfl⟩
 gi_wp2_with fail
 obtain⟨w5,hw5⟩:∃w5,w5=((((w2.alloc (.cells #[.pointer (some pa)] 118)).alloc (.cells #[.slice none 0 0] 22)).alloc (.cells #[.slice A3 n3 c3] 22)).alloc (.cells #[.int .i64 16] 3)):=⟨_,rfl⟩
 rw [<-hw5]
 have hsz5:w5.heap.size=w2.heap.size+4:=by rw [hw5];simp
 have hb25:Below w2.heap.size w2 w5:=by rw [hw5];exact(((iA).alloc (by simp) _).alloc (by simp;omega) _).alloc (by simp;omega) _
 have bC5:Boxed w5 w2.heap.size 118 (.pointer (some pa)):=by rw [hw5];exact(((Boxed.new w2 _ _).alloc _).alloc _).alloc _
 have bO5:Boxed w5 (w2.heap.size+1) 22 (.slice none 0 0):=by
  have:=Boxed.new (w2.alloc (.cells #[.pointer (some pa)] 118)) 22 (.slice none 0 0)
  rw [World.size_alloc]at this
  rw [hw5];exact(this.alloc _).alloc _
 have bS5:Boxed w5 (w2.heap.size+1+1) 22 (.slice A3 n3 c3):=by
  have:=Boxed.new ((w2.alloc (.cells #[.pointer (some pa)] 118)).alloc (.cells #[.slice none 0 0] 22)) 22 (.slice A3 n3 c3)
  rw [World.size_alloc,World.size_alloc]at this
  rw [hw5];exact this.alloc _
 have bN5:Boxed w5 (w2.heap.size+1+1+1) 3 (.int .i64 16):=by
  have:=Boxed.new (((w2.alloc (.cells #[.pointer (some pa)] 118)).alloc (.cells #[.slice none 0 0] 22)).alloc (.cells #[.slice A3 n3 c3] 22)) 3 (.int .i64 16)
  rw [World.size_alloc,World.size_alloc,World.size_alloc]at this
  rw [hw5];exact this
 have hsz2:w.heap.size+1<=w2.heap.size:=by have:=BI.out.lt;omega
 have bI5:Boxed w5 w.heap.size 22 (.slice A2 n2 c2):=(hb25.block w.heap.size (by omega)).trans BI.out
 have hB5:Below w.heap.size w w5:=HB.out.trans (hb25.mono HB.out.size)
 have hcip5:∀W:World,Only2 w.heap.size (w2.heap.size+1) w5 W->CipherAt W W.heap.size (.pointer (some pa)) (gb k):=fun W hO=>
  HP.out.keepBut BI.out (fun b hb hne=>(hO.block b (by omega) hne (by omega)).trans (hb25.block b hb)) (by have:=hO.size;omega)
 clear hw5
 obtain⟨a3,cc3,hv3,hcap3,_,hle3,hcell3⟩:=Hb.out
 injection hv3 with ha3 hn3 hc3
 subst ha3 hc3
 rw [Lb.out]at hn3 hcap3 hle3
 subst hn3
 obtain⟨bb,bo,hab,hbb,hcellb⟩:∃bb bo,(0<m->A3=some ⟨bb,bo,none⟩)/\(0<m->bb<w.heap.size)/\(0<m->∀j,j<16*m->w.cell? ⟨bb,bo+j,none⟩=some (U8 (gb b j))):=by
  rcases Nat.eq_zero_or_pos m with h0|h0
  ·exact⟨0,0,fun h=>by omega,fun h=>by omega,fun h=>by omega⟩
  ·obtain⟨bb,bo,h1,h2,h3⟩:=hcell3 (by rw [Lb.out];omega)
   exact⟨bb,bo,fun _=>h1,fun _=>h2,fun _ j hj=>h3 j (by rw [Lb.out];exact hj)⟩
 have BC5:=iH bC5;have HB5:=iH hB5;have HC5:=iH hcip5;have HCB:=iH hcellb;have HBB:=iH hbb;have HAB:=iH hab;have HS2:=iH hsz5
 refine wpIn_rangeFunc_ownG rfl (by omega) (gf:=144) (lb:=#[.pointer (some ⟨w2.heap.size+1+1,0,none⟩),.pointer (some ⟨w2.heap.size+1+1+1,0,none⟩)]) rfl trivial (enters_of Tryz.func144 (by kernel_rfl) rfl)
  (Jw Fence.wide _ trivial rfl (by omega) (w2.heap.size+1+1) (w2.heap.size+1+1+1) A3 m c3 bb bo hcap3 hab hle3 w5 bS5.lt bN5.lt bS5.cell bN5.cell) xF (JE bS5.lt bN5.lt) iB (fun _=>rfl)
  (fun pre W=>j4h w.heap.size (w2.heap.size+1) w5 (xJ k iv b (pre.map Fin.val)) W)
  (fun _ _ _=>False)
  (Xl w.heap.size (w2.heap.size+1) w5 (fun pre:List (Fin m)=>xJ k iv b (pre.map Fin.val)) (by omega) (by omega))
  (fun _ _ _ _ _ hs _ _=>hs)
  ⟨Only2.refl _ _ _,_,_,bI5,bO5,?start,World.ownsRow_nil _ _ _ _⟩
  (fun x=>{tmps:=#[.slice A1 n1 c1,.slice A2 n2 c2,.slice A3 (16*m) c3,undef,.pointer (some ⟨w.heap.size,0,none⟩),undef,.slice none 0 0,.int .i64 0,.int .i64 0,.pointer (some ⟨w2.heap.size,0,none⟩),.pointer (some ⟨w2.heap.size+1,0,none⟩),.slice (some ⟨bb,bo+16*x.1,none⟩) 16 16,.slice A1 n1 c1,.slice A2 n2 c2,.slice A3 (16*m) c3,.int .i64 0,.int .i64 0,.bool false,undef,.slice A1 n1 c1,.pointer (some pa),.slice A3 (16*m) c3,.func (.func 144) #[] #[.pointer (some ⟨w2.heap.size+1+1,0,none⟩),.pointer (some ⟨w2.heap.size+1+1+1,0,none⟩)],.slice (some ⟨bb,bo+16*x.1,none⟩) 16 16,undef,undef,undef,undef,undef,undef,undef,undef,undef],defers:=[]}) ?assign ?body ?done ?stop
 case start=>exact BsS.keep Hi.out fun b hb _=>⟨HB5.out.block b hb,by omega,by omega,by simp [Value.ownBlock]⟩
 case assign=>
  intro l x W K hK
  gi_wp2
  exact hK
 case body=>
  rintro l pre x W ⟨hO,iv1,ov,hI,hOv,hivb,hown⟩ hlt
  have hm:0<m:=by have:=x.2;omega
  obtain⟨l1,l2⟩:=QB (k:=k) (b:=b) Li.out Lb.out (pre.map Fin.val) (fun y hy=>by obtain⟨z,_,rfl⟩:=List.mem_map.1 hy;exact z.2)
  obtain⟨s,hs⟩:∃s,s=xJ k iv b (pre.map Fin.val):=⟨_,rfl⟩
  rw [<-hs]at hivb hown l1 l2
  have hX:Bs W W.heap.size (.slice (some ⟨bb,bo+16*x.1,none⟩) 16 16) (blk b x.1):=by
   have hl:=zv Lb.out x.2
   refine⟨some ⟨bb,bo+16*x.1,none⟩,16,by rw [hl],by omega,by omega,by omega,fun _=>⟨bb,bo+16*x.1,rfl,?_,fun j hj=> ?_⟩⟩
   ·have:=HBB.out hm;have:=hO.size;omega
   ·rw [hl]at hj
    have hbb:=HBB.out hm
    have h1:=HCB.out hm (16*x.1+j) (by have:=x.2;omega)
    rw [Qe _ _ _ hj,Nat.add_assoc]
    exact(World.cell?_of_block (a:=⟨bb,bo+(16*x.1+j),none⟩) ((hO.block bb (by omega) (by omega) (by omega)).trans (HB5.out.block bb hbb))).trans h1
  have hXa:BsS W (fun g=>g≠w.heap.size/\g≠w2.heap.size+1/\g<w5.heap.size) (.slice (some ⟨bb,bo+16*x.1,none⟩) 16 16) (blk b x.1):=by
   obtain⟨_,_,hv,h1,h2,h3,h4⟩:=hX
   injection hv with ha hn hc
   subst ha hc
   refine⟨_,_,by rw [<-hn],h1,h2,h3,fun hp=> ?_⟩
   obtain⟨b',o',he,_,h6⟩:=h4 hp
   injection he with he
   injection he with he1 he2
   subst he1 he2
   have:=HBB.out hm
   exact⟨_,_,rfl,⟨by omega,by omega,by omega⟩,h6⟩
  have HXa:=iH hXa;clear hXa
  obtain⟨Ai,ni,ci,rfl⟩:=hivb.form
  have hiv:Bs W W.heap.size (.slice Ai ni ci) s.1:=hivb.keepC fun b _ ⟨o,ho,_⟩=>⟨rfl,(iG ho)⟩
  have hcip:=HC5.out W hO
  have bcw:Boxed W w2.heap.size 118 (.pointer (some pa)):=(hO.block w2.heap.size (by omega) (by omega) (by omega)).trans BC5.out
  have cc:=bcw.cell
  have Hbcw:=iH bcw;clear bcw
  have ci1:=hI.cell
  have co:=hOv.cell
  have l3:s.2.length+16<=140737488355328:=by have h:=l2;rw [List.length_map]at h;omega
  have HX:=iH hX;have HI:=iH hiv;have HCip:=iH hcip;have HO:=iH hO;have HBI:=iH hI;have HBO:=iH hOv;have Hown:=iH hown;have L1:=iH l1;have L2:=iH l2;have HS:=iH hs
  clear hX hiv hcip hO hI hOv hown l1 l2 hs hivb
  gi_wp2_with fail
  have hmx:Tryz.prog.follows .mixedOrders=true:=by kernel_rfl
  gi_region_with_o (first
   |(refine⟨trivial,?_⟩;gi_at_call 112;refine(CallsIn.inRound l (callsIn_wide.2 (j89 _ _ k (blk b x.1) (zv Lb.out x.2) _ (by exact HC5.out _ HO.out.drew) (by exact HX.out)))).mono ?_
     rintro e W1 ⟨v1,rfl,hv1,hB1⟩
     have co1:=(hB1.cell (p:=⟨w2.heap.size+1,0,none⟩) (block_lt_of_cell co)).trans co
     have ci2:=(hB1.cell (p:=⟨w.heap.size,0,none⟩) (block_lt_of_cell ci1)).trans ci1)
   |(refine⟨trivial,?_⟩;gi_at_call 109;refine(CallsIn.inRound l (callsIn_wide.2 (Qk _ _ (Kx k (blk b x.1)) s.1 (J9 _ _) L1.out _ (by exact hv1.bs) (by exact Bs.lift (w:=W.drew) HI.out hB1)))).mono ?_
     rintro e W2 ⟨v2,rfl,hv2,hB2⟩
     obtain⟨Aj,nj,cj,rfl⟩:=hv2.form
     have co2:=(hB2.cell (p:=⟨w2.heap.size+1,0,none⟩) (block_lt_of_cell co1)).trans co1
     have hB12:Below W.heap.size W W2:=Below.undrew (hB1.trans (hB2.mono hB1.size))
     have hown2:=kT Hown.out hB12
     have hn16:nj=16:=by have:=Bs.lenEq hv2;rw [k9]at this;exact this
     subst hn16
     have hsrc2:=hv2.src.2
     have hbase2:w5.heap.size<=W2.heap.size:=Nat.le_trans HO.out.size hB12.size)
   |(with_reducible refine Kf W2 (.tmp 24) (.tmp 29) 22 rfl w5.heap.size 5 (.int .u8 0) 1 Tryz.underlying22 kC rfl (by omega) ov s.2.length (s.2.map U8) rfl hown2 Aj 16 cj ((qU (Kx k (blk b x.1)) s.1).map U8) rfl hsrc2 (by omega) hbase2 ?_
     intro v4 W4 hown4 hg4 hat4
     obtain⟨g4,cap4,rfl,_,_,_⟩:=kZ hown4 (by omega)
     obtain⟨hO4,hI5,e1,e2,e3,e4,e5,e6⟩:=Ui (b1:=w.heap.size) (b2:=w2.heap.size+1) (a:=w5) (by omega) (by omega) (by omega) HO.out HBI.out HBO.out Hown.out hB12 HXa.out hown4 hg4 hat4
     have c6:=hO4.cell
     have f6:=hO4.frozen
     have c7:=hI5.cell
     have f7:=hI5.frozen))
  all_goals
   have E1:=iH e1;have E2:=iH e2;have E3:=iH e3;have E4:=iH e4;have E5:=iH e5;have E6:=iH e6
   clear e1 e2 e3 e4 e5 e6 hown4 hg4 hat4 hO4 hI5 hown2 hsrc2 hB12 hB1 hB2 hv1 hv2
   gi_wp2
   refine⟨E6.out.from _,xh HO.out E1.out (by omega) (by omega) (by omega) (by omega) (by omega) (by omega),E1.out,_,_,E2.out,E3.out,?_,?_⟩
   ·rw [List.map_append,List.map_cons,List.map_nil,qW,<-HS.out];exact E4.out
   ·rw [List.map_append,List.map_cons,List.map_nil,qW,<-HS.out]
    show World.ownsRow _ _ _ _ _ (s.2++qU (Kx k (blk b x.1)) s.1).length _
    rw [List.length_append,k9]
    show World.ownsRow _ _ _ _ _ _ ((s.2++qU (Kx k (blk b x.1)) s.1).map U8)
    rw [List.map_append]
    exact E5.out
 case done=>
  rintro D ys W hD rfl ⟨hO,iv1,ov,hI,hOv,hivb,hown⟩ hK
  have cO:=hOv.cell
  gi_wp2
  refine⟨by simp,.inl ⟨_,_,rfl,run_takeDeferred hK,?_⟩⟩
  refine⟨_,results_tmp2 rfl _ _ _,ov,rfl,?_,?_⟩
  ·have hown':=ownsRow_putObj hown (.deferred none) hK rfl
   have hs:=hO.size
   have e:(xJ k iv b (List.map Fin.val (List.finRange m))).2=zp k iv b:=by
    unfold zp
    rw [Lb.out,Nat.mul_div_cancel_left _ (by omega),yK]
   rw [e]at hown'
   refine(BsS.of_own hown' ?_).keep fun g hg _=>⟨rfl,by have:=hg.1;omega,hg.2⟩
   rw [<-e,(QB Li.out Lb.out _ (fun y hy=>by obtain⟨z,_,rfl⟩:=List.mem_map.1 hy;exact z.2)).2]
   simp
   omega
  ·exact(HB5.out.trans ((hO.toBelow (B:=w.heap.size) iL (by omega) HB5.out.size))).trans (belowK_b (w:=w) iL W D _ _ (by have:=HB5.out.size;omega) hK rfl rfl)
 case stop=>
  rintro D c pre W _ _ h _
  exact h.elim
end
section
variable(p v:Value)(k l:List UInt8)(hl:l.length=16)(w:World)(hp:RefCipherAt w w.heap.size p (gb k))(hv:Bs w w.heap.size v l)
include p v k l hl w hp hv
theorem j6v:
 Calls Tryz.prog 111 #[p,v] w fun e w'=>∃v',e=.returned v'/\BsS w' (New w w') v' (Jb k l)/\Below w.heap.size w w':=by
 have h:=Kj p v (gb k) l hl w hp hv
 rw [<-j4u]at h
 unfold Jb
 exact h
theorem j7k:
 Calls Tryz.prog 113 #[p,v] w fun e w'=>∃v',e=.returned v'/\BsS w' (New w w') v' (Kx k l)/\Below w.heap.size w w':=by
 have h:=Ki p v (gb k) l hl w hp hv
 rw [<-j4q]at h
 unfold Kx
 exact h
end
theorem RefCipherAt.mono{w:World}{B B':Nat}{p:Value}{key:Nat->UInt8}(h:RefCipherAt w B p key)(hB:B<=B'):RefCipherAt w B' p key:=by
 obtain⟨cb,kv,hp,h1,h2,h3,h4,h5⟩:=h
 exact⟨cb,kv,hp,by omega,h2,h3,h4,h5.mono hB⟩
section
variable(vk vi vb:Value)(k iv b:List UInt8)(m:Nat)(hk:k.length=16)(hi:iv.length=16)(hb:b.length=16*m)(w:World)(hvk:Bs w w.heap.size vk k)(hvi:Bs w w.heap.size vi iv)(hvb:Bs w w.heap.size vb b)
include vk vi vb k iv b m hk hi hb w hvk hvi hvb
theorem yR:
 Calls Tryz.prog 53 #[vk,vi,vb] w fun e w'=>∃v',e=.returned (.tuple #[v',.int .i64 0])/\BsS w' (New w w') v' (qg k iv b)/\Below w.heap.size w w':=by
 obtain⟨A1,n1,c1,rfl⟩:=hvk.form
 obtain⟨A2,n2,c2,rfl⟩:=hvi.form
 have e1:=Bs.lenEq hvk;have e2:=Bs.lenEq hvi
 rw [hk]at e1;rw [hi]at e2
 subst e1 e2
 obtain⟨A3,c3,hvb3,hcb3,hcm3,hle3,hcell3⟩:=hvb
 rw [hb]at hvb3 hcb3 hle3
 subst hvb3
 have t1:((16*(m:Int)) % 16 != 0)=false:=by simp
 obtain⟨bb,bo,hab,hbb,hcellb⟩:∃bb bo,(0<m->A3=some ⟨bb,bo,none⟩)/\(0<m->bb<w.heap.size)/\(0<m->∀j,j<16*m->w.cell? ⟨bb,bo+j,none⟩=some (U8 (gb b j))):=by
  rcases Nat.eq_zero_or_pos m with h0|h0
  ·exact⟨0,0,fun h=>by omega,fun h=>by omega,fun h=>by omega⟩
  ·obtain⟨bb,bo,h1,h2,h3⟩:=hcell3 (by rw [hb];omega)
   exact⟨bb,bo,fun _=>h1,fun _=>h2,fun _ j hj=>h3 j (by rw [hb];exact hj)⟩
 have Hk:=iH hvk;have Hi:=iH hvi;have Lk:=iH hk;have Li:=iH hi;have Lb:=iH hb;have HCB:=iH hcellb;have HBB:=iH hbb;have HAB:=iH hab
 clear hvk hvi hk hi hb hcellb hbb hab hcell3
 go_enter Tryz.func53,Tryz.ntmps53
 go_wp2_with fail
 refine(qQ _ k Lk.out _ Hk.out).mono ?_
 rintro e w1 ⟨p,rfl,hp,hB1⟩
 have HP:=iH hp;have HB1:=iH hB1;clear hp hB1
 have hsz1:=HB1.out.size
 go_wp2_with fail
 go_loopw [9,10,11] (fun lv ov i wr=>∃kk q:Nat,kk<=m/\Hid (q=16*kk)/\i=.int .i64 q/\BsS wr (fun g=>g<wr.heap.size/\ov.ownBlock≠some g) lv (xM k iv b (List.range kk)).1/\wr.ownsRow w1.heap.size 5 1 ov (xM k iv b (List.range kk)).2.length ((xM k iv b (List.range kk)).2.map U8)/\Below w1.heap.size w1 wr) (fun _ _ i _=>16*m - (intOf i).toNat)
 case atStart=>exact⟨0,0,Nat.zero_le _,rfl,rfl,BsS.keep Hi.out fun g hg _=>⟨HB1.out.block g hg,by omega,by simp [Value.ownBlock]⟩,World.ownsRow_nil _ _ _ _,Below.refl _ _⟩
 case round=>
  obtain⟨kk,q,hkk,hq,rfl,hlv,hown,hB⟩:=hrel
  obtain⟨wo,rfl⟩:∃wo:World,wo=wr:=⟨_,rfl⟩
  obtain⟨l1,l2⟩:=QR (k:=k) (b:=b) Li.out (List.range kk)
  obtain⟨s,hs⟩:∃s,s=xM k iv b (List.range kk):=⟨_,rfl⟩
  rw [<-hs]at hlv hown l1 l2
  rw [List.length_range]at l2
  by_cases hlt:kk<m
  ·have hq0:(q:Int)+16<=16*m:=by have:=hq.out;omega
   have hd:decide ((q:Int)<16*m)=true:=by simp;omega
   obtain⟨Al,nl,cl,rfl⟩:=hlv.form
   have hnl:=Bs.lenEq hlv
   rw [l1]at hnl
   subst hnl
   obtain⟨al,_,hvl,_,_,_,hcl⟩:=hlv
   injection hvl with hal h2 h3
   subst hal
   clear h2 h3
   obtain⟨lb,lo,rfl,hlb,hcl⟩:=hcl (by omega)
   rw [l1]at hcl
   have hm:0<m:=by omega
   have hbb:=HBB.out hm
   obtain rfl:=HAB.out hm
   have hcx:∀j,j<16->wo.cell? ⟨bb,bo+(q+j),none⟩=some (U8 (gb (blk b kk) j)):=fun j hj=>by
    have h1:=HCB.out hm (16*kk+j) (by omega)
    rw [Qe _ _ _ hj,hq.out]
    exact((hB.cell (p:=⟨bb,bo+(16*kk+j),none⟩) (by simp;omega)).trans (HB1.out.cell (p:=⟨bb,bo+(16*kk+j),none⟩) (by simpa using hbb))).trans h1
   have HX:=iH hcx;have HL:=iH hcl;have Hown:=iH hown;have HB:=iH hB;have L1:=iH l1;have L2:=iH l2;have HS:=iH hs;have Hnew:=iH (Kr wo);have HLB:=iH hlb
   clear hcx hcl hown hB l1 l2 hs hlb
   go_wp2_with fail
   go_loopw [13] (fun v wi=>∃n:Nat,n<=16/\v=.int .i64 n/\wi.rowIs wo.heap.size 122 16 (fun j=>U8 (qI n (fun j=>gb (blk b kk) j ^^^ gb s.1 j) (fun _=>0) j))/\Below wo.heap.size wo wi) (fun v _=>16 - (intOf v).toNat)
   case atStart=>exact⟨0,by omega,rfl,jy Hnew.out _,iA⟩
   case round=>
    obtain⟨n,hn,rfl,hr,hb⟩:=hrel
    by_cases hlt2:n<16
    ·have c1:=jJ hr hlt2
     have f1:=hr.frozen n
     have c2:wr.cell? ⟨bb,bo+(q+n),none⟩=some (U8 (gb (blk b kk) n)):=(hb.cell (p:=⟨bb,bo+(q+n),none⟩) (by have:=HB.out.size;simp;omega)).trans (HX.out n hlt2)
     have c3:wr.cell? ⟨lb,lo+n,none⟩=some (U8 (gb s.1 n)):=(hb.cell (p:=⟨lb,lo+n,none⟩) (HLB.out.1)).trans (HL.out n hlt2)
     have HR:=iH hr;have Hb:=iH hb;clear hr hb
     have n1:(n:Int)<16:=by omega
     have n2:(0:Int)<=q+n:=by omega
     have n3:(q:Int)+n<16*m:=by omega
     have n4:((q:Int)+n).toNat=q+n:=by omega
     have hd2:decide ((n:Int)<16)=true:=by simp;omega
     have s0:Value.int .i64 (IntKind.i64.wrap ((q:Int)+n))=.int .i64 (q+n):=by rw [IntWalk.i64_in _ (by omega)]
     go_wp2
     refine wp_region_still_tail 13 (by kernel_rfl) (by kernel_rfl) ?_
     simp only [List.take_succ_cons,List.take_zero,List.drop_succ_cons,List.drop_zero]
     repeat(refine wpStill_step (fun K hK=> ?_);go_simp;(try go_bits);refine hK _ ?_;clear hK K)
     refine wpStill_nil ?_
     go_wp2
     go_roundw
     case rel=>exact⟨n+1,by omega,by go_num,(jE HR.out rfl).drew,(Hb.out.setCell (by simp) _).drew⟩
     case measure=>simp [intOf]<;>omega
    ·have hn16:n=16:=by omega
     subst hn16
     have hr2:=jx hr iL
     have hT:=HB.out.trans (hb.mono HB.out.size)
     have hcip:=(HP.out.below hT).mono hT.size
     have hvx:Bs wr wr.heap.size (.slice (some ⟨wo.heap.size,0,none⟩) 16 16) (qU (blk b kk) s.1):=Bs.of_row hr2 (by omega)
     have HT:=iH hT;have Hcip:=iH hcip;have Hvx:=iH hvx;have Hb:=iH hb
     clear hr hr2 hT hcip hvx hb
     go_wp2_with fail
     refine(j6v p _ k (qU (blk b kk) s.1) (k9 _ _) _ Hcip.out Hvx.out).mono ?_
     rintro e W2 ⟨v2,rfl,hv2,hB2⟩
     obtain⟨Aj,nj,cj,rfl⟩:=hv2.form
     have hnj:nj=16:=by have:=Bs.lenEq hv2;rw [qy]at this;exact this
     subst hnj
     have hbo2:Below wo.heap.size wo W2:=Hb.out.trans (hB2.mono Hb.out.size)
     have hown2:=kT Hown.out hbo2
     have hsrc2:=hv2.src.2
     have l3:s.2.length+16<=140737488355328:=by have:=L2.out;omega
     have hbase2:w1.heap.size<=W2.heap.size:=Nat.le_trans HT.out.size hB2.size
     have hdis:BsS W2 (fun g=>wo.heap.size<=g/\g<W2.heap.size) (.slice Aj 16 cj) (Jb k (qU (blk b kk) s.1)):=hv2.keep fun g hg _=>⟨rfl,Nat.le_trans Hb.out.size hg.1,hg.2⟩
     have Hown2:=iH hown2;have Hsrc2:=iH hsrc2;have Hdis:=iH hdis;have HT2:=iH (HT.out.trans (hB2.mono HT.out.size));have Hbase2:=iH hbase2
     clear hown2 hsrc2 hdis hv2 hB2 hbo2 hbase2
     go_wp2_with(at_builtin;(with_reducible refine jn _ rfl (.tmp 55) (.tmp 56) 22 rfl w1.heap.size 5 (.int .u8 0) 1 Tryz.underlying22 kC rfl (by omega) u10 s.2.length (s.2.map U8) rfl Hown2.out Aj 16 cj ((Jb k (qU (blk b kk) s.1)).map U8) rfl Hsrc2.out (by omega) Hbase2.out ?_);intro v4 W4 hown4 hg4 hat4 _)
     have hlast:BsS W4 (fun g=>g<W4.heap.size/\v4.ownBlock≠some g) (.slice Aj 16 cj) (Jb k (qU (blk b kk) s.1)):=BsS.keep Hdis.out fun g hg hlt=>by
      have hne:u10.ownBlock≠some g:=fun e=>by have:=(Hown.out.lt g e).2;have:=hg.1;omega
      refine⟨hg4.block g hlt (fun e=>hne e.symm),by have:=hg4.size;omega,?_⟩
      rcases hat4 with e|e
      ·rw [e];exact hne
      ·rw [e];intro h;injection h with h;omega
     have hbw:=jj Hown2.out hg4 iL Hbase2.out
     go_roundw
     case rel=>
      refine⟨kk+1,q+16,by omega,by have:=hq.out;unfold Hid;omega,by go_num,?_,?_,HT2.out.trans hbw⟩
      ·rw [List.range_succ,qG,<-HS.out];exact hlast
      ·rw [List.range_succ,qG,<-HS.out]
       show World.ownsRow _ _ _ _ _ (s.2++Jb k (qU (blk b kk) s.1)).length ((s.2++Jb k (qU (blk b kk) s.1)).map U8)
       rw [List.length_append,qy,List.map_append]
       exact hown4
     case measure=>simp [intOf]<;>omega
  ·have hkm:kk=m:=by omega
   subst hkm
   have hd:decide ((q:Int)<16*kk)=false:=by have:=hq.out;simp;omega
   have hge:¬(q:Int)<16*kk:=by have:=hq.out;omega
   have e:s.2=qg k iv b:=by
    unfold qg
    rw [Lb.out,Nat.mul_div_cancel_left _ (by omega),<-hs]
   have l3:s.2.length<=140737488355328:=by omega
   rw [e]at hown l3
   have Hown:=iH hown;have HB:=iH hB
   clear hown hB e hs l2 l1 hlv
   go_wp2
   go_ret2
   exact⟨_,rfl,(BsS.of_own Hown.out l3).keep fun g hg _=>⟨rfl,by have:=hg.1;omega,hg.2⟩,HB1.out.trans (HB.out.mono hsz1)⟩
theorem XY:
 Calls Tryz.prog 55 #[vk,vi,vb] w fun e w'=>∃v',e=.returned (.tuple #[v',.int .i64 0])/\BsS w' (New w w') v' (zp k iv b)/\Below w.heap.size w w':=by
 obtain⟨A1,n1,c1,rfl⟩:=hvk.form
 obtain⟨A2,n2,c2,rfl⟩:=hvi.form
 have e1:=Bs.lenEq hvk;have e2:=Bs.lenEq hvi
 rw [hk]at e1;rw [hi]at e2
 subst e1 e2
 obtain⟨A3,c3,hvb3,hcb3,hcm3,hle3,hcell3⟩:=hvb
 rw [hb]at hvb3 hcb3 hle3
 subst hvb3
 have t1:((16*(m:Int)) % 16 != 0)=false:=by simp
 obtain⟨bb,bo,hab,hbb,hcellb⟩:∃bb bo,(0<m->A3=some ⟨bb,bo,none⟩)/\(0<m->bb<w.heap.size)/\(0<m->∀j,j<16*m->w.cell? ⟨bb,bo+j,none⟩=some (U8 (gb b j))):=by
  rcases Nat.eq_zero_or_pos m with h0|h0
  ·exact⟨0,0,fun h=>by omega,fun h=>by omega,fun h=>by omega⟩
  ·obtain⟨bb,bo,h1,h2,h3⟩:=hcell3 (by rw [hb];omega)
   exact⟨bb,bo,fun _=>h1,fun _=>h2,fun _ j hj=>h3 j (by rw [hb];exact hj)⟩
 have Hk:=iH hvk;have Hi:=iH hvi;have Lk:=iH hk;have Li:=iH hi;have Lb:=iH hb;have HCB:=iH hcellb;have HBB:=iH hbb;have HAB:=iH hab
 clear hvk hvi hk hi hb hcellb hbb hab hcell3
 go_enter Tryz.func55,Tryz.ntmps55
 go_wp2_with fail
 refine(qQ _ k Lk.out _ Hk.out).mono ?_
 rintro e w1 ⟨p,rfl,hp,hB1⟩
 have HP:=iH hp;have HB1:=iH hB1;clear hp hB1
 have hsz1:=HB1.out.size
 go_wp2_with fail
 go_loopw [9,10,11] (fun lv ov i wr=>∃kk q:Nat,kk<=m/\Hid (q=16*kk)/\i=.int .i64 q/\BsS wr (fun g=>g<wr.heap.size/\ov.ownBlock≠some g) lv (xJ k iv b (List.range kk)).1/\wr.ownsRow w1.heap.size 5 1 ov (xJ k iv b (List.range kk)).2.length ((xJ k iv b (List.range kk)).2.map U8)/\Below w1.heap.size w1 wr) (fun _ _ i _=>16*m - (intOf i).toNat)
 case atStart=>exact⟨0,0,Nat.zero_le _,rfl,rfl,BsS.keep Hi.out fun g hg _=>⟨HB1.out.block g hg,by omega,by simp [Value.ownBlock]⟩,World.ownsRow_nil _ _ _ _,Below.refl _ _⟩
 case round=>
  obtain⟨kk,q,hkk,hq,rfl,hlv,hown,hB⟩:=hrel
  obtain⟨wo,rfl⟩:∃wo:World,wo=wr:=⟨_,rfl⟩
  obtain⟨l1,l2⟩:=QB (k:=k) (b:=b) Li.out Lb.out (List.range kk) (fun y hy=>by have:=List.mem_range.1 hy;omega)
  obtain⟨s,hs⟩:∃s,s=xJ k iv b (List.range kk):=⟨_,rfl⟩
  rw [<-hs]at hlv hown l1 l2
  rw [List.length_range]at l2
  by_cases hlt:kk<m
  ·have hq0:(q:Int)+16<=16*m:=by have:=hq.out;omega
   have hd:decide ((q:Int)<16*m)=true:=by simp;omega
   obtain⟨Al,nl,cl,rfl⟩:=hlv.form
   have hnl:=Bs.lenEq hlv
   rw [l1]at hnl
   subst hnl
   have hm:0<m:=by omega
   have hbb:=HBB.out hm
   obtain rfl:=HAB.out hm
   have hcx:∀j,j<16->wo.cell? ⟨bb,bo+(q+j),none⟩=some (U8 (gb (blk b kk) j)):=fun j hj=>by
    have h1:=HCB.out hm (16*kk+j) (by omega)
    rw [Qe _ _ _ hj,hq.out]
    exact((hB.cell (p:=⟨bb,bo+(16*kk+j),none⟩) (by simp;omega)).trans (HB1.out.cell (p:=⟨bb,bo+(16*kk+j),none⟩) (by simpa using hbb))).trans h1
   have hq16:(q:Int)+16<=c3:=by omega
   have hcq:¬c3=q:=by omega
   have hcx2:Bs wo wo.heap.size (.slice (some ⟨bb,bo+q,none⟩) 16 (c3 - q)) (blk b kk):=by
    have hl:=zv Lb.out hlt
    refine⟨some ⟨bb,bo+q,none⟩,c3 - q,by rw [hl],by omega,by omega,by omega,fun _=>⟨bb,bo+q,rfl,by have:=hB.size;omega,fun j hj=> ?_⟩⟩
    rw [hl]at hj
    have:=hcx j hj
    rwa [<-Nat.add_assoc]at this
   have HX:=iH hcx2;have HLv:=iH hlv;have Hown:=iH hown;have HB:=iH hB;have L1:=iH l1;have L2:=iH l2;have HS:=iH hs
   clear hcx hcx2 hlv hown hB l1 l2 hs
   have hcip:=(HP.out.below HB.out).mono HB.out.size
   have Hcip:=iH hcip;clear hcip
   go_wp2_with fail
   refine(j7k p _ k (blk b kk) (zv Lb.out hlt) _ Hcip.out HX.out).mono ?_
   rintro e W1 ⟨xv,rfl,hx,hB1⟩
   have hown1:=kT Hown.out hB1
   have hT1:=HB.out.trans (hB1.mono HB.out.size)
   have hlast1:BsS W1 (fun g=>g<W1.heap.size/\u10.ownBlock≠some g) (.slice Al 16 cl) s.1:=BsS.keep HLv.out fun g hg _=>⟨hB1.block g hg.1,iZ hg.1 hB1.size,hg.2⟩
   have hx1:BsS W1 (fun g=>g<W1.heap.size/\u10.ownBlock≠some g) xv (Kx k (blk b kk)):=hx.keep fun g hg _=>⟨rfl,hg.2,fun e=>by have:=(Hown.out.lt g e).2;have:=hg.1;omega⟩
   have Hown1:=iH hown1;have HT1:=iH hT1;have Hlast1:=iH hlast1;have Hx1:=iH hx1
   clear hown1 hT1 hlast1 hx1 hx hB1
   obtain⟨Ax,nx,cx,rfl⟩:=Hx1.out.form
   have hnx:nx=16:=by have:=Bs.lenEq Hx1.out;rw [J9]at this;exact this
   subst hnx
   go_wp2
   go_loopw [10,13] (fun o v wi=>∃n:Nat,n<=16/\v=.int .i64 n/\wi.ownsRow w1.heap.size 5 1 o (s.2.length+n) ((s.2++(qU (Kx k (blk b kk)) s.1).take n).map U8)/\
    BsS wi (fun g=>g<wi.heap.size/\o.ownBlock≠some g) (.slice Al 16 cl) s.1/\BsS wi (fun g=>g<wi.heap.size/\o.ownBlock≠some g) (.slice Ax 16 cx) (Kx k (blk b kk))/\Below w1.heap.size w1 wi) (fun _ v _=>16 - (intOf v).toNat)
   case atStart=>exact⟨0,by omega,rfl,by simpa using Hown1.out,Hlast1.out,Hx1.out,HT1.out⟩
   case round=>
    obtain⟨n,hn,rfl,hown,hla,hxa,hT⟩:=hrel
    by_cases hlt2:n<16
    ·have hd2:decide ((n:Int)<16)=true:=by simp;omega
     have n1:(n:Int)<16:=by omega
     obtain⟨al,cl',hvl,_,_,_,hcl⟩:=hla
     have hla:BsS wr (fun g=>g<wr.heap.size/\u10.ownBlock≠some g) (.slice Al 16 cl) s.1:=⟨al,cl',hvl,‹_›,‹_›,‹_›,hcl⟩
     injection hvl with hal h2 h3
     subst hal
     clear h2 h3
     obtain⟨lb,lo,rfl,hlb,hcl⟩:=hcl (by rw [L1.out];omega)
     obtain⟨ax,cx',hvx,_,_,_,hcx⟩:=hxa
     have hxa:BsS wr (fun g=>g<wr.heap.size/\u10.ownBlock≠some g) (.slice Ax 16 cx) (Kx k (blk b kk)):=⟨ax,cx',hvx,‹_›,‹_›,‹_›,hcx⟩
     injection hvx with hal h2 h3
     subst hal
     clear h2 h3
     obtain⟨xb,xo,rfl,hxb,hcx⟩:=hcx (by rw [J9];omega)
     have c1:=hcx n (by rw [J9];omega)
     have c2:=hcl n (by rw [L1.out];omega)
     have hrow:wr.ownsRow w1.heap.size 5 1 u10 (s.2.length+n) ((s.2++(qU (Kx k (blk b kk)) s.1).take n).map U8):=hown
     obtain⟨d,hdd⟩:∃d,d=Kx k (blk b kk):=⟨_,rfl⟩
     rw [<-hdd]at c1 hown hxa
     have Hd:=iH hdd
     clear hdd hrow
     have Hown:=iH ((hown.alloc (.cells #[U8 (gb d n ^^^ gb s.1 n)] 5)).drew)
     have Hsrc:=iH (show SrcAt ((wr.alloc (.cells #[U8 (gb d n ^^^ gb s.1 n)] 5)).drew) (some ⟨wr.heap.size,0,none⟩) 1 [U8 (gb d n ^^^ gb s.1 n)] from SrcAt.one _ _ rfl)
     have Hla:=iH hla;have Hxa:=iH hxa;have HT:=iH hT;have Hlb:=iH hlb;have Hxb:=iH hxb
     have hbase:w1.heap.size<=((wr.alloc (.cells #[U8 (gb d n ^^^ gb s.1 n)] 5)).drew).heap.size:=by have:=hT.size;simp;omega
     have Hbase:=iH hbase
     have l4:s.2.length+16<=140737488355328:=by have:=L2.out;omega
     have C1x:=iH (show((wr.alloc (.cells #[U8 (gb d n ^^^ gb s.1 n)] 5)).drew).cell? ⟨xb,xo+n,none⟩=some (U8 (gb d n)) from(World.cell?_alloc_past _ _ _ hxb.1).trans c1)
     have C2x:=iH (show((wr.alloc (.cells #[U8 (gb d n ^^^ gb s.1 n)] 5)).drew).cell? ⟨lb,lo+n,none⟩=some (U8 (gb s.1 n)) from(World.cell?_alloc_past _ _ _ hlb.1).trans c2)
     clear hown hla hxa hT hlb hxb hcl hcx hbase
     go_wp2
     go_region_held3 (fun W=>W.cell? ⟨xb,xo+n,none⟩=some (U8 (gb d n))/\W.cell? ⟨lb,lo+n,none⟩=some (U8 (gb s.1 n)))
      (first
        |go_keep
        |(refine⟨?_,?_⟩
          ·exact(hg7.cell_far (a:=⟨xb,xo+n,none⟩) (by have:=Hxb.out.1;simp;omega) (by intro e;exact Hxb.out.2 e.symm)).trans C1x.out
          ·exact(hg7.cell_far (a:=⟨lb,lo+n,none⟩) (by have:=Hlb.out.1;simp;omega) (by intro e;exact Hlb.out.2 e.symm)).trans C2x.out))
      (((with_reducible refine xO _ rfl (.tmp 46) (.tmp 56) 22 rfl w1.heap.size 5 (.int .u8 0) 1 Tryz.underlying22 kC rfl (by omega) u10 (s.2.length+n) ((s.2++(qU d s.1).take n).map U8) rfl Hown.out (some ⟨wr.heap.size,0,none⟩) 1 1 [U8 (gb d n ^^^ gb s.1 n)] rfl Hsrc.out (by omega) Hbase.out ?_);intro v7 w7 hown7 hg7 hat7 hold7))
     have hkeep:∀ {v:Value} {l:List UInt8},BsS wr (fun g=>g<wr.heap.size/\u10.ownBlock≠some g) v l->BsS w7 (fun g=>g<w7.heap.size/\v7.ownBlock≠some g) v l:=fun h=>h.keep fun g hg _=>by
      have h1:=hg7.block g (by have:=hg.1;simp;omega) (fun e=>hg.2 e.symm)
      have h2:((wr.alloc (.cells #[U8 (gb d n ^^^ gb s.1 n)] 5)).drew).heap[g]?=wr.heap[g]? :=Below.heap_alloc wr _ g hg.1
      refine⟨h1.trans h2,by have:=hg7.size;have:=hg.1;simp at*;omega,?_⟩
      rcases hat7 with e|e
      ·rw [e];exact hg.2
      ·rw [e];intro h;injection h with h;have:=hg.1;simp at h;omega
     have hla7:=hkeep Hla.out
     have hxa7:=hkeep Hxa.out
     have hT7:=((HT.out.alloc HT.out.size _).drew).trans (jj Hown.out hg7 iL Hbase.out)
     clear hkeep
     go_wp2
     go_roundw
     case rel=>
      refine⟨n+1,by omega,by go_num,?_,hla7,by rw [<-Hd.out];exact hxa7,hT7⟩
      rw [<-Nat.add_assoc,<-Hd.out]
      have e:((s.2++(qU d s.1).take (n+1)).map U8)=((s.2++(qU d s.1).take n).map U8)++ [U8 (gb d n ^^^ gb s.1 n)]:=by
       rw [List.take_succ_eq_append_getElem (by rw [k9];exact hlt2),<-List.append_assoc,List.map_append]
       congr 1
       simp [qU,jC]
      rw [e]
      exact hown7
     case measure=>simp [intOf]<;>omega
    ·have hn16:n=16:=by omega
     subst hn16
     rw [List.take_of_length_le (by rw [k9];omega)]at hown
     have hbx:BsS wr (fun g=>g<wr.heap.size/\u10.ownBlock≠some g) (.slice (some ⟨bb,bo+q,none⟩) 16 (c3 - q)) (blk b kk):=by
      obtain⟨_,_,hv,h1,h2,h3,h4⟩:=HX.out
      injection hv with ha hn' hc'
      subst ha hc'
      refine⟨_,_,by rw [<-hn'],h1,h2,h3,fun hp=> ?_⟩
      obtain⟨b',o',he,_,h6⟩:=h4 hp
      injection he with he
      injection he with he1 he2
      subst he1 he2
      have hw1b:bb<w1.heap.size:=by omega
      refine⟨bb,bo+q,rfl,⟨by have:=hT.size;omega,fun e=>by have:=(hown.lt bb e).1;omega⟩,fun j hj=> ?_⟩
      have h7:=h6 j hj
      have h8:wr.heap[bb]?=wo.heap[bb]? :=(hT.block bb hw1b).trans (HB.out.block bb hw1b).symm
      exact(World.cell?_of_block (a:=⟨bb,bo+q+j,none⟩) h8).trans h7
     have Hown:=iH hown;have Hbx:=iH hbx;have HT:=iH hT
     clear hown hbx hT hla hxa
     go_wp2
     go_roundw
     case rel=>
      refine⟨kk+1,q+16,by omega,by have:=hq.out;unfold Hid;omega,by go_num,?_,?_,HT.out⟩
      ·rw [List.range_succ,qW,<-HS.out,show q+16 - q=16 by omega];exact Hbx.out
      ·rw [List.range_succ,qW,<-HS.out]
       show World.ownsRow _ _ _ _ _ (s.2++qU (Kx k (blk b kk)) s.1).length ((s.2++qU (Kx k (blk b kk)) s.1).map U8)
       rw [List.length_append,k9]
       exact Hown.out
     case measure=>simp [intOf]<;>omega
  ·have hkm:kk=m:=by omega
   subst hkm
   have hd:decide ((q:Int)<16*kk)=false:=by have:=hq.out;simp;omega
   have hge:¬(q:Int)<16*kk:=by have:=hq.out;omega
   have e:s.2=zp k iv b:=by
    unfold zp
    rw [Lb.out,Nat.mul_div_cancel_left _ (by omega),<-hs]
   have l3:s.2.length<=140737488355328:=by omega
   rw [e]at hown l3
   have Hown:=iH hown;have HB:=iH hB
   clear hown hB e hs l2 l1 hlv
   go_wp2
   go_ret2
   exact⟨_,rfl,(BsS.of_own Hown.out l3).keep fun g hg _=>⟨rfl,by have:=hg.1;omega,hg.2⟩,HB1.out.trans (HB.out.mono hsz1)⟩
end
def kF(b:List UInt8):Prop:=b.length=0\/¬b.length % 16=0
instance (b:List UInt8):Decidable (kF b):=by unfold kF;infer_instance
def j14(k:List UInt8):List UInt8:=j45 (Jb k Z16)
def zl(k b:List UInt8):List UInt8:=if kF b then j45 (j14 k)else j14 k
def qK(b:List UInt8):List UInt8:=if kF b then YK b else b
def qv(x kk:List UInt8):List UInt8:=x.take (x.length - 16)++qU (x.drop (x.length - 16)) kk
def qS(k b:List UInt8):List UInt8:=if k.length=16 then(qg k Z16 (qv (qK b) (zl k b))).drop ((qK b).length - 16)else []
theorem QU(k:List UInt8):(j14 k).length=16:=Yw _
theorem Xn(k b:List UInt8):(zl k b).length=16:=by unfold zl;split;exact Yw _;exact QU _
theorem Jy(b:List UInt8):∃m,(qK b).length=16*m+16:=by
 unfold qK
 split
 ·have h1:=j36 b
  have h2:0<(YK b).length:=by rw [xi];omega
  exact⟨(b.length+1+QD b.length) / 16 - 1,by omega⟩
 ·rename_i h
  unfold kF at h
  exact⟨b.length / 16 - 1,by omega⟩
theorem xH{x:List UInt8}(kk:List UInt8)(h:16<=x.length):(qv x kk).length=x.length:=by
 unfold qv;rw [List.length_append,k9,List.length_take];omega
theorem UJ{w':World}{base g M cap:Nat}{cur:List Value}{x kk:List UInt8}(hx:x.length=M+16)(hg:base<=g)(hcur:cur.length=cap)(hc:M+16<=cap)(hm:cap<=maxLen)(ht:cur.take (M+16)=x.map U8)(h:w'.heap[g]?=some (.cells (splice cur M ((qU (x.drop M) kk).map U8)).toArray 5 (0,0))):w'.ownsRow base 5 1 (.slice (some ⟨g,0,none⟩) (M+16) cap) (qv x kk).length ((qv x kk).map U8):=by
 have hl:(qv x kk).length=M+16:=by rw [xH _ (by omega),hx]
 have hxl:((qU (x.drop M) kk).map U8).length=16:=by rw [List.length_map,k9]
 refine⟨by rw [List.length_map];omega,.inr ⟨g,cap,_,by rw [hl],hg,h,by omega,hm,?_,?_⟩⟩
 ·rw [List.size_toArray,length_splice _ _ _ (by omega)];omega
 ·rw [hl,Nat.mul_one]
  show(splice cur M _).take (M+16)=_
  unfold splice qv
  rw [<-List.append_assoc,List.take_append_of_le_length (by rw [List.length_append,List.length_take,hxl];omega),List.take_of_length_le (by rw [List.length_append,List.length_take,hxl];omega),
   List.map_append,show x.length - 16=M by omega,List.map_take,<-ht,List.take_take,Nat.min_eq_left (by omega)]
theorem YJ{w:World}{base base':Nat}{e:TypeId}{v:Value}{n size:Nat}{xs:List Value}(h:w.ownsRow base e size v n xs)(hb:base'<=base):w.ownsRow base' e size v n xs:=by
 refine⟨h.1,?_⟩
 rcases h.2 with h2|⟨g,cap,cur,hv,hg,r⟩
 ·exact .inl h2
 ·exact .inr ⟨g,cap,cur,hv,Nat.le_trans hb hg,r⟩
theorem Vy(vk vb:Value)(k b:List UInt8)(hk:k.length=16)(hl:b.length<=140737488351232)(w:World)(hvk:Bs w w.heap.size vk k)(hvb:Bs w w.heap.size vb b):
 Calls Tryz.prog 178 #[vk,vb] w fun e w'=>∃v',e=.returned (.tuple #[v',.int .i64 0])/\BsS w' (New w w') v' (qS k b)/\Below w.heap.size w w':=by
 obtain⟨A0,n0,c0,rfl⟩:=hvb.form
 have hn:=Bs.lenEq hvb
 subst hn
 have Hk:=iH hvk;have Hb:=iH hvb;have Lk:=iH hk;have Lb:=iH hl;have Hm:=yN;clear hvk hvb hk hl
 go_enter Tryz.func178,Tryz.ntmps178
 go_upto_if 34 with (fail)
 refine(Xu vk _ k Z16 Lk.out xx (wz w) (Hk.out.lift (jm w)) (yh w).bs).mono ?_
 rintro e w1 ⟨v1,rfl,hv1,hB1⟩
 have hv1:Bs w1 w1.heap.size v1 (Jb k Z16):=by unfold Jb;exact hv1
 have HB1:=iH hB1;have HV1:=iH hv1;clear hB1 hv1;clear hv1
 go_upto_if 34 with (fail)
 refine(JB v1 (Jb k Z16) (qy _ _) w1 HV1.out).mono ?_
 rintro e w2 ⟨v2,rfl,hv2,hB2⟩
 have HB2:=iH (HB1.out.trans (hB2.mono HB1.out.size));have HV2:=iH hv2.bs;clear hB2 hv2
 go_upto_if 34 with (fail)
 refine(js _ b _ ((Hb.out.lift (jm w)).lift HB2.out)).mono ?_
 rintro e w3 ⟨v3,rfl,hown,hB3⟩
 have HB3:=iH (HB2.out.trans (hB3.mono HB2.out.size));have HV3:=iH (HV2.out.lift hB3);have Hown:=iH hown;clear hB3 hown
 go_upto_region 7 with (fail)
 obtain⟨o,Ho⟩:∃o:Bool,Hid (o=decide (kF b)):=⟨_,iH rfl⟩
 go_cut [34] from 26 to 34 (fun c wc=>c=.bool o/\wc=w3)
 case first=>
  by_cases h0:b.length=0
  ·have t1:((b.length:Int)==0)=true:=by rw [beq_iff_eq];omega
   have ho:decide (kF b)=true:=decide_eq_true (Or.inl h0)
   have HO:=iH ho;clear h0 ho
   go_wp2_with fail
   go_meet
   exact⟨by rw [Ho.out,HO.out],rfl⟩
  ·have t1:((b.length:Int)==0)=false:=by rw [beq_eq_false_iff_ne];omega
   by_cases h1:b.length % 16=0
   ·have t2:((b.length:Int) % 16 != 0)=false:=by rw [bne_eq_false_iff_eq];omega
    have ho:decide (kF b)=false:=decide_eq_false (fun e=>e.elim h0 (fun e=>e h1))
    have HO:=iH ho;clear h0 h1 ho
    go_wp2_with fail
    go_meet
    exact⟨by rw [Ho.out,HO.out],rfl⟩
   ·have t2:((b.length:Int) % 16 != 0)=true:=by rw [bne_iff_ne];omega
    have ho:decide (kF b)=true:=decide_eq_true (Or.inr h1)
    have HO:=iH ho;clear h0 h1 ho
    go_wp2_with fail
    go_meet
    exact⟨by rw [Ho.out,HO.out],rfl⟩
 case rest=>
 obtain⟨rfl,rfl⟩:=hcut
 go_upto_if 34 with (fail)
 go_cut [7,9] from 13 to 41 (fun vk vx wc=>Bs wc wc.heap.size vk (zl k b)/\OwnB wc (wz w).heap.size vx (qK b)/\Below (wz w).heap.size (wz w) wc)
 case first=>
  cases o with
  |true=>
   have ho:kF b:=of_decide_eq_true Ho.out.symm
   have eK:zl k b=j45 (j14 k):=iT ho
   have eX:qK b=YK b:=iT ho
   have Rest:∀w4,Below wc.heap.size wc w4->Calls Tryz.prog 192 #[.slice A0 b.length c0] w4 (fun e w5=>∃v5,e=.returned v5/\OwnB w5 w4.heap.size v5 (YK b)/\Below w4.heap.size w4 w5):=
    fun w4 h4=>j5h _ b Lb.out w4 (((Hb.out.lift (jm w)).lift HB3.out).lift h4)
   have Fin:∀w4 v4 w5 v5,BsS w4 (New wc w4) v4 (j45 (j14 k))->Below wc.heap.size wc w4->OwnB w5 w4.heap.size v5 (YK b)->Below w4.heap.size w4 w5->Bs w5 w5.heap.size v4 (zl k b)/\OwnB w5 (wz w).heap.size v5 (qK b)/\Below (wz w).heap.size (wz w) w5:=by
    intro w4 v4 w5 v5 h1 h2 h3 h4
    rw [eK,eX]
    refine⟨h1.bs.lift h4,YJ h3 (Nat.le_trans HB3.out.size h2.size),(HB3.out.trans (h2.mono HB3.out.size)).trans (h4.mono (Nat.le_trans HB3.out.size h2.size))⟩
   have REST:=iH Rest;have FIN:=iH Fin
   clear Rest Fin eK eX ho
   go_wp2_with fail
   refine(JB v2 (j14 k) (QU k) _ HV3.out).mono ?_
   rintro e w4 ⟨v4,rfl,h1,h2⟩
   have H1:=iH h1;have H2:=iH h2;clear h1 h2
   go_wp2_with fail
   refine(REST.out w4 H2.out).mono ?_
   rintro e w5 ⟨v5,rfl,h3,h4⟩
   have H5:=iH (FIN.out _ _ _ _ H1.out H2.out h3 h4)
   clear h3 h4
   go_wp2_with fail
   go_meet
   exact H5.out
  |false=>
   have ho:¬kF b:=of_decide_eq_false Ho.out.symm
   have eK:zl k b=j14 k:=iF ho
   have eX:qK b=b:=iF ho
   have H5:Hid (Bs wc wc.heap.size v2 (zl k b)/\OwnB wc (wz w).heap.size v3 (qK b)/\Below (wz w).heap.size (wz w) wc):=by
    rw [eK,eX]
    exact⟨HV3.out,YJ Hown.out HB2.out.size,HB3.out⟩
   clear eK eX ho
   go_wp2_with fail
   go_meet
   exact H5.out
 case rest=>
 obtain⟨hk7,hx9,hB⟩:=hcut
 obtain⟨m,hm⟩:=Jy b
 obtain⟨x,hX⟩:∃x,x=qK b:=⟨_,rfl⟩
 obtain⟨kk,hKK⟩:∃kk,kk=zl k b:=⟨_,rfl⟩
 have hkl:kk.length=16:=by rw [hKK,Xn]
 rw [<-hX]at hx9 hm
 rw [<-hKK]at hk7
 have hbs:=(BsS.of_own hx9 (by have:=Lb.out;rw [hX];unfold qK;split;(rw [xi];have:=QE b.length;omega);omega)).keep (w':=wc) (S':=fun b=>b<wc.heap.size) fun g hg _=>⟨rfl,hg.2⟩
 obtain⟨M,hM⟩:∃M,M=16*m:=⟨_,rfl⟩
 rw [<-hM]at hm
 obtain⟨hl9,hx9⟩:=hx9
 rw [hm]at hx9
 rcases hx9 with ⟨_,h0⟩|⟨g,cap,cur,rfl,hg,hh,hc,hcm,hsz,htk⟩
 ·exact absurd h0 (by omega)
 rw [Nat.mul_one]at hsz htk
 have HH:=iH hh;have HG:=iH hg;have HC:=iH hcm;have HS:=iH hsz;have HT:=iH htk;have HX:=iH hX;have HKK:=iH hKK;have HKL:=iH hkl;have HM:=iH hm;have HB:=iH hB;have HK:=iH hk7;have HBS:=iH hbs;have HMM:=iH hM
 clear hh hg hcm hsz htk hX hKK hkl hm hB hk7 hbs hM hl9 HB1 HV1 HB2 HV2 HB3 HV3 Hown Hm
 have hM2:M+16<=140737488355328:=by have:=HBS.out.len;rw [HM.out]at this;omega
 have hcM:M+16<=cap:=hc
 have hw:wrap64 (M:Int)=M:=IntWalk.wrap64_in _ (by omega)
 have n1:¬cap=M:=by omega
 have n2:(M:Int)<=(M:Int)+16:=by omega
 have hsl:Bs wc wc.heap.size (.slice (some ⟨g,M,none⟩) 16 (cap - M)) (x.drop M):=by
  have h:=j6g HBS.out M (by rw [HM.out];omega)
  rwa [Nat.zero_add,Nat.add_sub_cancel_left]at h
 have HSL:=iH hsl;clear hsl
 have hcur:cur.toList.toArray=cur:=by simp
 have HCUR:=iH hcur
 clear hcur
 have c5:Calls Tryz.prog 109 #[.slice (some ⟨g,M,none⟩) 16 (cap - M),u7] wc.drew fun e w5=>∃A5 c5,e=.returned (.slice A5 16 c5)/\Hid (SrcAt w5 A5 16 ((qU (x.drop M) kk).map U8))/\Hid (w5.heap[g]?=some (.cells cur.toList.toArray 5 (0,0)))/\Hid (Below (wz w).heap.size (wz w) w5):=by
  refine(Qk _ _ (x.drop M) kk (by rw [List.length_drop,HM.out];omega) HKL.out wc.drew HSL.out HK.out).mono ?_
  rintro e w5 ⟨v5,rfl,hv5,hb5⟩
  obtain⟨A5,n5,c5,rfl⟩:=hv5.form
  obtain⟨hn5,hsrc⟩:=hv5.src
  obtain rfl:n5=16:=by rw [hn5,k9]
  refine⟨A5,c5,rfl,iH hsrc,?_,iH (HB.out.drew.trans (hb5.mono HB.out.size))⟩
  rw [HCUR.out]
  exact iH ((hb5.block g (iG HH.out)).trans HH.out)
 have C5:=iH c5;clear c5
 go_upto_region 10 with (fail)
 go_region_law (first
  |(refine step_copy_splice rfl (.tmp 44) (.tmp 49) 22 22 rfl 5 Tryz.underlying22 (by kernel_rfl) (some ⟨g,M,none⟩) A5 16 (cap - M) 16 c5 (by simp [Act.eval]) (by simp [Act.eval]) g M cur.toList 5 HH5.out ((qU (x.drop M) kk).map U8) (by rw [List.length_map,k9]<;>rfl) (fun _=>⟨rfl,HSRC.out.2.1 (by omega)⟩) (by rw [List.length_map,k9,Array.length_toList];have:=HS.out;omega) HSRC.out.2.2 (wz w).heap.size (wz w) HB5.out HG.out ?_
    intro w6 h6 hb6)
  |(go_simp
    go_at_call 109
    refine C5.out.mono ?_
    rintro e w5 ⟨A5,c5,rfl,HSRC,HH5,HB5⟩))
 have hown6:=UJ (kk:=kk) HM.out HG.out (by rw [Array.length_toList];exact HS.out) hcM HC.out HT.out h6.out
 have hL:(qv x kk).length=16*(m+1):=by rw [xH _ (by rw [HM.out];omega),HM.out,HMM.out];omega
 have hbs6:Bs w6 w6.heap.size (.slice (some ⟨g,0,none⟩) (M+16) cap) (qv x kk):=(BsS.of_own hown6 (by rw [hL];have:=HMM.out;omega)).keep fun _ hg _=>⟨rfl,hg.2⟩
 have C6:=iH (Z7 vk (.slice (some ⟨w.heap.size,0,none⟩) 16 16) (.slice (some ⟨g,0,none⟩) (M+16) cap) k Z16 (qv x kk) (m+1) Lk.out xx hL w6 ((Hk.out.lift (jm w)).lift hb6) ((yh w).bs.lift hb6) hbs6)
 have HL:=iH hL;have HB6:=iH hb6
 clear hown6 hL hbs6 hb6 h6
 go_wp2_with fail
 refine C6.out.mono ?_
 rintro e w7 ⟨v7,rfl,hv7,hb7⟩
 have hl7:(qg k Z16 (qv x kk)).length=M+16:=by rw [ze k Z16 (qv x kk) HL.out,KU,HMM.out];omega
 obtain⟨A7,n7,c7,rfl⟩:=hv7.form
 obtain rfl:n7=M+16:=by have:=Bs.lenEq hv7;omega
 have hc7:M+16<=c7:=by obtain⟨_,_,e,h,_⟩:=hv7;injection e with _ _ e3;omega
 obtain⟨zb,zo,rfl⟩:=j3y hv7 (by omega)
 have c8:=j44 hv7.bs M (by omega) 16 (c7 - M) (by omega) rfl
 have C8:=iH (js _ _ w7 c8)
 have HB7:=iH (HB6.out.trans (hb7.mono HB6.out.size))
 have n3:¬c7=M:=by omega
 clear c8 hv7 hb7 hl7
 go_wp2_with fail
 refine C8.out.mono ?_
 rintro e w8 ⟨v8,rfl,hown,hb8⟩
 have hfin:BsS w8 (New w w8) v8 (qS k b)/\Below w.heap.size w w8:=by
  have hb:=HB7.out.trans (hb8.mono HB7.out.size)
  have e:qS k b=(qg k Z16 (qv x kk)).drop M:=by unfold qS;rw [iT Lk.out,<-HX.out,<-HKK.out,HM.out,Nat.add_sub_cancel]
  rw [e]
  refine⟨(BsS.of_own hown ?_).keep fun _ hg _=>⟨rfl,Nat.le_trans (Nat.le_trans (jm w).size HB7.out.size) hg.1,hg.2⟩,(jm w).trans (hb.mono (jm w).size)⟩
  rw [List.length_drop,ze k Z16 (qv x kk) HL.out,KU];have:=HMM.out;omega
 have Hfin:=iH hfin;clear hfin hown hb8
 go_wp2_with fail
 go_ret2
 exact⟨v8,rfl,Hfin.out⟩
theorem j4x(a b:List UInt8)(j:Nat)(h:j<a.length):gb (a++b) j=gb a j:=by unfold gb;rw [List.getD_eq_getElem?_getD,List.getD_eq_getElem?_getD,List.getElem?_append_left h]
theorem j28(a b:List UInt8)(j:Nat)(h:a.length<=j):gb (a++b) j=gb b (j - a.length):=by unfold gb;rw [List.getD_eq_getElem?_getD,List.getD_eq_getElem?_getD,List.getElem?_append_right h]
theorem j27(n:Nat)(f:Nat->UInt8)(j:Nat)(h:j<n):gb (jC n f) j=f j:=by unfold gb jC;rw [List.getD_eq_getElem?_getD];simp [h]
theorem VS{x kk:List UInt8}{M j:Nat}(hx:x.length=M+16)(hj:j<M+16):gb (qv x kk) j=if M<=j then gb x j ^^^ gb kk (j - M)else gb x j:=by
 unfold qv
 rw [show x.length - 16=M by omega]
 by_cases h:M<=j
 ·rw [iT h,j28 _ _ _ (by rw [List.length_take];omega),List.length_take,show min M x.length=M by omega]
  unfold qU
  rw [j27 _ _ _ (by omega)]
  congr 1
  unfold gb
  rw [List.getD_eq_getElem?_getD,List.getD_eq_getElem?_getD,List.getElem?_drop,show M+(j - M)=j by omega]
 ·rw [iF h,j4x _ _ _ (by rw [List.length_take];omega)]
  unfold gb
  rw [List.getD_eq_getElem?_getD,List.getD_eq_getElem?_getD,List.getElem?_take,iT (by omega)]
def Kh(x kk:List UInt8)(M n:Nat)(j:Nat):UInt8:=if M<=j/\j<M+n then gb x j ^^^ gb kk (j - M)else gb x j
theorem UA(x kk:List UInt8)(M:Nat):Kh x kk M 0=gb x:=by funext j;unfold Kh;rw [iF (by omega)]
theorem j2o(x kk:List UInt8)(M n:Nat):Kh x kk M n (M+n)=gb x (M+n):=by unfold Kh;rw [iF (by omega)]
theorem VR(x kk:List UInt8)(M n N:Nat):(zj N (Kh x kk M n)).set (M+n) (U8 (gb x (M+n) ^^^ gb kk n))=zj N (Kh x kk M (n+1)):=by
 rw [Jn]
 refine qn fun j _=> ?_
 unfold Kh
 by_cases e:j=M+n
 ·subst e;rw [iT rfl,iT (by omega),Nat.add_sub_cancel_left]
 ·rw [iF e]
  by_cases e2:M<=j/\j<M+n
  ·rw [iT e2,iT (by omega)]
  ·rw [iF e2,iF (by omega)]
theorem Uz{x kk:List UInt8}{M:Nat}(hx:x.length=M+16):zj (M+16) (Kh x kk M 16)=(qv x kk).map U8:=by
 rw [X8 (qv x kk) (M+16) (by rw [xH _ (by omega),hx])]
 refine qn fun j hj=> ?_
 rw [VS hx hj]
 unfold Kh
 by_cases h:M<=j
 ·rw [iT ⟨h,by omega⟩,iT h]
 ·rw [iF (fun e=>h e.1),iF h]
theorem UQ(vk vb:Value)(k b:List UInt8)(hk:k.length=16)(hl:b.length<=140737488351232)(w:World)(hvk:Bs w w.heap.size vk k)(hvb:Bs w w.heap.size vb b):
 Calls Tryz.prog 167 #[vk,vb] w fun e w'=>∃v',e=.returned (.tuple #[v',.int .i64 0])/\Bs w' w'.heap.size v' (qS k b)/\Below w.heap.size w w':=by
 obtain⟨A1,n1,c1,rfl⟩:=hvk.form
 have hn1:=Bs.lenEq hvk
 rw [hk]at hn1
 subst hn1
 obtain⟨A0,n0,c0,rfl⟩:=hvb.form
 have hn:=Bs.lenEq hvb
 subst hn
 have Hk:=iH hvk;have Hb:=iH hvb;have Lk:=iH hk;have Lb:=iH hl;have Hm:=yN;clear hvk hvb hk hl
 go_enter Tryz.func167,Tryz.ntmps167
 go_upto_region 3 with (fail)
 go_cut [6] from 14 to 18 (fun v wx=>Bs wx wx.heap.size v (j14 k)/\Below w.heap.size w wx)
 case first=>
  go_region_with (first
   |(go_at_call 110
     first
     |(refine(qQ _ k Lk.out w.drew (show Bs w.drew w.drew.heap.size _ k from Hk.out)).mono ?_
       rintro e w1 ⟨p,rfl,hp,hb1⟩
       have hz:=iH (yh w1).bs;have hP2:=iH ((hp.below (jm w1)).mono (jm w1).size);have hB1:=iH (hb1.trans ((jm w1).mono hb1.size))
       clear hp hb1)
     |(refine(qQ _ k Lk.out (wz w.drew) ((show Bs w.drew w.drew.heap.size _ k from Hk.out).lift (jm w.drew))).mono ?_
       rintro e w1 ⟨p,rfl,hp,hb1⟩
       have hP2:=iH hp;have hz:=iH ((yh w.drew).bs.lift hb1);have hB1:=iH ((jm w.drew).trans (hb1.mono (jm w.drew).size))
       clear hp hb1))
   |(go_at_call 111
     refine(j6v _ _ k Z16 xx _ hP2.out hz.out).mono ?_
     rintro e w2 ⟨v2,rfl,hv2,hb2⟩
     have hV2:=iH hv2.bs;have hB2:=iH (hB1.out.trans (hb2.mono hB1.out.size));clear hv2 hb2)
   |(go_at_call 182
     refine(JS _ (Jb k Z16) (qy _ _) _ hV2.out).mono ?_
     rintro e w3 ⟨v3,rfl,hv3,hb3⟩
     have hV3:=iH hv3.bs;have hB3:=iH (hB2.out.trans (hb3.mono hB2.out.size));clear hv3 hb3))
  all_goals(go_wp2_with fail;go_meet;exact⟨hV3.out,Below.undrew hB3.out⟩)
 case rest=>
 obtain⟨hk6,hB⟩:=hcut
 obtain⟨w1,rfl⟩:∃w1,w1=wc:=⟨_,rfl⟩
 obtain⟨v1,rfl⟩:∃v1,v1=u6:=⟨_,rfl⟩
 have HK6:=iH hk6;have HB:=iH hB
 have Hsrc:=iH ((Hb.out.lift hB).src).2
 have h0:w1.ownsRow w1.heap.size 5 1 (.slice none 0 0) 0 []:=World.ownsRow_nil _ _ _ _
 have H0:=iH h0
 clear hk6 hB h0
 go_upto_region 5 with (first
  |(at_builtin
    (with_reducible refine jn _ rfl (.const (.slice none 0 0)) (.tmp 19) 22 rfl w1.heap.size 5 (.int .u8 0) 1 Tryz.underlying22 kC rfl (by omega) (.slice none 0 0) 0 [] rfl H0.out A0 b.length c0 (b.map U8) rfl Hsrc.out (by have:=Lb.out;omega) iL ?_)
    intro v2 w2 hown2 hg2 _ _
    have hb2:=jj H0.out hg2 iL iL
    have hown2:w2.ownsRow w1.heap.size 5 1 v2 b.length (b.map U8):=by simpa using hown2
    have Hown2:=iH hown2;have HB2:=iH hb2
    clear hown2 hg2 hb2))
 obtain⟨o,Ho⟩:∃o:Bool,Hid (o=decide (kF b)):=⟨_,iH rfl⟩
 go_cut [29] from 21 to 29 (fun c wx=>c=.bool o/\wx=w2)
 case first=>
  by_cases h0:b.length=0
  ·have t1:((b.length:Int)==0)=true:=by rw [beq_iff_eq];omega
   have ho:decide (kF b)=true:=decide_eq_true (Or.inl h0)
   have HO:=iH ho;clear h0 ho
   go_wp2_with fail
   go_meet
   exact⟨by rw [Ho.out,HO.out],rfl⟩
  ·have t1:((b.length:Int)==0)=false:=by rw [beq_eq_false_iff_ne];omega
   by_cases h1:b.length % 16=0
   ·have t2:((b.length:Int) % 16 != 0)=false:=by rw [bne_eq_false_iff_eq];omega
    have ho:decide (kF b)=false:=decide_eq_false (fun e=>e.elim h0 (fun e=>e h1))
    have HO:=iH ho;clear h0 h1 ho
    go_wp2_with fail
    go_meet
    exact⟨by rw [Ho.out,HO.out],rfl⟩
   ·have t2:((b.length:Int) % 16 != 0)=true:=by rw [bne_iff_ne];omega
    have ho:decide (kF b)=true:=decide_eq_true (Or.inr h1)
    have HO:=iH ho;clear h0 h1 ho
    go_wp2_with fail
    go_meet
    exact⟨by rw [Ho.out,HO.out],rfl⟩
 case rest=>
 obtain⟨rfl,hw2⟩:=hcut
 subst hw2
 go_upto_if 29 with (fail)
 go_cut [6,7] from 14 to 33 (fun vk vx wx=>∃B,Bs wx B vk (zl k b)/\wx.ownsRow B 5 1 vx (qK b).length ((qK b).map U8)/\w.heap.size<=B/\Below w.heap.size w wx/\B<=wx.heap.size)
 case first=>
  cases o with
  |true=>
   have ho:kF b:=of_decide_eq_true Ho.out.symm
   have eK:zl k b=j45 (j14 k):=iT ho
   have eX:qK b=YK b:=iT ho
   clear ho
   go_wp2_with fail
   refine(JS v1 (j14 k) (QU k) _ (HK6.out.lift HB2.out)).mono ?_
   rintro e w4 ⟨v4,rfl,h1,h2⟩
   have hb4:=HB.out.trans ((HB2.out.trans (h2.mono HB2.out.size)).mono HB.out.size)
   have H1:=iH h1.bs;have H4:=iH hb4;clear h1 h2 hb4
   go_wp2_with fail
   refine(j3f _ b Lb.out w4 (Hb.out.lift H4.out)).mono ?_
   rintro e w5 ⟨v5,rfl,h3,h4⟩
   have H5:Hid (∃B,Bs w5 B v4 (zl k b)/\w5.ownsRow B 5 1 v5 (qK b).length ((qK b).map U8)/\w.heap.size<=B/\Below w.heap.size w w5/\B<=w5.heap.size):=by
    rw [eK,eX]
    exact⟨w4.heap.size,H1.out.below h4,h3,H4.out.size,H4.out.trans (h4.mono H4.out.size),h4.size⟩
   clear h3 h4 eK eX
   go_wp2_with fail
   go_meet
   exact H5.out
  |false=>
   have ho:¬kF b:=of_decide_eq_false Ho.out.symm
   have eK:zl k b=j14 k:=iF ho
   have eX:qK b=b:=iF ho
   have H5:Hid (∃B,Bs wc B v1 (zl k b)/\wc.ownsRow B 5 1 v2 (qK b).length ((qK b).map U8)/\w.heap.size<=B/\Below w.heap.size w wc/\B<=wc.heap.size):=by
    rw [eK,eX]
    exact⟨w1.heap.size,HK6.out.below HB2.out,Hown2.out,HB.out.size,HB.out.trans (HB2.out.mono HB.out.size),HB2.out.size⟩
   clear eK eX ho
   go_wp2_with fail
   go_meet
   exact H5.out
 case rest=>
 obtain⟨B,hk7,hx9,hwB,hBw,hBs⟩:=hcut
 obtain⟨m,hm⟩:=Jy b
 obtain⟨x,hX⟩:∃x,x=qK b:=⟨_,rfl⟩
 obtain⟨kk,hKK⟩:∃kk,kk=zl k b:=⟨_,rfl⟩
 have hkl:kk.length=16:=by rw [hKK,Xn]
 rw [<-hX]at hx9 hm
 rw [<-hKK]at hk7
 obtain⟨M,hM⟩:∃M,M=16*m:=⟨_,rfl⟩
 rw [<-hM]at hm
 have hM2:M+16<=140737488355328:=by
  rw [<-hm,hX];have:=Lb.out;unfold qK;split
  ·rw [xi];have:=QE b.length;omega
  ·omega
 rw [hm,X8 x (M+16) hm]at hx9
 obtain⟨g,cap,rfl,hg1,hg2,hcap⟩:=kZ hx9 (by omega)
 obtain⟨ak,ck,rfl,hck,_,_,hcell⟩:=hk7
 obtain⟨kb,ko,rfl,hkb,hkx⟩:=hcell (by omega)
 rw [hkl]at hkx hck
 rw [hkl]
 have HX:=iH hX;have HKK:=iH hKK;have HM:=iH hm;have HMM:=iH hM;have HBW:=iH hBw;have HX9:=iH hx9;have HKX:=iH hkx;have HWB:=iH hwB;have HBS:=iH hBs
 obtain⟨w3,hw3⟩:∃w3,w3=wc:=⟨_,rfl⟩
 rw [<-hw3]at HBW HX9 HKX HBS hg2 |-
 clear hX hKK hkl hm hM hBw hx9 hkx hcell hwB hBs hw3 HK6 HB Hsrc H0 Hown2 HB2
 go_wp2_with fail
 go_loopw [8] (fun i wr=>∃n:Nat,n<=16/\i=.int .i64 n/\wr.ownsRow B 5 1 (.slice (some ⟨g,0,none⟩) (M+16) cap) (M+16) (zj (M+16) (Kh x kk M n))/\Below B w3 wr) (fun i _=>16 - (intOf i).toNat)
 case atStart=>exact⟨0,by omega,rfl,by rw [UA];exact HX9.out,Below.refl _ _⟩
 case round=>
  obtain⟨n,hn,rfl,hown,hB⟩:=hrel
  have Hown2:=iH hown;have HB2:=iH hB;clear hown hB
  by_cases hlt:n<16
  ·have hd:decide ((n:Int)<16)=true:=by simp;omega
   have c1:wr.cell? ⟨g,M+n,none⟩=some (U8 (gb x (M+n))):=by rw [Hown2.out.cellAt (M+n) (by omega),xm _ _ _ (by omega),j2o]
   have f1:=Hown2.out.frozenAt (M+n)
   have c2:wr.cell? ⟨kb,ko+n,none⟩=some (U8 (gb kk n)):=(HB2.out.cell (p:=⟨kb,ko+n,none⟩) hkb).trans (HKX.out n hlt)
   have n1:(n:Int)<16:=by omega
   have n2:(0:Int)<=M+n:=by omega
   have n3:(M:Int)+n<M+16:=by omega
   have n4:((M:Int)+n).toNat=M+n:=by omega
   have hw2:IntKind.i64.wrap ((M:Int)+n)=M+n:=IntWalk.i64_in _ ⟨by omega,by omega⟩
   have s0:Value.int .i64 (IntKind.i64.wrap ((M:Int)+n))=.int .i64 (M+n):=congrArg _ hw2
   clear hw2
   have hw1:IntKind.i64.wrap ((M:Int)+n)=M+n:=IntWalk.i64_in _ (by omega)
   have HW1:=iH hw1;clear hw1
   have hw0:IntKind.i64.wrap (M:Int)=M:=IntWalk.i64_in _ (by omega)
   have HW0:=iH hw0;clear hw0
   go_wp2
   refine wp_region_still_tail 14 (by kernel_rfl) (by kernel_rfl) ?_
   simp only [List.take_succ_cons,List.take_zero,List.drop_succ_cons,List.drop_zero]
   have hw0:=HW0.out
   iterate 4 (refine wpStill_step (fun K hK=> ?_);go_simp;(try go_bits);refine hK _ ?_;clear hK K)
   clear hw0
   have hw1:=HW1.out
   iterate 2 (refine wpStill_step (fun K hK=> ?_);go_simp;(try go_bits);refine hK _ ?_;clear hK K)
   clear hw1
   repeat(refine wpStill_step (fun K hK=> ?_);go_simp;(try go_bits);refine hK _ ?_;clear hK K)
   refine wpStill_nil ?_
   go_wp2
   go_roundw
   case rel=>
    obtain⟨h1,h2⟩:=Hown2.out.stored (M+n) (U8 (gb x (M+n) ^^^ gb kk n))
    rw [VR]at h1
    exact⟨n+1,by omega,by go_num,h1,HB2.out.drew.setCell (by simpa using hg1) _⟩
   case measure=>simp [intOf]<;>omega
  ·have hn16:n=16:=by omega
   subst hn16
   have h1:=Hown2.out
   rw [Uz HM.out]at h1
   have hL:(qv x kk).length=16*(m+1):=by rw [xH _ (by rw [HM.out];omega),HM.out,HMM.out];omega
   have hbs:Bs wr wr.heap.size (.slice (some ⟨g,0,none⟩) (M+16) cap) (qv x kk):=(BsS.of_own h1 (by rw [hL];have:=HMM.out;omega)).keep fun _ hg _=>⟨rfl,hg.2⟩
   have hbw:=HBW.out.trans (HB2.out.mono HWB.out)
   have C6:=iH (yR (.slice A1 16 c1) (.slice (some ⟨wr.heap.size,0,none⟩) 16 16) (.slice (some ⟨g,0,none⟩) (M+16) cap) k Z16 (qv x kk) (m+1) Lk.out xx hL (wz wr) ((Hk.out.lift hbw).lift (jm wr)) (yh wr).bs (hbs.lift (jm wr)))
   have HL:=iH hL;have HBw:=iH (hbw.trans ((jm wr).mono hbw.size))
   clear h1 hL hbs hbw
   go_wp2_with fail
   refine C6.out.mono ?_
   rintro e w7 ⟨v7,rfl,hv7,hb7⟩
   have hl7:(qg k Z16 (qv x kk)).length=M+16:=by rw [ze k Z16 (qv x kk) HL.out,KU,HMM.out];omega
   obtain⟨A7,n7,c7,rfl⟩:=hv7.form
   obtain rfl:n7=M+16:=by have:=Bs.lenEq hv7;omega
   have hc7:M+16<=c7:=by obtain⟨_,_,e,h,_⟩:=hv7;injection e with _ _ e3;omega
   obtain⟨zb,zo,rfl⟩:=j3y hv7 (by omega)
   have c8:=j44 hv7.bs M (by omega) 16 (c7 - M) (by omega) rfl
   have e8:qS k b=(qg k Z16 (qv x kk)).drop M:=by unfold qS;rw [iT Lk.out,<-HX.out,<-HKK.out,HM.out,Nat.add_sub_cancel]
   rw [<-e8]at c8
   have Hfin:=iH (show Bs w7 w7.heap.size (.slice (some ⟨zb,zo+M,none⟩) 16 (c7 - M)) (qS k b)/\Below w.heap.size w w7 from⟨c8,HBw.out.trans (hb7.mono HBw.out.size)⟩)
   have n3:¬c7=M:=by omega
   have n2:(M:Int)<=(M:Int)+16:=by omega
   clear c8 e8 hv7 hb7 hl7
   have hw:wrap64 (M:Int)=M:=IntWalk.wrap64_in _ (by omega)
   go_wp2_with fail
   go_ret2
   exact⟨_,rfl,Hfin.out⟩
theorem xz{k:List UInt8}(hk:k.length=16)(b:List UInt8):(qS k b).length=16:=by
 obtain⟨m,hm⟩:=Jy b
 have h:(qv (qK b) (zl k b)).length=16*(m+1):=by rw [xH _ (by omega),hm];omega
 unfold qS
 rw [iT hk,ze k Z16 _ h,List.length_drop,KU,hm]
 omega
theorem Bs.cutCap{w:World}{S:Nat->Prop}{A:Option Addr}{n c:Nat}{l:List UInt8}(h:BsS w S (.slice A n c) l)(k:Nat)(hk:k<=l.length):BsS w S (.slice A k k) (l.take k):=by
 obtain⟨a,c1,e,h1,h2,h3,h4⟩:=Bs.cutTo h k hk
 have hl:(l.take k).length=k:=by rw [List.length_take];omega
 injection e with e1 e2 e3
 rw [hl]at h3
 refine⟨a,k,by rw [hl,e1],by omega,by omega,by omega,h4⟩
section
variable(vk vb:Value)(k b:List UInt8)(hk:k.length=16)(hl:b.length<=140737488351232)(w:World)(hvk:Bs w w.heap.size vk k)(hvb:Bs w w.heap.size vb b)
include vk vb k b hk hl w hvk hvb
theorem Uk:
 Calls Tryz.prog 164 #[vk,vb] w fun e w'=>∃v',e=.returned (.tuple #[v',.int .i64 0])/\Bs w' w'.heap.size v' ((qS k b).take 8)/\Below w.heap.size w w':=by
 have C:=iH (Vy vk vb k b hk hl w hvk hvb)
 have L:=iH (xz hk b)
 clear hvk hvb hk hl
 go_enter Tryz.func164,Tryz.ntmps164
 go_wp2_with fail
 refine C.out.mono ?_
 rintro e w1 ⟨v1,rfl,hv0,hB⟩
 have hv1:Bs w1 w1.heap.size v1 (qS k b):=hv0.bs
 clear hv0
 obtain⟨A1,n1,c1,rfl⟩:=hv1.form
 obtain rfl:n1=16:=by rw [Bs.lenEq hv1];exact L.out
 have hc1:16<=c1:=by obtain⟨_,_,e,h,_⟩:=hv1;rw [L.out]at h;injection e with _ _ e3;omega
 have Hfin:=iH (show Bs w1 w1.heap.size (.slice A1 8 8) ((qS k b).take 8)/\Below w.heap.size w w1 from⟨Bs.cutCap hv1 8 (by rw [L.out];omega),hB⟩)
 clear hv1 hB
 have n1:(8:Int)<=c1:=by omega
 have n2:8<=c1:=by omega
 go_wp2_with fail
 go_ret2
 exact⟨_,rfl,Hfin.out⟩
theorem ZT:
 Calls Tryz.prog 137 #[vk,vb] w fun e w'=>∃v',e=.returned (.tuple #[v',.int .i64 0])/\Bs w' w'.heap.size v' ((qS k b).take 8)/\Below w.heap.size w w':=by
 have C:=iH (UQ vk vb k b hk hl w hvk hvb)
 have L:=iH (xz hk b)
 clear hvk hvb hk hl
 go_enter Tryz.func137,Tryz.ntmps137
 go_wp2_with fail
 refine C.out.mono ?_
 rintro e w1 ⟨v1,rfl,hv0,hB⟩
 have hv1:Bs w1 w1.heap.size v1 (qS k b):=hv0
 clear hv0
 obtain⟨A1,n1,c1,rfl⟩:=hv1.form
 obtain rfl:n1=16:=by rw [Bs.lenEq hv1];exact L.out
 have hc1:16<=c1:=by obtain⟨_,_,e,h,_⟩:=hv1;rw [L.out]at h;injection e with _ _ e3;omega
 have Hfin:=iH (show Bs w1 w1.heap.size (.slice A1 8 c1) ((qS k b).take 8)/\Below w.heap.size w w1 from⟨Bs.cutTo hv1 8 (by rw [L.out];omega),hB⟩)
 clear hv1 hB
 have n1:(8:Int)<=c1:=by omega
 have n2:8<=c1:=by omega
 go_wp2_with fail
 go_ret2
 exact⟨_,rfl,Hfin.out⟩
end
end Go.Proofs.YtalmmiojbmpmiaaGreatDoor
