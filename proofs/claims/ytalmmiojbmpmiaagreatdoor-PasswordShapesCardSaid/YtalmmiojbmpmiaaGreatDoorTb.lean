/- Facts on words as the walk meets them: the operations on the integer kind u32 said of Lean's UInt32. No program is named here; A region that draws its order,... -/
import Derived.Test.YtalmmiojbmpmiaaGreatDoorPBr
import Derived.Test.YtalmmiojbmpmiaaGreatDoorTa
set_option linter.all false
set_option maxRecDepth 100000
set_option maxHeartbeats 2000000
namespace Go.Proofs.YtalmmiojbmpmiaaGreatDoor
open Go.RowKit Go.Deep
section
variable {P:Program} {Q:Exit->Act->World->Prop}
end
theorem octets_w(k:Int)(w:World)(h0:0<=k)(h1:k<4294967296):Calls Tryz.prog 101 #[.int .i64 k,.int .i64 4] w fun e w'=>∃v',e=.returned (.tuple #[v',.int .i64 0])/\OwnB w' w.heap.size v' (kg k)/\Below w.heap.size w w':=by
 have g1:decide (k<0)=false:=decide_eq_false (by omega)
 have g2:(k / 4294967296 != 0)=false:=by simp;omega
 have hm:=j0q w
 have hB0:Below w.heap.size w (w.alloc (.cells #[.int .u8 0,.int .u8 0,.int .u8 0,.int .u8 0] 5)):=iA
 have HB0:=iH hB0
 clear hB0
 go_enter Tryz.func101,Tryz.ntmps101
 go_wp2_with fail
 go_loopg [26] 4 (fun m i wr=>∃j n:Nat,n=m/\j+n=4/\i=.int .i64 j/\wr.heap[w.heap.size]?=some (.cells (ZT k j) 5 (0,0))/\Below w.heap.size w wr)
 case atStart=>exact⟨0,4,rfl,rfl,rfl,iN,HB0.out⟩
 case round=>
  obtain⟨j,n,rfl,hj,rfl,hr,hb⟩:=hrel
  have HB:=iH hb;have HR:=iH hr
  have hf:∀o,wr.frozen? ⟨w.heap.size,o,none⟩=false:=fun o=>by simp [World.frozen?,hr]
  have hc:∀o,o<4->wr.cell? ⟨w.heap.size,o,none⟩=(ZT k j)[o]? :=fun o ho=>by rw [cell_of_row _ _ _ _ _ _ hr]
  clear hr hb
  obtain rfl|rfl|rfl|rfl|rfl:j=0\/j=1\/j=2\/j=3\/j=4:=by omega
  ·obtain rfl:n=4:=by omega
   go_wp2_with fail
   go_roundg 3
   case measure=>omega
   case rel=>
    have hs:=kM (o:=3) (v:=.int .u8 (k % 256)) HR.out
    rw [show Value.int .u8 (k % 256)=U8 (ofI k) from j3 k]at hs
    exact⟨1,3,rfl,rfl,rfl,hs,HB.out.setCell iL _⟩
  ·obtain rfl:n=3:=by omega
   go_wp2_with fail
   go_roundg 2
   case measure=>omega
   case rel=>
    have hs:=kM (o:=2) (v:=.int .u8 (k / 256 % 256)) HR.out
    rw [show Value.int .u8 (k / 256 % 256)=U8 (ofI (k / 256)) from j3 (k / 256)]at hs
    exact⟨2,2,rfl,rfl,rfl,hs,HB.out.setCell iL _⟩
  ·obtain rfl:n=2:=by omega
   go_wp2_with fail
   go_roundg 1
   case measure=>omega
   case rel=>
    have hs:=kM (o:=1) (v:=.int .u8 (k / 65536 % 256)) HR.out
    rw [show Value.int .u8 (k / 65536 % 256)=U8 (ofI (k / 65536)) from j3 (k / 65536)]at hs
    exact⟨3,1,rfl,rfl,rfl,hs,HB.out.setCell iL _⟩
  ·obtain rfl:n=1:=by omega
   go_wp2_with fail
   go_roundg 0
   case measure=>omega
   case rel=>
    have hs:=kM (o:=0) (v:=.int .u8 (k / 16777216)) HR.out
    rw [show(ZT k 3).set! 0 (.int .u8 (k / 16777216))=ZT k 4 by rw [show Value.int .u8 (k / 16777216)=U8 (ofI (k / 16777216))by rw [<-j3,Int.emod_eq_of_lt (by omega) (by omega)]]<;>rfl]at hs
    exact⟨4,0,rfl,rfl,rfl,hs,HB.out.setCell iL _⟩
  ·obtain rfl:n=0:=by omega
   go_wp2_with fail
   go_ret2
   exact⟨_,rfl,⟨by simp [kg],.inr ⟨w.heap.size,4,_,rfl,Nat.le_refl _,HR.out,Nat.le_refl _,by decide,rfl,rfl⟩⟩,HB.out⟩
theorem gencode_good(x:Int)(h:jx x=true)(w:World):Calls Tryz.prog 162 #[.int .i64 x] w fun e w'=>∃v',e=.returned (.tuple #[v',.int .i64 0])/\OwnB w' w.heap.size v' (kg x)/\Below w.heap.size w w':=by
 have HE:=iH (jT x)
 obtain⟨h1,h2⟩:=kO h
 have HO:=iH (octets_w x w (by omega) (by omega))
 rw [h]at HE
 clear h h1 h2
 go_enter Tryz.func162,Tryz.ntmps162
 go_wp2_with(first
  |(go_at_call 115;refine(HE.out _).mono ?_;rintro e w' ⟨rfl,hw'⟩;rw [hw'];clear hw' w')
  |(go_at_call 101;refine HO.out.mono ?_;rintro e w1 ⟨v1,rfl,hs,hb⟩;have HS:=iH hs;have HB:=iH hb;clear hs hb))
 go_ret2
 exact⟨_,rfl,HS.out,HB.out⟩
theorem gpublic_good(k:Nat)(h1:1<=k)(h2:k<1073741789)(w:World):Calls Tryz.prog 128 #[.int .i64 k] w fun e w'=>e=.returned (.tuple #[.int .i64 (gpw 64 1 4 k),.int .i64 0])/\w'=w:=by
 have HS:=iH (qR (k:Int))
 rw [show okS (k:Int)=true from decide_eq_true (by omega)]at HS
 have HP:=iH (zH 4 k w (by decide) (by omega))
 clear h1 h2
 go_enter Tryz.func128,Tryz.ntmps128
 go_wp2_with(first
  |(go_at_call 114;refine(HS.out _).mono ?_;rintro e w' ⟨rfl,hw'⟩;rw [hw'];clear hw' w')
  |(go_at_call 116;refine HP.out.mono ?_;rintro e w' ⟨rfl,hw'⟩;rw [hw'];clear hw' w'))
 go_ret2
 exact⟨rfl,rfl⟩
section
variable {P:Program} (w:World)
end
section
open Go.RowKit Go.Shelf
attribute [local go_sem] Oper.semAt_some
end
theorem encrypt_good(vk v:Value)(k l:List UInt8)(h1:k.length=16)(h2:l.length=16)(w:World)(hk:Bs w w.heap.size vk k)(hv:Bs w w.heap.size v l):
 Calls Tryz.prog 190 #[vk,v] w fun e w'=>∃v',e=.returned (.tuple #[v',.int .i64 0])/\Bs w' w'.heap.size v' (jn 16 (j1k (gb k) (gb l)))/\Below w.heap.size w w':=by
 have hk0:=hk
 have hv0:=hv
 obtain⟨ak,ck,hke,hlck,hck,hk3,hcellk⟩:=hk
 obtain⟨a,c,hve,hlc,hc,h3,hcell⟩:=hv
 rw [h1]at hke
 rw [h2]at hve
 subst hke hve
 have H1:=iH h1;have H2:=iH h2;have HK:=iH hk0;have HV:=iH hv0
 clear hcellk hcell h1 h2 hk0 hv0 hlck hlc hk3 h3
 go_enter Tryz.func190,Tryz.ntmps190
 go_wp2_with fail
 refine(Km _ k H1.out _ HK.out).mono ?_
 rintro e w1 ⟨p,rfl,hp,hb1⟩
 go_wp2_with fail
 refine(KM _ _ _ l H2.out _ hp ((HV.out.below hb1).mono hb1.size)).mono ?_
 rintro e w2 ⟨v',rfl,hv',hb2⟩
 go_wp2
 go_ret2
 exact⟨v',rfl,hv'.bs,hb1.trans (hb2.mono hb1.size)⟩
section
open Go.RowKit Go.Shelf
attribute [local go_sem] Oper.semAt_some
end
section
open Go.RowKit Go.Shelf
attribute [local go_sem] Oper.semAt_some
end
theorem dblL_len(l:List UInt8):(j25 l).length=16:=je _ _
def from_(m:Nat)(new:Nat->UInt8)(j:Nat):UInt8:=if m<=j then new j else 0
theorem row_from_set{w:World}{g N n:Nat}{t:TypeId}{new:Nat->UInt8}{v:UInt8}(h:w.rowIs g t N (fun j=>U8 (from_ (n+1) new j)))(hv:v=new n):
 (w.setCell ⟨g,n,none⟩ (U8 v)).rowIs g t N (fun j=>U8 (from_ n new j)):=
 (h.set n _).congr fun j _=>by
   unfold from_
   by_cases e:j=n
   ·subst e;simp [hv]
   ·by_cases e2:n<=j
    ·simp [e,e2,show n+1<=j by omega]
    ·simp [e,e2,show ¬n+1<=j by omega]
def carF(f:Nat->UInt8)(m:Nat):UInt8:=if m<16 then f m / 128 else 0
theorem wz_row(w:World):(wz w).rowIs w.heap.size 5 16 (fun j=>U8 ((fun _=>0) j)):=by unfold wz;exact jE _ _ _ _
theorem high_bit(b:UInt8):(b / 128==1)=decide (128<=bv b):=by
 have h:(b / 128).toNat=b.toNat / 128:=by rw [UInt8.toNat_div]<;>rfl
 have h2:=b.toNat_lt
 by_cases e:128<=bv b
 ·have:b / 128=1:=UInt8.toNat_inj.1 (by rw [h];unfold bv at e;show _=1;omega)
  rw [this];simp [e]
 ·have:¬b / 128=1:=fun hh=>by rw [hh]at h;unfold bv at e;have:(1:UInt8).toNat=1:=rfl;omega
  simp [e,this]
theorem row_dbl{w:World}{g:Nat}{t:TypeId}{f:Nat->UInt8}(h:w.rowIs g t 16 (fun j=>U8 (j24 f j)))(hb:¬128<=bv (f 0)):w.rowIs g t 16 (fun j=>U8 (j2f f j)):=
 h.congr fun j _=>by unfold j2f;rw [iF (fun e=>hb e.2)]
theorem row_dbl_set{w:World}{g:Nat}{t:TypeId}{f:Nat->UInt8}(h:w.rowIs g t 16 (fun j=>U8 (j24 f j)))(hb:128<=bv (f 0)):(w.setCell ⟨g,15,none⟩ (U8 (j24 f 15 ^^^ 135))).rowIs g t 16 (fun j=>U8 (j2f f j)):=
 (h.set 15 _).congr fun j _=>by
   unfold j2f
   by_cases e:j=15
   ·subst e;rw [iT rfl,iT ⟨rfl,hb⟩]
   ·rw [iF e,iF (fun x=>e x.1)]
theorem double_any2(v:Value)(l:List UInt8)(hl:l.length=16)(w:World)(hv:Bs w w.heap.size v l):
 Calls Tryz.prog 191 #[v] w fun e w'=>∃v',e=.returned v'/\BsS w' (New w w') v' (j25 l)/\Below w.heap.size w w':=by
 obtain⟨A0,n,c,rfl⟩:=hv.form
 obtain⟨a,c0,e0,hc,_,_,hcell⟩:=hv
 injection e0 with e1 e2 e3
 subst e1 e3
 rw [hl]at e2
 subst e2
 obtain⟨bb,ob,rfl,hbb,hx⟩:=hcell (by omega)
 rw [hl]at hx
 have HX:=iH hx;have HC:=iH hc;have HL:=iH hl;have Hm:=QK
 clear hx hcell hc hl
 go_enter Tryz.func191,Tryz.ntmps191
 go_wp2_with fail
 go_loopw [5,4] (fun i cr wr=>∃m:Nat,m<=16/\i=.int .i64 ((m:Int) - 1)/\cr=U8 (carF (gb l) m)/\wr.rowIs w.heap.size 5 16 (fun j=>U8 (from_ m (j24 (gb l)) j))/\Below w.heap.size w wr) (fun i _ _=>(intOf i+1).toNat)
 case atStart=>exact⟨16,by omega,rfl,rfl,(wz_row w).congr fun j hj=>by unfold from_;rw [iF (by omega)],jv w⟩
 case round=>
  obtain⟨m,hm,hi,rfl,hr,hb⟩:=hrel
  cases m with
  |zero=>
   have hd:decide ((-1:Int)>=0)=false:=by decide
   have hi:_=Value.int .i64 (-1):=hi
   subst hi
   have hr0:=hr.congr (g:=fun j=>U8 (j24 (gb l) j)) fun j _=>by unfold from_;rw [iT (by omega)]
   have c1:wr.cell? ⟨w.heap.size,15,none⟩=some (U8 (j24 (gb l) 15)):=hr0.cell (by omega)
   have f1:=hr0.frozen 15
   have hr1:=iH hr0;have hb1:=iH hb;clear hr hr0 hb
   by_cases hh:128<=bv (gb l 0)
   ·have hq:(carF (gb l) 0==1)=true:=by unfold carF;rw [iT (by omega),high_bit];simp [hh]
    have H:=iH hh;clear hh
    go_wp2_with fail
    go_ret
    have hr2:=row_dbl_set hr1.out H.out
    refine⟨_,rfl,BsS.of_row (S:=New w _) hr2 (by omega) ⟨Nat.le_refl _,by have:=hr2.lt;exact this⟩,hb1.out.setCell (by simp) _⟩
   ·have hq:(carF (gb l) 0==1)=false:=by unfold carF;rw [iT (by omega),high_bit];simp [hh]
    have H:=iH hh;clear hh
    go_wp2_with fail
    go_ret
    have hr2:=row_dbl hr1.out (by have:=H.out;omega)
    refine⟨_,rfl,BsS.of_row (S:=New w _) hr2 (by omega) ⟨Nat.le_refl _,by have:=hr2.lt;exact this⟩,hb1.out⟩
  |succ k=>
   rw [show((k+1:Nat):Int) - 1=k by omega]at hi
   subst hi
   have hr1:=iH hr;have hb1:=iH hb;clear hr hb
   have c1:wr.cell? ⟨bb,ob+k,none⟩=some (U8 (gb l k)):=(hb1.out.cell (p:=⟨bb,ob+k,none⟩) hbb).trans (HX.out k (by omega))
   have f1:=hr1.out.frozen k
   have c3:=hr1.out.cell (i:=k) (by omega)
   have hn:¬w.heap.size=bb:=by omega
   have hk:(k:Int)<16:=by omega
   have hd:decide ((k:Int)>=0)=true:=by simp
   have c2:(wr.setCell ⟨w.heap.size,k,none⟩ (.int .u8 (bv (gb l k*2 ||| carF (gb l) (k+1))))).cell? ⟨bb,ob+k,none⟩=some (U8 (gb l k)):=((hb1.out.setCell (p:=⟨w.heap.size,k,none⟩) (by simp) _).cell (p:=⟨bb,ob+k,none⟩) hbb).trans (HX.out k (by omega))
   go_wp2_with fail
   go_roundw
   case rel=>
    refine⟨k,by omega,by go_num,?_,row_from_set hr1.out ?_,hb1.out.setCell (by simp) _⟩
    ·unfold carF;rw [iT (by omega)]
    ·rfl
   case measure=>simp [intOf]<;>omega
section
open Go.RowKit Go.Shelf
attribute [local go_sem] Oper.semAt_some
end
section
open Go.RowKit Go.Shelf
attribute [local go_sem] Oper.semAt_some
end
theorem run_append_zeros0{P:Program}(w:World)(base:Nat)(t tn ty e:TypeId)(z:Value)(bytes:Nat)(kq kn:IntKind)(ht:P.underlying t=some (.slice e))(htn:P.underlying tn=some (.int kn))(hinfo:(P.info? e).map (fun i=>(i.zero,i.size,i.bytes))=some (some z,1,bytes))
 (v:Value) (n:Nat) (xs:List Value) (hown:w.ownsRow base e 1 v n xs):(Builtin.append_ #[t,tn] ty #[v,.int kq 0]).run P w=.ok v w:=by
 obtain⟨i,hi,hzz⟩:=Option.map_eq_some_iff.1 hinfo
 simp only [Prod.mk.injEq]at hzz
 obtain⟨hz,hsize,hbb⟩:=hzz
 have hw:IntKind.i64.wrap 0=0:=by rw [IntKind.wrap_i64];omega
 rcases hown.2 with ⟨rfl,rfl⟩|⟨g,cap,cur,rfl,_,_,hnc,_⟩
 ·simp [Builtin.append_,run_underlying ht,run_underlying htn,sizeOf,typeInfo,hi,asInt,asIntOf,hw]
 ·simp [Builtin.append_,run_underlying ht,run_underlying htn,sizeOf,typeInfo,hi,asInt,asIntOf,hw,hnc,storeCells]
theorem zerosK{base:Nat}{v:Value}{n:Nat}{xs:List Value}{w:World}(hown:w.ownsRow base 5 1 v n xs)(k:Nat)(hb:n+k<=140737488355328)(hbase:base<=w.heap.size)(ty:TypeId):
 ∃v' w',(Builtin.append_ #[22,3] ty #[v,.int .i64 k]).run Tryz.prog w=.ok v' w'/\w'.ownsRow base 5 1 v' (n+k) (xs++List.replicate k (.int .u8 0))/\w.grownBy w' v.ownBlock:=by
 rcases Nat.eq_zero_or_pos k with h|h
 ·subst h
  exact⟨v,w,run_append_zeros0 w base 22 3 ty 5 (.int .u8 0) 1 .i64 .i64 Tryz.underlying22 Tryz.underlying3 ki v n xs hown,by simpa using hown,World.grownBy.refl _ _⟩
 ·exact qe (P:=Tryz.prog) w base 22 3 ty 5 (.int .u8 0) 1 .i64 .i64 Tryz.underlying22 Tryz.underlying3 ki rfl rfl (by omega) v n xs hown k h (by omega) hbase
theorem padL_len(l:List UInt8):(j2v l).length=l.length+1+j2w l.length:=by simp [j2v];omega
theorem padL_mod(l:List UInt8):(j2v l).length=16*((l.length+1+j2w l.length) / 16):=by rw [padL_len];unfold j2w;omega
theorem padN_le(n:Nat):j2w n<=15:=by unfold j2w;omega
theorem padL_map(l:List UInt8):(j2v l).map U8=l.map U8++ [.int .u8 128]++List.replicate (j2w l.length) (.int .u8 0):=by
 unfold j2v
 rw [List.map_append,List.map_append,List.map_replicate]
 rfl
theorem pad_own(v:Value)(l:List UInt8)(hl:l.length<=140737488351232)(w:World)(hv:Bs w w.heap.size v l):
 Calls Tryz.prog 192 #[v] w fun e w'=>∃v',e=.returned v'/\OwnB w' w.heap.size v' (j2v l)/\Below w.heap.size w w':=by
 have Hv:=iH hv;have Hl:=iH hl;clear hv hl
 go_enter Tryz.func192,Tryz.ntmps192
 go_wp2_with fail
 refine(jr _ l _ Hv.out).mono ?_
 rintro e w1 ⟨v1,rfl,hown,hB⟩
 have hown:w1.ownsRow w.heap.size 5 1 v1 l.length (l.map U8):=hown
 have Hown:=iH (hown.alloc (.cells #[Value.int .u8 128] 5));have HB:=iH hB
 have Hsrc:=iH (show SrcAt (w1.alloc (.cells #[Value.int .u8 128] 5)) (some ⟨w1.heap.size,0,none⟩) 1 [Value.int .u8 128] from SrcAt.one _ _ rfl)
 have Hbase:=iH (show w.heap.size<=(w1.alloc (.cells #[Value.int .u8 128] 5)).heap.size by have:=hB.size;simp;omega)
 clear hown hB
 have hk1:((j2w l.length:Nat):Int)=(16 - ((l.length:Int)+1) % 16) % 16:=by unfold j2w;omega
 have hk2:((j2w l.length:Nat):Int)= -(((l.length:Int)+1) % 16) % 16:=by unfold j2w;omega
 have Hk1:=iH hk1;have Hk2:=iH hk2;clear hk1 hk2
 go_wp2_with(first
  |(at_builtin
    (with_reducible refine jk _ rfl (.tmp 5) (.tmp 6) 22 rfl w.heap.size 5 (.int .u8 0) 1 Tryz.underlying22 ki rfl (by omega) v1 l.length (l.map U8) rfl Hown.out (some ⟨w1.heap.size,0,none⟩) 1 1 [.int .u8 128] rfl Hsrc.out (by have:=Hl.out;omega) Hbase.out ?_)
    intro v2 w2 hown2 hg2 _ _
    have hb2:=jb Hown.out hg2 iL Hbase.out
    have hbase2:w.heap.size<=w2.heap.size:=Nat.le_trans Hbase.out hb2.size
    obtain⟨v3,w3,hrun3,hown3,hg3⟩:=zerosK hown2 (j2w l.length) (by have:=Hl.out;have:=padN_le l.length;omega) hbase2 22
    have hb3:=(((HB.out.alloc HB.out.size _).trans hb2).trans (jb hown2 hg3 iL hbase2))
    obtain⟨g2,cap2,rfl,_,_,_⟩:=qE hown2 (by omega)
    have hrun4:=hrun3;rw [Hk1.out]at hrun3;rw [Hk2.out]at hrun4;have Hrun3:=iH hrun3;have Hrun4:=iH hrun4;clear hrun4;have Hown3:=iH hown3;have Hb3:=iH hb3
    clear hown2 hg2 hb2 hbase2 hrun3 hown3 hg3 hb3)
  |(at_builtin
    first
     |(with_reducible refine Lib.wpList_append_run _ rfl (.tmp 8) (.tmp 13) 22 3 rfl (.slice (some ⟨g2,0,none⟩) (l.length+1) cap2) (.int .i64 ((16 - ((l.length:Int)+1) % 16) % 16)) rfl rfl v3 w3 Hrun3.out ?_)
     |(with_reducible refine Lib.wpList_append_run _ rfl (.tmp 8) (.tmp 13) 22 3 rfl (.slice (some ⟨g2,0,none⟩) (l.length+1) cap2) (.int .i64 (-(((l.length:Int)+1) % 16) % 16)) rfl rfl v3 w3 Hrun4.out ?_)))
 go_ret
 refine⟨v3,rfl,?_,Hb3.out⟩
 have h:=Hown3.out
 rw [<-padL_map,<-padL_len]at h
 exact h
theorem Bs.cutTo{w:World}{S:Nat->Prop}{A:Option Addr}{n c:Nat}{l:List UInt8}(h:BsS w S (.slice A n c) l)(k:Nat)(hk:k<=l.length):BsS w S (.slice A k c) (l.take k):=by
 obtain⟨a,c',hv,h1,h2,h3,h4⟩:=h
 injection hv with ha hn hc
 subst ha hc
 have hl:(l.take k).length=k:=by simp;omega
 refine⟨A,c,by rw [hl],by omega,h2,by omega,fun hp=> ?_⟩
 rw [hl]at hp
 obtain⟨b,off,rfl,hb,hcell⟩:=h4 (by omega)
 refine⟨b,off,rfl,hb,fun j hj=> ?_⟩
 rw [hl]at hj
 rw [hcell j (by omega)]
 congr 2
 unfold gb
 rw [List.getD_eq_getElem?_getD,List.getD_eq_getElem?_getD,List.getElem?_take,iT hj]
theorem cutOn{w:World}{S:Nat->Prop}{b off n c:Nat}{l:List UInt8}(h:BsS w S (.slice (some ⟨b,off,none⟩) n c) l)(k:Nat)(hk:k<=l.length):BsS w S (.slice (some ⟨b,off+k,none⟩) (n - k) (c - k)) (l.drop k):=by
 obtain⟨a,c',hv,h1,h2,h3,h4⟩:=h
 injection hv with ha hn hc
 subst ha hc hn
 refine⟨_,c - k,by rw [List.length_drop],by rw [List.length_drop];omega,by omega,by rw [List.length_drop];omega,fun hp=> ?_⟩
 rw [List.length_drop]at hp
 obtain⟨b',off',e,hb,hcell⟩:=h4 (by omega)
 injection e with e
 injection e with e1 e2
 subst e1 e2
 refine⟨b,off+k,rfl,hb,fun j hj=> ?_⟩
 rw [List.length_drop]at hj
 rw [Nat.add_assoc,hcell (k+j) (by omega)]
 congr 2
 unfold gb
 rw [List.getD_eq_getElem?_getD,List.getD_eq_getElem?_getD,List.getElem?_drop]
theorem cutOn2{w:World}{S:Nat->Prop}{b off n c:Nat}{l:List UInt8}(h:BsS w S (.slice (some ⟨b,off,none⟩) n c) l)(k:Nat)(hk:k<=l.length)(n' c':Nat)(hn:n'=n - k)(hc:c'=c - k):BsS w S (.slice (some ⟨b,off+k,none⟩) n' c') (l.drop k):=by
 subst hn hc
 exact cutOn h k hk
theorem addrOf{w:World}{S:Nat->Prop}{A:Option Addr}{n c:Nat}{l:List UInt8}(h:BsS w S (.slice A n c) l)(hl:0<l.length):∃b off,A=some ⟨b,off,none⟩:=by
 obtain⟨_,_,hv,_,_,_,h4⟩:=h
 injection hv with ha hn hc
 obtain⟨b,off,e,_⟩:=h4 hl
 exact⟨b,off,ha.trans e⟩
theorem dbl_sh(a:UInt8):dbl a=a <<< 1 ^^^ (a >>> 7)*27:=by
 refine k8 (p:=fun a=>dbl a=a <<< 1 ^^^ (a >>> 7)*27) ?_ a
 decide+kernel
theorem top_bit(a:UInt8):a >>> 7=0\/a >>> 7=1:=by
 refine k8 (p:=fun a=>a >>> 7=0\/a >>> 7=1) ?_ a
 decide+kernel
theorem xor4(a b c d:UInt8):(a ^^^ b) ^^^ (c ^^^ d)=(a ^^^ c) ^^^ (b ^^^ d):=by ac_rfl
theorem dbl_xor(a b:UInt8):dbl (a ^^^ b)=dbl a ^^^ dbl b:=by
 rw [dbl_sh,dbl_sh,dbl_sh,UInt8.shiftLeft_xor,UInt8.shiftRight_xor,xor4]
 congr 1
 rcases top_bit a with e|e<;>rcases top_bit b with e2|e2<;>rw [e,e2]<;>decide
theorem gmulF_xor(n:Nat):∀(a a' b o o':UInt8),xX n (a ^^^ a') b (o ^^^ o')=xX n a b o ^^^ xX n a' b o':=by
 induction n with
 |zero=>intro a a' b o o';rfl
 |succ n ih=>
  intro a a' b o o'
  by_cases hb:(b != 0)=true
  ·by_cases h1:(b &&& 1==1)=true
   ·rw [JY _ _ _ _ hb h1,JY _ _ _ _ hb h1,JY _ _ _ _ hb h1,dbl_xor,xor4,ih]
   ·have h1:(b &&& 1==1)=false:=by simpa using h1
    rw [yu _ _ _ _ hb h1,yu _ _ _ _ hb h1,yu _ _ _ _ hb h1,dbl_xor,ih]
  ·have hb:(b != 0)=false:=by simpa using hb
   rw [JX _ _ _ _ hb,JX _ _ _ _ hb,JX _ _ _ _ hb]
theorem gmul_xor(a a' b:UInt8):Ud (a ^^^ a') b=Ud a b ^^^ Ud a' b:=by
 have:=gmulF_xor 8 a a' b 0 0
 rwa [show(0:UInt8) ^^^ 0=0 from rfl]at this
theorem gmul_xor4(a b c d e:UInt8):Ud (a ^^^ b ^^^ c ^^^ d) e=Ud a e ^^^ Ud b e ^^^ Ud c e ^^^ Ud d e:=by
 rw [gmul_xor,gmul_xor,gmul_xor]
theorem mixF_four(row f:Nat->UInt8)(c r:Nat)(hr:r<4):
 Ur row f (4*c+r)=Ud (f (4*c)) (row ((0+4 - r) % 4)) ^^^ Ud (f (4*c+1)) (row ((1+4 - r) % 4)) ^^^ Ud (f (4*c+2)) (row ((2+4 - r) % 4)) ^^^ Ud (f (4*c+3)) (row ((3+4 - r) % 4)):=by
 unfold Ur
 rw [K8,K8,K8,K8]
 rw [show(4*c+r) / 4*4=4*c by omega,show(4*c+r) % 4=r by omega]
 show 0 ^^^ _ ^^^ _ ^^^ _ ^^^ _=_
 rw [UInt8.zero_xor,Nat.add_zero]
def through(D E:Nat->UInt8)(m r:Nat)(x:UInt8):UInt8:=
 Ud (Ud x (E ((m+4 - 0) % 4))) (D ((0+4 - r) % 4)) ^^^ Ud (Ud x (E ((m+4 - 1) % 4))) (D ((1+4 - r) % 4)) ^^^ Ud (Ud x (E ((m+4 - 2) % 4))) (D ((2+4 - r) % 4)) ^^^ Ud (Ud x (E ((m+4 - 3) % 4))) (D ((3+4 - r) % 4))
theorem mix_mix(D E f:Nat->UInt8)(c r:Nat)(hr:r<4):
 Ur D (Ur E f) (4*c+r)=through D E 0 r (f (4*c)) ^^^ through D E 1 r (f (4*c+1)) ^^^ through D E 2 r (f (4*c+2)) ^^^ through D E 3 r (f (4*c+3)):=by
 rw [mixF_four D (Ur E f) c r hr]
 have h0:=mixF_four E f c 0 (by omega)
 have h1:=mixF_four E f c 1 (by omega)
 have h2:=mixF_four E f c 2 (by omega)
 have h3:=mixF_four E f c 3 (by omega)
 rw [Nat.add_zero]at h0
 rw [h0,h1,h2,h3,gmul_xor4,gmul_xor4,gmul_xor4,gmul_xor4]
 unfold through
 simp only [Nat.zero_add,Nat.sub_zero]
 generalize D (_ % 4)=d0
 ac_rfl
def idC(m r:Nat)(x:UInt8):UInt8:=if m=r then x else 0
theorem thru_DE_all:∀m,m<4->∀r,r<4->∀n,n<256->through j0s j0t m r (UInt8.ofNat n)=idC m r (UInt8.ofNat n):=by
 decide+kernel
theorem thru_DE(m r:Nat)(hm:m<4)(hr:r<4)(x:UInt8):through j0s j0t m r x=idC m r x:=
 k8 (p:=fun x=>through j0s j0t m r x=idC m r x) (fun n hn=>thru_DE_all m hm r hr n hn) x
theorem mix_back(D E f:Nat->UInt8)(h:∀m r,m<4->r<4->∀x,through D E m r x=idC m r x)(i:Nat):Ur D (Ur E f) i=f i:=by
 obtain⟨c,r,hr,rfl⟩:∃c r,r<4/\i=4*c+r:=⟨i / 4,i % 4,by omega,by omega⟩
 rw [mix_mix D E f c r hr,h 0 r (by omega) hr,h 1 r (by omega) hr,h 2 r (by omega) hr,h 3 r (by omega) hr]
 unfold idC
 rcases r with _|_|_|_|r
 ·simp
 ·simp
 ·simp
 ·simp
 ·omega
theorem mixD_mixE(f:Nat->UInt8):Ur j0s (Ur j0t f)=f:=by
 funext i
 exact mix_back j0s j0t f (fun m r hm hr x=>thru_DE m r hm hr x) i
theorem mixF_congr(row:Nat->UInt8){f g:Nat->UInt8}(h:∀j,j<16->f j=g j)(j:Nat)(hj:j<16):Ur row f j=Ur row g j:=by
 obtain⟨c,r,hr,rfl⟩:∃c r,r<4/\j=4*c+r:=⟨j / 4,j % 4,by omega,by omega⟩
 rw [mixF_four row f c r hr,mixF_four row g c r hr,h _ (by omega),h _ (by omega),h _ (by omega),h _ (by omega)]
theorem rot31(f:Nat->UInt8)(i:Nat)(hi:i<16):Kz 3 (Kz 1 f) i=f i:=by
 unfold Kz;congr 1;omega
theorem rotF_congr(s:Nat){f g:Nat->UInt8}(h:∀j,j<16->f j=g j)(i:Nat):Kz s f i=Kz s g i:=by
 unfold Kz;exact h _ (by omega)
theorem bck_fwd(b:UInt8):bck (fwd b.toNat).toNat=b:=by rw [j0m,j0f]
theorem xor_back(a b:UInt8):a ^^^ b ^^^ b=a:=by rw [UInt8.xor_assoc,UInt8.xor_self,UInt8.xor_zero]
theorem dec_enc(key f g:Nat->UInt8)(hg:∀j,j<16->g j=j1k key f j)(n:Nat)(hn:n<=10):∀j,j<16->j03 key g n j=j04 key f (10 - n) j:=by
 induction n with
 |zero=>intro j hj;exact hg j hj
 |succ n ih=>
  have ih:=ih (by omega)
  obtain⟨m,hm⟩:∃m,10 - n=m+1:=⟨9 - n,by omega⟩
  have hm2:10 - (n+1)=m:=by omega
  intro j hj
  rw [hm2]
  show bck (Kz 3 _ j).toNat=_
  have hstep:∀i,i<16->(if 10 - n<10 then Ur j0s (fun j=>j03 key g n j ^^^ kF fwd key (10 - n) j)else fun j=>j03 key g n j ^^^ kF fwd key (10 - n) j) i=Kz 1 (fun j=>fwd (j04 key f m j).toNat) i:=by
   rw [hm]at ih |-
   have hs:∀i,i<16->j03 key g n i ^^^ kF fwd key (m+1) i=(if m+1<10 then Ur j0t (Kz 1 fun j=>fwd (j04 key f m j).toNat) i else Kz 1 (fun j=>fwd (j04 key f m j).toNat) i):=fun i hi=>by
    rw [ih i hi]
    exact xor_back _ _
   intro i hi
   by_cases h:m+1<10
   ·rw [iT h]
    rw [mixF_congr j0s hs i hi]
    simp only [iT h]
    exact congrFun (mixD_mixE _) i
   ·rw [iF h]
    rw [hs i hi,iF h]
  rw [rotF_congr 3 hstep,rot31 _ _ hj]
  exact bck_fwd _
theorem decF_encF(key f g:Nat->UInt8)(hg:∀j,j<16->g j=j1k key f j)(j:Nat)(hj:j<16):j1c key g j=f j:=by
 unfold j1c
 rw [dec_enc key f g hg 10 (by omega) j hj]
 exact xor_back _ _
theorem dec_enc_list(k l:List UInt8)(hl:l.length=16):jn 16 (j1c (gb k) (gb (jn 16 (j1k (gb k) (gb l)))))=l:=by
 rw [<-YT l 16 hl]
 exact qN fun j hj=>by
  rw [YT l 16 hl]
  exact decF_encF (gb k) (gb l) _ (fun j hj=>jG _ _ _ hj) j hj
theorem decL_encL(k l:List UInt8)(hl:l.length=16):JE k (yr k l)=l:=by
 unfold JE yr;exact dec_enc_list k l hl
theorem xorL_xorL(a c:List UInt8)(ha:a.length=16):qv (qv a c) c=a:=by
 rw [<-YT a 16 ha]
 unfold qv
 refine qN fun j hj=> ?_
 rw [jG 16 _ j hj,YT a 16 ha,xor_back]
theorem take_blk(b:List UInt8)(n:Nat):b.take (16*(n+1))=b.take (16*n)++blk b n:=by
 unfold blk
 rw [show 16*(n+1)=16*n+16 by omega,List.take_add]
theorem blk_append{a c r:List UInt8}{n:Nat}(ha:a.length=16*n)(hc:c.length=16):blk (a++c++r) n=c:=by
 unfold blk
 rw [List.append_assoc,<-ha,List.drop_left,List.take_left' hc]
theorem grow_prefix{P:Nat->List UInt8}{c:Nat->List UInt8}(hP:∀n,P (n+1)=P n++c n)(n d:Nat):∃r,P (n+d)=P n++r:=by
 induction d with
 |zero=>exact⟨[],by simp⟩
 |succ d ih=>
  obtain⟨r,h⟩:=ih
  exact⟨r++c (n+d),by rw [<-Nat.add_assoc,hP,h,List.append_assoc]⟩
theorem grow_blk{P:Nat->List UInt8}{c:Nat->List UInt8}(h0:P 0= [])(hP:∀n,P (n+1)=P n++c n){m:Nat}(hc:∀n,n<m->(c n).length=16)(n:Nat)(hn:n<m):blk (P m) n=c n:=by
 obtain⟨r,hr⟩:=grow_prefix hP (n+1) (m - (n+1))
 rw [show n+1+(m - (n+1))=m by omega,hP]at hr
 rw [hr]
 exact blk_append (Ug h0 hP hc n (by omega)) (hc n hn)
theorem oC_zero'(k iv b:List UInt8):(qS k iv b (List.range 0)).1=iv:=rfl
theorem sC_zero'(k iv b:List UInt8):(qo k iv b (List.range 0)).1=iv:=rfl
section
variable (k iv b:List UInt8)
def oC(n:Nat):List UInt8:=(qS k iv b (List.range n)).1
def oP(n:Nat):List UInt8:=(qS k iv b (List.range n)).2
theorem sC_zero:sC k iv b 0=iv:=sC_zero' k iv b
theorem oC_zero:oC k iv b 0=iv:=oC_zero' k iv b
theorem oC_succ(n:Nat):oC k iv b (n+1)=blk b n:=by unfold oC;rw [List.range_succ,qC]<;>rfl
theorem oP_succ(n:Nat):oP k iv b (n+1)=oP k iv b n++qv (JE k (blk b n)) (oC k iv b n):=by unfold oP oC;rw [List.range_succ,qC]<;>rfl
theorem openO_oP{m:Nat}(hb:b.length=16*m):Jf k iv b=oP k iv b m:=by unfold Jf oP;rw [hb,Nat.mul_div_cancel_left _ (by omega)]
theorem oP_len(m:Nat):(oP k iv b m).length=16*m:=Ug (P:=oP k iv b) (c:=fun n=>qv (JE k (blk b n)) (oC k iv b n)) rfl (oP_succ k iv b) (m:=m) (fun _ _=>kw _ _) m iL
theorem sP_blk(m n:Nat)(hn:n<m):blk (sP k iv b m) n=sC k iv b (n+1):=grow_blk (P:=sP k iv b) (c:=fun n=>sC k iv b (n+1)) rfl (VO k iv b) (fun n _=>by rw [Yi];exact kW _ _) n hn
end
theorem open_seal(k iv b:List UInt8)(m:Nat)(hb:b.length=16*m):Jf k iv (kQ k iv b)=b:=by
 rw [UM k iv b hb,openO_oP k iv _ (j14 k iv b m)]
 have hc:∀n,n<=m->oC k iv (sP k iv b m) n=sC k iv b n:=fun n hn=>by
  cases n with
  |zero=>rw [oC_zero,sC_zero]
  |succ n=>rw [oC_succ,sP_blk k iv b m n (by omega)]
 have hp:∀n,n<=m->oP k iv (sP k iv b m) n=b.take (16*n):=fun n=>by
  induction n with
  |zero=>intro _;rfl
  |succ n ih=>
   intro hn
   rw [oP_succ,ih (by omega),hc n (by omega),sP_blk k iv b m n (by omega),take_blk,Yi,decL_encL _ _ (kw _ _),xorL_xorL _ _ (qO hb (by omega))]
 rw [hp m iL,<-hb,List.take_length]
instance (b:List UInt8):Decidable (yW b):=by unfold yW;infer_instance
theorem subK_len(k:List UInt8):(j2b k).length=16:=dblL_len _
theorem codeK_len(k b:List UInt8):(j1i k b).length=16:=by unfold j1i;split;exact dblL_len _;exact subK_len _
theorem codeX_len(b:List UInt8):∃m,(j0i b).length=16*m+16:=by
 unfold j0i
 split
 ·have h1:=padL_mod b
  have h2:0<(j2v b).length:=by rw [padL_len];omega
  exact⟨(b.length+1+j2w b.length) / 16 - 1,by omega⟩
 ·rename_i h
  unfold yW at h
  exact⟨b.length / 16 - 1,by omega⟩
theorem lastX_len{x:List UInt8}(kk:List UInt8)(h:16<=x.length):(j1n x kk).length=x.length:=by
 unfold j1n;rw [List.length_append,kw,List.length_take];omega
theorem own_splice{w':World}{base g M cap:Nat}{cur:List Value}{x kk:List UInt8}(hx:x.length=M+16)(hg:base<=g)(hcur:cur.length=cap)(hc:M+16<=cap)(hm:cap<=maxLen)(ht:cur.take (M+16)=x.map U8)
 (h:w'.heap[g]?=some (.cells (splice cur M ((qv (x.drop M) kk).map U8)).toArray 5 (0,0))):w'.ownsRow base 5 1 (.slice (some ⟨g,0,none⟩) (M+16) cap) (j1n x kk).length ((j1n x kk).map U8):=by
 have hl:(j1n x kk).length=M+16:=by rw [lastX_len _ (by omega),hx]
 have hxl:((qv (x.drop M) kk).map U8).length=16:=by rw [List.length_map,kw]
 refine⟨by rw [List.length_map];omega,.inr ⟨g,cap,_,by rw [hl],hg,h,by omega,hm,?_,?_⟩⟩
 ·rw [List.size_toArray,length_splice _ _ _ (by omega)];omega
 ·rw [hl,Nat.mul_one]
  show(splice cur M _).take (M+16)=_
  unfold splice j1n
  rw [<-List.append_assoc,List.take_append_of_le_length (by rw [List.length_append,List.length_take,hxl];omega),List.take_of_length_le (by rw [List.length_append,List.length_take,hxl];omega),
   List.map_append,show x.length - 16=M by omega,List.map_take,<-ht,List.take_take,Nat.min_eq_left (by omega)]
theorem own_wide{w:World}{base base':Nat}{e:TypeId}{v:Value}{n size:Nat}{xs:List Value}(h:w.ownsRow base e size v n xs)(hb:base'<=base):w.ownsRow base' e size v n xs:=by
 refine⟨h.1,?_⟩
 rcases h.2 with h2|⟨g,cap,cur,hv,hg,r⟩
 ·exact .inl h2
 ·exact .inr ⟨g,cap,cur,hv,Nat.le_trans hb hg,r⟩
theorem code_good(vk vb:Value)(k b:List UInt8)(hk:k.length=16)(hl:b.length<=140737488351232)(w:World)(hvk:Bs w w.heap.size vk k)(hvb:Bs w w.heap.size vb b):
 Calls Tryz.prog 178 #[vk,vb] w fun e w'=>∃v',e=.returned (.tuple #[v',.int .i64 0])/\BsS w' (New w w') v' (j1j k b)/\Below w.heap.size w w':=by
 obtain⟨A0,n0,c0,rfl⟩:=hvb.form
 have hn:=Bs.lenEq hvb
 subst hn
 have Hk:=iH hvk;have Hb:=iH hvb;have Lk:=iH hk;have Lb:=iH hl;have Hm:=QK;clear hvk hvb hk hl
 go_enter Tryz.func178,Tryz.ntmps178
 go_upto_if 34 with (fail)
 refine(encrypt_good vk _ k Z16 Lk.out yM (wz w) (Hk.out.lift (jv w)) (X7 w).bs).mono ?_
 rintro e w1 ⟨v1,rfl,hv1,hB1⟩
 have hv1:Bs w1 w1.heap.size v1 (yr k Z16):=by unfold yr;exact hv1
 have HB1:=iH hB1;have HV1:=iH hv1;clear hB1 hv1;clear hv1
 go_upto_if 34 with (fail)
 refine(double_any2 v1 (yr k Z16) (kW _ _) w1 HV1.out).mono ?_
 rintro e w2 ⟨v2,rfl,hv2,hB2⟩
 have HB2:=iH (HB1.out.trans (hB2.mono HB1.out.size));have HV2:=iH hv2.bs;clear hB2 hv2
 go_upto_if 34 with (fail)
 refine(jr _ b _ ((Hb.out.lift (jv w)).lift HB2.out)).mono ?_
 rintro e w3 ⟨v3,rfl,hown,hB3⟩
 have HB3:=iH (HB2.out.trans (hB3.mono HB2.out.size));have HV3:=iH (HV2.out.lift hB3);have Hown:=iH hown;clear hB3 hown
 go_upto_region 7 with (fail)
 obtain⟨o,Ho⟩:∃o:Bool,Hid (o=decide (yW b)):=⟨_,iH rfl⟩
 go_cut [34] from 26 to 34 (fun c wc=>c=.bool o/\wc=w3)
 case first=>
  by_cases h0:b.length=0
  ·have t1:((b.length:Int)==0)=true:=by rw [beq_iff_eq];omega
   have ho:decide (yW b)=true:=decide_eq_true (Or.inl h0)
   have HO:=iH ho;clear h0 ho
   go_wp2_with fail
   go_meet
   exact⟨by rw [Ho.out,HO.out],rfl⟩
  ·have t1:((b.length:Int)==0)=false:=by rw [beq_eq_false_iff_ne];omega
   by_cases h1:b.length % 16=0
   ·have t2:((b.length:Int) % 16 != 0)=false:=by rw [bne_eq_false_iff_eq];omega
    have ho:decide (yW b)=false:=decide_eq_false (fun e=>e.elim h0 (fun e=>e h1))
    have HO:=iH ho;clear h0 h1 ho
    go_wp2_with fail
    go_meet
    exact⟨by rw [Ho.out,HO.out],rfl⟩
   ·have t2:((b.length:Int) % 16 != 0)=true:=by rw [bne_iff_ne];omega
    have ho:decide (yW b)=true:=decide_eq_true (Or.inr h1)
    have HO:=iH ho;clear h0 h1 ho
    go_wp2_with fail
    go_meet
    exact⟨by rw [Ho.out,HO.out],rfl⟩
 case rest=>
 obtain⟨rfl,rfl⟩:=hcut
 go_upto_if 34 with (fail)
 go_cut [7,9] from 13 to 41 (fun vk vx wc=>Bs wc wc.heap.size vk (j1i k b)/\OwnB wc (wz w).heap.size vx (j0i b)/\Below (wz w).heap.size (wz w) wc)
 case first=>
  cases o with
  |true=>
   have ho:yW b:=of_decide_eq_true Ho.out.symm
   have eK:j1i k b=j25 (j2b k):=iT ho
   have eX:j0i b=j2v b:=iT ho
   have Rest:∀w4,Below wc.heap.size wc w4->Calls Tryz.prog 192 #[.slice A0 b.length c0] w4 (fun e w5=>∃v5,e=.returned v5/\OwnB w5 w4.heap.size v5 (j2v b)/\Below w4.heap.size w4 w5):=
    fun w4 h4=>pad_own _ b Lb.out w4 (((Hb.out.lift (jv w)).lift HB3.out).lift h4)
   have Fin:∀w4 v4 w5 v5,BsS w4 (New wc w4) v4 (j25 (j2b k))->Below wc.heap.size wc w4->OwnB w5 w4.heap.size v5 (j2v b)->Below w4.heap.size w4 w5->Bs w5 w5.heap.size v4 (j1i k b)/\OwnB w5 (wz w).heap.size v5 (j0i b)/\Below (wz w).heap.size (wz w) w5:=by
    intro w4 v4 w5 v5 h1 h2 h3 h4
    rw [eK,eX]
    refine⟨h1.bs.lift h4,own_wide h3 (Nat.le_trans HB3.out.size h2.size),(HB3.out.trans (h2.mono HB3.out.size)).trans (h4.mono (Nat.le_trans HB3.out.size h2.size))⟩
   have REST:=iH Rest;have FIN:=iH Fin
   clear Rest Fin eK eX ho
   go_wp2_with fail
   refine(double_any2 v2 (j2b k) (subK_len k) _ HV3.out).mono ?_
   rintro e w4 ⟨v4,rfl,h1,h2⟩
   have H1:=iH h1;have H2:=iH h2;clear h1 h2
   go_wp2_with fail
   refine(REST.out w4 H2.out).mono ?_
   rintro e w5 ⟨v5,rfl,h3,h4⟩
   have H5:=iH (FIN.out _ _ _ _ H1.out H2.out h3 h4)
   clear h3 h4
   go_wp2_with fail
   go_meet
   exact H5.out
  |false=>
   have ho:¬yW b:=of_decide_eq_false Ho.out.symm
   have eK:j1i k b=j2b k:=iF ho
   have eX:j0i b=b:=iF ho
   have H5:Hid (Bs wc wc.heap.size v2 (j1i k b)/\OwnB wc (wz w).heap.size v3 (j0i b)/\Below (wz w).heap.size (wz w) wc):=by
    rw [eK,eX]
    exact⟨HV3.out,own_wide Hown.out HB2.out.size,HB3.out⟩
   clear eK eX ho
   go_wp2_with fail
   go_meet
   exact H5.out
 case rest=>
 obtain⟨hk7,hx9,hB⟩:=hcut
 obtain⟨m,hm⟩:=codeX_len b
 obtain⟨x,hX⟩:∃x,x=j0i b:=⟨_,rfl⟩
 obtain⟨kk,hKK⟩:∃kk,kk=j1i k b:=⟨_,rfl⟩
 have hkl:kk.length=16:=by rw [hKK,codeK_len]
 rw [<-hX]at hx9 hm
 rw [<-hKK]at hk7
 have hbs:=(BsS.of_own hx9 (by have:=Lb.out;rw [hX];unfold j0i;split;(rw [padL_len];have:=padN_le b.length;omega);omega)).keep (w':=wc) (S':=fun b=>b<wc.heap.size) fun g hg _=>⟨rfl,hg.2⟩
 obtain⟨M,hM⟩:∃M,M=16*m:=⟨_,rfl⟩
 rw [<-hM]at hm
 obtain⟨hl9,hx9⟩:=hx9
 rw [hm]at hx9
 rcases hx9 with ⟨_,h0⟩|⟨g,cap,cur,rfl,hg,hh,hc,hcm,hsz,htk⟩
 ·exact absurd h0 (by omega)
 rw [Nat.mul_one]at hsz htk
 have HH:=iH hh;have HG:=iH hg;have HC:=iH hcm;have HS:=iH hsz;have HT:=iH htk;have HX:=iH hX;have HKK:=iH hKK;have HKL:=iH hkl;have HM:=iH hm;have HB:=iH hB;have HK:=iH hk7;have HBS:=iH hbs;have HMM:=iH hM
 clear hh hg hcm hsz htk hX hKK hkl hm hB hk7 hbs hM hl9 HB1 HV1 HB2 HV2 HB3 HV3 Hown Hm
 have hM2:M+16<=140737488355328:=by have:=HBS.out.len;rw [HM.out]at this;omega
 have hcM:M+16<=cap:=hc
 have hw:wrap64 (M:Int)=M:=IntWalk.wrap64_in _ (by omega)
 have n1:¬cap=M:=by omega
 have n2:(M:Int)<=(M:Int)+16:=by omega
 have hsl:Bs wc wc.heap.size (.slice (some ⟨g,M,none⟩) 16 (cap - M)) (x.drop M):=by
  have h:=cutOn HBS.out M (by rw [HM.out];omega)
  rwa [Nat.zero_add,Nat.add_sub_cancel_left]at h
 have HSL:=iH hsl;clear hsl
 have hcur:cur.toList.toArray=cur:=by simp
 have HCUR:=iH hcur
 clear hcur
 have c5:Calls Tryz.prog 109 #[.slice (some ⟨g,M,none⟩) 16 (cap - M),u7] wc.drew fun e w5=>∃A5 c5,e=.returned (.slice A5 16 c5)/\Hid (SrcAt w5 A5 16 ((qv (x.drop M) kk).map U8))/\Hid (w5.heap[g]?=some (.cells cur.toList.toArray 5 (0,0)))/\Hid (Below (wz w).heap.size (wz w) w5):=by
  refine(Qz _ _ (x.drop M) kk (by rw [List.length_drop,HM.out];omega) HKL.out wc.drew HSL.out HK.out).mono ?_
  rintro e w5 ⟨v5,rfl,hv5,hb5⟩
  obtain⟨A5,n5,c5,rfl⟩:=hv5.form
  obtain⟨hn5,hsrc⟩:=hv5.src
  obtain rfl:n5=16:=by rw [hn5,kw]
  refine⟨A5,c5,rfl,iH hsrc,?_,iH (HB.out.drew.trans (hb5.mono HB.out.size))⟩
  rw [HCUR.out]
  exact iH ((hb5.block g (iG HH.out)).trans HH.out)
 have C5:=iH c5;clear c5
 go_upto_region 10 with (fail)
 go_region_law (first
  |(refine step_copy_splice rfl (.tmp 44) (.tmp 49) 22 22 rfl 5 Tryz.underlying22 (by kernel_rfl) (some ⟨g,M,none⟩) A5 16 (cap - M) 16 c5 (by simp [Act.eval]) (by simp [Act.eval]) g M cur.toList 5 HH5.out ((qv (x.drop M) kk).map U8) (by rw [List.length_map,kw]<;>rfl) (fun _=>⟨rfl,HSRC.out.2.1 (by omega)⟩) (by rw [List.length_map,kw,Array.length_toList];have:=HS.out;omega) HSRC.out.2.2 (wz w).heap.size (wz w) HB5.out HG.out ?_
    intro w6 h6 hb6)
  |(go_simp
    go_at_call 109
    refine C5.out.mono ?_
    rintro e w5 ⟨A5,c5,rfl,HSRC,HH5,HB5⟩))
 have hown6:=own_splice (kk:=kk) HM.out HG.out (by rw [Array.length_toList];exact HS.out) hcM HC.out HT.out h6.out
 have hL:(j1n x kk).length=16*(m+1):=by rw [lastX_len _ (by rw [HM.out];omega),HM.out,HMM.out];omega
 have hbs6:Bs w6 w6.heap.size (.slice (some ⟨g,0,none⟩) (M+16) cap) (j1n x kk):=(BsS.of_own hown6 (by rw [hL];have:=HMM.out;omega)).keep fun _ hg _=>⟨rfl,hg.2⟩
 have C6:=iH (Yl vk (.slice (some ⟨w.heap.size,0,none⟩) 16 16) (.slice (some ⟨g,0,none⟩) (M+16) cap) k Z16 (j1n x kk) (m+1) Lk.out yM hL w6 ((Hk.out.lift (jv w)).lift hb6) ((X7 w).bs.lift hb6) hbs6)
 have HL:=iH hL;have HB6:=iH hb6
 clear hown6 hL hbs6 hb6 h6
 go_wp2_with fail
 refine C6.out.mono ?_
 rintro e w7 ⟨v7,rfl,hv7,hb7⟩
 have hl7:(kQ k Z16 (j1n x kk)).length=M+16:=by rw [UM k Z16 (j1n x kk) HL.out,j14,HMM.out];omega
 obtain⟨A7,n7,c7,rfl⟩:=hv7.form
 obtain rfl:n7=M+16:=by have:=Bs.lenEq hv7;omega
 have hc7:M+16<=c7:=by obtain⟨_,_,e,h,_⟩:=hv7;injection e with _ _ e3;omega
 obtain⟨zbQ9,zoQ9,rfl⟩:=addrOf hv7 (by omega)
 have c8:=cutOn2 hv7.bs M (by omega) 16 (c7 - M) (by omega) rfl
 have C8:=iH (jr _ _ w7 c8)
 have HB7:=iH (HB6.out.trans (hb7.mono HB6.out.size))
 have n3:¬c7=M:=by omega
 clear c8 hv7 hb7 hl7
 go_wp2_with fail
 refine C8.out.mono ?_
 rintro e w8 ⟨v8,rfl,hown,hb8⟩
 have hfin:BsS w8 (New w w8) v8 (j1j k b)/\Below w.heap.size w w8:=by
  have hb:=HB7.out.trans (hb8.mono HB7.out.size)
  have e:j1j k b=(kQ k Z16 (j1n x kk)).drop M:=by unfold j1j;rw [iT Lk.out,<-HX.out,<-HKK.out,HM.out,Nat.add_sub_cancel]
  rw [e]
  refine⟨(BsS.of_own hown ?_).keep fun _ hg _=>⟨rfl,Nat.le_trans (Nat.le_trans (jv w).size HB7.out.size) hg.1,hg.2⟩,(jv w).trans (hb.mono (jv w).size)⟩
  rw [List.length_drop,UM k Z16 (j1n x kk) HL.out,j14];have:=HMM.out;omega
 have Hfin:=iH hfin;clear hfin hown hb8
 go_wp2_with fail
 go_ret2
 exact⟨v8,rfl,Hfin.out⟩
theorem codeO_len{k:List UInt8}(hk:k.length=16)(b:List UInt8):(j1j k b).length=16:=by
 obtain⟨m,hm⟩:=codeX_len b
 have h:(j1n (j0i b) (j1i k b)).length=16*(m+1):=by rw [lastX_len _ (by omega),hm];omega
 unfold j1j
 rw [iT hk,UM k Z16 _ h,List.length_drop,j14,hm]
 omega
theorem Bs.cutCap{w:World}{S:Nat->Prop}{A:Option Addr}{n c:Nat}{l:List UInt8}(h:BsS w S (.slice A n c) l)(k:Nat)(hk:k<=l.length):BsS w S (.slice A k k) (l.take k):=by
 obtain⟨a,c1,e,h1,h2,h3,h4⟩:=Bs.cutTo h k hk
 have hl:(l.take k).length=k:=by rw [List.length_take];omega
 injection e with e1 e2 e3
 rw [hl]at h3
 refine⟨a,k,by rw [hl,e1],by omega,by omega,by omega,h4⟩
theorem check_good(vk vb:Value)(k b:List UInt8)(hk:k.length=16)(hl:b.length<=140737488351232)(w:World)(hvk:Bs w w.heap.size vk k)(hvb:Bs w w.heap.size vb b):
 Calls Tryz.prog 164 #[vk,vb] w fun e w'=>∃v',e=.returned (.tuple #[v',.int .i64 0])/\Bs w' w'.heap.size v' ((j1j k b).take 8)/\Below w.heap.size w w':=by
 have C:=iH (code_good vk vb k b hk hl w hvk hvb)
 have L:=iH (codeO_len hk b)
 clear hvk hvb hk hl
 go_enter Tryz.func164,Tryz.ntmps164
 go_wp2_with fail
 refine C.out.mono ?_
 rintro e w1 ⟨v1,rfl,hv0,hB⟩
 have hv1:Bs w1 w1.heap.size v1 (j1j k b):=hv0.bs
 clear hv0
 obtain⟨A1,n1,c1,rfl⟩:=hv1.form
 obtain rfl:n1=16:=by rw [Bs.lenEq hv1];exact L.out
 have hc1:16<=c1:=by obtain⟨_,_,e,h,_⟩:=hv1;rw [L.out]at h;injection e with _ _ e3;omega
 have Hfin:=iH (show Bs w1 w1.heap.size (.slice A1 8 8) ((j1j k b).take 8)/\Below w.heap.size w w1 from⟨Bs.cutCap hv1 8 (by rw [L.out];omega),hB⟩)
 clear hv1 hB
 have n1:(8:Int)<=c1:=by omega
 have n2:8<=c1:=by omega
 go_wp2_with fail
 go_ret2
 exact⟨_,rfl,Hfin.out⟩
theorem BsS.dieB{B n:Nat}{w w':World}{p:Nat}{v:Value}{l:List UInt8}(h:BsS w (fun b=>b<w.heap.size/\b≠p) v l)(hd:DiePost B w p n w'):BsS w' (fun b=>b<w'.heap.size/\b≠p) v l:=
 h.keep fun b hs hl=>⟨hd.2.block b hl (fun e=>by injection e with e;exact hs.2 e),iZ hl hd.2.size,hs.2⟩
section
variable {P:Nat} {w W W':World} {row:Array Value} {u:Value} {l:List UInt8}
theorem PtW.trans{row':Array Value}(h:PtW P w W row)(h':PtW P W W' row'):PtW P w W' row':=⟨h'.1,jN h.2.1 h'.2.1,h.2.2.trans h'.2.2⟩
end
def StepE(P:Nat)(w:World)(er:Int)(e:Ending)(w':World):Prop:=
 e=.returned (.tuple #[.int .i64 0,.slice none 0 0,.slice none 0 0,.int .i64 er])/\∃a b c d f g h i j k l m:Value,PtW P w w' #[a,b,c,d,f,g,h,i,j,k,l,m]
def SecOut(s:List UInt8)(w:World)(e:Ending)(w':World):Prop:=∃B d,e=.returned (.tuple #[.int .i64 (XS s),.slice B 32 d])/\BsS w' (New w w') (.slice B 32 d) (sdW s)/\Below w.heap.size w w'
theorem dsecret_any(v:Value)(s:List UInt8)(w:World)(hK:KD w)(hv:Bs w w.heap.size v s)(hl:s.length<=140737488354000):
 Calls Tryz.prog 127 #[v] w (SecOut s w):=by
 have H:=iH (U5 8 (by omega) (by omega) v s w hK hv hl)
 obtain⟨A,c,rfl⟩:=Bs.formL hv
 obtain⟨z,hz,hz9,hq⟩:=j07 (k7 s 8) (by unfold k7;rw [List.length_take,ji];omega)
 have hl8:(k7 s 8).length=8:=by unfold k7;rw [List.length_take,ji]<;>rfl
 have e1:=Q4 z 1073741788
 have HZ:=iH hz;have HQ:=iH hq;have HL:=iH hl8
 have hx:z % 1073741788<1073741788:=Nat.mod_lt _ (by decide)
 clear hv hz hq hK hl hl8
 go_enter Tryz.func127,Tryz.ntmps127
 go_wp2_with(first
  |(go_at_call 118;refine(KC _ _ _ w1 HC.out).mono ?_;rw [HQ.out];rintro e w' ⟨rfl,hw'⟩;rw [hw'];clear hw' w')
  |(go_at_call 125;refine H.out.mono ?_;rintro e w1 ⟨A1,c1,B1,d1,rfl,ha,hb,hbw⟩;obtain⟨hc1,hc9⟩:8<=c1/\c1<=9223372036854775807:=(by obtain⟨a,c',e,q1,q2,_⟩:=ha;obtain⟨_,_,hc⟩:=Value.slice.inj e;have:=HL.out;omega);have HC:=iH (BsS.cut ha (k:=7) (d:=c1) (by rw [HL.out];omega) (by omega) hc9);have HS:=iH hb;have HB:=iH hbw;clear ha hb hbw))
 go_ret2
 refine⟨_,_,?_,HS.out,HB.out⟩
 unfold XS
 rw [HZ.out]
 rfl
theorem four_in{l:List UInt8}(h:l.length=4):∃z:Nat,xH l=z/\z<4294967296/\xj l=((z:Int),0):=by
 have hn:=KY l 4 (by omega)
 rw [List.take_of_length_le (by omega)]at hn
 refine⟨(xH l).toNat,by omega,by omega,?_⟩
 unfold xj
 rw [iF (by omega)]
 congr 1
 omega
theorem decode_any(l:List UInt8)(v:Value)(S:Nat->Prop)(w:World)(hv:BsS w S v l):Calls Tryz.prog 126 #[v] w fun e w'=>e=.returned (.tuple #[.int .i64 (jF l).2,.int .i64 (jF l).1])/\w'=w:=by
 obtain⟨A,c,rfl⟩:=Bs.formL hv
 have HV:=iH hv
 clear hv
 by_cases h4:l.length=4
 ·obtain⟨z,hz,hz9,hq⟩:=four_in h4
  have HQ:=iH hq
  have t4:((l.length:Int) != 4)=false:=by simp;omega
  clear hq
  rcases hb:jx z with _|_
  ·have E:Hid (jF l=(10,0)):=iH (by unfold jF;rw [iF (by omega),hz,iT hb])
   have HE:=iH hb
   clear hb hz h4
   go_enter Tryz.func126,Tryz.ntmps126
   go_wp2_with(first
    |(go_at_call 115;refine(jT (z:Int) w).mono ?_;rw [HE.out];rintro e w' ⟨rfl,hw'⟩;rw [hw'];clear hw' w')
    |(go_at_call 118;refine(KC l _ _ w HV.out).mono ?_;rw [HQ.out];rintro e w' ⟨rfl,hw'⟩;rw [hw'];clear hw' w'))
   go_ret2
   rw [E.out]
   exact⟨rfl,rfl⟩
  ·have E:Hid (jF l=(0,(z:Int))):=iH (by unfold jF;rw [iF (by omega),hz,iF (by rw [hb];simp)])
   have HE:=iH hb
   clear hb hz h4
   go_enter Tryz.func126,Tryz.ntmps126
   go_wp2_with(first
    |(go_at_call 115;refine(jT (z:Int) w).mono ?_;rw [HE.out];rintro e w' ⟨rfl,hw'⟩;rw [hw'];clear hw' w')
    |(go_at_call 118;refine(KC l _ _ w HV.out).mono ?_;rw [HQ.out];rintro e w' ⟨rfl,hw'⟩;rw [hw'];clear hw' w'))
   go_ret2
   rw [E.out]
   exact⟨rfl,rfl⟩
 ·have E:Hid (jF l=(2,0)):=iH (by unfold jF;rw [iT h4])
  have t4:((l.length:Int) != 4)=true:=by simp;omega
  clear h4
  go_enter Tryz.func126,Tryz.ntmps126
  go_wp2_with fail
  go_ret2
  rw [E.out]
  exact⟨rfl,rfl⟩
theorem mul_elem(a b:Nat)(ha:jx (a:Int)=true)(hb:jx (b:Int)=true)(hne:a*b % 2147483579≠1):jx ((a*b % 2147483579:Nat):Int)=true:=by
 have ia:=kO ha
 have ib:=kO hb
 have oa:=U9 ha
 have ob:=U9 hb
 have h0:=Kj a b (by omega) (by omega) (by omega) (by omega)
 have hlt:a*b % 2147483579<2147483579:=Nat.mod_lt _ (by decide)
 rw [Int.toNat_natCast]at oa ob
 obtain⟨q,hq⟩:∃q:Nat,q=1073741789:=⟨_,rfl⟩
 rw [<-hq]at oa ob
 rw [zJ _ q (by omega)]at oa ob
 have hf:(a*b % 2147483579) ^ q % 2147483579=1:=by
  rw [<-Nat.pow_mod,Nat.mul_pow,Nat.mul_mod,oa,ob]
 obtain⟨y,hy⟩:∃y,a*b % 2147483579=y:=⟨_,rfl⟩
 rw [hy]at h0 hne hlt hf |-
 unfold jx
 rw [Int.toNat_natCast,<-hq,zJ _ q (by omega)]
 have a1:decide (0<(y:Int)/\(y:Int)<2147483579)=true:=decide_eq_true (by omega)
 have a2:decide ((y:Int)≠1)=true:=decide_eq_true (by omega)
 have a3:decide (y ^ q % 2147483579=1)=true:=decide_eq_true hf
 rw [a1,a2,a3]
 rfl
theorem numV_four{k:Int}(h0:0<=k)(h1:k<4294967296):xH (kg k)=k:=by
 simp only [xH,kg,List.foldl_cons,List.foldl_nil,kK]
 omega
theorem drawW_len(s:List UInt8)(n:Nat)(h:n<=32):(k7 s n).length=n:=by unfold k7;rw [List.length_take,ji];omega
theorem scr_ok(s:List UInt8):okS (XS s)=true:=by unfold XS okS;exact decide_eq_true (by omega)
theorem gPow_nat(x k:Int):∃n:Nat,zZ x k=n:=⟨_,rfl⟩
theorem decode_elem(x:Int)(hx:jx x=true):jF (kg x)=(0,x):=by
 have hi:=kO hx
 unfold jF
 rw [numV_four (by omega) (by omega),iF (by simp [kg]),hx]
 simp
theorem gPow_comm(g a b:Int)(ha:okS a=true)(hb:okS b=true):zZ (zZ g a) b=zZ (zZ g b) a:=by
 have ha:=ZV ha;have hb:=ZV hb
 unfold zZ
 have e1:∀y,gpw 64 1 y a.toNat=y ^ a.toNat % 2147483579:=fun y=>zJ y _ (by omega)
 have e2:∀y,gpw 64 1 y b.toNat=y ^ b.toNat % 2147483579:=fun y=>zJ y _ (by omega)
 simp only [Int.toNat_natCast,e1,e2]
 rw [<-Nat.pow_mod,<-Nat.pow_mod,<-Nat.pow_mul,<-Nat.pow_mul,Nat.mul_comm]
theorem gen_elem(n:List UInt8)(k other:Int)(hk:okS k=true)(ho:jx other=true)(h1:j05 n k other≠1):jx (j05 n k other)=true:=by
 have hs:=xe other k ho hk
 obtain⟨b,hb⟩:=gPow_nat other k
 obtain⟨a,ha⟩:=gPow_nat 4 (xH (n.take 7) % 1073741789)
 unfold j05 at h1 |-
 rw [hb]at h1 hs |-
 rw [ha]at h1 |-
 have e:((a:Int)*b % 2147483579)=((a*b % 2147483579:Nat):Int):=by omega
 rw [e]at h1 |-
 by_cases hk0:xH (n.take 7) % 1073741789=0
 ·have ha1:a=1:=by
   rw [hk0]at ha
   have:zZ 4 0=1:=by unfold zZ;rw [show(0:Int).toNat=0 from rfl,xg]<;>rfl
   omega
  subst ha1
  have hi:=kO hs
  rw [Nat.one_mul,Nat.mod_eq_of_lt (by omega)]
  exact hs
 ·refine mul_elem a b ?_ hs (by omega)
  rw [<-ha]
  exact xe 4 _ JV (by unfold okS;exact decide_eq_true (by omega))
theorem encoded_any(x:Int)(h:jx x=true)(w:World):Calls Tryz.prog 129 #[.int .i64 x] w fun e w'=>∃A c,e=.returned (.slice A 4 c)/\BsS w' (New w w') (.slice A 4 c) (kg x)/\Below w.heap.size w w':=by
 have H:=iH (gencode_good x h w)
 clear h
 go_enter Tryz.func129,Tryz.ntmps129
 go_wp2_with(go_at_call 162;refine H.out.mono ?_;rintro e w1 ⟨v1,rfl,ho,hb⟩;obtain⟨A1,c1,hv1⟩:=ho.form;have hv1:v1=.slice A1 4 c1:=hv1;subst hv1;have HS:=iH (OwnB.out ho (by simp [kg]) w iL);have HB:=iH hb;clear ho hb)
 go_ret
 exact⟨_,_,rfl,HS.out,HB.out⟩
theorem unit_val(tag:Int)(v:List UInt8)(ht:128<=tag/\tag<=134)(hv:v.length<=64):qa (kx tag v) tag v.length=some v:=by
 unfold qa
 rw [(yG tag v (.inr ht) hv).2.2.2]
 have h0:¬tag=0:=by omega
 simp [jZ,QZ,h0]
theorem tk_len(e:Exg)(p:Int)(h:e.k2.length=16):(tkW e p).length=8:=by unfold tkW;rw [List.length_take,codeO_len h];omega
def begX(kd:Int)(sec:List UInt8)(m:Int):Exg:=⟨kd,sec,m,0,[],0,0,0,0,[],[],0⟩
def lnT(m:Int)(i:Nat):Nat:=if i=0 then 0 else if i=1 then(if m=3 then 16 else 4)else if i=3 then 8 else 4
def lnC(m:Int)(i:Nat):Nat:=if i=0 then 16 else if i=1 then(if m=3 then 0 else 4)else if i=3 then 8 else 4
def tgT(i:Nat):Int:=if i=0 then 0 else 127+2*i
def tgC(i:Nat):Int:=128+2*i
def agrX(kd:Int)(sec:List UInt8)(m:Int)(N:List UInt8)(st x g own oth sh:Int):Exg:=⟨kd,sec,m,st,N,x,g,own,oth,ZB (kg sh) 1,ZB (kg sh) 2,0⟩
def rndQ(kd:Int)(sec:List UInt8)(m:Int):Nat->Exg->Exg->List UInt8->Prop
 |0,T,C,R=>T=begX kd sec m/\C=begX kd sec m/\R= []
 |1,T,C,R=>T= {begX kd sec m with st:=1}/\∃N,N.length=16/\C= {begX kd sec m with st:=1,non:=N}/\R=kx 128 (kQ (kz kd sec) Z16 N)
 |2,T,C,R=>∃N,N.length=16/\((m=2/\∃x k g,okS x=true/\okS k=true/\g=j05 N x (zZ 4 k)/\g≠1/\T= {begX kd sec m with st:=2,non:=N,x:=x}/\C= {begX kd sec m with st:=2,non:=N,g:=g}/\R=kx 130 (kg (zZ 4 k)))
   \/(m=3/\∃g,jx g=true/\T= {begX kd sec m with st:=2,non:=N,g:=g}/\C= {begX kd sec m with st:=2,non:=N,g:=g}/\R=kx 130 []))
 |3,T,C,R=>∃N g x k,N.length=16/\jx g=true/\okS x=true/\okS k=true/\zZ g x≠zZ g k/\T= {begX kd sec m with st:=3,non:=N,x:=x,g:=g,own:=zZ g x}
   /\C=agrX kd sec m N 3 k g (zZ g k) (zZ g x) (zZ (zZ g x) k)/\R=kx 132 (kg (zZ g k))
 |4,T,C,R=>∃N g x k,N.length=16/\jx g=true/\okS x=true/\okS k=true/\T=agrX kd sec m N 4 x g (zZ g x) (zZ g k) (zZ (zZ g x) k)
   /\C=agrX kd sec m N 4 k g (zZ g k) (zZ g x) (zZ (zZ g x) k)/\R=kx 134 (tkW C (zZ g x))
 |_,_,_,_=>False
def midX(kd:Int)(sec:List UInt8)(m:Int):Nat->Exg->Exg->List UInt8->Prop
 |0,T,C,D=>T= {begX kd sec m with st:=1}/\C=begX kd sec m/\D=kx 0 []
 |1,T,C,D=>∃N,N.length=16/\C= {begX kd sec m with st:=1,non:=N}/\((m=2/\∃x,okS x=true/\T= {begX kd sec m with st:=2,non:=N,x:=x}/\D=kx 129 (kg (zZ 4 x)))
   \/(m=3/\∃r,r.length=16/\T= {begX kd sec m with st:=2,non:=N,g:=(yb N r).2}/\D=kx 129 r))
 |2,T,C,D=>∃N g x,N.length=16/\jx g=true/\okS x=true/\T= {begX kd sec m with st:=3,non:=N,x:=x,g:=g,own:=zZ g x}/\C= {begX kd sec m with st:=2,non:=N,g:=g}/\D=kx 131 (kg (zZ g x))
 |3,T,C,D=>∃N g x k,N.length=16/\jx g=true/\okS x=true/\okS k=true/\T=agrX kd sec m N 4 x g (zZ g x) (zZ g k) (zZ (zZ g x) k)
   /\C=agrX kd sec m N 3 k g (zZ g k) (zZ g x) (zZ (zZ g x) k)/\D=kx 133 (tkW T (zZ g k))
 |_,_,_,_=>False
variable {kd m:Int} {sec:List UInt8}
theorem pair_ok(N:List UInt8)(st x g own oth sh:Int)(h1:jx own=true)(h2:jx oth=true):zE (agrX kd sec m N st x g own oth sh)=true:=by
 simp [zE,agrX,h1,h2,vS,zh]
theorem mid_shape(hm:m=2\/m=3){i:Nat}{T C:Exg}{D:List UInt8}(h:midX kd sec m i T C D):∃v,D=kx (tgT i) v/\v.length=lnT m i/\i<4:=by
 match i,h with
 |0,h=>exact⟨[],h.2.2,rfl,by omega⟩
 |1,h=>
  obtain⟨N,_,_,⟨rfl,x,_,_,h⟩|⟨rfl,r,hr,_,h⟩⟩:=h
  ·exact⟨_,h,rfl,by omega⟩
  ·exact⟨_,h,hr,by omega⟩
 |2,h=>
  obtain⟨N,g,x,_,_,_,_,_,h⟩:=h
  exact⟨_,h,rfl,by omega⟩
 |3,h=>
  obtain⟨N,g,x,k,_,_,_,_,hT,_,h⟩:=h
  exact⟨_,h,tk_len _ _ (by rw [hT];exact zh _ _),by omega⟩
 |_+4,h=>exact absurd h (by simp [midX])
theorem rnd_shape{i:Nat}{T C:Exg}{R:List UInt8}(h:rndQ kd sec m (i+1) T C R):∃v,R=kx (tgC i) v/\v.length=lnC m i/\i<4:=by
 match i,h with
 |0,h=>
  obtain⟨_,N,hN,_,h⟩:=h
  exact⟨_,h,Zy kd sec N hN,by omega⟩
 |1,h=>
  obtain⟨N,_,⟨rfl,x,k,g,_,_,_,_,_,_,h⟩|⟨rfl,g,_,_,_,h⟩⟩:=h
  ·exact⟨_,h,rfl,by omega⟩
  ·exact⟨_,h,rfl,by omega⟩
 |2,h=>
  obtain⟨N,g,x,k,_,_,_,_,_,_,_,h⟩:=h
  exact⟨_,h,rfl,by omega⟩
 |3,h=>
  obtain⟨N,g,x,k,_,_,_,_,_,hC,h⟩:=h
  exact⟨_,h,tk_len _ _ (by rw [hC];exact zh _ _),by omega⟩
 |_+4,h=>exact absurd h (by simp [rndQ])
section
variable (hp:vPw kd sec=true) (hm:m=2\/m=3)
include hp hm
theorem term0{T C:Exg}{R:List UInt8}(h:rndQ kd sec m 0 T C R)(s:List UInt8):(US T R s).1=0/\midX kd sec m 0 (US T R s).2.1 C (US T R s).2.2.1:=by
 obtain⟨rfl,rfl,rfl⟩:=h
 have hu:usT (begX kd sec m)=true:=by
  have:qd (begX kd sec m)=true:=by simp only [qd,begX,hp];exact(Bool.true_and _).trans (decide_eq_true hm)
  unfold usT;rw [this];simp [begX]
 have e:US (begX kd sec m) [] s=(0,{begX kd sec m with st:=1},kx 0 [],s):=by
  unfold US
  rw [iF (by simp [begX]),iF (by rw [hu];simp),iT (show(begX kd sec m).st=0 from rfl),iF (by simp)]
 rw [e]
 exact⟨rfl,rfl,rfl,rfl⟩
theorem chip0{T C:Exg}{D:List UInt8}(h:midX kd sec m 0 T C D)(s:List UInt8):(U2 C D s).1=0/\rndQ kd sec m 1 T (U2 C D s).2.1 (U2 C D s).2.2.1:=by
 obtain⟨rfl,rfl,rfl⟩:=h
 have hb:qd (begX kd sec m)=true:=by simp only [qd,begX,hp];exact(Bool.true_and _).trans (decide_eq_true hm)
 have hu:usC (begX kd sec m)=true:=by unfold usC;rw [hb];simp [begX]
 have hd:=drawW_len s 16 (by omega)
 have hh:kP kd sec (k7 s 16)=(0,kQ (kz kd sec) Z16 (k7 s 16)):=by
  unfold kP
  rw [iF (by rw [hp];simp),iF (by omega)]
 have e:U2 (begX kd sec m) (kx 0 []) s=(0,{begX kd sec m with st:=1,non:=k7 s 16},kx 128 (kP kd sec (k7 s 16)).2,sdW s):=by
  unfold U2
  rw [iF (by simp [begX]),iF (by rw [hu];simp),show Qo (begX kd sec m).st=0 from rfl,YC]
  simp only []
  rw [iT (show(begX kd sec m).st=0 from rfl)]
  rfl
 rw [e,hh]
 exact⟨rfl,rfl,_,hd,rfl,rfl⟩
theorem term1{T C:Exg}{R:List UInt8}(h:rndQ kd sec m 1 T C R)(s:List UInt8):(US T R s).1=0/\midX kd sec m 1 (US T R s).2.1 C (US T R s).2.2.1:=by
 obtain⟨rfl,N,hN,rfl,rfl⟩:=h
 obtain⟨T,hT⟩:∃T:Exg,T= {begX kd sec m with st:=1}:=⟨_,rfl⟩
 have hb:qd T=true:=by rw [hT];simp only [qd,begX,hp];exact(Bool.true_and _).trans (decide_eq_true hm)
 have hst:T.st=1:=by rw [hT]
 have hpr:T.pr=m:=by rw [hT]<;>rfl
 have hu:usT T=true:=by simp [usT,hb,hst]
 have hH:=Zy kd sec N hN
 have hv:=unit_val 128 (kQ (kz kd sec) Z16 N) ⟨by omega,by omega⟩ (by omega)
 rw [hH]at hv
 have hr:Z5 T.kd T.sec (kQ (kz kd sec) Z16 N)=(0,N):=by
  rw [hT]
  show Z5 kd sec _=_
  unfold Z5
  rw [iF (by rw [hp];simp),iF (by omega),open_seal _ _ _ 1 (by omega)]
 have hs:j0a T=16:=by unfold j0a;rw [iT hst]
 have e:US T (kx 128 (kQ (kz kd sec) Z16 N)) s=if m=3 then(0,{T with st:=2,non:=N,g:=(yb N (k7 s 16)).2},kx 129 (k7 s 16),sdW s)else(0,{T with st:=2,non:=N,x:=XS s},kx 129 (kg (zZ 4 (XS s))),sdW s):=by
  unfold US
  rw [iF (by omega),iF (by rw [hu];simp),iF (by omega),show 126+2*T.st=128 by omega,hs,hv]
  simp only []
  rw [iT hst,hr,hpr]
 rw [<-hT,e]
 by_cases h3:m=3
 ·rw [iT h3]
  refine⟨rfl,N,hN,rfl,.inr ⟨h3,k7 s 16,drawW_len s 16 (by omega),?_,rfl⟩⟩
  simp only [hT]
 ·rw [iF h3]
  refine⟨rfl,N,hN,rfl,.inl ⟨by omega,XS s,scr_ok s,?_,rfl⟩⟩
  simp only [hT]
theorem chip1{T C:Exg}{D:List UInt8}(h:midX kd sec m 1 T C D)(s:List UInt8):((U2 C D s).1=0/\rndQ kd sec m 2 T (U2 C D s).2.1 (U2 C D s).2.2.1)\/(U2 C D s).1=10:=by
 obtain⟨N,hN,hC,h⟩:=h
 have hb:qd C=true:=by rw [hC];simp only [qd,begX,hp];exact(Bool.true_and _).trans (decide_eq_true hm)
 have hst:C.st=1:=by rw [hC]
 have hpr:C.pr=m:=by rw [hC]<;>rfl
 have hno:C.non=N:=by rw [hC]
 have hu:usC C=true:=by simp [usC,hb,hst,hno,hN]
 have htg:Qo C.st=129:=by rw [hst]<;>rfl
 rcases h with ⟨h2,x,hx,hT,rfl⟩|⟨h3,r,hr,hT,rfl⟩
 ·have h3:¬m=3:=by omega
  have hv:qa (kx 129 (kg (zZ 4 x))) 129 4=some (kg (zZ 4 x)):=unit_val 129 (kg (zZ 4 x)) ⟨by omega,by omega⟩ (by simp [kg])
  have hs:VR C=4:=by unfold VR;rw [iT hst,hpr,iF h3]
  have hel:=xe 4 x JV hx
  have hde:=decode_elem _ hel
  have hk:=scr_ok s
  have hgw:qJ N (XS s) (zZ 4 x)=if j05 N (XS s) (zZ 4 x)=1 then(10,0)else(0,j05 N (XS s) (zZ 4 x)):=by
   unfold qJ
   rw [iF (by omega),iF (by rw [hk];simp),iF (by rw [hel];simp)]
  by_cases h1:j05 N (XS s) (zZ 4 x)=1
  ·right
   rw [iT h1]at hgw
   unfold U2
   rw [iF (by omega),iF (by rw [hu];simp),htg,hs,hv]
   simp only []
   rw [iF (by omega),iT hst,iF (by omega),hde]
   simp only []
   rw [hno,hgw]
   rfl
  ·left
   rw [iF h1]at hgw
   have e:U2 C (kx 129 (kg (zZ 4 x))) s=(0,{C with st:=2,g:=j05 N (XS s) (zZ 4 x)},kx 130 (kg (zZ 4 (XS s))),sdW s):=by
    unfold U2
    rw [iF (by omega),iF (by rw [hu];simp),htg,hs,hv]
    simp only []
    rw [iF (by omega),iT hst,iF (by omega),hde]
    simp only []
    rw [hno,hgw]
    rfl
   rw [e]
   have hg:j05 N (XS s) (zZ 4 x)=j05 N x (zZ 4 (XS s)):=by unfold j05;rw [gPow_comm 4 x (XS s) hx hk]
   refine⟨rfl,N,hN,.inl ⟨h2,x,XS s,_,hx,hk,hg,h1,hT,?_,rfl⟩⟩
   simp only [hC]
 ·left
  have hv:=unit_val 129 r ⟨by omega,by omega⟩ (by omega)
  rw [hr]at hv
  have hs:VR C=16:=by unfold VR;rw [iT hst,hpr,iT h3]
  have hi:(yb N r).2=QG N r*QG N r % 2147483579:=by unfold yb;rw [iF (by simp [hN,hr])]
  have e:U2 C (kx 129 r) s=(0,{C with st:=2,g:=(yb N r).2},kx 130 [],s):=by
   unfold U2
   rw [iF (by omega),iF (by rw [hu];simp),htg,hs,hv]
   simp only []
   rw [iF (by omega),iT hst,iT (by omega),hno]
  rw [e]
  refine⟨rfl,N,hN,.inr ⟨h3,(yb N r).2,by rw [hi];exact Uk N r,hT,?_,rfl⟩⟩
  simp only [hC]
theorem term2{T C:Exg}{R:List UInt8}(h:rndQ kd sec m 2 T C R)(s:List UInt8):(US T R s).1=0/\midX kd sec m 2 (US T R s).2.1 C (US T R s).2.2.1:=by
 obtain⟨N,hN,h⟩:=h
 rcases h with ⟨h2,x,k,g,hx,hk,hg,h1,hT,hC,rfl⟩|⟨h3,g,hge,hT,hC,rfl⟩
 ·have hb:qd T=true:=by rw [hT];simp only [qd,begX,hp];exact(Bool.true_and _).trans (decide_eq_true hm)
  have hst:T.st=2:=by rw [hT]
  have hpr:T.pr=2:=by rw [hT];exact h2
  have hno:T.non=N:=by rw [hT]
  have hxx:T.x=x:=by rw [hT]
  have hu:usT T=true:=by simp [usT,hb,hst,hno,hN,hpr,hxx,hx]
  have hv:qa (kx 130 (kg (zZ 4 k))) 130 4=some (kg (zZ 4 k)):=unit_val 130 (kg (zZ 4 k)) ⟨by omega,by omega⟩ (by simp [kg])
  have hs:j0a T=4:=by unfold j0a;rw [iF (by omega),iT hst,iF (by omega)]
  have hel:=xe 4 k JV hk
  have hde:=decode_elem _ hel
  have hgw:qJ N x (zZ 4 k)=(0,g):=by
   unfold qJ
   rw [iF (by omega),iF (by rw [hx];simp),iF (by rw [hel];simp),iF (by rw [<-hg];exact h1),<-hg]
  have hge:jx g=true:=by rw [hg];exact gen_elem N x _ hx hel (by rw [<-hg];exact h1)
  have e:US T (kx 130 (kg (zZ 4 k))) s=(0,{T with st:=3,g:=g,x:=XS s,own:=zZ g (XS s)},kx 131 (kg (zZ g (XS s))),sdW s):=by
   unfold US
   rw [iF (by omega),iF (by rw [hu];simp),iF (by omega),show 126+2*T.st=130 by omega,hs,hv]
   simp only []
   rw [iF (by omega),iT hst,hde,hno,hxx,hgw,iF (by simp),iF (by simp),iT hpr]
  rw [e]
  refine⟨rfl,N,g,XS s,hN,hge,scr_ok s,?_,hC,rfl⟩
  simp only [hT]
 ·have hb:qd T=true:=by rw [hT];simp only [qd,begX,hp];exact(Bool.true_and _).trans (decide_eq_true hm)
  have hst:T.st=2:=by rw [hT]
  have hpr:T.pr=3:=by rw [hT];exact h3
  have hno:T.non=N:=by rw [hT]
  have hgg:T.g=g:=by rw [hT]
  have hu:usT T=true:=by simp [usT,hb,hst,hno,hN,hpr,hgg,hge]
  have hv:=unit_val 130 [] ⟨by omega,by omega⟩ (by simp)
  have hs:j0a T=0:=by unfold j0a;rw [iF (by omega),iT hst,iT hpr]
  have e:US T (kx 130 []) s=(0,{T with st:=3,g:=g,x:=XS s,own:=zZ g (XS s)},kx 131 (kg (zZ g (XS s))),sdW s):=by
   unfold US
   rw [iF (by omega),iF (by rw [hu];simp),iF (by omega),show 126+2*T.st=130 by omega,hs,show qa (kx 130 []) 130 0=some [] from hv]
   simp only []
   rw [iF (by omega),iT hst,iF (by omega),iF (by omega),iF (by omega),hgg]
  rw [e]
  refine⟨rfl,N,g,XS s,hN,hge,scr_ok s,?_,hC,rfl⟩
  simp only [hT]
theorem chip2{T C:Exg}{D:List UInt8}(h:midX kd sec m 2 T C D)(s:List UInt8):((U2 C D s).1=0/\rndQ kd sec m 3 T (U2 C D s).2.1 (U2 C D s).2.2.1)\/(U2 C D s).1=10:=by
 obtain⟨N,g,x,hN,hge,hx,hT,hC,rfl⟩:=h
 have hb:qd C=true:=by rw [hC];simp only [qd,begX,hp];exact(Bool.true_and _).trans (decide_eq_true hm)
 have hst:C.st=2:=by rw [hC]
 have hno:C.non=N:=by rw [hC]
 have hgg:C.g=g:=by rw [hC]
 have hu:usC C=true:=by simp [usC,hb,hst,hno,hN,hgg,hge]
 have htg:Qo C.st=131:=by rw [hst]<;>rfl
 have hv:=unit_val 131 (kg (zZ g x)) ⟨by omega,by omega⟩ (by simp [kg])
 have hs:VR C=4:=by unfold VR;rw [iF (by omega),iF (by omega)]
 have hde:=decode_elem _ (xe g x hge hx)
 have hk:=scr_ok s
 have e:U2 C (kx 131 (kg (zZ g x))) s=if zZ g x=zZ g (XS s)then qk 10 else(0,{(Zb {C with x:=XS s,own:=zZ g (XS s)} (zZ g x)).2 with st:=3},kx 132 (kg (zZ g (XS s))),sdW s):=by
  unfold U2
  rw [iF (by omega),iF (by rw [hu];simp),htg,hs,show qa (kx 131 (kg (zZ g x))) 131 4=some (kg (zZ g x)) from hv]
  simp only []
  rw [iF (by omega),iF (by omega),iT hst,hde,hgg]
  simp
 by_cases heq:zZ g x=zZ g (XS s)
 ·right;rw [e,iT heq]<;>rfl
 ·left
  rw [e,iF heq]
  refine⟨rfl,N,g,x,XS s,hN,hge,hx,hk,heq,hT,?_,rfl⟩
  unfold Zb
  rw [iF heq]
  simp only [hC,agrX]
  rfl
theorem term3{T C:Exg}{R:List UInt8}(h:rndQ kd sec m 3 T C R)(s:List UInt8):(US T R s).1=0/\midX kd sec m 3 (US T R s).2.1 C (US T R s).2.2.1:=by
 obtain⟨N,g,x,k,hN,hge,hx,hk,hne,hT,hC,rfl⟩:=h
 have hb:qd T=true:=by rw [hT];simp only [qd,begX,hp];exact(Bool.true_and _).trans (decide_eq_true hm)
 have hst:T.st=3:=by rw [hT]
 have hno:T.non=N:=by rw [hT]
 have hgg:T.g=g:=by rw [hT]
 have how:T.own=zZ g x:=by rw [hT]
 have hxx:T.x=x:=by rw [hT]
 have hu:usT T=true:=by simp [usT,hb,hst,hno,hN,hgg,hge,how,xe g x hge hx,hxx,hx]
 have hv:=unit_val 132 (kg (zZ g k)) ⟨by omega,by omega⟩ (by simp [kg])
 have hs:j0a T=4:=by unfold j0a;rw [iF (by omega),iF (by omega),iF (by omega)]
 have hde:=decode_elem _ (xe g k hge hk)
 have e:US T (kx 132 (kg (zZ g k))) s=(0,{(Zb T (zZ g k)).2 with st:=4},kx 133 (tkW (Zb T (zZ g k)).2 (zZ g k)),s):=by
  unfold US
  rw [iF (by omega),iF (by rw [hu];simp),iF (by omega),show 126+2*T.st=132 by omega,hs,show qa (kx 132 (kg (zZ g k))) 132 4=some (kg (zZ g k)) from hv]
  simp only []
  rw [iF (by omega),iF (by omega),iT hst,hde,how,iF (by simp),iF (fun h=>hne h.symm)]
 have ha:{(Zb T (zZ g k)).2 with st:=4}=agrX kd sec m N 4 x g (zZ g x) (zZ g k) (zZ (zZ g x) k):=by
  unfold Zb
  rw [how,iF (fun h=>hne h.symm),hxx,gPow_comm g k x hk hx]
  simp only [hT,agrX]
  rfl
 rw [e,ha]
 refine⟨rfl,N,g,x,k,hN,hge,hx,hk,rfl,hC,?_⟩
 show kx 133 (tkW (Zb T (zZ g k)).2 (zZ g k))=_
 rw [<-ha]
 rfl
theorem chip3{T C:Exg}{D:List UInt8}(h:midX kd sec m 3 T C D)(s:List UInt8):(U2 C D s).1=0/\rndQ kd sec m 4 T (U2 C D s).2.1 (U2 C D s).2.2.1:=by
 obtain⟨N,g,x,k,hN,hge,hx,hk,hT,hC,rfl⟩:=h
 have hb:qd C=true:=by rw [hC];simp only [qd,agrX,hp];exact(Bool.true_and _).trans (decide_eq_true hm)
 have hst:C.st=3:=by rw [hC]<;>rfl
 have hno:C.non=N:=by rw [hC]<;>rfl
 have hgg:C.g=g:=by rw [hC]<;>rfl
 have how:C.own=zZ g k:=by rw [hC]<;>rfl
 have hot:C.oth=zZ g x:=by rw [hC]<;>rfl
 have hpa:zE C=true:=by rw [hC];exact pair_ok _ _ _ _ _ _ _ (xe g k hge hk) (xe g x hge hx)
 have hu:usC C=true:=by simp [usC,hb,hst,hno,hN,hgg,hge,hpa]
 have htg:Qo C.st=133:=by rw [hst]<;>rfl
 have hk2:T.k2=C.k2:=by rw [hT,hC]<;>rfl
 have htk:tkW T (zZ g k)=tkW C C.own:=by unfold tkW;rw [hk2,how]
 have hlen:(tkW T (zZ g k)).length=8:=tk_len _ _ (by rw [hT];exact zh _ _)
 have hv:=unit_val 133 (tkW T (zZ g k)) ⟨by omega,by omega⟩ (by omega)
 rw [hlen]at hv
 have hs:VR C=8:=by unfold VR;rw [iF (by omega),iT hst]
 have e:U2 C (kx 133 (tkW T (zZ g k))) s=(0,{C with st:=4},kx 134 (tkW C C.oth),s):=by
  unfold U2
  rw [iF (by omega),iF (by rw [hu];simp),htg,hs,hv]
  simp only []
  rw [iF (by omega),iF (by omega),iF (by omega),iF (by rw [htk];simp)]
 rw [e]
 refine⟨rfl,N,g,x,k,hN,hge,hx,hk,hT,?_,?_⟩
 ·simp only [hC,agrX]
 ·show kx 134 (tkW C C.oth)=kx 134 (tkW {C with st:=4} (zZ g x))
  have hq:∀p,tkW {C with st:=4} p=tkW C p:=fun _=>rfl
  rw [hq,hot]
end
end Go.Proofs.YtalmmiojbmpmiaaGreatDoor
