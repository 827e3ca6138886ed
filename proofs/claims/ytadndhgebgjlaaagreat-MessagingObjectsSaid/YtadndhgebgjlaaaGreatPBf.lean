/- The walk of the reference's Seal; The walk of the reference's Open -/
import Derived.Test.YtadndhgebgjlaaaGreatPBa
import Derived.Test.YtadndhgebgjlaaaGreatPBc
set_option linter.all false
set_option maxRecDepth 100000
set_option maxHeartbeats 2000000
namespace Go.Proofs.YtadndhgebgjlaaaGreat
open Go.RowKit
theorem m1q{P:Prop}(h:P:=by
 rcases Nat.eq_zero_or_pos m with h0|h0
 ·exact⟨0,0,fun h=>by omega,fun h=>by omega,fun h=>by omega⟩
 ·obtain⟨bb,bo,h1,h2,h3⟩:=hcell3 (by rw [hb];omega)
  exact⟨bb,bo,fun _=>h1,fun _=>h2,fun _ j hj=>h3 j (by rw [hb];exact hj)⟩):P:=h
theorem m1s{P:Prop}(h:P:=by
 have h1:=HCB.out hm (16*kk+j) (by omega)
 rw [Qg _ _ _ hj,hq.out]
 exact((hB.cell (p:=⟨bb,bo+(16*kk+j),none⟩) (by simp;omega)).trans (HB1.out.cell (p:=⟨bb,bo+(16*kk+j),none⟩) (by simpa using hbb))).trans h1):P:=h
section
variable(p v:Value)(k l:List UInt8)(hl:l.length=16)(w:World)(hp:RefCipherAt w w.heap.size p (gb k))(hv:Bs w w.heap.size v l)
include p v k l hl w hp hv
theorem j5x:
 Calls Tryz.prog 93 #[p,v] w fun e w'=>∃v',e=.returned v'/\BsS w' (New w w') v' (qS k l)/\Below w.heap.size w w':=by
 have h:=KC p v (gb k) l hl w hp hv
 rw [<-j4z]at h
 unfold qS
 exact h
theorem j7v:
 Calls Tryz.prog 124 #[p,v] w fun e w'=>∃v',e=.returned v'/\BsS w' (New w w') v' (Ky k l)/\Below w.heap.size w w':=by
 have h:=KB p v (gb k) l hl w hp hv
 rw [<-j4v]at h
 unfold Ky
 exact h
end
theorem RefCipherAt.mono{w:World}{B B':Nat}{p:Value}{key:Nat->UInt8}(h:RefCipherAt w B p key)(hB:B<=B'):RefCipherAt w B' p key:=by
 obtain⟨cb,kv,hp,h1,h2,h3,h4,h5⟩:=h
 exact⟨cb,kv,hp,by omega,h2,h3,h4,h5.mono hB⟩
section
variable(vk vi vb:Value)(k iv b:List UInt8)(m:Nat)(hk:k.length=16)(hi:iv.length=16)(hb:b.length=16*m)(w:World)(hvk:Bs w w.heap.size vk k)(hvi:Bs w w.heap.size vi iv)(hvb:Bs w w.heap.size vb b)
include vk vi vb k iv b m hk hi hb w hvk hvi hvb
theorem Ji:
 Calls Tryz.prog 62 #[vk,vi,vb] w fun e w'=>∃v',e=.returned (.tuple #[v',.int .i64 0])/\BsS w' (New w w') v' (q9 k iv b)/\Below w.heap.size w w':=by
 obtain⟨A1,n1,c1,rfl⟩:=hvk.form
 obtain⟨A2,n2,c2,rfl⟩:=hvi.form
 have e1:=Bs.lenEq hvk;have e2:=Bs.lenEq hvi
 rw [hk]at e1;rw [hi]at e2
 subst e1 e2
 obtain⟨A3,c3,hvb3,hcb3,hcm3,hle3,hcell3⟩:=hvb
 rw [hb]at hvb3 hcb3 hle3
 subst hvb3
 have t1:((16*(m:Int)) % 16 != 0)=false:=by simp
 obtain⟨bb,bo,hab,hbb,hcellb⟩:∃bb bo,(0<m->A3=some ⟨bb,bo,none⟩)/\(0<m->bb<w.heap.size)/\(0<m->∀j,j<16*m->w.cell? ⟨bb,bo+j,none⟩=some (U8 (gb b j))):=by
  exact m1q
 have Hk:=iH hvk;have Hi:=iH hvi;have Lk:=iH hk;have Li:=iH hi;have Lb:=iH hb;have HCB:=iH hcellb;have HBB:=iH hbb;have HAB:=iH hab
 clear hvk hvi hk hi hb hcellb hbb hab hcell3
 go_enter Tryz.func62,Tryz.ntmps62
 go_wp2_with fail
 refine(qp _ k Lk.out _ Hk.out).mono ?_
 rintro e w1 ⟨p,rfl,hp,hB1⟩
 have HP:=iH hp;have HB1:=iH hB1;clear hp hB1
 have hsz1:=HB1.out.size
 go_wp2_with fail
 go_loopw [9,10,11] (fun lv ov i wr=>∃kk q:Nat,kk<=m/\Hid (q=16*kk)/\i=.int .i64 q/\BsS wr (fun g=>g<wr.heap.size/\ov.ownBlock≠some g) lv (xL k iv b (List.range kk)).1/\wr.ownsRow w1.heap.size 5 1 ov (xL k iv b (List.range kk)).2.length ((xL k iv b (List.range kk)).2.map U8)/\Below w1.heap.size w1 wr) (fun _ _ i _=>16*m - (intOf i).toNat)
 case atStart=>exact⟨0,0,Nat.zero_le _,rfl,rfl,BsS.keep Hi.out fun g hg _=>⟨HB1.out.block g hg,by omega,by simp [Value.ownBlock]⟩,World.ownsRow_nil _ _ _ _,Below.refl _ _⟩
 case round=>
  obtain⟨kk,q,hkk,hq,rfl,hlv,hown,hB⟩:=hrel
  obtain⟨wo,rfl⟩:∃wo:World,wo=wr:=⟨_,rfl⟩
  obtain⟨l1,l2⟩:=QK (k:=k) (b:=b) Li.out (List.range kk)
  obtain⟨s,hs⟩:∃s,s=xL k iv b (List.range kk):=⟨_,rfl⟩
  rw [<-hs]at hlv hown l1 l2
  rw [List.length_range]at l2
  by_cases hlt:kk<m
  ·have hq0:(q:Int)+16<=16*m:=by have:=hq.out;omega
   have hd:decide ((q:Int)<16*m)=true:=by simp;omega
   obtain⟨Al,nl,cl,rfl⟩:=hlv.form
   have hnl:=Bs.lenEq hlv
   rw [l1]at hnl
   subst hnl
   obtain⟨al,_,hvl,_,_,_,hcl⟩:=hlv
   injection hvl with hal h2 h3
   subst hal
   clear h2 h3
   obtain⟨lb,lo,rfl,hlb,hcl⟩:=hcl (by omega)
   rw [l1]at hcl
   have hm:0<m:=by omega
   have hbb:=HBB.out hm
   obtain rfl:=HAB.out hm
   have hcx:∀j,j<16->wo.cell? ⟨bb,bo+(q+j),none⟩=some (U8 (gb (blk b kk) j)):=fun j hj=>by
    exact m1s
   have HX:=iH hcx;have HL:=iH hcl;have Hown:=iH hown;have HB:=iH hB;have L1:=iH l1;have L2:=iH l2;have HS:=iH hs;have Hnew:=iH (KE wo);have HLB:=iH hlb
   clear hcx hcl hown hB l1 l2 hs hlb
   go_wp2_with fail
   go_loopw [13] (fun v wi=>∃n:Nat,n<=16/\v=.int .i64 n/\wi.rowIs wo.heap.size 116 16 (fun j=>U8 (qQ n (fun j=>gb (blk b kk) j ^^^ gb s.1 j) (fun _=>0) j))/\Below wo.heap.size wo wi) (fun v _=>16 - (intOf v).toNat)
   case atStart=>exact⟨0,by omega,rfl,jF Hnew.out _,iA⟩
   case round=>
    obtain⟨n,hn,rfl,hr,hb⟩:=hrel
    by_cases hlt2:n<16
    ·have c1:=jR hr hlt2
     have f1:=hr.frozen n
     have c2:wr.cell? ⟨bb,bo+(q+n),none⟩=some (U8 (gb (blk b kk) n)):=(hb.cell (p:=⟨bb,bo+(q+n),none⟩) (by have:=HB.out.size;simp;omega)).trans (HX.out n hlt2)
     have c3:wr.cell? ⟨lb,lo+n,none⟩=some (U8 (gb s.1 n)):=(hb.cell (p:=⟨lb,lo+n,none⟩) (HLB.out.1)).trans (HL.out n hlt2)
     have HR:=iH hr;have Hb:=iH hb;clear hr hb
     have n1:(n:Int)<16:=by omega
     have n2:(0:Int)<=q+n:=by omega
     have n3:(q:Int)+n<16*m:=by omega
     have n4:((q:Int)+n).toNat=q+n:=by omega
     have hd2:decide ((n:Int)<16)=true:=by simp;omega
     have s0:Value.int .i64 (IntKind.i64.wrap ((q:Int)+n))=.int .i64 (q+n):=by rw [IntWalk.i64_in _ (by omega)]
     go_wp2
     refine wp_region_still_tail 13 (by kernel_rfl) (by kernel_rfl) ?_
     simp only [List.take_succ_cons,List.take_zero,List.drop_succ_cons,List.drop_zero]
     repeat(refine wpStill_step (fun K hK=> ?_);go_simp;(try go_bits);refine hK _ ?_;clear hK K)
     refine wpStill_nil ?_
     go_wp2
     go_roundw
     case rel=>exact⟨n+1,by omega,by go_num,(jL HR.out rfl).drew,(Hb.out.setCell (by simp) _).drew⟩
     case measure=>simp [intOf]<;>omega
    ·have hn16:n=16:=by omega
     subst hn16
     have hr2:=jE hr iL
     have hT:=HB.out.trans (hb.mono HB.out.size)
     have hcip:=(HP.out.below hT).mono hT.size
     have hvx:Bs wr wr.heap.size (.slice (some ⟨wo.heap.size,0,none⟩) 16 16) (qY (blk b kk) s.1):=Bs.of_row hr2 (by omega)
     have HT:=iH hT;have Hcip:=iH hcip;have Hvx:=iH hvx;have Hb:=iH hb
     clear hr hr2 hT hcip hvx hb
     go_wp2_with fail
     refine(j5x p _ k (qY (blk b kk) s.1) (kh _ _) _ Hcip.out Hvx.out).mono ?_
     rintro e W2 ⟨v2,rfl,hv2,hB2⟩
     obtain⟨Aj,nj,cj,rfl⟩:=hv2.form
     have hnj:nj=16:=by have:=Bs.lenEq hv2;rw [kG]at this;exact this
     subst hnj
     have hbo2:Below wo.heap.size wo W2:=Hb.out.trans (hB2.mono Hb.out.size)
     have hown2:=q6 Hown.out hbo2
     have hsrc2:=hv2.src.2
     have l3:s.2.length+16<=140737488355328:=by have:=L2.out;omega
     have hbase2:w1.heap.size<=W2.heap.size:=Nat.le_trans HT.out.size hB2.size
     have hdis:BsS W2 (fun g=>wo.heap.size<=g/\g<W2.heap.size) (.slice Aj 16 cj) (qS k (qY (blk b kk) s.1)):=hv2.keep fun g hg _=>⟨rfl,Nat.le_trans Hb.out.size hg.1,hg.2⟩
     have Hown2:=iH hown2;have Hsrc2:=iH hsrc2;have Hdis:=iH hdis;have HT2:=iH (HT.out.trans (hB2.mono HT.out.size));have Hbase2:=iH hbase2
     clear hown2 hsrc2 hdis hv2 hB2 hbo2 hbase2
     go_wp2_with(at_builtin;(with_reducible refine jp _ rfl (.tmp 55) (.tmp 56) 27 rfl w1.heap.size 5 (.int .u8 0) 1 Tryz.underlying27 kJ rfl (by omega) u10 s.2.length (s.2.map U8) rfl Hown2.out Aj 16 cj ((qS k (qY (blk b kk) s.1)).map U8) rfl Hsrc2.out (by omega) Hbase2.out ?_);intro v4 W4 hown4 hg4 hat4 _)
     have hlast:BsS W4 (fun g=>g<W4.heap.size/\v4.ownBlock≠some g) (.slice Aj 16 cj) (qS k (qY (blk b kk) s.1)):=BsS.keep Hdis.out fun g hg hlt=>by
      have hne:u10.ownBlock≠some g:=fun e=>by have:=(Hown.out.lt g e).2;have:=hg.1;omega
      refine⟨hg4.block g hlt (fun e=>hne e.symm),by have:=hg4.size;omega,?_⟩
      rcases hat4 with e|e
      ·rw [e];exact hne
      ·rw [e];intro h;injection h with h;omega
     have hbw:=jn Hown2.out hg4 iL Hbase2.out
     go_roundw
     case rel=>
      refine⟨kk+1,q+16,by omega,by have:=hq.out;unfold Hid;omega,by go_num,?_,?_,HT2.out.trans hbw⟩
      ·rw [List.range_succ,qI,<-HS.out];exact hlast
      ·rw [List.range_succ,qI,<-HS.out]
       show World.ownsRow _ _ _ _ _ (s.2++qS k (qY (blk b kk) s.1)).length ((s.2++qS k (qY (blk b kk) s.1)).map U8)
       rw [List.length_append,kG,List.map_append]
       exact hown4
     case measure=>simp [intOf]<;>omega
  ·have hkm:kk=m:=by omega
   subst hkm
   have hd:decide ((q:Int)<16*kk)=false:=by have:=hq.out;simp;omega
   have hge:¬(q:Int)<16*kk:=by have:=hq.out;omega
   have e:s.2=q9 k iv b:=by
    unfold q9
    rw [Lb.out,Nat.mul_div_cancel_left _ (by omega),<-hs]
   have l3:s.2.length<=140737488355328:=by omega
   rw [e]at hown l3
   have Hown:=iH hown;have HB:=iH hB
   clear hown hB e hs l2 l1 hlv
   go_wp2
   go_ret2
   exact⟨_,rfl,(BsS.of_own Hown.out l3).keep fun g hg _=>⟨rfl,by have:=hg.1;omega,hg.2⟩,HB1.out.trans (HB.out.mono hsz1)⟩
theorem XO:
 Calls Tryz.prog 99 #[vk,vi,vb] w fun e w'=>∃v',e=.returned (.tuple #[v',.int .i64 0])/\BsS w' (New w w') v' (yq k iv b)/\Below w.heap.size w w':=by
 obtain⟨A1,n1,c1,rfl⟩:=hvk.form
 obtain⟨A2,n2,c2,rfl⟩:=hvi.form
 have e1:=Bs.lenEq hvk;have e2:=Bs.lenEq hvi
 rw [hk]at e1;rw [hi]at e2
 subst e1 e2
 obtain⟨A3,c3,hvb3,hcb3,hcm3,hle3,hcell3⟩:=hvb
 rw [hb]at hvb3 hcb3 hle3
 subst hvb3
 have t1:((16*(m:Int)) % 16 != 0)=false:=by simp
 obtain⟨bb,bo,hab,hbb,hcellb⟩:∃bb bo,(0<m->A3=some ⟨bb,bo,none⟩)/\(0<m->bb<w.heap.size)/\(0<m->∀j,j<16*m->w.cell? ⟨bb,bo+j,none⟩=some (U8 (gb b j))):=by
  exact m1q
 have Hk:=iH hvk;have Hi:=iH hvi;have Lk:=iH hk;have Li:=iH hi;have Lb:=iH hb;have HCB:=iH hcellb;have HBB:=iH hbb;have HAB:=iH hab
 clear hvk hvi hk hi hb hcellb hbb hab hcell3
 go_enter Tryz.func99,Tryz.ntmps99
 go_wp2_with fail
 refine(qp _ k Lk.out _ Hk.out).mono ?_
 rintro e w1 ⟨p,rfl,hp,hB1⟩
 have HP:=iH hp;have HB1:=iH hB1;clear hp hB1
 have hsz1:=HB1.out.size
 go_wp2_with fail
 go_loopw [9,10,11] (fun lv ov i wr=>∃kk q:Nat,kk<=m/\Hid (q=16*kk)/\i=.int .i64 q/\BsS wr (fun g=>g<wr.heap.size/\ov.ownBlock≠some g) lv (xK k iv b (List.range kk)).1/\wr.ownsRow w1.heap.size 5 1 ov (xK k iv b (List.range kk)).2.length ((xK k iv b (List.range kk)).2.map U8)/\Below w1.heap.size w1 wr) (fun _ _ i _=>16*m - (intOf i).toNat)
 case atStart=>exact⟨0,0,Nat.zero_le _,rfl,rfl,BsS.keep Hi.out fun g hg _=>⟨HB1.out.block g hg,by omega,by simp [Value.ownBlock]⟩,World.ownsRow_nil _ _ _ _,Below.refl _ _⟩
 case round=>
  obtain⟨kk,q,hkk,hq,rfl,hlv,hown,hB⟩:=hrel
  obtain⟨wo,rfl⟩:∃wo:World,wo=wr:=⟨_,rfl⟩
  obtain⟨l1,l2⟩:=Qy (k:=k) (b:=b) Li.out Lb.out (List.range kk) (fun y hy=>by have:=List.mem_range.1 hy;omega)
  obtain⟨s,hs⟩:∃s,s=xK k iv b (List.range kk):=⟨_,rfl⟩
  rw [<-hs]at hlv hown l1 l2
  rw [List.length_range]at l2
  by_cases hlt:kk<m
  ·have hq0:(q:Int)+16<=16*m:=by have:=hq.out;omega
   have hd:decide ((q:Int)<16*m)=true:=by simp;omega
   obtain⟨Al,nl,cl,rfl⟩:=hlv.form
   have hnl:=Bs.lenEq hlv
   rw [l1]at hnl
   subst hnl
   have hm:0<m:=by omega
   have hbb:=HBB.out hm
   obtain rfl:=HAB.out hm
   have hcx:∀j,j<16->wo.cell? ⟨bb,bo+(q+j),none⟩=some (U8 (gb (blk b kk) j)):=fun j hj=>by
    exact m1s
   have hq16:(q:Int)+16<=c3:=by omega
   have hcq:¬c3=q:=by omega
   have hcx2:Bs wo wo.heap.size (.slice (some ⟨bb,bo+q,none⟩) 16 (c3 - q)) (blk b kk):=by
    have hl:=xN Lb.out hlt
    refine⟨some ⟨bb,bo+q,none⟩,c3 - q,by rw [hl],by omega,by omega,by omega,fun _=>⟨bb,bo+q,rfl,by have:=hB.size;omega,fun j hj=> ?_⟩⟩
    rw [hl]at hj
    have:=hcx j hj
    rwa [<-Nat.add_assoc]at this
   have HX:=iH hcx2;have HLv:=iH hlv;have Hown:=iH hown;have HB:=iH hB;have L1:=iH l1;have L2:=iH l2;have HS:=iH hs
   clear hcx hcx2 hlv hown hB l1 l2 hs
   have hcip:=(HP.out.below HB.out).mono HB.out.size
   have Hcip:=iH hcip;clear hcip
   go_wp2_with fail
   refine(j7v p _ k (blk b kk) (xN Lb.out hlt) _ Hcip.out HX.out).mono ?_
   rintro e W1 ⟨xv,rfl,hx,hB1⟩
   have hown1:=q6 Hown.out hB1
   have hT1:=HB.out.trans (hB1.mono HB.out.size)
   have hlast1:BsS W1 (fun g=>g<W1.heap.size/\u10.ownBlock≠some g) (.slice Al 16 cl) s.1:=BsS.keep HLv.out fun g hg _=>⟨hB1.block g hg.1,iZ hg.1 hB1.size,hg.2⟩
   have hx1:BsS W1 (fun g=>g<W1.heap.size/\u10.ownBlock≠some g) xv (Ky k (blk b kk)):=hx.keep fun g hg _=>⟨rfl,hg.2,fun e=>by have:=(Hown.out.lt g e).2;have:=hg.1;omega⟩
   have Hown1:=iH hown1;have HT1:=iH hT1;have Hlast1:=iH hlast1;have Hx1:=iH hx1
   clear hown1 hT1 hlast1 hx1 hx hB1
   obtain⟨Ax,nx,cx,rfl⟩:=Hx1.out.form
   have hnx:nx=16:=by have:=Bs.lenEq Hx1.out;rw [Js]at this;exact this
   subst hnx
   go_wp2
   go_loopw [10,13] (fun o v wi=>∃n:Nat,n<=16/\v=.int .i64 n/\wi.ownsRow w1.heap.size 5 1 o (s.2.length+n) ((s.2++(qY (Ky k (blk b kk)) s.1).take n).map U8)/\
    BsS wi (fun g=>g<wi.heap.size/\o.ownBlock≠some g) (.slice Al 16 cl) s.1/\BsS wi (fun g=>g<wi.heap.size/\o.ownBlock≠some g) (.slice Ax 16 cx) (Ky k (blk b kk))/\Below w1.heap.size w1 wi) (fun _ v _=>16 - (intOf v).toNat)
   case atStart=>exact⟨0,by omega,rfl,by simpa using Hown1.out,Hlast1.out,Hx1.out,HT1.out⟩
   case round=>
    obtain⟨n,hn,rfl,hown,hla,hxa,hT⟩:=hrel
    by_cases hlt2:n<16
    ·have hd2:decide ((n:Int)<16)=true:=by simp;omega
     have n1:(n:Int)<16:=by omega
     obtain⟨al,cl',hvl,_,_,_,hcl⟩:=hla
     have hla:BsS wr (fun g=>g<wr.heap.size/\u10.ownBlock≠some g) (.slice Al 16 cl) s.1:=⟨al,cl',hvl,‹_›,‹_›,‹_›,hcl⟩
     injection hvl with hal h2 h3
     subst hal
     clear h2 h3
     obtain⟨lb,lo,rfl,hlb,hcl⟩:=hcl (by rw [L1.out];omega)
     obtain⟨ax,cx',hvx,_,_,_,hcx⟩:=hxa
     have hxa:BsS wr (fun g=>g<wr.heap.size/\u10.ownBlock≠some g) (.slice Ax 16 cx) (Ky k (blk b kk)):=⟨ax,cx',hvx,‹_›,‹_›,‹_›,hcx⟩
     injection hvx with hal h2 h3
     subst hal
     clear h2 h3
     obtain⟨xb,xo,rfl,hxb,hcx⟩:=hcx (by rw [Js];omega)
     have c1:=hcx n (by rw [Js];omega)
     have c2:=hcl n (by rw [L1.out];omega)
     have hrow:wr.ownsRow w1.heap.size 5 1 u10 (s.2.length+n) ((s.2++(qY (Ky k (blk b kk)) s.1).take n).map U8):=hown
     obtain⟨d,hdd⟩:∃d,d=Ky k (blk b kk):=⟨_,rfl⟩
     rw [<-hdd]at c1 hown hxa
     have Hd:=iH hdd
     clear hdd hrow
     have Hown:=iH ((hown.alloc (.cells #[U8 (gb d n ^^^ gb s.1 n)] 5)).drew)
     have Hsrc:=iH (show SrcAt ((wr.alloc (.cells #[U8 (gb d n ^^^ gb s.1 n)] 5)).drew) (some ⟨wr.heap.size,0,none⟩) 1 [U8 (gb d n ^^^ gb s.1 n)] from SrcAt.one _ _ rfl)
     have Hla:=iH hla;have Hxa:=iH hxa;have HT:=iH hT;have Hlb:=iH hlb;have Hxb:=iH hxb
     have hbase:w1.heap.size<=((wr.alloc (.cells #[U8 (gb d n ^^^ gb s.1 n)] 5)).drew).heap.size:=by have:=hT.size;simp;omega
     have Hbase:=iH hbase
     have l4:s.2.length+16<=140737488355328:=by have:=L2.out;omega
     have C1x:=iH (show((wr.alloc (.cells #[U8 (gb d n ^^^ gb s.1 n)] 5)).drew).cell? ⟨xb,xo+n,none⟩=some (U8 (gb d n)) from(World.cell?_alloc_past _ _ _ hxb.1).trans c1)
     have C2x:=iH (show((wr.alloc (.cells #[U8 (gb d n ^^^ gb s.1 n)] 5)).drew).cell? ⟨lb,lo+n,none⟩=some (U8 (gb s.1 n)) from(World.cell?_alloc_past _ _ _ hlb.1).trans c2)
     clear hown hla hxa hT hlb hxb hcl hcx hbase
     go_wp2
     go_region_held3 (fun W=>W.cell? ⟨xb,xo+n,none⟩=some (U8 (gb d n))/\W.cell? ⟨lb,lo+n,none⟩=some (U8 (gb s.1 n)))
      (first
        |go_keep
        |(refine⟨?_,?_⟩
          ·exact(hg7.cell_far (a:=⟨xb,xo+n,none⟩) (by have:=Hxb.out.1;simp;omega) (by intro e;exact Hxb.out.2 e.symm)).trans C1x.out
          ·exact(hg7.cell_far (a:=⟨lb,lo+n,none⟩) (by have:=Hlb.out.1;simp;omega) (by intro e;exact Hlb.out.2 e.symm)).trans C2x.out))
      (((with_reducible refine xZ _ rfl (.tmp 46) (.tmp 56) 27 rfl w1.heap.size 5 (.int .u8 0) 1 Tryz.underlying27 kJ rfl (by omega) u10 (s.2.length+n) ((s.2++(qY d s.1).take n).map U8) rfl Hown.out (some ⟨wr.heap.size,0,none⟩) 1 1 [U8 (gb d n ^^^ gb s.1 n)] rfl Hsrc.out (by omega) Hbase.out ?_);intro v7 w7 hown7 hg7 hat7 hold7))
     have hkeep:∀ {v:Value} {l:List UInt8},BsS wr (fun g=>g<wr.heap.size/\u10.ownBlock≠some g) v l->BsS w7 (fun g=>g<w7.heap.size/\v7.ownBlock≠some g) v l:=fun h=>h.keep fun g hg _=>by
      have h1:=hg7.block g (by have:=hg.1;simp;omega) (fun e=>hg.2 e.symm)
      have h2:((wr.alloc (.cells #[U8 (gb d n ^^^ gb s.1 n)] 5)).drew).heap[g]?=wr.heap[g]? :=Below.heap_alloc wr _ g hg.1
      refine⟨h1.trans h2,by have:=hg7.size;have:=hg.1;simp at*;omega,?_⟩
      rcases hat7 with e|e
      ·rw [e];exact hg.2
      ·rw [e];intro h;injection h with h;have:=hg.1;simp at h;omega
     have hla7:=hkeep Hla.out
     have hxa7:=hkeep Hxa.out
     have hT7:=((HT.out.alloc HT.out.size _).drew).trans (jn Hown.out hg7 iL Hbase.out)
     clear hkeep
     go_wp2
     go_roundw
     case rel=>
      refine⟨n+1,by omega,by go_num,?_,hla7,by rw [<-Hd.out];exact hxa7,hT7⟩
      rw [<-Nat.add_assoc,<-Hd.out]
      have e:((s.2++(qY d s.1).take (n+1)).map U8)=((s.2++(qY d s.1).take n).map U8)++ [U8 (gb d n ^^^ gb s.1 n)]:=by
       rw [List.take_succ_eq_append_getElem (by rw [kh];exact hlt2),<-List.append_assoc,List.map_append]
       congr 1
       simp [qY,jH]
      rw [e]
      exact hown7
     case measure=>simp [intOf]<;>omega
    ·have hn16:n=16:=by omega
     subst hn16
     rw [List.take_of_length_le (by rw [kh];omega)]at hown
     have hbx:BsS wr (fun g=>g<wr.heap.size/\u10.ownBlock≠some g) (.slice (some ⟨bb,bo+q,none⟩) 16 (c3 - q)) (blk b kk):=by
      obtain⟨_,_,hv,h1,h2,h3,h4⟩:=HX.out
      injection hv with ha hn' hc'
      subst ha hc'
      refine⟨_,_,by rw [<-hn'],h1,h2,h3,fun hp=> ?_⟩
      obtain⟨b',o',he,_,h6⟩:=h4 hp
      injection he with he
      injection he with he1 he2
      subst he1 he2
      have hw1b:bb<w1.heap.size:=by omega
      refine⟨bb,bo+q,rfl,⟨by have:=hT.size;omega,fun e=>by have:=(hown.lt bb e).1;omega⟩,fun j hj=> ?_⟩
      have h7:=h6 j hj
      have h8:wr.heap[bb]?=wo.heap[bb]? :=(hT.block bb hw1b).trans (HB.out.block bb hw1b).symm
      exact(World.cell?_of_block (a:=⟨bb,bo+q+j,none⟩) h8).trans h7
     have Hown:=iH hown;have Hbx:=iH hbx;have HT:=iH hT
     clear hown hbx hT hla hxa
     go_wp2
     go_roundw
     case rel=>
      refine⟨kk+1,q+16,by omega,by have:=hq.out;unfold Hid;omega,by go_num,?_,?_,HT.out⟩
      ·rw [List.range_succ,qH,<-HS.out,show q+16 - q=16 by omega];exact Hbx.out
      ·rw [List.range_succ,qH,<-HS.out]
       show World.ownsRow _ _ _ _ _ (s.2++qY (Ky k (blk b kk)) s.1).length ((s.2++qY (Ky k (blk b kk)) s.1).map U8)
       rw [List.length_append,kh]
       exact Hown.out
     case measure=>simp [intOf]<;>omega
  ·have hkm:kk=m:=by omega
   subst hkm
   have hd:decide ((q:Int)<16*kk)=false:=by have:=hq.out;simp;omega
   have hge:¬(q:Int)<16*kk:=by have:=hq.out;omega
   have e:s.2=yq k iv b:=by
    unfold yq
    rw [Lb.out,Nat.mul_div_cancel_left _ (by omega),<-hs]
   have l3:s.2.length<=140737488355328:=by omega
   rw [e]at hown l3
   have Hown:=iH hown;have HB:=iH hB
   clear hown hB e hs l2 l1 hlv
   go_wp2
   go_ret2
   exact⟨_,rfl,(BsS.of_own Hown.out l3).keep fun g hg _=>⟨rfl,by have:=hg.1;omega,hg.2⟩,HB1.out.trans (HB.out.mono hsz1)⟩
end
end Go.Proofs.YtadndhgebgjlaaaGreat
