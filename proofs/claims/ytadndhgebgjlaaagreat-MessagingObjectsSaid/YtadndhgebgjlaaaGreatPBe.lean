/- The walk of Seal; The walk of Open -/
import Derived.Test.YtadndhgebgjlaaaGreatPBa
set_option linter.all false
set_option maxRecDepth 100000
set_option maxHeartbeats 2000000
namespace Go.Proofs.YtadndhgebgjlaaaGreat
theorem m12{P:Prop}(h:P:=by
 have hl:=xN Lb.out x.2
 refine⟨some ⟨bb,bo+16*x.1,none⟩,16,by rw [hl],by omega,by omega,by omega,fun _=>⟨bb,bo+16*x.1,rfl,?_,fun j hj=> ?_⟩⟩
 ·have:=HBB.out hm;have:=hO.size;omega
 ·rw [hl]at hj
  have hbb:=HBB.out hm
  have h1:=HCB.out hm (16*x.1+j) (by have:=x.2;omega)
  rw [Qg _ _ _ hj,Nat.add_assoc]
  exact(World.cell?_of_block (a:=⟨bb,bo+(16*x.1+j),none⟩) ((hO.block bb (by omega) (by omega) (by omega)).trans (HB5.out.block bb hbb))).trans h1):P:=h
theorem m1l{P:Prop}(h:P:=by
 rcases Nat.eq_zero_or_pos m with h0|h0
 ·exact⟨0,0,fun h=>by omega,fun h=>by omega,fun h=>by omega⟩
 ·obtain⟨bb,bo,h1,h2,h3⟩:=hcell3 (by rw [Lb.out];omega)
  exact⟨bb,bo,fun _=>h1,fun _=>h2,fun _ j hj=>h3 j (by rw [Lb.out];exact hj)⟩):P:=h
theorem m1p{P:Prop}(h:P:=by
 have:=Boxed.new (((w2.alloc (.cells #[.pointer (some pa)] 123)).alloc (.cells #[.slice none 0 0] 27)).alloc (.cells #[.slice A3 n3 c3] 27)) 3 (.int .i64 16)
 rw [World.size_alloc,World.size_alloc,World.size_alloc]at this
 rw [hw5];exact this):P:=h
theorem m1y{P:Prop}(h:P:=by
 have:=Boxed.new ((w2.alloc (.cells #[.pointer (some pa)] 123)).alloc (.cells #[.slice none 0 0] 27)) 27 (.slice A3 n3 c3)
 rw [World.size_alloc,World.size_alloc]at this
 rw [hw5];exact this.alloc _):P:=h
theorem m2a{P:Prop}(h:P:=by
 exact(HB5.out.trans ((hO.toBelow (B:=w.heap.size) iL (by omega) HB5.out.size))).trans (belowK_b (w:=w) iL W D _ _ (by have:=HB5.out.size;omega) hK rfl rfl)):P:=h
theorem m2d{P:Prop}(h:P:=by
 have:=Boxed.new (w2.alloc (.cells #[.pointer (some pa)] 123)) 27 (.slice none 0 0)
 rw [World.size_alloc]at this
 rw [hw5];exact(this.alloc _).alloc _):P:=h
section
open Go.RowKit Go.Shelf
attribute [local go_sem] Oper.semAt_some
theorem UZ{k iv b:List UInt8}{m:Nat}(hk:k.length=16)(hi:iv.length=16)(hb:b.length=16*m):j40 k iv b=0:=by
 unfold j40;rw [iT ⟨hk,hi⟩,iT (by omega)]
theorem Jd(m:Nat):(List.finRange m).map Fin.val=List.range m:=by
 apply List.ext_getElem
 ·simp
 ·intro i h1 h2;simp
theorem CipherAt.form{w:World}{B:Nat}{p:Value}{key:Nat->UInt8}(h:CipherAt w B p key):∃a,p=.pointer (some a):=by
 obtain⟨_,cb,hp,_⟩:=h;exact⟨_,hp⟩
section
variable(vk vi vb:Value)(k iv b:List UInt8)(m:Nat)(hk:k.length=16)(hi:iv.length=16)(hb:b.length=16*m)(w:World)(hvk:Bs w w.heap.size vk k)(hvi:Bs w w.heap.size vi iv)(hvb:Bs w w.heap.size vb b)
include vk vi vb k iv b m hk hi hb w hvk hvi hvb
theorem YH:
 Calls Tryz.prog 81 #[vk,vi,vb] w fun e w'=>∃v',e=.returned (.tuple #[v',.int .i64 0])/\OwnB w' w.heap.size v' (q9 k iv b)/\Below w.heap.size w w':=by
 obtain⟨A1,n1,c1,rfl⟩:=hvk.form
 obtain⟨A2,n2,c2,rfl⟩:=hvi.form
 obtain⟨A3,n3,c3,rfl⟩:=hvb.form
 have e1:=Bs.lenEq hvk;have e2:=Bs.lenEq hvi;have e3:=Bs.lenEq hvb
 have HA:=fun w=>zW A1 A2 A3 n1 n2 n3 c1 c2 c3 k iv b e1 e2 e3 w
 rw [UZ hk hi hb]at HA
 have HA:=iH HA
 have Hk:=iH hvk;have Hi:=iH hvi;have Hb:=iH hvb;have Lk:=iH hk;have Li:=iH hi;have Lb:=iH hb;have E3:=iH e3
 clear hvk hvi hvb hk hi hb e1 e2 e3
 refine(callsIn_wide (n:=9)).1 ?_
 refine callsIn_of_wp_marks Tryz.func81 rfl trivial ?_ rfl
 simp only [Tryz.ntmps81,List.size_toArray,List.length_cons,List.length_nil,Nat.reduceAdd,Nat.reduceSub,Array.replicate_succ,Array.replicate_zero,List.push_toArray,List.append_toArray,List.nil_append,List.cons_append]
 gi_wp2_with fail
 refine⟨trivial,(callsIn_wide.2 (HA.out _)).mono ?_⟩
 rintro e w1 ⟨rfl,rfl⟩
 gi_wp2_with fail
 have hb1:Below w.heap.size w (w.alloc (.cells #[.slice A2 n2 c2] 27)):=iA
 refine⟨trivial,(callsIn_wide.2 (Ke _ k Lk.out _ (Hk.out.lift hb1))).mono ?_⟩
 rintro e w2 ⟨p,rfl,hp,hb2⟩
 obtain⟨pa,rfl⟩:=hp.form
 have bI:=(Boxed.new w 27 (.slice A2 n2 c2)).kept (row:=none) ⟨hb2.os,hb2.tape,hb2.output,hb2.size,fun i hi _=>hb2.block i hi⟩ (by simp)
 have hb12:=hb1.trans (hb2.mono hb1.size)
 have BI:=iH bI;have HP:=iH hp;have HB:=iH hb12;clear bI hp hb12 hb1 hb2
 gi_wp2_with fail
 refine⟨trivial,(Yd Fence.wide _ trivial rfl A3 n3 c3 _).mono ?_⟩
 rintro e w3 ⟨rfl,rfl⟩
 gi_wp2_with fail
 obtain⟨w5,hw5⟩:∃w5,w5=((((w2.alloc (.cells #[.pointer (some pa)] 123)).alloc (.cells #[.slice none 0 0] 27)).alloc (.cells #[.slice A3 n3 c3] 27)).alloc (.cells #[.int .i64 16] 3)):=⟨_,rfl⟩
 rw [<-hw5]
 have hsz5:w5.heap.size=w2.heap.size+4:=by rw [hw5];simp
 have hb25:Below w2.heap.size w2 w5:=by rw [hw5];exact(((iA).alloc (by simp) _).alloc (by simp;omega) _).alloc (by simp;omega) _
 have bC5:Boxed w5 w2.heap.size 123 (.pointer (some pa)):=by rw [hw5];exact(((Boxed.new w2 _ _).alloc _).alloc _).alloc _
 have bO5:Boxed w5 (w2.heap.size+1) 27 (.slice none 0 0):=by
  exact m2d
 have bS5:Boxed w5 (w2.heap.size+1+1) 27 (.slice A3 n3 c3):=by
  exact m1y
 have bN5:Boxed w5 (w2.heap.size+1+1+1) 3 (.int .i64 16):=by
  exact m1p
 have hsz2:w.heap.size+1<=w2.heap.size:=by have:=BI.out.lt;omega
 have bI5:Boxed w5 w.heap.size 27 (.slice A2 n2 c2):=(hb25.block w.heap.size (by omega)).trans BI.out
 have hB5:Below w.heap.size w w5:=HB.out.trans (hb25.mono HB.out.size)
 have hcip5:∀W:World,Only2 w.heap.size (w2.heap.size+1) w5 W->CipherAt W W.heap.size (.pointer (some pa)) (gb k):=fun W hO=>
  HP.out.keepBut BI.out (fun b hb hne=>(hO.block b (by omega) hne (by omega)).trans (hb25.block b hb)) (by have:=hO.size;omega)
 clear hw5
 obtain⟨a3,cc3,hv3,hcap3,_,hle3,hcell3⟩:=Hb.out
 injection hv3 with ha3 hn3 hc3
 subst ha3 hc3
 rw [Lb.out]at hn3 hcap3 hle3
 subst hn3
 obtain⟨bb,bo,hab,hbb,hcellb⟩:∃bb bo,(0<m->A3=some ⟨bb,bo,none⟩)/\(0<m->bb<w.heap.size)/\(0<m->∀j,j<16*m->w.cell? ⟨bb,bo+j,none⟩=some (U8 (gb b j))):=by
  exact m1l
 have BC5:=iH bC5;have HB5:=iH hB5;have HC5:=iH hcip5;have HCB:=iH hcellb;have HBB:=iH hbb;have HAB:=iH hab;have HS2:=iH hsz5
 refine wpIn_rangeFunc_ownG rfl (by omega) (gf:=128) (lb:=#[.pointer (some ⟨w2.heap.size+1+1,0,none⟩),.pointer (some ⟨w2.heap.size+1+1+1,0,none⟩)]) rfl trivial (enters_of Tryz.func128 (by kernel_rfl) rfl)
  (JJ Fence.wide _ trivial rfl (by omega) (w2.heap.size+1+1) (w2.heap.size+1+1+1) A3 m c3 bb bo hcap3 hab hle3 w5 bS5.lt bN5.lt bS5.cell bN5.cell) JQ (Xs bS5.lt bN5.lt) iB (fun _=>rfl)
  (fun pre W=>j4h w.heap.size (w2.heap.size+1) w5 (xL k iv b (pre.map Fin.val)) W)
  (fun _ _ _=>False)
  (Xb w.heap.size (w2.heap.size+1) w5 (fun pre:List (Fin m)=>xL k iv b (pre.map Fin.val)) (by omega) (by omega))
  (fun _ _ _ _ _ hs _ _=>hs)
  ⟨Only2.refl _ _ _,_,_,bI5,bO5,?start,World.ownsRow_nil _ _ _ _⟩
  (fun x=>{tmps:=#[.slice A1 n1 c1,.slice A2 n2 c2,.slice A3 (16*m) c3,undef,.pointer (some ⟨w.heap.size,0,none⟩),undef,.slice none 0 0,.int .i64 0,.int .i64 0,.pointer (some ⟨w2.heap.size,0,none⟩),.pointer (some ⟨w2.heap.size+1,0,none⟩),.slice (some ⟨bb,bo+16*x.1,none⟩) 16 16,.slice A1 n1 c1,.slice A2 n2 c2,.slice A3 (16*m) c3,.int .i64 0,.int .i64 0,.bool false,undef,.slice A1 n1 c1,.pointer (some pa),.slice A3 (16*m) c3,.func (.func 128) #[] #[.pointer (some ⟨w2.heap.size+1+1,0,none⟩),.pointer (some ⟨w2.heap.size+1+1+1,0,none⟩)],.slice (some ⟨bb,bo+16*x.1,none⟩) 16 16,undef,undef,undef,undef,undef,undef,undef,undef,undef],defers:=[]}) ?assign ?body ?done ?stop
 case start=>exact BsS.keep Hi.out fun b hb _=>⟨HB5.out.block b hb,by omega,by omega,by simp [Value.ownBlock]⟩
 case assign=>
  intro l x W K hK
  gi_wp2
  exact hK
 case body=>
  rintro l pre x W ⟨hO,iv1,ov,hI,hOv,hivb,hown⟩ hlt
  have hm:0<m:=by have:=x.2;omega
  obtain⟨l1,l2⟩:=QK (k:=k) (b:=b) Li.out (pre.map Fin.val)
  obtain⟨s,hs⟩:∃s,s=xL k iv b (pre.map Fin.val):=⟨_,rfl⟩
  rw [<-hs]at hivb hown l1 l2
  have hX:Bs W W.heap.size (.slice (some ⟨bb,bo+16*x.1,none⟩) 16 16) (blk b x.1):=by
   exact m12
  obtain⟨Ai,ni,ci,rfl⟩:=hivb.form
  have hiv:Bs W W.heap.size (.slice Ai ni ci) s.1:=hivb.keepC fun b _ ⟨o,ho,_⟩=>⟨rfl,(iG ho)⟩
  have hcip:=HC5.out W hO
  have bcw:Boxed W w2.heap.size 123 (.pointer (some pa)):=(hO.block w2.heap.size (by omega) (by omega) (by omega)).trans BC5.out
  have cc:=bcw.cell
  have Hbcw:=iH bcw;clear bcw
  have ci1:=hI.cell
  have HX:=iH hX;have HI:=iH hiv;have HCip:=iH hcip;have HO:=iH hO;have HBI:=iH hI;have HBO:=iH hOv;have Hown:=iH hown;have L1:=iH l1;have L2:=iH l2;have HS:=iH hs
  clear hX hiv hcip hO hI hOv hown l1 l2 hs hivb
  gi_wp2_with fail
  have hmx:Tryz.prog.follows .mixedOrders=true:=by kernel_rfl
  gi_region_with_o (first
   |(refine⟨trivial,?_⟩;gi_at_call 108;refine(CallsIn.inRound l (callsIn_wide.2 (Qi _ _ (blk b x.1) s.1 (xN Lb.out x.2) L1.out _ (by exact HX.out) (by exact HI.out)))).mono ?_
     rintro e W1 ⟨v1,rfl,hv1,hB1⟩
     have cc1:=(hB1.cell (p:=⟨w2.heap.size,0,none⟩) (block_lt_of_cell cc)).trans cc
     have ci2:=(hB1.cell (p:=⟨w.heap.size,0,none⟩) (block_lt_of_cell ci1)).trans ci1)
   |(refine⟨trivial,?_⟩;gi_at_call 107;refine(CallsIn.inRound l (callsIn_wide.2 (j8e _ _ k (qY (blk b x.1) s.1) (kh _ _) _ (by exact HC5.out _ ((HO.out.drew).below hB1)) (by exact hv1.bs)))).mono ?_
     rintro e W2 ⟨v2,rfl,hv2,hB2⟩
     obtain⟨Aj,nj,cj,rfl⟩:=hv2.form
     have hB12:Below W.heap.size W W2:=Below.undrew (hB1.trans (hB2.mono hB1.size))
     have hv2n:BsS W2 (fun b=>W.heap.size<=b/\b<W2.heap.size) (.slice Aj nj cj) (qS k (qY (blk b x.1) s.1)):=hv2.keep fun b hb _=>⟨rfl,Nat.le_trans hB1.size hb.1,hb.2⟩
     obtain⟨hI2,hI3,hO3,hown3,hv3,hOn3,hK3⟩:=U6 (b1:=w.heap.size) (b2:=w2.heap.size+1) (a:=w5) (by omega) (by omega) (by omega) HO.out HBI.out HBO.out Hown.out hB12 hv2n
     have ci3:=hI2.cell
     have fi3:=hI2.frozen))
  all_goals
   have hn16:nj=16:=by have:=Bs.lenEq hv2;rw [kG]at this;exact this
   subst hn16
   have hsrc3:=hv3.src.2
   have c4:=hI3.cell
   have c5:=hO3.cell
   have l3:s.2.length+16<=140737488355328:=by have h:=L2.out;rw [List.length_map]at h;omega
   have hdis:BsS (W2.setCell ⟨w.heap.size,0,none⟩ (.slice Aj 16 cj)) (fun b=>w.heap.size≠b/\w2.heap.size+1≠b/\ov.ownBlock≠some b/\b<(W2.setCell ⟨w.heap.size,0,none⟩ (.slice Aj 16 cj)).heap.size) (.slice Aj 16 cj) (qS k (qY (blk b x.1) s.1)):=
    hv3.keep fun b hb hlt=>⟨rfl,by have:=HO.out.size;have:=hb.1;omega,by have:=HO.out.size;have:=hb.1;omega,fun e=>by have:=(Hown.out.lt b e).2;have:=hb.1;omega,hlt⟩
   have hbase3:w5.heap.size<=(W2.setCell ⟨w.heap.size,0,none⟩ (.slice Aj 16 cj)).heap.size:=hOn3.size
   have Hown3:=iH hown3;have Hsrc3:=iH hsrc3;have Hdis:=iH hdis;have HOn3:=iH hOn3;have HI3:=iH hI3;have HO3:=iH hO3;have HK3:=iH hK3;have Hbase3:=iH hbase3
   clear hown3 hsrc3 hdis hOn3 hI3 hO3 hK3 hv3 hv2 hv2n hI2 hB12 hB1 hB2 ci3 fi3 ci2 cc1 hbase3
   gi_wp2_with (gi_at_builtin;(with_reducible refine Jq _ rfl (.tmp 29) (.tmp 30) 27 rfl w5.heap.size 5 (.int .u8 0) 1 Tryz.underlying27 kJ rfl (by omega) ov s.2.length (s.2.map U8) rfl Hown3.out Aj 16 cj ((qS k (qY (blk b x.1) s.1)).map U8) rfl Hsrc3.out (by omega) Hbase3.out ?_);intro v4 W4 hown4 hg4 hat4 _
                obtain⟨g4,cap4,rfl,_,_,_⟩:=kU hown4 (by omega)
                obtain⟨hO4,e1,e2,e3,e4,e5,e6⟩:=Ve (b1:=w.heap.size) (b2:=w2.heap.size+1) (a:=w5) (by omega) (by omega) (by omega) HOn3.out HI3.out HO3.out Hown3.out Hdis.out hown4 hg4 hat4
                have c6:=hO4.cell
                have f6:=hO4.frozen)
   refine⟨((HK3.out.trans e6)).from _,yk HO.out e1 (by omega) (by omega) (by omega) (by omega) (by omega) (by omega),e1,_,_,e2,e3,?_,?_⟩
   ·rw [List.map_append,List.map_cons,List.map_nil,qI,<-HS.out];exact e4
   ·rw [List.map_append,List.map_cons,List.map_nil,qI,<-HS.out]
    show World.ownsRow _ _ _ _ _ (s.2++qS k (qY (blk b x.1) s.1)).length _
    rw [List.length_append,kG]
    show World.ownsRow _ _ _ _ _ _ ((s.2++qS k (qY (blk b x.1) s.1)).map U8)
    rw [List.map_append]
    exact e5
 case done=>
  rintro D ys W hD rfl ⟨hO,iv1,ov,hI,hOv,hivb,hown⟩ hK
  have cO:=hOv.cell
  gi_wp2
  refine⟨by simp,.inl ⟨_,_,rfl,run_takeDeferred hK,?_⟩⟩
  refine⟨_,results_tmp2 rfl _ _ _,ov,rfl,?_,?_⟩
  ·have hown':=ownsRow_putObj hown (.deferred none) hK rfl
   have hs:=hO.size
   have e:(xL k iv b (List.map Fin.val (List.finRange m))).2=q9 k iv b:=by
    unfold q9
    rw [Lb.out,Nat.mul_div_cancel_left _ (by omega),Jd]
   rw [e]at hown'
   exact⟨hown'.1,hown'.2.imp id fun⟨g,cap,cur,h1,h2,h3⟩=>⟨g,cap,cur,h1,by omega,h3⟩⟩
  ·exact m2a
 case stop=>
  rintro D c pre W _ _ h _
  exact h.elim
theorem j0r:
 Calls Tryz.prog 81 #[vk,vi,vb] w fun e w'=>∃v',e=.returned (.tuple #[v',.int .i64 0])/\BsS w' (New w w') v' (q9 k iv b)/\Below w.heap.size w w':=by
 have hlen:(q9 k iv b).length<=140737488355328:=by
  have h:(q9 k iv b).length=16*m:=by
   unfold q9
   rw [(QK hi _).2,List.length_range,hb,Nat.mul_div_cancel_left _ (by omega)]
  have h2:=hvb.len
  omega
 exact(YH vk vi vb k iv b m hk hi hb w hvk hvi hvb).mono fun _ _ ⟨v,h1,h2,h3⟩=>⟨v,h1,(BsS.of_own h2 hlen).keep fun _ hg _=>⟨rfl,hg.1,hg.2⟩,h3⟩
end
end
section
open Go.RowKit Go.Shelf
attribute [local go_sem] Oper.semAt_some
attribute [local go_sem ↓] Qb Z9 Z8
theorem j03(vk vi vb:Value)(k iv b:List UInt8)(m:Nat)(hk:k.length=16)(hi:iv.length=16)(hb:b.length=16*m)(w:World)(hvk:Bs w w.heap.size vk k)(hvi:Bs w w.heap.size vi iv)(hvb:Bs w w.heap.size vb b):
 Calls Tryz.prog 90 #[vk,vi,vb] w fun e w'=>∃v',e=.returned (.tuple #[v',.int .i64 0])/\BsS w' (New w w') v' (yq k iv b)/\Below w.heap.size w w':=by
 obtain⟨A1,n1,c1,rfl⟩:=hvk.form
 obtain⟨A2,n2,c2,rfl⟩:=hvi.form
 obtain⟨A3,n3,c3,rfl⟩:=hvb.form
 have e1:=Bs.lenEq hvk;have e2:=Bs.lenEq hvi;have e3:=Bs.lenEq hvb
 have HA:=fun w=>zW A1 A2 A3 n1 n2 n3 c1 c2 c3 k iv b e1 e2 e3 w
 rw [UZ hk hi hb]at HA
 have HA:=iH HA
 have Hk:=iH hvk;have Hi:=iH hvi;have Hb:=iH hvb;have Lk:=iH hk;have Li:=iH hi;have Lb:=iH hb;have E3:=iH e3
 clear hvk hvi hvb hk hi hb e1 e2 e3
 refine(callsIn_wide (n:=9)).1 ?_
 refine callsIn_of_wp_marks Tryz.func90 rfl trivial ?_ rfl
 simp only [Tryz.ntmps90,List.size_toArray,List.length_cons,List.length_nil,Nat.reduceAdd,Nat.reduceSub,Array.replicate_succ,Array.replicate_zero,List.push_toArray,List.append_toArray,List.nil_append,List.cons_append]
 gi_wp2_with fail
 refine⟨trivial,(callsIn_wide.2 (HA.out _)).mono ?_⟩
 rintro e w1 ⟨rfl,rfl⟩
 gi_wp2_with fail
 have hb1:Below w.heap.size w (w.alloc (.cells #[.slice A2 n2 c2] 27)):=iA
 refine⟨trivial,(callsIn_wide.2 (Ke _ k Lk.out _ (Hk.out.lift hb1))).mono ?_⟩
 rintro e w2 ⟨p,rfl,hp,hb2⟩
 obtain⟨pa,rfl⟩:=hp.form
 have bI:=(Boxed.new w 27 (.slice A2 n2 c2)).kept (row:=none) ⟨hb2.os,hb2.tape,hb2.output,hb2.size,fun i hi _=>hb2.block i hi⟩ (by simp)
 have hb12:=hb1.trans (hb2.mono hb1.size)
 have BI:=iH bI;have HP:=iH hp;have HB:=iH hb12;clear bI hp hb12 hb1 hb2
 gi_wp2_with fail
 refine⟨trivial,(Yd Fence.wide _ trivial rfl A3 n3 c3 _).mono ?_⟩
 rintro e w3 ⟨rfl,rfl⟩
 gi_wp2_with fail
 obtain⟨w5,hw5⟩:∃w5,w5=((((w2.alloc (.cells #[.pointer (some pa)] 123)).alloc (.cells #[.slice none 0 0] 27)).alloc (.cells #[.slice A3 n3 c3] 27)).alloc (.cells #[.int .i64 16] 3)):=⟨_,rfl⟩
 rw [<-hw5]
 have hsz5:w5.heap.size=w2.heap.size+4:=by rw [hw5];simp
 have hb25:Below w2.heap.size w2 w5:=by rw [hw5];exact(((iA).alloc (by simp) _).alloc (by simp;omega) _).alloc (by simp;omega) _
 have bC5:Boxed w5 w2.heap.size 123 (.pointer (some pa)):=by rw [hw5];exact(((Boxed.new w2 _ _).alloc _).alloc _).alloc _
 have bO5:Boxed w5 (w2.heap.size+1) 27 (.slice none 0 0):=by
  exact m2d
 have bS5:Boxed w5 (w2.heap.size+1+1) 27 (.slice A3 n3 c3):=by
  exact m1y
 have bN5:Boxed w5 (w2.heap.size+1+1+1) 3 (.int .i64 16):=by
  exact m1p
 have hsz2:w.heap.size+1<=w2.heap.size:=by have:=BI.out.lt;omega
 have bI5:Boxed w5 w.heap.size 27 (.slice A2 n2 c2):=(hb25.block w.heap.size (by omega)).trans BI.out
 have hB5:Below w.heap.size w w5:=HB.out.trans (hb25.mono HB.out.size)
 have hcip5:∀W:World,Only2 w.heap.size (w2.heap.size+1) w5 W->CipherAt W W.heap.size (.pointer (some pa)) (gb k):=fun W hO=>
  HP.out.keepBut BI.out (fun b hb hne=>(hO.block b (by omega) hne (by omega)).trans (hb25.block b hb)) (by have:=hO.size;omega)
 clear hw5
 obtain⟨a3,cc3,hv3,hcap3,_,hle3,hcell3⟩:=Hb.out
 injection hv3 with ha3 hn3 hc3
 subst ha3 hc3
 rw [Lb.out]at hn3 hcap3 hle3
 subst hn3
 obtain⟨bb,bo,hab,hbb,hcellb⟩:∃bb bo,(0<m->A3=some ⟨bb,bo,none⟩)/\(0<m->bb<w.heap.size)/\(0<m->∀j,j<16*m->w.cell? ⟨bb,bo+j,none⟩=some (U8 (gb b j))):=by
  exact m1l
 have BC5:=iH bC5;have HB5:=iH hB5;have HC5:=iH hcip5;have HCB:=iH hcellb;have HBB:=iH hbb;have HAB:=iH hab;have HS2:=iH hsz5
 refine wpIn_rangeFunc_ownG rfl (by omega) (gf:=128) (lb:=#[.pointer (some ⟨w2.heap.size+1+1,0,none⟩),.pointer (some ⟨w2.heap.size+1+1+1,0,none⟩)]) rfl trivial (enters_of Tryz.func128 (by kernel_rfl) rfl)
  (JJ Fence.wide _ trivial rfl (by omega) (w2.heap.size+1+1) (w2.heap.size+1+1+1) A3 m c3 bb bo hcap3 hab hle3 w5 bS5.lt bN5.lt bS5.cell bN5.cell) JQ (Xs bS5.lt bN5.lt) iB (fun _=>rfl)
  (fun pre W=>j4h w.heap.size (w2.heap.size+1) w5 (xK k iv b (pre.map Fin.val)) W)
  (fun _ _ _=>False)
  (Xb w.heap.size (w2.heap.size+1) w5 (fun pre:List (Fin m)=>xK k iv b (pre.map Fin.val)) (by omega) (by omega))
  (fun _ _ _ _ _ hs _ _=>hs)
  ⟨Only2.refl _ _ _,_,_,bI5,bO5,?start,World.ownsRow_nil _ _ _ _⟩
  (fun x=>{tmps:=#[.slice A1 n1 c1,.slice A2 n2 c2,.slice A3 (16*m) c3,undef,.pointer (some ⟨w.heap.size,0,none⟩),undef,.slice none 0 0,.int .i64 0,.int .i64 0,.pointer (some ⟨w2.heap.size,0,none⟩),.pointer (some ⟨w2.heap.size+1,0,none⟩),.slice (some ⟨bb,bo+16*x.1,none⟩) 16 16,.slice A1 n1 c1,.slice A2 n2 c2,.slice A3 (16*m) c3,.int .i64 0,.int .i64 0,.bool false,undef,.slice A1 n1 c1,.pointer (some pa),.slice A3 (16*m) c3,.func (.func 128) #[] #[.pointer (some ⟨w2.heap.size+1+1,0,none⟩),.pointer (some ⟨w2.heap.size+1+1+1,0,none⟩)],.slice (some ⟨bb,bo+16*x.1,none⟩) 16 16,undef,undef,undef,undef,undef,undef,undef,undef,undef],defers:=[]}) ?assign ?body ?done ?stop
 case start=>exact BsS.keep Hi.out fun b hb _=>⟨HB5.out.block b hb,by omega,by omega,by simp [Value.ownBlock]⟩
 case assign=>
  intro l x W K hK
  gi_wp2
  exact hK
 case body=>
  rintro l pre x W ⟨hO,iv1,ov,hI,hOv,hivb,hown⟩ hlt
  have hm:0<m:=by have:=x.2;omega
  obtain⟨l1,l2⟩:=Qy (k:=k) (b:=b) Li.out Lb.out (pre.map Fin.val) (fun y hy=>by obtain⟨z,_,rfl⟩:=List.mem_map.1 hy;exact z.2)
  obtain⟨s,hs⟩:∃s,s=xK k iv b (pre.map Fin.val):=⟨_,rfl⟩
  rw [<-hs]at hivb hown l1 l2
  have hX:Bs W W.heap.size (.slice (some ⟨bb,bo+16*x.1,none⟩) 16 16) (blk b x.1):=by
   exact m12
  have hXa:BsS W (fun g=>g≠w.heap.size/\g≠w2.heap.size+1/\g<w5.heap.size) (.slice (some ⟨bb,bo+16*x.1,none⟩) 16 16) (blk b x.1):=by
   obtain⟨_,_,hv,h1,h2,h3,h4⟩:=hX
   injection hv with ha hn hc
   subst ha hc
   refine⟨_,_,by rw [<-hn],h1,h2,h3,fun hp=> ?_⟩
   obtain⟨b',o',he,_,h6⟩:=h4 hp
   injection he with he
   injection he with he1 he2
   subst he1 he2
   have:=HBB.out hm
   exact⟨_,_,rfl,⟨by omega,by omega,by omega⟩,h6⟩
  have HXa:=iH hXa;clear hXa
  obtain⟨Ai,ni,ci,rfl⟩:=hivb.form
  have hiv:Bs W W.heap.size (.slice Ai ni ci) s.1:=hivb.keepC fun b _ ⟨o,ho,_⟩=>⟨rfl,(iG ho)⟩
  have hcip:=HC5.out W hO
  have bcw:Boxed W w2.heap.size 123 (.pointer (some pa)):=(hO.block w2.heap.size (by omega) (by omega) (by omega)).trans BC5.out
  have cc:=bcw.cell
  have Hbcw:=iH bcw;clear bcw
  have ci1:=hI.cell
  have co:=hOv.cell
  have l3:s.2.length+16<=140737488355328:=by have h:=l2;rw [List.length_map]at h;omega
  have HX:=iH hX;have HI:=iH hiv;have HCip:=iH hcip;have HO:=iH hO;have HBI:=iH hI;have HBO:=iH hOv;have Hown:=iH hown;have L1:=iH l1;have L2:=iH l2;have HS:=iH hs
  clear hX hiv hcip hO hI hOv hown l1 l2 hs hivb
  gi_wp2_with fail
  have hmx:Tryz.prog.follows .mixedOrders=true:=by kernel_rfl
  gi_region_with_o (first
   |(refine⟨trivial,?_⟩;gi_at_call 118;refine(CallsIn.inRound l (callsIn_wide.2 (j8d _ _ k (blk b x.1) (xN Lb.out x.2) _ (by exact HC5.out _ HO.out.drew) (by exact HX.out)))).mono ?_
     rintro e W1 ⟨v1,rfl,hv1,hB1⟩
     have co1:=(hB1.cell (p:=⟨w2.heap.size+1,0,none⟩) (block_lt_of_cell co)).trans co
     have ci2:=(hB1.cell (p:=⟨w.heap.size,0,none⟩) (block_lt_of_cell ci1)).trans ci1)
   |(refine⟨trivial,?_⟩;gi_at_call 108;refine(CallsIn.inRound l (callsIn_wide.2 (Qi _ _ (Ky k (blk b x.1)) s.1 (Js _ _) L1.out _ (by exact hv1.bs) (by exact Bs.lift (w:=W.drew) HI.out hB1)))).mono ?_
     rintro e W2 ⟨v2,rfl,hv2,hB2⟩
     obtain⟨Aj,nj,cj,rfl⟩:=hv2.form
     have co2:=(hB2.cell (p:=⟨w2.heap.size+1,0,none⟩) (block_lt_of_cell co1)).trans co1
     have hB12:Below W.heap.size W W2:=Below.undrew (hB1.trans (hB2.mono hB1.size))
     have hown2:=q6 Hown.out hB12
     have hn16:nj=16:=by have:=Bs.lenEq hv2;rw [kh]at this;exact this
     subst hn16
     have hsrc2:=hv2.src.2
     have hbase2:w5.heap.size<=W2.heap.size:=Nat.le_trans HO.out.size hB12.size)
   |(with_reducible refine Kx W2 (.tmp 24) (.tmp 29) 27 rfl w5.heap.size 5 (.int .u8 0) 1 Tryz.underlying27 kJ rfl (by omega) ov s.2.length (s.2.map U8) rfl hown2 Aj 16 cj ((qY (Ky k (blk b x.1)) s.1).map U8) rfl hsrc2 (by omega) hbase2 ?_
     intro v4 W4 hown4 hg4 hat4
     obtain⟨g4,cap4,rfl,_,_,_⟩:=kU hown4 (by omega)
     obtain⟨hO4,hI5,e1,e2,e3,e4,e5,e6⟩:=U5 (b1:=w.heap.size) (b2:=w2.heap.size+1) (a:=w5) (by omega) (by omega) (by omega) HO.out HBI.out HBO.out Hown.out hB12 HXa.out hown4 hg4 hat4
     have c6:=hO4.cell
     have f6:=hO4.frozen
     have c7:=hI5.cell
     have f7:=hI5.frozen))
  all_goals
   have E1:=iH e1;have E2:=iH e2;have E3:=iH e3;have E4:=iH e4;have E5:=iH e5;have E6:=iH e6
   clear e1 e2 e3 e4 e5 e6 hown4 hg4 hat4 hO4 hI5 hown2 hsrc2 hB12 hB1 hB2 hv1 hv2
   gi_wp2
   refine⟨E6.out.from _,yk HO.out E1.out (by omega) (by omega) (by omega) (by omega) (by omega) (by omega),E1.out,_,_,E2.out,E3.out,?_,?_⟩
   ·rw [List.map_append,List.map_cons,List.map_nil,qH,<-HS.out];exact E4.out
   ·rw [List.map_append,List.map_cons,List.map_nil,qH,<-HS.out]
    show World.ownsRow _ _ _ _ _ (s.2++qY (Ky k (blk b x.1)) s.1).length _
    rw [List.length_append,kh]
    show World.ownsRow _ _ _ _ _ _ ((s.2++qY (Ky k (blk b x.1)) s.1).map U8)
    rw [List.map_append]
    exact E5.out
 case done=>
  rintro D ys W hD rfl ⟨hO,iv1,ov,hI,hOv,hivb,hown⟩ hK
  have cO:=hOv.cell
  gi_wp2
  refine⟨by simp,.inl ⟨_,_,rfl,run_takeDeferred hK,?_⟩⟩
  refine⟨_,results_tmp2 rfl _ _ _,ov,rfl,?_,?_⟩
  ·have hown':=ownsRow_putObj hown (.deferred none) hK rfl
   have hs:=hO.size
   have e:(xK k iv b (List.map Fin.val (List.finRange m))).2=yq k iv b:=by
    unfold yq
    rw [Lb.out,Nat.mul_div_cancel_left _ (by omega),Jd]
   rw [e]at hown'
   refine(BsS.of_own hown' ?_).keep fun g hg _=>⟨rfl,by have:=hg.1;omega,hg.2⟩
   rw [<-e,(Qy Li.out Lb.out _ (fun y hy=>by obtain⟨z,_,rfl⟩:=List.mem_map.1 hy;exact z.2)).2]
   simp
   omega
  ·exact m2a
 case stop=>
  rintro D c pre W _ _ h _
  exact h.elim
end
end Go.Proofs.YtadndhgebgjlaaaGreat
