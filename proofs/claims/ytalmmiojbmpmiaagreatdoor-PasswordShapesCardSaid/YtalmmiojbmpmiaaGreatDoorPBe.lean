/- make([]byte, 16); double, both sides: the shift of a block to the left by one bit; The walks of Pad and Unpad of both sides; Plain law of chained blocks: Ope... -/
import Derived.Test.YtalmmiojbmpmiaaGreatDoorPu
import Derived.Test.YtalmmiojbmpmiaaGreatDoorPBc
import Derived.Test.YtalmmiojbmpmiaaGreatDoorPz
import Derived.Test.YtalmmiojbmpmiaaGreatDoorPBb
import Derived.Test.YtalmmiojbmpmiaaGreatDoorPBa
import Derived.Test.YtalmmiojbmpmiaaGreatDoorPBd
set_option linter.all false
set_option maxRecDepth 100000
set_option maxHeartbeats 2000000
namespace Go.Proofs.YtalmmiojbmpmiaaGreatDoor
open Go.RowKit
section
open Go.RowKit
def wz(w:World):World:=w.alloc (.cells (jP 16 fun _=>0) 5)
theorem QK(w:World):(Instr.makeSlice 22 (.int .i64 16) (.int .i64 16)).run Tryz.prog w=.ok (.slice (some ⟨w.heap.size,0,none⟩) 16 16) (wz w):=by kernel_rfl
theorem j18(w:World):BsS (wz w) (New w (wz w)) (.slice (some ⟨w.heap.size,0,none⟩) 16 16) (List.replicate 16 0):=by
 have hr:(w.alloc (.cells (jP 16 fun _=>0) 5)).rowIs w.heap.size 5 16 (fun j=>U8 ((fun _=>0) j)):=jE _ _ _ _
 exact BsS.of_row (S:=New w (wz w)) hr (by omega) ⟨Nat.le_refl _,by unfold wz;simp⟩
theorem jv(w:World):Below w.heap.size w (wz w):=iA
def Z16:List UInt8:=List.replicate 16 0
theorem yM:Z16.length=16:=rfl
theorem X7(w:World):BsS (wz w) (New w (wz w)) (.slice (some ⟨w.heap.size,0,none⟩) 16 16) Z16:=j18 w
attribute [irreducible] wz Z16
end
def j24(f:Nat->UInt8)(j:Nat):UInt8:=f j*2 ||| if j+1<16 then f (j+1) / 128 else 0
def j2f(f:Nat->UInt8)(j:Nat):UInt8:=if j=15/\128<=bv (f 0)then j24 f j ^^^ 135 else j24 f j
def j25(l:List UInt8):List UInt8:=jn 16 (j2f (gb l))
def j2w(n:Nat):Nat:=(16 - (n+1) % 16) % 16
def j2v(l:List UInt8):List UInt8:=l++ [128]++List.replicate (j2w l.length) 0
theorem Ug{P:Nat->List UInt8}{c:Nat->List UInt8}(h0:P 0= [])(hP:∀n,P (n+1)=P n++c n){m:Nat}(hc:∀n,n<m->(c n).length=16)(n:Nat)(hn:n<=m):(P n).length=16*n:=by
 induction n with
 |zero=>rw [h0]<;>rfl
 |succ n ih=>rw [hP,List.length_append,ih (by omega),hc n (by omega)];omega
section
variable (k iv b:List UInt8)
def sC(n:Nat):List UInt8:=(qo k iv b (List.range n)).1
def sP(n:Nat):List UInt8:=(qo k iv b (List.range n)).2
theorem Yi(n:Nat):sC k iv b (n+1)=yr k (qv (blk b n) (sC k iv b n)):=by unfold sC;rw [List.range_succ,kG]<;>rfl
theorem VO(n:Nat):sP k iv b (n+1)=sP k iv b n++sC k iv b (n+1):=by rw [Yi];unfold sP sC;rw [List.range_succ,kG]<;>rfl
theorem UM{m:Nat}(hb:b.length=16*m):kQ k iv b=sP k iv b m:=by unfold kQ sP;rw [hb,Nat.mul_div_cancel_left _ (by omega)]
theorem j14(m:Nat):(sP k iv b m).length=16*m:=Ug (P:=sP k iv b) (c:=fun n=>sC k iv b (n+1)) rfl (VO k iv b) (m:=m) (fun _ _=>by rw [Yi];exact kW _ _) m iL
end
section
open Go.RowKit Go.Shelf
attribute [local go_sem] Oper.semAt_some
theorem Ze{k iv b:List UInt8}{m:Nat}(hk:k.length=16)(hi:iv.length=16)(hb:b.length=16*m):V3 k iv b=0:=by
 unfold V3;rw [iT ⟨hk,hi⟩,iT (by omega)]
theorem xP(m:Nat):(List.finRange m).map Fin.val=List.range m:=by
 apply List.ext_getElem
 ·simp
 ·intro i h1 h2;simp
theorem CipherAt.form{w:World}{B:Nat}{p:Value}{key:Nat->UInt8}(h:CipherAt w B p key):∃a,p=.pointer (some a):=by
 obtain⟨_,cb,hp,_⟩:=h;exact⟨_,hp⟩
theorem UN(vk vi vb:Value)(k iv b:List UInt8)(m:Nat)(hk:k.length=16)(hi:iv.length=16)(hb:b.length=16*m)(w:World)(hvk:Bs w w.heap.size vk k)(hvi:Bs w w.heap.size vi iv)(hvb:Bs w w.heap.size vb b):
 Calls Tryz.prog 52 #[vk,vi,vb] w fun e w'=>∃v',e=.returned (.tuple #[v',.int .i64 0])/\OwnB w' w.heap.size v' (kQ k iv b)/\Below w.heap.size w w':=by
 obtain⟨A1,n1,c1,rfl⟩:=hvk.form
 obtain⟨A2,n2,c2,rfl⟩:=hvi.form
 obtain⟨A3,n3,c3,rfl⟩:=hvb.form
 have e1:=Bs.lenEq hvk;have e2:=Bs.lenEq hvi;have e3:=Bs.lenEq hvb
 have HA:=fun w=>x6 A1 A2 A3 n1 n2 n3 c1 c2 c3 k iv b e1 e2 e3 w
 rw [Ze hk hi hb]at HA
 have HA:=iH HA
 have Hk:=iH hvk;have Hi:=iH hvi;have Hb:=iH hvb;have Lk:=iH hk;have Li:=iH hi;have Lb:=iH hb;have E3:=iH e3
 clear hvk hvi hvb hk hi hb e1 e2 e3
 refine(callsIn_wide (n:=9)).1 ?_
 refine callsIn_of_wp_marks Tryz.func52 rfl trivial ?_ rfl
 simp only [Tryz.ntmps52,List.size_toArray,List.length_cons,List.length_nil,Nat.reduceAdd,Nat.reduceSub,Array.replicate_succ,Array.replicate_zero,List.push_toArray,List.append_toArray,List.nil_append,List.cons_append]
 gi_wp2_with fail
 refine⟨trivial,(callsIn_wide.2 (HA.out _)).mono ?_⟩
 rintro e w1 ⟨rfl,rfl⟩
 gi_wp2_with fail
 have hb1:Below w.heap.size w (w.alloc (.cells #[.slice A2 n2 c2] 22)):=iA
 refine⟨trivial,(callsIn_wide.2 (Km _ k Lk.out _ (Hk.out.lift hb1))).mono ?_⟩
 rintro e w2 ⟨p,rfl,hp,hb2⟩
 obtain⟨pa,rfl⟩:=hp.form
 have bI:=(Boxed.new w 22 (.slice A2 n2 c2)).kept (row:=none) ⟨hb2.os,hb2.tape,hb2.output,hb2.size,fun i hi _=>hb2.block i hi⟩ (by simp)
 have hb12:=hb1.trans (hb2.mono hb1.size)
 have BI:=iH bI;have HP:=iH hp;have HB:=iH hb12;clear bI hp hb12 hb1 hb2
 gi_wp2_with fail
 refine⟨trivial,(Qy Fence.wide _ trivial rfl A3 n3 c3 _).mono ?_⟩
 rintro e w3 ⟨rfl,rfl⟩
 gi_wp2_with fail
 obtain⟨w5,hw5⟩:∃w5,w5=((((w2.alloc (.cells #[.pointer (some pa)] 118)).alloc (.cells #[.slice none 0 0] 22)).alloc (.cells #[.slice A3 n3 c3] 22)).alloc (.cells #[.int .i64 16] 3)):=⟨_,rfl⟩
 rw [<-hw5]
 have hsz5:w5.heap.size=w2.heap.size+4:=by rw [hw5];simp
 have hb25:Below w2.heap.size w2 w5:=by rw [hw5];exact(((iA).alloc (by simp) _).alloc (by simp;omega) _).alloc (by simp;omega) _
 have bC5:Boxed w5 w2.heap.size 118 (.pointer (some pa)):=by rw [hw5];exact(((Boxed.new w2 _ _).alloc _).alloc _).alloc _
 have bO5:Boxed w5 (w2.heap.size+1) 22 (.slice none 0 0):=by
  have:=Boxed.new (w2.alloc (.cells #[.pointer (some pa)] 118)) 22 (.slice none 0 0)
  rw [World.size_alloc]at this
  rw [hw5];exact(this.alloc _).alloc _
 have bS5:Boxed w5 (w2.heap.size+1+1) 22 (.slice A3 n3 c3):=by
  have:=Boxed.new ((w2.alloc (.cells #[.pointer (some pa)] 118)).alloc (.cells #[.slice none 0 0] 22)) 22 (.slice A3 n3 c3)
  rw [World.size_alloc,World.size_alloc]at this
  rw [hw5];exact this.alloc _
 have bN5:Boxed w5 (w2.heap.size+1+1+1) 3 (.int .i64 16):=by
  have:=Boxed.new (((w2.alloc (.cells #[.pointer (some pa)] 118)).alloc (.cells #[.slice none 0 0] 22)).alloc (.cells #[.slice A3 n3 c3] 22)) 3 (.int .i64 16)
  rw [World.size_alloc,World.size_alloc,World.size_alloc]at this
  rw [hw5];exact this
 have hsz2:w.heap.size+1<=w2.heap.size:=by have:=BI.out.lt;omega
 have bI5:Boxed w5 w.heap.size 22 (.slice A2 n2 c2):=(hb25.block w.heap.size (by omega)).trans BI.out
 have hB5:Below w.heap.size w w5:=HB.out.trans (hb25.mono HB.out.size)
 have hcip5:∀W:World,Only2 w.heap.size (w2.heap.size+1) w5 W->CipherAt W W.heap.size (.pointer (some pa)) (gb k):=fun W hO=>
  HP.out.keepBut BI.out (fun b hb hne=>(hO.block b (by omega) hne (by omega)).trans (hb25.block b hb)) (by have:=hO.size;omega)
 clear hw5
 obtain⟨a3,cc3,hv3,hcap3,_,hle3,hcell3⟩:=Hb.out
 injection hv3 with ha3 hn3 hc3
 subst ha3 hc3
 rw [Lb.out]at hn3 hcap3 hle3
 subst hn3
 obtain⟨bb,bo,hab,hbb,hcellb⟩:∃bb bo,(0<m->A3=some ⟨bb,bo,none⟩)/\(0<m->bb<w.heap.size)/\(0<m->∀j,j<16*m->w.cell? ⟨bb,bo+j,none⟩=some (U8 (gb b j))):=by
  rcases Nat.eq_zero_or_pos m with h0|h0
  ·exact⟨0,0,fun h=>by omega,fun h=>by omega,fun h=>by omega⟩
  ·obtain⟨bb,bo,h1,h2,h3⟩:=hcell3 (by rw [Lb.out];omega)
   exact⟨bb,bo,fun _=>h1,fun _=>h2,fun _ j hj=>h3 j (by rw [Lb.out];exact hj)⟩
 have BC5:=iH bC5;have HB5:=iH hB5;have HC5:=iH hcip5;have HCB:=iH hcellb;have HBB:=iH hbb;have HAB:=iH hab;have HS2:=iH hsz5
 refine wpIn_rangeFunc_ownG rfl (by omega) (gf:=144) (lb:=#[.pointer (some ⟨w2.heap.size+1+1,0,none⟩),.pointer (some ⟨w2.heap.size+1+1+1,0,none⟩)]) rfl trivial (enters_of Tryz.func144 (by kernel_rfl) rfl)
  (zv Fence.wide _ trivial rfl (by omega) (w2.heap.size+1+1) (w2.heap.size+1+1+1) A3 m c3 bb bo hcap3 hab hle3 w5 bS5.lt bN5.lt bS5.cell bN5.cell) ql (zx bS5.lt bN5.lt) iB (fun _=>rfl)
  (fun pre W=>Vd w.heap.size (w2.heap.size+1) w5 (qo k iv b (pre.map Fin.val)) W)
  (fun _ _ _=>False)
  (JO w.heap.size (w2.heap.size+1) w5 (fun pre:List (Fin m)=>qo k iv b (pre.map Fin.val)) (by omega) (by omega))
  (fun _ _ _ _ _ hs _ _=>hs)
  ⟨Only2.refl _ _ _,_,_,bI5,bO5,?start,World.ownsRow_nil _ _ _ _⟩
  (fun x=>{tmps:=#[.slice A1 n1 c1,.slice A2 n2 c2,.slice A3 (16*m) c3,undef,.pointer (some ⟨w.heap.size,0,none⟩),undef,.slice none 0 0,.int .i64 0,.int .i64 0,.pointer (some ⟨w2.heap.size,0,none⟩),.pointer (some ⟨w2.heap.size+1,0,none⟩),.slice (some ⟨bb,bo+16*x.1,none⟩) 16 16,.slice A1 n1 c1,.slice A2 n2 c2,.slice A3 (16*m) c3,.int .i64 0,.int .i64 0,.bool false,undef,.slice A1 n1 c1,.pointer (some pa),.slice A3 (16*m) c3,.func (.func 144) #[] #[.pointer (some ⟨w2.heap.size+1+1,0,none⟩),.pointer (some ⟨w2.heap.size+1+1+1,0,none⟩)],.slice (some ⟨bb,bo+16*x.1,none⟩) 16 16,undef,undef,undef,undef,undef,undef,undef,undef,undef],defers:=[]}) ?assign ?body ?done ?stop
 case start=>exact BsS.keep Hi.out fun b hb _=>⟨HB5.out.block b hb,by omega,by omega,by simp [Value.ownBlock]⟩
 case assign=>
  intro l x W K hK
  gi_wp2
  exact hK
 case body=>
  rintro l pre x W ⟨hO,iv1,ov,hI,hOv,hivb,hown⟩ hlt
  have hm:0<m:=by have:=x.2;omega
  obtain⟨l1,l2⟩:=Js (k:=k) (b:=b) Li.out (pre.map Fin.val)
  obtain⟨s,hs⟩:∃s,s=qo k iv b (pre.map Fin.val):=⟨_,rfl⟩
  rw [<-hs]at hivb hown l1 l2
  have hX:Bs W W.heap.size (.slice (some ⟨bb,bo+16*x.1,none⟩) 16 16) (blk b x.1):=by
   have hl:=qO Lb.out x.2
   refine⟨some ⟨bb,bo+16*x.1,none⟩,16,by rw [hl],by omega,by omega,by omega,fun _=>⟨bb,bo+16*x.1,rfl,?_,fun j hj=> ?_⟩⟩
   ·have:=HBB.out hm;have:=hO.size;omega
   ·rw [hl]at hj
    have hbb:=HBB.out hm
    have h1:=HCB.out hm (16*x.1+j) (by have:=x.2;omega)
    rw [yT _ _ _ hj,Nat.add_assoc]
    exact(World.cell?_of_block (a:=⟨bb,bo+(16*x.1+j),none⟩) ((hO.block bb (by omega) (by omega) (by omega)).trans (HB5.out.block bb hbb))).trans h1
  obtain⟨Ai,ni,ci,rfl⟩:=hivb.form
  have hiv:Bs W W.heap.size (.slice Ai ni ci) s.1:=hivb.keepC fun b _ ⟨o,ho,_⟩=>⟨rfl,(iG ho)⟩
  have hcip:=HC5.out W hO
  have bcw:Boxed W w2.heap.size 118 (.pointer (some pa)):=(hO.block w2.heap.size (by omega) (by omega) (by omega)).trans BC5.out
  have cc:=bcw.cell
  have Hbcw:=iH bcw;clear bcw
  have ci1:=hI.cell
  have HX:=iH hX;have HI:=iH hiv;have HCip:=iH hcip;have HO:=iH hO;have HBI:=iH hI;have HBO:=iH hOv;have Hown:=iH hown;have L1:=iH l1;have L2:=iH l2;have HS:=iH hs
  clear hX hiv hcip hO hI hOv hown l1 l2 hs hivb
  gi_wp2_with fail
  have hmx:Tryz.prog.follows .mixedOrders=true:=by kernel_rfl
  gi_region_with_o (first
   |(refine⟨trivial,?_⟩;gi_at_call 109;refine(CallsIn.inRound l (callsIn_wide.2 (Qz _ _ (blk b x.1) s.1 (qO Lb.out x.2) L1.out _ (by exact HX.out) (by exact HI.out)))).mono ?_
     rintro e W1 ⟨v1,rfl,hv1,hB1⟩
     have cc1:=(hB1.cell (p:=⟨w2.heap.size,0,none⟩) (block_lt_of_cell cc)).trans cc
     have ci2:=(hB1.cell (p:=⟨w.heap.size,0,none⟩) (block_lt_of_cell ci1)).trans ci1)
   |(refine⟨trivial,?_⟩;gi_at_call 108;refine(CallsIn.inRound l (callsIn_wide.2 (j2h _ _ k (qv (blk b x.1) s.1) (kw _ _) _ (by exact HC5.out _ ((HO.out.drew).below hB1)) (by exact hv1.bs)))).mono ?_
     rintro e W2 ⟨v2,rfl,hv2,hB2⟩
     obtain⟨Aj,nj,cj,rfl⟩:=hv2.form
     have hB12:Below W.heap.size W W2:=Below.undrew (hB1.trans (hB2.mono hB1.size))
     have hv2n:BsS W2 (fun b=>W.heap.size<=b/\b<W2.heap.size) (.slice Aj nj cj) (yr k (qv (blk b x.1) s.1)):=hv2.keep fun b hb _=>⟨rfl,Nat.le_trans hB1.size hb.1,hb.2⟩
     obtain⟨hI2,hI3,hO3,hown3,hv3,hOn3,hK3⟩:=Xh (b1:=w.heap.size) (b2:=w2.heap.size+1) (a:=w5) (by omega) (by omega) (by omega) HO.out HBI.out HBO.out Hown.out hB12 hv2n
     have ci3:=hI2.cell
     have fi3:=hI2.frozen))
  all_goals
   have hn16:nj=16:=by have:=Bs.lenEq hv2;rw [kW]at this;exact this
   subst hn16
   have hsrc3:=hv3.src.2
   have c4:=hI3.cell
   have c5:=hO3.cell
   have l3:s.2.length+16<=140737488355328:=by have h:=L2.out;rw [List.length_map]at h;omega
   have hdis:BsS (W2.setCell ⟨w.heap.size,0,none⟩ (.slice Aj 16 cj)) (fun b=>w.heap.size≠b/\w2.heap.size+1≠b/\ov.ownBlock≠some b/\b<(W2.setCell ⟨w.heap.size,0,none⟩ (.slice Aj 16 cj)).heap.size) (.slice Aj 16 cj) (yr k (qv (blk b x.1) s.1)):=
    hv3.keep fun b hb hlt=>⟨rfl,by have:=HO.out.size;have:=hb.1;omega,by have:=HO.out.size;have:=hb.1;omega,fun e=>by have:=(Hown.out.lt b e).2;have:=hb.1;omega,hlt⟩
   have hbase3:w5.heap.size<=(W2.setCell ⟨w.heap.size,0,none⟩ (.slice Aj 16 cj)).heap.size:=hOn3.size
   have Hown3:=iH hown3;have Hsrc3:=iH hsrc3;have Hdis:=iH hdis;have HOn3:=iH hOn3;have HI3:=iH hI3;have HO3:=iH hO3;have HK3:=iH hK3;have Hbase3:=iH hbase3
   clear hown3 hsrc3 hdis hOn3 hI3 hO3 hK3 hv3 hv2 hv2n hI2 hB12 hB1 hB2 ci3 fi3 ci2 cc1 hbase3
   gi_wp2_with (gi_at_builtin;(with_reducible refine qg _ rfl (.tmp 29) (.tmp 30) 22 rfl w5.heap.size 5 (.int .u8 0) 1 Tryz.underlying22 ki rfl (by omega) ov s.2.length (s.2.map U8) rfl Hown3.out Aj 16 cj ((yr k (qv (blk b x.1) s.1)).map U8) rfl Hsrc3.out (by omega) Hbase3.out ?_);intro v4 W4 hown4 hg4 hat4 _
                obtain⟨g4,cap4,rfl,_,_,_⟩:=qE hown4 (by omega)
                obtain⟨hO4,e1,e2,e3,e4,e5,e6⟩:=Zm (b1:=w.heap.size) (b2:=w2.heap.size+1) (a:=w5) (by omega) (by omega) (by omega) HOn3.out HI3.out HO3.out Hown3.out Hdis.out hown4 hg4 hat4
                have c6:=hO4.cell
                have f6:=hO4.frozen)
   refine⟨((HK3.out.trans e6)).from _,kX HO.out e1 (by omega) (by omega) (by omega) (by omega) (by omega) (by omega),e1,_,_,e2,e3,?_,?_⟩
   ·rw [List.map_append,List.map_cons,List.map_nil,kG,<-HS.out];exact e4
   ·rw [List.map_append,List.map_cons,List.map_nil,kG,<-HS.out]
    show World.ownsRow _ _ _ _ _ (s.2++yr k (qv (blk b x.1) s.1)).length _
    rw [List.length_append,kW]
    show World.ownsRow _ _ _ _ _ _ ((s.2++yr k (qv (blk b x.1) s.1)).map U8)
    rw [List.map_append]
    exact e5
 case done=>
  rintro D ys W hD rfl ⟨hO,iv1,ov,hI,hOv,hivb,hown⟩ hK
  have cO:=hOv.cell
  gi_wp2
  refine⟨by simp,.inl ⟨_,_,rfl,run_takeDeferred hK,?_⟩⟩
  refine⟨_,results_tmp2 rfl _ _ _,ov,rfl,?_,?_⟩
  ·have hown':=ownsRow_putObj hown (.deferred none) hK rfl
   have hs:=hO.size
   have e:(qo k iv b (List.map Fin.val (List.finRange m))).2=kQ k iv b:=by
    unfold kQ
    rw [Lb.out,Nat.mul_div_cancel_left _ (by omega),xP]
   rw [e]at hown'
   exact⟨hown'.1,hown'.2.imp id fun⟨g,cap,cur,h1,h2,h3⟩=>⟨g,cap,cur,h1,by omega,h3⟩⟩
  ·exact(HB5.out.trans ((hO.toBelow (B:=w.heap.size) iL (by omega) HB5.out.size))).trans (belowK_b (w:=w) iL W D _ _ (by have:=HB5.out.size;omega) hK rfl rfl)
 case stop=>
  rintro D c pre W _ _ h _
  exact h.elim
theorem Yl(vk vi vb:Value)(k iv b:List UInt8)(m:Nat)(hk:k.length=16)(hi:iv.length=16)(hb:b.length=16*m)(w:World)(hvk:Bs w w.heap.size vk k)(hvi:Bs w w.heap.size vi iv)(hvb:Bs w w.heap.size vb b):
 Calls Tryz.prog 52 #[vk,vi,vb] w fun e w'=>∃v',e=.returned (.tuple #[v',.int .i64 0])/\BsS w' (New w w') v' (kQ k iv b)/\Below w.heap.size w w':=by
 have hlen:(kQ k iv b).length<=140737488355328:=by
  have h:(kQ k iv b).length=16*m:=by
   unfold kQ
   rw [(Js hi _).2,List.length_range,hb,Nat.mul_div_cancel_left _ (by omega)]
  have h2:=hvb.len
  omega
 exact(UN vk vi vb k iv b m hk hi hb w hvk hvi hvb).mono fun _ _ ⟨v,h1,h2,h3⟩=>⟨v,h1,(BsS.of_own h2 hlen).keep fun _ hg _=>⟨rfl,hg.1,hg.2⟩,h3⟩
end
section
open Go.RowKit Go.Shelf
attribute [local go_sem] Oper.semAt_some
attribute [local go_sem ↓] yO Kx Kw
theorem Y3(vk vi vb:Value)(k iv b:List UInt8)(m:Nat)(hk:k.length=16)(hi:iv.length=16)(hb:b.length=16*m)(w:World)(hvk:Bs w w.heap.size vk k)(hvi:Bs w w.heap.size vi iv)(hvb:Bs w w.heap.size vb b):
 Calls Tryz.prog 54 #[vk,vi,vb] w fun e w'=>∃v',e=.returned (.tuple #[v',.int .i64 0])/\BsS w' (New w w') v' (Jf k iv b)/\Below w.heap.size w w':=by
 obtain⟨A1,n1,c1,rfl⟩:=hvk.form
 obtain⟨A2,n2,c2,rfl⟩:=hvi.form
 obtain⟨A3,n3,c3,rfl⟩:=hvb.form
 have e1:=Bs.lenEq hvk;have e2:=Bs.lenEq hvi;have e3:=Bs.lenEq hvb
 have HA:=fun w=>x6 A1 A2 A3 n1 n2 n3 c1 c2 c3 k iv b e1 e2 e3 w
 rw [Ze hk hi hb]at HA
 have HA:=iH HA
 have Hk:=iH hvk;have Hi:=iH hvi;have Hb:=iH hvb;have Lk:=iH hk;have Li:=iH hi;have Lb:=iH hb;have E3:=iH e3
 clear hvk hvi hvb hk hi hb e1 e2 e3
 refine(callsIn_wide (n:=9)).1 ?_
 refine callsIn_of_wp_marks Tryz.func54 rfl trivial ?_ rfl
 simp only [Tryz.ntmps54,List.size_toArray,List.length_cons,List.length_nil,Nat.reduceAdd,Nat.reduceSub,Array.replicate_succ,Array.replicate_zero,List.push_toArray,List.append_toArray,List.nil_append,List.cons_append]
 gi_wp2_with fail
 refine⟨trivial,(callsIn_wide.2 (HA.out _)).mono ?_⟩
 rintro e w1 ⟨rfl,rfl⟩
 gi_wp2_with fail
 have hb1:Below w.heap.size w (w.alloc (.cells #[.slice A2 n2 c2] 22)):=iA
 refine⟨trivial,(callsIn_wide.2 (Km _ k Lk.out _ (Hk.out.lift hb1))).mono ?_⟩
 rintro e w2 ⟨p,rfl,hp,hb2⟩
 obtain⟨pa,rfl⟩:=hp.form
 have bI:=(Boxed.new w 22 (.slice A2 n2 c2)).kept (row:=none) ⟨hb2.os,hb2.tape,hb2.output,hb2.size,fun i hi _=>hb2.block i hi⟩ (by simp)
 have hb12:=hb1.trans (hb2.mono hb1.size)
 have BI:=iH bI;have HP:=iH hp;have HB:=iH hb12;clear bI hp hb12 hb1 hb2
 gi_wp2_with fail
 refine⟨trivial,(Qy Fence.wide _ trivial rfl A3 n3 c3 _).mono ?_⟩
 rintro e w3 ⟨rfl,rfl⟩
 gi_wp2_with fail
 obtain⟨w5,hw5⟩:∃w5,w5=((((w2.alloc (.cells #[.pointer (some pa)] 118)).alloc (.cells #[.slice none 0 0] 22)).alloc (.cells #[.slice A3 n3 c3] 22)).alloc (.cells #[.int .i64 16] 3)):=⟨_,rfl⟩
 rw [<-hw5]
 have hsz5:w5.heap.size=w2.heap.size+4:=by rw [hw5];simp
 have hb25:Below w2.heap.size w2 w5:=by rw [hw5];exact(((iA).alloc (by simp) _).alloc (by simp;omega) _).alloc (by simp;omega) _
 have bC5:Boxed w5 w2.heap.size 118 (.pointer (some pa)):=by rw [hw5];exact(((Boxed.new w2 _ _).alloc _).alloc _).alloc _
 have bO5:Boxed w5 (w2.heap.size+1) 22 (.slice none 0 0):=by
  have:=Boxed.new (w2.alloc (.cells #[.pointer (some pa)] 118)) 22 (.slice none 0 0)
  rw [World.size_alloc]at this
  rw [hw5];exact(this.alloc _).alloc _
 have bS5:Boxed w5 (w2.heap.size+1+1) 22 (.slice A3 n3 c3):=by
  have:=Boxed.new ((w2.alloc (.cells #[.pointer (some pa)] 118)).alloc (.cells #[.slice none 0 0] 22)) 22 (.slice A3 n3 c3)
  rw [World.size_alloc,World.size_alloc]at this
  rw [hw5];exact this.alloc _
 have bN5:Boxed w5 (w2.heap.size+1+1+1) 3 (.int .i64 16):=by
  have:=Boxed.new (((w2.alloc (.cells #[.pointer (some pa)] 118)).alloc (.cells #[.slice none 0 0] 22)).alloc (.cells #[.slice A3 n3 c3] 22)) 3 (.int .i64 16)
  rw [World.size_alloc,World.size_alloc,World.size_alloc]at this
  rw [hw5];exact this
 have hsz2:w.heap.size+1<=w2.heap.size:=by have:=BI.out.lt;omega
 have bI5:Boxed w5 w.heap.size 22 (.slice A2 n2 c2):=(hb25.block w.heap.size (by omega)).trans BI.out
 have hB5:Below w.heap.size w w5:=HB.out.trans (hb25.mono HB.out.size)
 have hcip5:∀W:World,Only2 w.heap.size (w2.heap.size+1) w5 W->CipherAt W W.heap.size (.pointer (some pa)) (gb k):=fun W hO=>
  HP.out.keepBut BI.out (fun b hb hne=>(hO.block b (by omega) hne (by omega)).trans (hb25.block b hb)) (by have:=hO.size;omega)
 clear hw5
 obtain⟨a3,cc3,hv3,hcap3,_,hle3,hcell3⟩:=Hb.out
 injection hv3 with ha3 hn3 hc3
 subst ha3 hc3
 rw [Lb.out]at hn3 hcap3 hle3
 subst hn3
 obtain⟨bb,bo,hab,hbb,hcellb⟩:∃bb bo,(0<m->A3=some ⟨bb,bo,none⟩)/\(0<m->bb<w.heap.size)/\(0<m->∀j,j<16*m->w.cell? ⟨bb,bo+j,none⟩=some (U8 (gb b j))):=by
  rcases Nat.eq_zero_or_pos m with h0|h0
  ·exact⟨0,0,fun h=>by omega,fun h=>by omega,fun h=>by omega⟩
  ·obtain⟨bb,bo,h1,h2,h3⟩:=hcell3 (by rw [Lb.out];omega)
   exact⟨bb,bo,fun _=>h1,fun _=>h2,fun _ j hj=>h3 j (by rw [Lb.out];exact hj)⟩
 have BC5:=iH bC5;have HB5:=iH hB5;have HC5:=iH hcip5;have HCB:=iH hcellb;have HBB:=iH hbb;have HAB:=iH hab;have HS2:=iH hsz5
 refine wpIn_rangeFunc_ownG rfl (by omega) (gf:=144) (lb:=#[.pointer (some ⟨w2.heap.size+1+1,0,none⟩),.pointer (some ⟨w2.heap.size+1+1+1,0,none⟩)]) rfl trivial (enters_of Tryz.func144 (by kernel_rfl) rfl)
  (zv Fence.wide _ trivial rfl (by omega) (w2.heap.size+1+1) (w2.heap.size+1+1+1) A3 m c3 bb bo hcap3 hab hle3 w5 bS5.lt bN5.lt bS5.cell bN5.cell) ql (zx bS5.lt bN5.lt) iB (fun _=>rfl)
  (fun pre W=>Vd w.heap.size (w2.heap.size+1) w5 (qS k iv b (pre.map Fin.val)) W)
  (fun _ _ _=>False)
  (JO w.heap.size (w2.heap.size+1) w5 (fun pre:List (Fin m)=>qS k iv b (pre.map Fin.val)) (by omega) (by omega))
  (fun _ _ _ _ _ hs _ _=>hs)
  ⟨Only2.refl _ _ _,_,_,bI5,bO5,?start,World.ownsRow_nil _ _ _ _⟩
  (fun x=>{tmps:=#[.slice A1 n1 c1,.slice A2 n2 c2,.slice A3 (16*m) c3,undef,.pointer (some ⟨w.heap.size,0,none⟩),undef,.slice none 0 0,.int .i64 0,.int .i64 0,.pointer (some ⟨w2.heap.size,0,none⟩),.pointer (some ⟨w2.heap.size+1,0,none⟩),.slice (some ⟨bb,bo+16*x.1,none⟩) 16 16,.slice A1 n1 c1,.slice A2 n2 c2,.slice A3 (16*m) c3,.int .i64 0,.int .i64 0,.bool false,undef,.slice A1 n1 c1,.pointer (some pa),.slice A3 (16*m) c3,.func (.func 144) #[] #[.pointer (some ⟨w2.heap.size+1+1,0,none⟩),.pointer (some ⟨w2.heap.size+1+1+1,0,none⟩)],.slice (some ⟨bb,bo+16*x.1,none⟩) 16 16,undef,undef,undef,undef,undef,undef,undef,undef,undef],defers:=[]}) ?assign ?body ?done ?stop
 case start=>exact BsS.keep Hi.out fun b hb _=>⟨HB5.out.block b hb,by omega,by omega,by simp [Value.ownBlock]⟩
 case assign=>
  intro l x W K hK
  gi_wp2
  exact hK
 case body=>
  rintro l pre x W ⟨hO,iv1,ov,hI,hOv,hivb,hown⟩ hlt
  have hm:0<m:=by have:=x.2;omega
  obtain⟨l1,l2⟩:=Jh (k:=k) (b:=b) Li.out Lb.out (pre.map Fin.val) (fun y hy=>by obtain⟨z,_,rfl⟩:=List.mem_map.1 hy;exact z.2)
  obtain⟨s,hs⟩:∃s,s=qS k iv b (pre.map Fin.val):=⟨_,rfl⟩
  rw [<-hs]at hivb hown l1 l2
  have hX:Bs W W.heap.size (.slice (some ⟨bb,bo+16*x.1,none⟩) 16 16) (blk b x.1):=by
   have hl:=qO Lb.out x.2
   refine⟨some ⟨bb,bo+16*x.1,none⟩,16,by rw [hl],by omega,by omega,by omega,fun _=>⟨bb,bo+16*x.1,rfl,?_,fun j hj=> ?_⟩⟩
   ·have:=HBB.out hm;have:=hO.size;omega
   ·rw [hl]at hj
    have hbb:=HBB.out hm
    have h1:=HCB.out hm (16*x.1+j) (by have:=x.2;omega)
    rw [yT _ _ _ hj,Nat.add_assoc]
    exact(World.cell?_of_block (a:=⟨bb,bo+(16*x.1+j),none⟩) ((hO.block bb (by omega) (by omega) (by omega)).trans (HB5.out.block bb hbb))).trans h1
  have hXa:BsS W (fun g=>g≠w.heap.size/\g≠w2.heap.size+1/\g<w5.heap.size) (.slice (some ⟨bb,bo+16*x.1,none⟩) 16 16) (blk b x.1):=by
   obtain⟨_,_,hv,h1,h2,h3,h4⟩:=hX
   injection hv with ha hn hc
   subst ha hc
   refine⟨_,_,by rw [<-hn],h1,h2,h3,fun hp=> ?_⟩
   obtain⟨b',o',he,_,h6⟩:=h4 hp
   injection he with he
   injection he with he1 he2
   subst he1 he2
   have:=HBB.out hm
   exact⟨_,_,rfl,⟨by omega,by omega,by omega⟩,h6⟩
  have HXa:=iH hXa;clear hXa
  obtain⟨Ai,ni,ci,rfl⟩:=hivb.form
  have hiv:Bs W W.heap.size (.slice Ai ni ci) s.1:=hivb.keepC fun b _ ⟨o,ho,_⟩=>⟨rfl,(iG ho)⟩
  have hcip:=HC5.out W hO
  have bcw:Boxed W w2.heap.size 118 (.pointer (some pa)):=(hO.block w2.heap.size (by omega) (by omega) (by omega)).trans BC5.out
  have cc:=bcw.cell
  have Hbcw:=iH bcw;clear bcw
  have ci1:=hI.cell
  have co:=hOv.cell
  have l3:s.2.length+16<=140737488355328:=by have h:=l2;rw [List.length_map]at h;omega
  have HX:=iH hX;have HI:=iH hiv;have HCip:=iH hcip;have HO:=iH hO;have HBI:=iH hI;have HBO:=iH hOv;have Hown:=iH hown;have L1:=iH l1;have L2:=iH l2;have HS:=iH hs
  clear hX hiv hcip hO hI hOv hown l1 l2 hs hivb
  gi_wp2_with fail
  have hmx:Tryz.prog.follows .mixedOrders=true:=by kernel_rfl
  gi_region_with_o (first
   |(refine⟨trivial,?_⟩;gi_at_call 112;refine(CallsIn.inRound l (callsIn_wide.2 (j2g _ _ k (blk b x.1) (qO Lb.out x.2) _ (by exact HC5.out _ HO.out.drew) (by exact HX.out)))).mono ?_
     rintro e W1 ⟨v1,rfl,hv1,hB1⟩
     have co1:=(hB1.cell (p:=⟨w2.heap.size+1,0,none⟩) (block_lt_of_cell co)).trans co
     have ci2:=(hB1.cell (p:=⟨w.heap.size,0,none⟩) (block_lt_of_cell ci1)).trans ci1)
   |(refine⟨trivial,?_⟩;gi_at_call 109;refine(CallsIn.inRound l (callsIn_wide.2 (Qz _ _ (JE k (blk b x.1)) s.1 (ze _ _) L1.out _ (by exact hv1.bs) (by exact Bs.lift (w:=W.drew) HI.out hB1)))).mono ?_
     rintro e W2 ⟨v2,rfl,hv2,hB2⟩
     obtain⟨Aj,nj,cj,rfl⟩:=hv2.form
     have co2:=(hB2.cell (p:=⟨w2.heap.size+1,0,none⟩) (block_lt_of_cell co1)).trans co1
     have hB12:Below W.heap.size W W2:=Below.undrew (hB1.trans (hB2.mono hB1.size))
     have hown2:=kf Hown.out hB12
     have hn16:nj=16:=by have:=Bs.lenEq hv2;rw [kw]at this;exact this
     subst hn16
     have hsrc2:=hv2.src.2
     have hbase2:w5.heap.size<=W2.heap.size:=Nat.le_trans HO.out.size hB12.size)
   |(with_reducible refine ye W2 (.tmp 24) (.tmp 29) 22 rfl w5.heap.size 5 (.int .u8 0) 1 Tryz.underlying22 ki rfl (by omega) ov s.2.length (s.2.map U8) rfl hown2 Aj 16 cj ((qv (JE k (blk b x.1)) s.1).map U8) rfl hsrc2 (by omega) hbase2 ?_
     intro v4 W4 hown4 hg4 hat4
     obtain⟨g4,cap4,rfl,_,_,_⟩:=qE hown4 (by omega)
     obtain⟨hO4,hI5,e1,e2,e3,e4,e5,e6⟩:=Xg (b1:=w.heap.size) (b2:=w2.heap.size+1) (a:=w5) (by omega) (by omega) (by omega) HO.out HBI.out HBO.out Hown.out hB12 HXa.out hown4 hg4 hat4
     have c6:=hO4.cell
     have f6:=hO4.frozen
     have c7:=hI5.cell
     have f7:=hI5.frozen))
  all_goals
   have E1:=iH e1;have E2:=iH e2;have E3:=iH e3;have E4:=iH e4;have E5:=iH e5;have E6:=iH e6
   clear e1 e2 e3 e4 e5 e6 hown4 hg4 hat4 hO4 hI5 hown2 hsrc2 hB12 hB1 hB2 hv1 hv2
   gi_wp2
   refine⟨E6.out.from _,kX HO.out E1.out (by omega) (by omega) (by omega) (by omega) (by omega) (by omega),E1.out,_,_,E2.out,E3.out,?_,?_⟩
   ·rw [List.map_append,List.map_cons,List.map_nil,qC,<-HS.out];exact E4.out
   ·rw [List.map_append,List.map_cons,List.map_nil,qC,<-HS.out]
    show World.ownsRow _ _ _ _ _ (s.2++qv (JE k (blk b x.1)) s.1).length _
    rw [List.length_append,kw]
    show World.ownsRow _ _ _ _ _ _ ((s.2++qv (JE k (blk b x.1)) s.1).map U8)
    rw [List.map_append]
    exact E5.out
 case done=>
  rintro D ys W hD rfl ⟨hO,iv1,ov,hI,hOv,hivb,hown⟩ hK
  have cO:=hOv.cell
  gi_wp2
  refine⟨by simp,.inl ⟨_,_,rfl,run_takeDeferred hK,?_⟩⟩
  refine⟨_,results_tmp2 rfl _ _ _,ov,rfl,?_,?_⟩
  ·have hown':=ownsRow_putObj hown (.deferred none) hK rfl
   have hs:=hO.size
   have e:(qS k iv b (List.map Fin.val (List.finRange m))).2=Jf k iv b:=by
    unfold Jf
    rw [Lb.out,Nat.mul_div_cancel_left _ (by omega),xP]
   rw [e]at hown'
   refine(BsS.of_own hown' ?_).keep fun g hg _=>⟨rfl,by have:=hg.1;omega,hg.2⟩
   rw [<-e,(Jh Li.out Lb.out _ (fun y hy=>by obtain⟨z,_,rfl⟩:=List.mem_map.1 hy;exact z.2)).2]
   simp
   omega
  ·exact(HB5.out.trans ((hO.toBelow (B:=w.heap.size) iL (by omega) HB5.out.size))).trans (belowK_b (w:=w) iL W D _ _ (by have:=HB5.out.size;omega) hK rfl rfl)
 case stop=>
  rintro D c pre W _ _ h _
  exact h.elim
end
theorem j1w(p v:Value)(k l:List UInt8)(hl:l.length=16)(w:World)(hp:RefCipherAt w w.heap.size p (gb k))(hv:Bs w w.heap.size v l):
 Calls Tryz.prog 111 #[p,v] w fun e w'=>∃v',e=.returned v'/\BsS w' (New w w') v' (yr k l)/\Below w.heap.size w w':=by
 have h:=yi p v (gb k) l hl w hp hv
 rw [<-Vq]at h
 unfold yr
 exact h
theorem j1v(p v:Value)(k l:List UInt8)(hl:l.length=16)(w:World)(hp:RefCipherAt w w.heap.size p (gb k))(hv:Bs w w.heap.size v l):
 Calls Tryz.prog 113 #[p,v] w fun e w'=>∃v',e=.returned v'/\BsS w' (New w w') v' (JE k l)/\Below w.heap.size w w':=by
 have h:=yh p v (gb k) l hl w hp hv
 rw [<-Vn]at h
 unfold JE
 exact h
theorem RefCipherAt.mono{w:World}{B B':Nat}{p:Value}{key:Nat->UInt8}(h:RefCipherAt w B p key)(hB:B<=B'):RefCipherAt w B' p key:=by
 obtain⟨cb,kv,hp,h1,h2,h3,h4,h5⟩:=h
 exact⟨cb,kv,hp,by omega,h2,h3,h4,h5.mono hB⟩
theorem Ko(vk vi vb:Value)(k iv b:List UInt8)(m:Nat)(hk:k.length=16)(hi:iv.length=16)(hb:b.length=16*m)(w:World)(hvk:Bs w w.heap.size vk k)(hvi:Bs w w.heap.size vi iv)(hvb:Bs w w.heap.size vb b):
 Calls Tryz.prog 53 #[vk,vi,vb] w fun e w'=>∃v',e=.returned (.tuple #[v',.int .i64 0])/\BsS w' (New w w') v' (kQ k iv b)/\Below w.heap.size w w':=by
 obtain⟨A1,n1,c1,rfl⟩:=hvk.form
 obtain⟨A2,n2,c2,rfl⟩:=hvi.form
 have e1:=Bs.lenEq hvk;have e2:=Bs.lenEq hvi
 rw [hk]at e1;rw [hi]at e2
 subst e1 e2
 obtain⟨A3,c3,hvb3,hcb3,hcm3,hle3,hcell3⟩:=hvb
 rw [hb]at hvb3 hcb3 hle3
 subst hvb3
 have t1:((16*(m:Int)) % 16 != 0)=false:=by simp
 obtain⟨bb,bo,hab,hbb,hcellb⟩:∃bb bo,(0<m->A3=some ⟨bb,bo,none⟩)/\(0<m->bb<w.heap.size)/\(0<m->∀j,j<16*m->w.cell? ⟨bb,bo+j,none⟩=some (U8 (gb b j))):=by
  rcases Nat.eq_zero_or_pos m with h0|h0
  ·exact⟨0,0,fun h=>by omega,fun h=>by omega,fun h=>by omega⟩
  ·obtain⟨bb,bo,h1,h2,h3⟩:=hcell3 (by rw [hb];omega)
   exact⟨bb,bo,fun _=>h1,fun _=>h2,fun _ j hj=>h3 j (by rw [hb];exact hj)⟩
 have Hk:=iH hvk;have Hi:=iH hvi;have Lk:=iH hk;have Li:=iH hi;have Lb:=iH hb;have HCB:=iH hcellb;have HBB:=iH hbb;have HAB:=iH hab
 clear hvk hvi hk hi hb hcellb hbb hab hcell3
 go_enter Tryz.func53,Tryz.ntmps53
 go_wp2_with fail
 refine(xT _ k Lk.out _ Hk.out).mono ?_
 rintro e w1 ⟨p,rfl,hp,hB1⟩
 have HP:=iH hp;have HB1:=iH hB1;clear hp hB1
 have hsz1:=HB1.out.size
 go_wp2_with fail
 go_loopw [9,10,11] (fun lv ov i wr=>∃kk q:Nat,kk<=m/\Hid (q=16*kk)/\i=.int .i64 q/\BsS wr (fun g=>g<wr.heap.size/\ov.ownBlock≠some g) lv (qo k iv b (List.range kk)).1/\wr.ownsRow w1.heap.size 5 1 ov (qo k iv b (List.range kk)).2.length ((qo k iv b (List.range kk)).2.map U8)/\Below w1.heap.size w1 wr) (fun _ _ i _=>16*m - (intOf i).toNat)
 case atStart=>exact⟨0,0,Nat.zero_le _,rfl,rfl,BsS.keep Hi.out fun g hg _=>⟨HB1.out.block g hg,by omega,by simp [Value.ownBlock]⟩,World.ownsRow_nil _ _ _ _,Below.refl _ _⟩
 case round=>
  obtain⟨kk,q,hkk,hq,rfl,hlv,hown,hB⟩:=hrel
  obtain⟨wo,rfl⟩:∃wo:World,wo=wr:=⟨_,rfl⟩
  obtain⟨l1,l2⟩:=Js (k:=k) (b:=b) Li.out (List.range kk)
  obtain⟨s,hs⟩:∃s,s=qo k iv b (List.range kk):=⟨_,rfl⟩
  rw [<-hs]at hlv hown l1 l2
  rw [List.length_range]at l2
  by_cases hlt:kk<m
  ·have hq0:(q:Int)+16<=16*m:=by have:=hq.out;omega
   have hd:decide ((q:Int)<16*m)=true:=by simp;omega
   obtain⟨Al,nl,cl,rfl⟩:=hlv.form
   have hnl:=Bs.lenEq hlv
   rw [l1]at hnl
   subst hnl
   obtain⟨al,_,hvl,_,_,_,hcl⟩:=hlv
   injection hvl with hal h2 h3
   subst hal
   clear h2 h3
   obtain⟨lb,lo,rfl,hlb,hcl⟩:=hcl (by omega)
   rw [l1]at hcl
   have hm:0<m:=by omega
   have hbb:=HBB.out hm
   obtain rfl:=HAB.out hm
   have hcx:∀j,j<16->wo.cell? ⟨bb,bo+(q+j),none⟩=some (U8 (gb (blk b kk) j)):=fun j hj=>by
    have h1:=HCB.out hm (16*kk+j) (by omega)
    rw [yT _ _ _ hj,hq.out]
    exact((hB.cell (p:=⟨bb,bo+(16*kk+j),none⟩) (by simp;omega)).trans (HB1.out.cell (p:=⟨bb,bo+(16*kk+j),none⟩) (by simpa using hbb))).trans h1
   have HX:=iH hcx;have HL:=iH hcl;have Hown:=iH hown;have HB:=iH hB;have L1:=iH l1;have L2:=iH l2;have HS:=iH hs;have Hnew:=iH (ym wo);have HLB:=iH hlb
   clear hcx hcl hown hB l1 l2 hs hlb
   go_wp2_with fail
   go_loopw [13] (fun v wi=>∃n:Nat,n<=16/\v=.int .i64 n/\wi.rowIs wo.heap.size 122 16 (fun j=>U8 (kR n (fun j=>gb (blk b kk) j ^^^ gb s.1 j) (fun _=>0) j))/\Below wo.heap.size wo wi) (fun v _=>16 - (intOf v).toNat)
   case atStart=>exact⟨0,by omega,rfl,jm Hnew.out _,iA⟩
   case round=>
    obtain⟨n,hn,rfl,hr,hb⟩:=hrel
    by_cases hlt2:n<16
    ·have c1:=ju hr hlt2
     have f1:=hr.frozen n
     have c2:wr.cell? ⟨bb,bo+(q+n),none⟩=some (U8 (gb (blk b kk) n)):=(hb.cell (p:=⟨bb,bo+(q+n),none⟩) (by have:=HB.out.size;simp;omega)).trans (HX.out n hlt2)
     have c3:wr.cell? ⟨lb,lo+n,none⟩=some (U8 (gb s.1 n)):=(hb.cell (p:=⟨lb,lo+n,none⟩) (HLB.out.1)).trans (HL.out n hlt2)
     have HR:=iH hr;have Hb:=iH hb;clear hr hb
     have n1:(n:Int)<16:=by omega
     have n2:(0:Int)<=q+n:=by omega
     have n3:(q:Int)+n<16*m:=by omega
     have n4:((q:Int)+n).toNat=q+n:=by omega
     have hd2:decide ((n:Int)<16)=true:=by simp;omega
     have s0:Value.int .i64 (IntKind.i64.wrap ((q:Int)+n))=.int .i64 (q+n):=by rw [IntWalk.i64_in _ (by omega)]
     go_wp2
     refine wp_region_still_tail 13 (by kernel_rfl) (by kernel_rfl) ?_
     simp only [List.take_succ_cons,List.take_zero,List.drop_succ_cons,List.drop_zero]
     repeat(refine wpStill_step (fun K hK=> ?_);go_simp;(try go_bits);refine hK _ ?_;clear hK K)
     refine wpStill_nil ?_
     go_wp2
     go_roundw
     case rel=>exact⟨n+1,by omega,by go_num,(js HR.out rfl).drew,(Hb.out.setCell (by simp) _).drew⟩
     case measure=>simp [intOf]<;>omega
    ·have hn16:n=16:=by omega
     subst hn16
     have hr2:=jl hr iL
     have hT:=HB.out.trans (hb.mono HB.out.size)
     have hcip:=(HP.out.below hT).mono hT.size
     have hvx:Bs wr wr.heap.size (.slice (some ⟨wo.heap.size,0,none⟩) 16 16) (qv (blk b kk) s.1):=Bs.of_row hr2 (by omega)
     have HT:=iH hT;have Hcip:=iH hcip;have Hvx:=iH hvx;have Hb:=iH hb
     clear hr hr2 hT hcip hvx hb
     go_wp2_with fail
     refine(j1w p _ k (qv (blk b kk) s.1) (kw _ _) _ Hcip.out Hvx.out).mono ?_
     rintro e W2 ⟨v2,rfl,hv2,hB2⟩
     obtain⟨Aj,nj,cj,rfl⟩:=hv2.form
     have hnj:nj=16:=by have:=Bs.lenEq hv2;rw [kW]at this;exact this
     subst hnj
     have hbo2:Below wo.heap.size wo W2:=Hb.out.trans (hB2.mono Hb.out.size)
     have hown2:=kf Hown.out hbo2
     have hsrc2:=hv2.src.2
     have l3:s.2.length+16<=140737488355328:=by have:=L2.out;omega
     have hbase2:w1.heap.size<=W2.heap.size:=Nat.le_trans HT.out.size hB2.size
     have hdis:BsS W2 (fun g=>wo.heap.size<=g/\g<W2.heap.size) (.slice Aj 16 cj) (yr k (qv (blk b kk) s.1)):=hv2.keep fun g hg _=>⟨rfl,Nat.le_trans Hb.out.size hg.1,hg.2⟩
     have Hown2:=iH hown2;have Hsrc2:=iH hsrc2;have Hdis:=iH hdis;have HT2:=iH (HT.out.trans (hB2.mono HT.out.size));have Hbase2:=iH hbase2
     clear hown2 hsrc2 hdis hv2 hB2 hbo2 hbase2
     go_wp2_with(at_builtin;(with_reducible refine jk _ rfl (.tmp 55) (.tmp 56) 22 rfl w1.heap.size 5 (.int .u8 0) 1 Tryz.underlying22 ki rfl (by omega) u10 s.2.length (s.2.map U8) rfl Hown2.out Aj 16 cj ((yr k (qv (blk b kk) s.1)).map U8) rfl Hsrc2.out (by omega) Hbase2.out ?_);intro v4 W4 hown4 hg4 hat4 _)
     have hlast:BsS W4 (fun g=>g<W4.heap.size/\v4.ownBlock≠some g) (.slice Aj 16 cj) (yr k (qv (blk b kk) s.1)):=BsS.keep Hdis.out fun g hg hlt=>by
      have hne:u10.ownBlock≠some g:=fun e=>by have:=(Hown.out.lt g e).2;have:=hg.1;omega
      refine⟨hg4.block g hlt (fun e=>hne e.symm),by have:=hg4.size;omega,?_⟩
      rcases hat4 with e|e
      ·rw [e];exact hne
      ·rw [e];intro h;injection h with h;omega
     have hbw:=jb Hown2.out hg4 iL Hbase2.out
     go_roundw
     case rel=>
      refine⟨kk+1,q+16,by omega,by have:=hq.out;unfold Hid;omega,by go_num,?_,?_,HT2.out.trans hbw⟩
      ·rw [List.range_succ,kG,<-HS.out];exact hlast
      ·rw [List.range_succ,kG,<-HS.out]
       show World.ownsRow _ _ _ _ _ (s.2++yr k (qv (blk b kk) s.1)).length ((s.2++yr k (qv (blk b kk) s.1)).map U8)
       rw [List.length_append,kW,List.map_append]
       exact hown4
     case measure=>simp [intOf]<;>omega
  ·have hkm:kk=m:=by omega
   subst hkm
   have hd:decide ((q:Int)<16*kk)=false:=by have:=hq.out;simp;omega
   have hge:¬(q:Int)<16*kk:=by have:=hq.out;omega
   have e:s.2=kQ k iv b:=by
    unfold kQ
    rw [Lb.out,Nat.mul_div_cancel_left _ (by omega),<-hs]
   have l3:s.2.length<=140737488355328:=by omega
   rw [e]at hown l3
   have Hown:=iH hown;have HB:=iH hB
   clear hown hB e hs l2 l1 hlv
   go_wp2
   go_ret2
   exact⟨_,rfl,(BsS.of_own Hown.out l3).keep fun g hg _=>⟨rfl,by have:=hg.1;omega,hg.2⟩,HB1.out.trans (HB.out.mono hsz1)⟩
theorem Kn(vk vi vb:Value)(k iv b:List UInt8)(m:Nat)(hk:k.length=16)(hi:iv.length=16)(hb:b.length=16*m)(w:World)(hvk:Bs w w.heap.size vk k)(hvi:Bs w w.heap.size vi iv)(hvb:Bs w w.heap.size vb b):
 Calls Tryz.prog 55 #[vk,vi,vb] w fun e w'=>∃v',e=.returned (.tuple #[v',.int .i64 0])/\BsS w' (New w w') v' (Jf k iv b)/\Below w.heap.size w w':=by
 obtain⟨A1,n1,c1,rfl⟩:=hvk.form
 obtain⟨A2,n2,c2,rfl⟩:=hvi.form
 have e1:=Bs.lenEq hvk;have e2:=Bs.lenEq hvi
 rw [hk]at e1;rw [hi]at e2
 subst e1 e2
 obtain⟨A3,c3,hvb3,hcb3,hcm3,hle3,hcell3⟩:=hvb
 rw [hb]at hvb3 hcb3 hle3
 subst hvb3
 have t1:((16*(m:Int)) % 16 != 0)=false:=by simp
 obtain⟨bb,bo,hab,hbb,hcellb⟩:∃bb bo,(0<m->A3=some ⟨bb,bo,none⟩)/\(0<m->bb<w.heap.size)/\(0<m->∀j,j<16*m->w.cell? ⟨bb,bo+j,none⟩=some (U8 (gb b j))):=by
  rcases Nat.eq_zero_or_pos m with h0|h0
  ·exact⟨0,0,fun h=>by omega,fun h=>by omega,fun h=>by omega⟩
  ·obtain⟨bb,bo,h1,h2,h3⟩:=hcell3 (by rw [hb];omega)
   exact⟨bb,bo,fun _=>h1,fun _=>h2,fun _ j hj=>h3 j (by rw [hb];exact hj)⟩
 have Hk:=iH hvk;have Hi:=iH hvi;have Lk:=iH hk;have Li:=iH hi;have Lb:=iH hb;have HCB:=iH hcellb;have HBB:=iH hbb;have HAB:=iH hab
 clear hvk hvi hk hi hb hcellb hbb hab hcell3
 go_enter Tryz.func55,Tryz.ntmps55
 go_wp2_with fail
 refine(xT _ k Lk.out _ Hk.out).mono ?_
 rintro e w1 ⟨p,rfl,hp,hB1⟩
 have HP:=iH hp;have HB1:=iH hB1;clear hp hB1
 have hsz1:=HB1.out.size
 go_wp2_with fail
 go_loopw [9,10,11] (fun lv ov i wr=>∃kk q:Nat,kk<=m/\Hid (q=16*kk)/\i=.int .i64 q/\BsS wr (fun g=>g<wr.heap.size/\ov.ownBlock≠some g) lv (qS k iv b (List.range kk)).1/\wr.ownsRow w1.heap.size 5 1 ov (qS k iv b (List.range kk)).2.length ((qS k iv b (List.range kk)).2.map U8)/\Below w1.heap.size w1 wr) (fun _ _ i _=>16*m - (intOf i).toNat)
 case atStart=>exact⟨0,0,Nat.zero_le _,rfl,rfl,BsS.keep Hi.out fun g hg _=>⟨HB1.out.block g hg,by omega,by simp [Value.ownBlock]⟩,World.ownsRow_nil _ _ _ _,Below.refl _ _⟩
 case round=>
  obtain⟨kk,q,hkk,hq,rfl,hlv,hown,hB⟩:=hrel
  obtain⟨wo,rfl⟩:∃wo:World,wo=wr:=⟨_,rfl⟩
  obtain⟨l1,l2⟩:=Jh (k:=k) (b:=b) Li.out Lb.out (List.range kk) (fun y hy=>by have:=List.mem_range.1 hy;omega)
  obtain⟨s,hs⟩:∃s,s=qS k iv b (List.range kk):=⟨_,rfl⟩
  rw [<-hs]at hlv hown l1 l2
  rw [List.length_range]at l2
  by_cases hlt:kk<m
  ·have hq0:(q:Int)+16<=16*m:=by have:=hq.out;omega
   have hd:decide ((q:Int)<16*m)=true:=by simp;omega
   obtain⟨Al,nl,cl,rfl⟩:=hlv.form
   have hnl:=Bs.lenEq hlv
   rw [l1]at hnl
   subst hnl
   have hm:0<m:=by omega
   have hbb:=HBB.out hm
   obtain rfl:=HAB.out hm
   have hcx:∀j,j<16->wo.cell? ⟨bb,bo+(q+j),none⟩=some (U8 (gb (blk b kk) j)):=fun j hj=>by
    have h1:=HCB.out hm (16*kk+j) (by omega)
    rw [yT _ _ _ hj,hq.out]
    exact((hB.cell (p:=⟨bb,bo+(16*kk+j),none⟩) (by simp;omega)).trans (HB1.out.cell (p:=⟨bb,bo+(16*kk+j),none⟩) (by simpa using hbb))).trans h1
   have hq16:(q:Int)+16<=c3:=by omega
   have hcq:¬c3=q:=by omega
   have hcx2:Bs wo wo.heap.size (.slice (some ⟨bb,bo+q,none⟩) 16 (c3 - q)) (blk b kk):=by
    have hl:=qO Lb.out hlt
    refine⟨some ⟨bb,bo+q,none⟩,c3 - q,by rw [hl],by omega,by omega,by omega,fun _=>⟨bb,bo+q,rfl,by have:=hB.size;omega,fun j hj=> ?_⟩⟩
    rw [hl]at hj
    have:=hcx j hj
    rwa [<-Nat.add_assoc]at this
   have HX:=iH hcx2;have HLv:=iH hlv;have Hown:=iH hown;have HB:=iH hB;have L1:=iH l1;have L2:=iH l2;have HS:=iH hs
   clear hcx hcx2 hlv hown hB l1 l2 hs
   have hcip:=(HP.out.below HB.out).mono HB.out.size
   have Hcip:=iH hcip;clear hcip
   go_wp2_with fail
   refine(j1v p _ k (blk b kk) (qO Lb.out hlt) _ Hcip.out HX.out).mono ?_
   rintro e W1 ⟨xv,rfl,hx,hB1⟩
   have hown1:=kf Hown.out hB1
   have hT1:=HB.out.trans (hB1.mono HB.out.size)
   have hlast1:BsS W1 (fun g=>g<W1.heap.size/\u10.ownBlock≠some g) (.slice Al 16 cl) s.1:=BsS.keep HLv.out fun g hg _=>⟨hB1.block g hg.1,iZ hg.1 hB1.size,hg.2⟩
   have hx1:BsS W1 (fun g=>g<W1.heap.size/\u10.ownBlock≠some g) xv (JE k (blk b kk)):=hx.keep fun g hg _=>⟨rfl,hg.2,fun e=>by have:=(Hown.out.lt g e).2;have:=hg.1;omega⟩
   have Hown1:=iH hown1;have HT1:=iH hT1;have Hlast1:=iH hlast1;have Hx1:=iH hx1
   clear hown1 hT1 hlast1 hx1 hx hB1
   obtain⟨Ax,nx,cx,rfl⟩:=Hx1.out.form
   have hnx:nx=16:=by have:=Bs.lenEq Hx1.out;rw [ze]at this;exact this
   subst hnx
   go_wp2
   go_loopw [10,13] (fun o v wi=>∃n:Nat,n<=16/\v=.int .i64 n/\wi.ownsRow w1.heap.size 5 1 o (s.2.length+n) ((s.2++(qv (JE k (blk b kk)) s.1).take n).map U8)/\
    BsS wi (fun g=>g<wi.heap.size/\o.ownBlock≠some g) (.slice Al 16 cl) s.1/\BsS wi (fun g=>g<wi.heap.size/\o.ownBlock≠some g) (.slice Ax 16 cx) (JE k (blk b kk))/\Below w1.heap.size w1 wi) (fun _ v _=>16 - (intOf v).toNat)
   case atStart=>exact⟨0,by omega,rfl,by simpa using Hown1.out,Hlast1.out,Hx1.out,HT1.out⟩
   case round=>
    obtain⟨n,hn,rfl,hown,hla,hxa,hT⟩:=hrel
    by_cases hlt2:n<16
    ·have hd2:decide ((n:Int)<16)=true:=by simp;omega
     have n1:(n:Int)<16:=by omega
     obtain⟨al,cl',hvl,_,_,_,hcl⟩:=hla
     have hla:BsS wr (fun g=>g<wr.heap.size/\u10.ownBlock≠some g) (.slice Al 16 cl) s.1:=⟨al,cl',hvl,‹_›,‹_›,‹_›,hcl⟩
     injection hvl with hal h2 h3
     subst hal
     clear h2 h3
     obtain⟨lb,lo,rfl,hlb,hcl⟩:=hcl (by rw [L1.out];omega)
     obtain⟨ax,cx',hvx,_,_,_,hcx⟩:=hxa
     have hxa:BsS wr (fun g=>g<wr.heap.size/\u10.ownBlock≠some g) (.slice Ax 16 cx) (JE k (blk b kk)):=⟨ax,cx',hvx,‹_›,‹_›,‹_›,hcx⟩
     injection hvx with hal h2 h3
     subst hal
     clear h2 h3
     obtain⟨xb,xo,rfl,hxb,hcx⟩:=hcx (by rw [ze];omega)
     have c1:=hcx n (by rw [ze];omega)
     have c2:=hcl n (by rw [L1.out];omega)
     have hrow:wr.ownsRow w1.heap.size 5 1 u10 (s.2.length+n) ((s.2++(qv (JE k (blk b kk)) s.1).take n).map U8):=hown
     obtain⟨d,hdd⟩:∃d,d=JE k (blk b kk):=⟨_,rfl⟩
     rw [<-hdd]at c1 hown hxa
     have Hd:=iH hdd
     clear hdd hrow
     have Hown:=iH ((hown.alloc (.cells #[U8 (gb d n ^^^ gb s.1 n)] 5)).drew)
     have Hsrc:=iH (show SrcAt ((wr.alloc (.cells #[U8 (gb d n ^^^ gb s.1 n)] 5)).drew) (some ⟨wr.heap.size,0,none⟩) 1 [U8 (gb d n ^^^ gb s.1 n)] from SrcAt.one _ _ rfl)
     have Hla:=iH hla;have Hxa:=iH hxa;have HT:=iH hT;have Hlb:=iH hlb;have Hxb:=iH hxb
     have hbase:w1.heap.size<=((wr.alloc (.cells #[U8 (gb d n ^^^ gb s.1 n)] 5)).drew).heap.size:=by have:=hT.size;simp;omega
     have Hbase:=iH hbase
     have l4:s.2.length+16<=140737488355328:=by have:=L2.out;omega
     have C1x:=iH (show((wr.alloc (.cells #[U8 (gb d n ^^^ gb s.1 n)] 5)).drew).cell? ⟨xb,xo+n,none⟩=some (U8 (gb d n)) from(World.cell?_alloc_past _ _ _ hxb.1).trans c1)
     have C2x:=iH (show((wr.alloc (.cells #[U8 (gb d n ^^^ gb s.1 n)] 5)).drew).cell? ⟨lb,lo+n,none⟩=some (U8 (gb s.1 n)) from(World.cell?_alloc_past _ _ _ hlb.1).trans c2)
     clear hown hla hxa hT hlb hxb hcl hcx hbase
     go_wp2
     go_region_held3 (fun W=>W.cell? ⟨xb,xo+n,none⟩=some (U8 (gb d n))/\W.cell? ⟨lb,lo+n,none⟩=some (U8 (gb s.1 n)))
      (first
        |go_keep
        |(refine⟨?_,?_⟩
          ·exact(hg7.cell_far (a:=⟨xb,xo+n,none⟩) (by have:=Hxb.out.1;simp;omega) (by intro e;exact Hxb.out.2 e.symm)).trans C1x.out
          ·exact(hg7.cell_far (a:=⟨lb,lo+n,none⟩) (by have:=Hlb.out.1;simp;omega) (by intro e;exact Hlb.out.2 e.symm)).trans C2x.out))
      (((with_reducible refine qq _ rfl (.tmp 46) (.tmp 56) 22 rfl w1.heap.size 5 (.int .u8 0) 1 Tryz.underlying22 ki rfl (by omega) u10 (s.2.length+n) ((s.2++(qv d s.1).take n).map U8) rfl Hown.out (some ⟨wr.heap.size,0,none⟩) 1 1 [U8 (gb d n ^^^ gb s.1 n)] rfl Hsrc.out (by omega) Hbase.out ?_);intro v7 w7 hown7 hg7 hat7 hold7))
     have hkeep:∀ {v:Value} {l:List UInt8},BsS wr (fun g=>g<wr.heap.size/\u10.ownBlock≠some g) v l->BsS w7 (fun g=>g<w7.heap.size/\v7.ownBlock≠some g) v l:=fun h=>h.keep fun g hg _=>by
      have h1:=hg7.block g (by have:=hg.1;simp;omega) (fun e=>hg.2 e.symm)
      have h2:((wr.alloc (.cells #[U8 (gb d n ^^^ gb s.1 n)] 5)).drew).heap[g]?=wr.heap[g]? :=Below.heap_alloc wr _ g hg.1
      refine⟨h1.trans h2,by have:=hg7.size;have:=hg.1;simp at*;omega,?_⟩
      rcases hat7 with e|e
      ·rw [e];exact hg.2
      ·rw [e];intro h;injection h with h;have:=hg.1;simp at h;omega
     have hla7:=hkeep Hla.out
     have hxa7:=hkeep Hxa.out
     have hT7:=((HT.out.alloc HT.out.size _).drew).trans (jb Hown.out hg7 iL Hbase.out)
     clear hkeep
     go_wp2
     go_roundw
     case rel=>
      refine⟨n+1,by omega,by go_num,?_,hla7,by rw [<-Hd.out];exact hxa7,hT7⟩
      rw [<-Nat.add_assoc,<-Hd.out]
      have e:((s.2++(qv d s.1).take (n+1)).map U8)=((s.2++(qv d s.1).take n).map U8)++ [U8 (gb d n ^^^ gb s.1 n)]:=by
       rw [List.take_succ_eq_append_getElem (by rw [kw];exact hlt2),<-List.append_assoc,List.map_append]
       congr 1
       simp [qv,jn]
      rw [e]
      exact hown7
     case measure=>simp [intOf]<;>omega
    ·have hn16:n=16:=by omega
     subst hn16
     rw [List.take_of_length_le (by rw [kw];omega)]at hown
     have hbx:BsS wr (fun g=>g<wr.heap.size/\u10.ownBlock≠some g) (.slice (some ⟨bb,bo+q,none⟩) 16 (c3 - q)) (blk b kk):=by
      obtain⟨_,_,hv,h1,h2,h3,h4⟩:=HX.out
      injection hv with ha hn' hc'
      subst ha hc'
      refine⟨_,_,by rw [<-hn'],h1,h2,h3,fun hp=> ?_⟩
      obtain⟨b',o',he,_,h6⟩:=h4 hp
      injection he with he
      injection he with he1 he2
      subst he1 he2
      have hw1b:bb<w1.heap.size:=by omega
      refine⟨bb,bo+q,rfl,⟨by have:=hT.size;omega,fun e=>by have:=(hown.lt bb e).1;omega⟩,fun j hj=> ?_⟩
      have h7:=h6 j hj
      have h8:wr.heap[bb]?=wo.heap[bb]? :=(hT.block bb hw1b).trans (HB.out.block bb hw1b).symm
      exact(World.cell?_of_block (a:=⟨bb,bo+q+j,none⟩) h8).trans h7
     have Hown:=iH hown;have Hbx:=iH hbx;have HT:=iH hT
     clear hown hbx hT hla hxa
     go_wp2
     go_roundw
     case rel=>
      refine⟨kk+1,q+16,by omega,by have:=hq.out;unfold Hid;omega,by go_num,?_,?_,HT.out⟩
      ·rw [List.range_succ,qC,<-HS.out,show q+16 - q=16 by omega];exact Hbx.out
      ·rw [List.range_succ,qC,<-HS.out]
       show World.ownsRow _ _ _ _ _ (s.2++qv (JE k (blk b kk)) s.1).length ((s.2++qv (JE k (blk b kk)) s.1).map U8)
       rw [List.length_append,kw]
       exact Hown.out
     case measure=>simp [intOf]<;>omega
  ·have hkm:kk=m:=by omega
   subst hkm
   have hd:decide ((q:Int)<16*kk)=false:=by have:=hq.out;simp;omega
   have hge:¬(q:Int)<16*kk:=by have:=hq.out;omega
   have e:s.2=Jf k iv b:=by
    unfold Jf
    rw [Lb.out,Nat.mul_div_cancel_left _ (by omega),<-hs]
   have l3:s.2.length<=140737488355328:=by omega
   rw [e]at hown l3
   have Hown:=iH hown;have HB:=iH hB
   clear hown hB e hs l2 l1 hlv
   go_wp2
   go_ret2
   exact⟨_,rfl,(BsS.of_own Hown.out l3).keep fun g hg _=>⟨rfl,by have:=hg.1;omega,hg.2⟩,HB1.out.trans (HB.out.mono hsz1)⟩
def yW(b:List UInt8):Prop:=b.length=0\/¬b.length % 16=0
instance (b:List UInt8):Decidable (yW b):=by unfold yW;infer_instance
def j2b(k:List UInt8):List UInt8:=j25 (yr k Z16)
def j1i(k b:List UInt8):List UInt8:=if yW b then j25 (j2b k)else j2b k
def j0i(b:List UInt8):List UInt8:=if yW b then j2v b else b
def j1n(x kk:List UInt8):List UInt8:=x.take (x.length - 16)++qv (x.drop (x.length - 16)) kk
def j1j(k b:List UInt8):List UInt8:=if k.length=16 then(kQ k Z16 (j1n (j0i b) (j1i k b))).drop ((j0i b).length - 16)else []
structure Exg where
 kd:Int
 sec:List UInt8
 pr:Int
 st:Int
 non:List UInt8
 x:Int
 g:Int
 own:Int
 oth:Int
 k1:List UInt8
 k2:List UInt8
 ct:Int
def zX:Exg:=⟨0,[],0,0,[],0,0,0,0,[],[],0⟩
def vPw(kd:Int)(sec:List UInt8):Bool:=decide (1<=kd/\kd<=4/\1<=sec.length/\sec.length<=64)
def kz(kd:Int)(sec:List UInt8):List UInt8:=ZB (if kd=1 then qK sec else sec) 3
def kP(kd:Int)(sec n:List UInt8):Int×List UInt8:=if vPw kd sec=false then(14,[])else if ¬n.length=16 then(2,[])else(0,kQ (kz kd sec) Z16 n)
def Z5(kd:Int)(sec n:List UInt8):Int×List UInt8:=if vPw kd sec=false then(14,[])else if ¬n.length=16 then(2,[])else(0,Jf (kz kd sec) Z16 n)
def zZ(x k:Int):Int:=(gpw 64 1 x.toNat k.toNat:Nat)
def j05(n:List UInt8)(k other:Int):Int:=zZ 4 (xH (n.take 7) % 1073741789)*zZ other k % 2147483579
def qJ(n:List UInt8)(k other:Int):Int×Int:=
 if ¬n.length=16 then(2,0)else if okS k=false then(3,0)else if jx other=false then(10,0)else if j05 n k other=1 then(10,0)else(0,j05 n k other)
def QG(n r:List UInt8):Int:=2+xH ((qK (n++r)).take 7) % 2147483576
def yb(n r:List UInt8):Int×Int:=if ¬(n.length=16/\r.length=16)then(2,0)else(0,QG n r*QG n r % 2147483579)
def k7(s:List UInt8)(n:Nat):List UInt8:=(qK (s++ [1,0,0,0,0])).take n
def sdW(s:List UInt8):List UInt8:=qK (s++ [0])
def XS(s:List UInt8):Int:=1+xH ((k7 s 8).take 7) % 1073741788
def jF(v:List UInt8):Int×Int:=if ¬v.length=4 then(2,0)else if jx (xH v)=false then(10,0)else(0,xH v)
def qd(e:Exg):Bool:=vPw e.kd e.sec&&decide (e.pr=2\/e.pr=3)
def zE(e:Exg):Bool:=jx e.own&&jx e.oth&&vS e.k1 e.k2 e.ct
def usC(e:Exg):Bool:=qd e&&(decide (e.st<1)||decide (e.non.length=16))&&(decide (e.st<2)||jx e.g)&&(decide (e.st<3)||zE e)
def usT(e:Exg):Bool:=qd e&&(if e.st=2 then decide (e.non.length=16)&&(if e.pr=2 then okS e.x else jx e.g)
 else if e.st=3 then decide (e.non.length=16)&&jx e.g&&jx e.own&&okS e.x else if e.st=4 then zE e else true)
def jZ(tag:Int)(v:List UInt8):Ns:=.cons 124 [] (if tag=0 then .nil else .cons tag v .nil .nil) .nil
def kx(tag:Int)(v:List UInt8):List UInt8:=bytesOf (Ky (jZ tag v))
def QZ(tag:Int)(size:Nat):Ns->Option (List UInt8)
 |.cons t _ k .nil=>if ¬t=124 then none else if tag=0 then(if k.len=0 then some []else none)else
  match k with
  |.cons u v _ .nil=>if u=tag/\v.length=size then some v else none
  |_=>none
 |_=>none
def qa(b:List UInt8)(tag:Int)(size:Nat):Option (List UInt8):=match jS b true with
 |.error _=>none
 |.ok L=>QZ tag size L
def Zb(e:Exg)(o:Int):Int×Exg:=if o=e.own then(10,e)else
 (0,{e with oth:=o,k1:=ZB (kg (zZ o e.x)) 1,k2:=ZB (kg (zZ o e.x)) 2,ct:=0})
def tkW(e:Exg)(p:Int):List UInt8:=(j1j e.k2 (kg p)).take 8
def qk(er:Int):Int×Exg×List UInt8×List UInt8:=(er,zX,[],[])
def Qo(st:Int):Int:=if st=0 then 0 else 127+2*st
def VR(e:Exg):Nat:=if e.st=1 then(if e.pr=3 then 16 else 4)else if e.st=3 then 8 else 4
def U2(e:Exg)(b s:List UInt8):Int×Exg×List UInt8×List UInt8:=
 if e.st<0\/3<e.st then qk 23 else if usC e=false then qk 14 else
 match qa b (Qo e.st) (VR e)with
 |none=>qk 1
 |some v=>
  if e.st=0 then(0,{e with st:=1,non:=k7 s 16},kx 128 (kP e.kd e.sec (k7 s 16)).2,sdW s)
  else if e.st=1 then
   if e.pr=3 then(0,{e with st:=2,g:=(yb e.non v).2},kx 130 [],s)
   else if ¬(jF v).1=0 then qk (jF v).1
   else if ¬(qJ e.non (XS s) (jF v).2).1=0 then qk (qJ e.non (XS s) (jF v).2).1
   else(0,{e with st:=2,g:=(qJ e.non (XS s) (jF v).2).2},kx 130 (kg (zZ 4 (XS s))),sdW s)
  else if e.st=2 then
   if ¬(jF v).1=0 then qk (jF v).1
   else if(jF v).2=zZ e.g (XS s)then qk 10
   else(0,{(Zb {e with x:=XS s,own:=zZ e.g (XS s)} (jF v).2).2 with st:=3},kx 132 (kg (zZ e.g (XS s))),sdW s)
  else if ¬v=tkW e e.own then qk 21
  else(0,{e with st:=4},kx 134 (tkW e e.oth),s)
def j0a(e:Exg):Nat:=if e.st=1 then 16 else if e.st=2 then(if e.pr=3 then 0 else 4)else if e.st=4 then 8 else 4
def US(e:Exg)(b s:List UInt8):Int×Exg×List UInt8×List UInt8:=
 if e.st<0\/4<e.st then qk 23 else if usT e=false then qk 14 else
 if e.st=0 then(if ¬b.length=0 then qk 1 else(0,{e with st:=1},kx 0 [],s))else
 match qa b (126+2*e.st) (j0a e)with
 |none=>qk 1
 |some v=>
  if e.st=1 then
   if e.pr=3 then(0,{e with st:=2,non:=(Z5 e.kd e.sec v).2,g:=(yb (Z5 e.kd e.sec v).2 (k7 s 16)).2},kx 129 (k7 s 16),sdW s)
   else(0,{e with st:=2,non:=(Z5 e.kd e.sec v).2,x:=XS s},kx 129 (kg (zZ 4 (XS s))),sdW s)
  else if e.st=2 then
   if e.pr=2/\¬(jF v).1=0 then qk (jF v).1
   else if e.pr=2/\¬(qJ e.non e.x (jF v).2).1=0 then qk (qJ e.non e.x (jF v).2).1
   else
    let g:=if e.pr=2 then(qJ e.non e.x (jF v).2).2 else e.g
    (0,{e with st:=3,g:=g,x:=XS s,own:=zZ g (XS s)},kx 131 (kg (zZ g (XS s))),sdW s)
  else if e.st=3 then
   if ¬(jF v).1=0 then qk (jF v).1
   else if(jF v).2=e.own then qk 10
   else(0,{(Zb e (jF v).2).2 with st:=4},kx 133 (tkW (Zb e (jF v).2).2 (jF v).2),s)
  else if ¬v=tkW e e.own then qk 21
  else(0,{e with st:=5},[],s)
end Go.Proofs.YtalmmiojbmpmiaaGreatDoor
