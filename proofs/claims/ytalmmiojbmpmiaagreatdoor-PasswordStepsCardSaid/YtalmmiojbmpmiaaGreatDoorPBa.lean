/- slices.Chunk of bytes by 64: what the iterator hands its loop; Digest: the walk of Sum; Digest: the walk of the reference's Sum; Keys of secrets, both sides -/
import Derived.Test.YtalmmiojbmpmiaaGreatDoorPo
import Derived.Test.YtalmmiojbmpmiaaGreatDoorPv
import Derived.Test.YtalmmiojbmpmiaaGreatDoorPw
import Derived.Test.YtalmmiojbmpmiaaGreatDoorPz
set_option linter.all false
set_option maxRecDepth 100000
set_option maxHeartbeats 4000000
namespace Go.Proofs.YtalmmiojbmpmiaaGreatDoor
open Go.RowKit Go.Deep
section
open Go.RowKit Go.Shelf
attribute [local go_sem] Oper.semAt_some
theorem Um(F:Fence)(n:Nat)(hc:F.fn 97)(hro:F.round=none)(a:Option Addr)(len cap:Nat)(w:World):
 CallsIn F n Tryz.prog 97 #[.slice a len cap,.int .i64 64] w fun e w'=>e=.returned (.func (.func 144) #[] #[.pointer (some ⟨w.heap.size,0,none⟩),.pointer (some ⟨w.heap.size+1,0,none⟩)])/\
  w'=(w.alloc (.cells #[.slice a len cap] 22)).alloc (.cells #[.int .i64 64] 3):=by
 refine callsIn_of_wp Tryz.func97 rfl hc ?_ hro
 simp only [Tryz.ntmps97,List.size_toArray,List.length_cons,List.length_nil,Nat.reduceAdd,Nat.reduceSub,Array.replicate_succ,Array.replicate_zero,List.push_toArray,List.append_toArray,List.nil_append,List.cons_append]
 gi_wp2
 go_ret
 exact⟨rfl,rfl⟩
theorem Zz(F:Fence)(n:Nat)(hc1:F.fn 144)(hro:F.round=none)(hn:1<=n)(l Bs Bn n₀ b off m cap:Nat)(hcap:64*m<=cap)(hm:64*m<=140737488355328)(J Jx:List (Fin m)->World->Prop)(hJ:AbidesFrom n₀ J)
 (hY:∀pre (x:Fin m) W,J pre W->pre.length<m->YieldAt F (n - 1) Tryz.prog l #[.slice (some ⟨b,off+64*x.1,none⟩) 64 64] W fun e W'=>
   (e=.returned (.bool true)/\J (pre++ [x]) W'/\qu Bs Bn W W')\/(e=.returned (.bool false)/\Jx (pre++ [x]) W'))
 (W:World) (hBs:W.cell? ⟨Bs,0,none⟩=some (.slice (some ⟨b,off,none⟩) (64*m) cap)) (hBn:W.cell? ⟨Bn,0,none⟩=some (.int .i64 64)) (h0:J [] W):
 CallsIn F n Tryz.prog 144 #[.func (.yield l) #[] #[],.pointer (some ⟨Bs,0,none⟩),.pointer (some ⟨Bn,0,none⟩)] W fun e W'=>(∃v,e=.returned v)/\
  ((∃ys,ys=List.finRange m/\J ys W')\/(∃pre,True/\Jx pre W')):=by
 refine callsIn_of_wp Tryz.func144 rfl hc1 ?_ hro
 simp only [Tryz.ntmps144,List.size_toArray,List.length_cons,List.length_nil,Nat.reduceAdd,Nat.reduceSub,Array.replicate_succ,Array.replicate_zero,List.push_toArray,List.append_toArray,List.nil_append,List.cons_append]
 gi_wp2
 gi_loopw [4] (fun i wr=>∃k q:Nat,k<=m/\Hid (q=64*k)/\i=.int .i64 q/\J ((List.finRange m).take k) wr/\qu Bs Bn W wr)
  (fun i _=>64*m - (intOf i).toNat)
 case atStart=>exact⟨0,0,Nat.zero_le _,rfl,rfl,by simpa using h0,yM _ _ _⟩
 case round=>
  obtain⟨k,q,hk,hq,rfl,hJs,hnx⟩:=hrel
  have c1:=(World.cell?_of_block (a:=⟨Bs,0,none⟩) hnx.1).trans hBs
  have c2:=(World.cell?_of_block (a:=⟨Bn,0,none⟩) hnx.2).trans hBn
  by_cases hlt:k<m
  ·have hJd:J ((List.finRange m).take k) wr.drew:=hJ _ wr wr.drew none hJs ⟨rfl,rfl,rfl,Nat.le_refl _,fun _ _ _=>rfl⟩ (fun r e=>by cases e)
   obtain⟨fn,tmps,assign,body,hy,hR⟩:=hY _ ⟨k,hlt⟩ wr.drew hJd (by simp;omega)
   have hq1:=hq.out
   have hq2:(q:Int)+64<=64*m:=by omega
   have hq3:(q:Int)<64*m:=by omega
   have hq4:q<=cap:=by omega
   have hq5:q<=64*m:=by omega
   have hcq:¬cap=q:=by omega
   dsimp only at hy
   rw [<-hq1]at hy
   clear hq1
   have hd:decide ((q:Int)<64*m)=true:=by simp;omega
   have hmin:(if(((64*m - q:Nat):Int)<64)then((64*m - q:Nat):Int)else 64)=64:=by rw [iF (by omega)]
   have Hmin:=iH hmin;clear hmin
   gi_wp2
   gi_region
   all_goals rw [Hmin.out]
   all_goals
    gi_wp2
    refine hR.mono ?_
    rintro e W3 (⟨rfl,hJ3,hk3⟩|⟨rfl,hJx3⟩)
    ·have c3:=(World.cell?_of_block (w:=wr.drew) (a:=⟨Bs,0,none⟩) hk3.1).trans c1
     have c4:=(World.cell?_of_block (w:=wr.drew) (a:=⟨Bn,0,none⟩) hk3.2).trans c2
     gi_wp2
     go_roundw
     case rel=>
      exact⟨k+1,q+64,by omega,by have:=hq.out;unfold Hid;omega,by go_num,by rw [YZ m k hlt];exact hJ3,xF hnx hk3⟩
     case measure=>simp [intOf]<;>omega
    ·gi_wp2
     refine bodyPost_ret (results_none rfl _ _ _) rfl ?_
     exact⟨⟨_,rfl⟩,.inr ⟨_,trivial,hJx3⟩⟩
  ·have hkm:k=m:=by omega
   subst hkm
   have hd:decide ((q:Int)<64*k)=false:=by have:=hq.out;simp;omega
   have hge:¬(q:Int)<64*k:=by have:=hq.out;omega
   gi_wp2
   go_end0
   exact⟨⟨_,rfl⟩,.inl (by rw [List.take_of_length_le (by simp)]at hJs;exact hJs)⟩
theorem Qj(F:Fence)(n:Nat)(hc1:F.fn 144)(hro:F.round=none)(hn:1<=n)(Bs Bn:Nat)(a:Option Addr)(m cap b off:Nat)(hcap:64*m<=cap)(ha:0<m->a=some ⟨b,off,none⟩)(hm:64*m<=140737488355328)(w:World)(hBs:Bs<w.heap.size)(hBn:Bn<w.heap.size)(hc:w.cell? ⟨Bs,0,none⟩=some (.slice a (64*m) cap))(hcn:w.cell? ⟨Bn,0,none⟩=some (.int .i64 64)):
 SeqStopsK F n Tryz.prog 144 #[.pointer (some ⟨Bs,0,none⟩),.pointer (some ⟨Bn,0,none⟩)] (fun x:Fin m=>#[.slice (some ⟨b,off+64*x.1,none⟩) 64 64]) (qu Bs Bn) (fun ys=>ys=List.finRange m) (fun _=>True) m w:=fun lo J Jx W hW hJ _ hY h0=>by
 have hc':=(hW.cell (p:=⟨Bs,0,none⟩) hBs).trans hc
 have hcn':=(hW.cell (p:=⟨Bn,0,none⟩) hBn).trans hcn
 rcases Nat.eq_zero_or_pos m with h|h
 ·subst h
  exact(zO F n hc1 hro lo Bs Bn cap a J W hc' h0).mono fun e W' ⟨he,hj⟩=>⟨he,.inl ⟨_,rfl,hj⟩⟩
 ·obtain rfl:=ha h
  exact Zz F n hc1 hro hn lo Bs Bn _ b off m cap hcap hm J Jx hJ hY W hc' hcn' h0
end
section
open Go.RowKit Go.Shelf
attribute [local go_sem] Oper.semAt_some
theorem StS.keepC{w w':World}{S S':Nat->Prop}{v:Value}{s:St8}(h:StS w S v s)(hk:∀b,S b->(∃o:Obj,w.heap[b]?=some o/\o.isCells=true)->w'.heap[b]?=w.heap[b]?/\S' b):StS w' S' v s:=by
 obtain⟨g,e,hs,hg⟩:=h
 have hk':=hk g hs ⟨_,hg,rfl⟩
 exact⟨g,e,hk'.2,hk'.1.trans hg⟩
def j7t(b1:Nat)(a:World)(s:St8)(W:World):Prop:=Only2 b1 b1 a W/\∃v,Boxed W b1 106 v/\StS W (fun g=>g≠b1) v s
theorem j5q{β:Type}(b1:Nat)(a:World)(s:β->St8)(h1:b1<a.heap.size):OwnFrom a.heap.size (fun(x:β) W=>j7t b1 a (s x) W):=by
 rintro x W W' row ⟨h,v,hi,hst⟩ hg hr
 have hne:∀b,b<a.heap.size->some b≠row:=fun b hb e=>by have:=(hr b e.symm).1;omega
 refine⟨zV (β:=β) x W W' row h hg hr,v,hi.kept hg (hne b1 h1),hst.keepC fun b hb ⟨o,ho',hc⟩=>⟨?_,hb⟩⟩
 refine hg.block b (Array.getElem?_eq_some_iff.1 ho').1 fun e=> ?_
 obtain⟨_,o',hq,hq'⟩:=hr b e.symm
 rw [ho']at hq;cases hq;rw [hc]at hq';cases hq'
theorem j0r{w:World}{base:Nat}{e:TypeId}{size n:Nat}{o:Value}{xs:List Value}(h:w.ownsRow base e size o n xs):∃A c,o=.slice A n c:=by
 rcases h.2 with ⟨rfl,rfl⟩|⟨g,cap,cur,hv,_⟩
 ·exact⟨_,_,rfl⟩
 ·exact⟨_,_,hv⟩
theorem Za(p:List UInt8):∀m,(List.range m).foldl (fun s i=>zx s (Ug p i)) yT=zF p m:=by
 intro m
 induction m with
 |zero=>rfl
 |succ m ih=>rw [List.range_succ,List.foldl_append,ih];rfl
theorem J8{p:List UInt8}{m i:Nat}(hp:p.length=64*m)(hi:i<m):(Ug p i).length=64:=by
 unfold Ug;rw [List.length_take,List.length_drop];omega
theorem Yq(p:List UInt8)(i j:Nat)(hj:j<64):gb (Ug p i) j=gb p (64*i+j):=by
 unfold gb Ug
 rw [List.getD_eq_getElem?_getD,List.getD_eq_getElem?_getD,List.getElem?_take,if_pos hj,List.getElem?_drop]
theorem Qo(m:Nat):(List.finRange m).map Fin.val=List.range m:=by
 apply List.ext_getElem
 ·simp
 ·intro i h1 h2;simp
def Ke(s:St8)(j:Nat):List UInt8:=((s.list.take j).map kN).flatten
theorem XR(s:St8){j:Nat}(hj:j<8):Ke s (j+1)=Ke s j++kN (s.list.getD j 0):=by
 obtain rfl|rfl|rfl|rfl|rfl|rfl|rfl|rfl:j=0\/j=1\/j=2\/j=3\/j=4\/j=5\/j=6\/j=7:=by omega
 all_goals simp [Ke,St8.list]
theorem Yb(v:Value)(b:List UInt8)(hl:b.length<=140737488355000)(w:World)(hK:KD w)(hv:Bs w w.heap.size v b):
 Calls Tryz.prog 46 #[v] w fun e w'=>∃v',e=.returned v'/\BsS w' (New w w') v' (xw b)/\Below w.heap.size w w':=by
 obtain⟨A,n,c,rfl⟩:=hv.form
 obtain rfl:=Bs.lenEq hv
 obtain⟨m,hm⟩:∃m,(yk b).length=64*m:=⟨_,YM b⟩
 have hm0:0<m/\64*m<=140737488355200:=by
  have h:=XT b
  have h2:zY b.length<64:=Nat.mod_lt _ (by omega)
  omega
 have HMM:=Lib.hid hm;have HM0:=Lib.hid hm0
 have HV:=Lib.hid hv;have HK:=Lib.hid hK;have HL:=Lib.hid hl
 clear hv hK
 refine(callsIn_wide (n:=9)).1 ?_
 refine callsIn_of_wp_marks Tryz.func46 rfl trivial ?_ rfl
 simp only [Tryz.ntmps46,List.size_toArray,List.length_cons,List.length_nil,Nat.reduceAdd,Nat.reduceSub,Array.replicate_succ,Array.replicate_zero,List.push_toArray,List.append_toArray,List.nil_append,List.cons_append]
 gi_wp2_with fail
 refine⟨trivial,(callsIn_wide.2 (j12 _)).mono ?_⟩
 rintro e w1 ⟨v1,rfl,hs1,hb1⟩
 obtain⟨g1,rfl,⟨hg1,hg1'⟩,hh1⟩:=hs1
 have HB1:=Lib.hid hb1;have HH1:=Lib.hid hh1
 clear hb1 hh1
 gi_wp2_with fail
 obtain⟨w2,hw2⟩:∃w2,w2=w1.alloc (.cells #[.slice (some ⟨g1,0,none⟩) 8 8] 106):=⟨_,rfl⟩
 rw [<-hw2]
 have bS2:Boxed w2 w1.heap.size 106 (.slice (some ⟨g1,0,none⟩) 8 8):=by rw [hw2];exact Boxed.new w1 _ _
 have hb12:Below w1.heap.size w1 w2:=by rw [hw2];exact(Below.refl _ _).alloc (Nat.le_refl _) _
 have HB2:Hid (Below w.heap.size w w2):=Lib.hid (HB1.out.trans (hb12.mono HB1.out.size))
 have HBB:=Lib.hid hb12;have BS2:=Lib.hid bS2
 clear hw2 hb12 bS2
 refine⟨trivial,(callsIn_wide.2 (j0d _ b HL.out w2 (HV.out.lift HB2.out))).mono ?_⟩
 rintro e w3 ⟨v3,rfl,ho3,hb3⟩
 obtain⟨A3,c3,hv3⟩:=ho3.form
 rw [hm]at hv3
 subst hv3
 have hs3:BsS w3 (New w2 w3) (.slice A3 (64*m) c3) (yk b):=ho3.out (by rw [hm];omega) w2 (Nat.le_refl _)
 obtain⟨_,_,ev,hc3,hc3',_,hcell3⟩:=hs3
 obtain⟨e1,e2,e3⟩:=Value.slice.inj ev
 clear e2 ev
 subst e1 e3
 rw [hm]at hc3 hcell3
 obtain⟨bb,bo,rfl,hbb,hcell3⟩:=hcell3 (by omega)
 have HC3:=Lib.hid hcell3;have HB3:=Lib.hid hb3
 have HBBX:=Lib.hid hbb;have HCC:=Lib.hid hc3
 clear ho3 hb3 hcell3 hm hm0 hbb hc3
 gi_wp2_with fail
 refine⟨trivial,(Um Fence.wide _ trivial rfl (some ⟨bb,bo,none⟩) (64*m) c3 _).mono ?_⟩
 rintro e w4 ⟨rfl,rfl⟩
 gi_wp2_with fail
 have hbb:=HBBX.out;have hc3:=HCC.out;have hm0:=HM0.out
 obtain⟨w5,hw5⟩:∃w5,w5=(w3.alloc (.cells #[.slice (some ⟨bb,bo,none⟩) (64*m) c3] 22)).alloc (.cells #[.int .i64 64] 3):=⟨_,rfl⟩
 rw [<-hw5]
 have hsz5:w5.heap.size=w3.heap.size+2:=by rw [hw5];simp
 have hb35:Below w3.heap.size w3 w5:=by rw [hw5];exact((Below.refl _ _).alloc (Nat.le_refl _) _).alloc (by simp) _
 have bS5:Boxed w5 w3.heap.size 22 (.slice (some ⟨bb,bo,none⟩) (64*m) c3):=by rw [hw5];exact(Boxed.new w3 _ _).alloc _
 have bN5:Boxed w5 (w3.heap.size+1) 3 (.int .i64 64):=by
  have:=Boxed.new (w3.alloc (.cells #[.slice (some ⟨bb,bo,none⟩) (64*m) c3] 22)) 3 (.int .i64 64)
  rw [World.size_alloc]at this
  rw [hw5];exact this
 have hb25:Below w2.heap.size w2 w5:=HB3.out.trans (hb35.mono HB3.out.size)
 have hl12:w1.heap.size<w2.heap.size:=BS2.out.lt
 have hl23:=HB3.out.size
 have hl01:=HB1.out.size
 have bB5:Boxed w5 w1.heap.size 106 (.slice (some ⟨g1,0,none⟩) 8 8):=(hb25.block w1.heap.size hl12).trans BS2.out
 have hst5:StS w5 (fun g=>g≠w1.heap.size) (.slice (some ⟨g1,0,none⟩) 8 8) yT:=⟨g1,rfl,by omega,(hb25.block g1 (by omega)).trans ((HBB.out.block g1 hg1').trans HH1.out)⟩
 have HB5:Hid (Below w.heap.size w w5):=Lib.hid (HB2.out.trans (hb25.mono HB2.out.size))
 have HBX:Hid (∀W,Only2 w1.heap.size w1.heap.size w5 W->∀j,j<64*m->W.cell? ⟨bb,bo+j,none⟩=some (U8 (gb (yk b) j))):=Lib.hid (fun W hO j hj=>by
  have h1:=HC3.out j hj
  have hlt:=hbb.2
  have hge:=hbb.1
  exact(World.cell?_of_block (a:=⟨bb,bo+j,none⟩) ((hO.block bb (by omega) (by omega) (by omega)).trans (hb35.block bb hlt))).trans h1)
 have HK5:Hid (∀W,Only2 w1.heap.size w1.heap.size w5 W->KD W):=Lib.hid (fun W hO j hj=>by
  have hk:=HK.out.below HB5.out HK.out.lt j hj
  have hlt:=HK.out.lt
  exact(World.cell?_of_block (a:=⟨0,j,none⟩) (hO.block 0 (by omega) (by omega) (by omega))).trans hk)
 have HS5:=Lib.hid hsz5
 have hb1lt:w1.heap.size<w5.heap.size:=by omega
 clear hw5
 refine wpIn_rangeFunc_ownG rfl (by omega) (gf:=144) (lb:=#[.pointer (some ⟨w3.heap.size,0,none⟩),.pointer (some ⟨w3.heap.size+1,0,none⟩)]) rfl trivial (enters_of Tryz.func144 (by kernel_rfl) rfl)
  (Qj Fence.wide _ trivial rfl (by omega) w3.heap.size (w3.heap.size+1) (some ⟨bb,bo,none⟩) m c3 bb bo hc3 (fun _=>rfl) (by omega) w5 bS5.lt bN5.lt bS5.cell bN5.cell) xF (JE bS5.lt bN5.lt) (Below.refl _ _) (fun _=>rfl)
  (fun pre W=>j7t w1.heap.size w5 ((pre.map Fin.val).foldl (fun s i=>zx s (Ug (yk b) i)) yT) W)
  (fun _ _ _=>False)
  (j5q w1.heap.size w5 (fun pre:List (Fin m)=>(pre.map Fin.val).foldl (fun s i=>zx s (Ug (yk b) i)) yT) (by omega))
  (fun _ _ _ _ _ hs _ _=>hs)
  ⟨Only2.refl _ _ _,_,bB5,hst5⟩
  (fun x=>{tmps:=#[.slice A b.length c,undef,.slice none 0 0,.pointer (some ⟨w1.heap.size,0,none⟩),.slice (some ⟨bb,bo+64*x.1,none⟩) 64 64,undef,undef,undef,.slice (some ⟨g1,0,none⟩) 8 8,.slice A b.length c,.slice (some ⟨bb,bo,none⟩) (64*m) c3,.func (.func 144) #[] #[.pointer (some ⟨w3.heap.size,0,none⟩),.pointer (some ⟨w3.heap.size+1,0,none⟩)],.slice (some ⟨bb,bo+64*x.1,none⟩) 64 64,undef,undef,undef,undef,undef,undef,undef,undef,undef,undef,undef,undef,undef,undef,undef,undef,undef,undef],defers:=[]}) ?assign ?body ?done ?stop
 case assign=>
  intro l x W K hK
  gi_wp2
  exact hK
 case body=>
  rintro l pre x W ⟨hO,vS,hI,hst⟩ hlt
  obtain⟨s,hs⟩:∃s,s=(pre.map Fin.val).foldl (fun s i=>zx s (Ug (yk b) i)) yT:=⟨_,rfl⟩
  rw [<-hs]at hst
  have hX:BsS W (fun _=>True) (.slice (some ⟨bb,bo+64*x.1,none⟩) 64 64) (Ug (yk b) x.1):=by
   have hlx:=J8 HMM.out x.2
   refine⟨some ⟨bb,bo+64*x.1,none⟩,64,by rw [hlx],by omega,by omega,by omega,fun _=>⟨bb,bo+64*x.1,rfl,trivial,fun j hj=> ?_⟩⟩
   rw [hlx]at hj
   rw [Yq _ _ _ hj,Nat.add_assoc]
   exact HBX.out W hO _ (by have:=x.2;omega)
  have HCM:=Lib.hid (Xq s (Ug (yk b) x.1) vS _ _ _ W (HK5.out W hO) hst hX (J8 HMM.out x.2))
  obtain⟨gS,rfl,_,_⟩:=hst
  have cI:=hI.cell
  have HI:=Lib.hid hI;have HO:=Lib.hid hO;have HSS:=Lib.hid hs
  clear hI hO hs hX
  gi_wp2_with fail
  refine⟨trivial,(CallsIn.inRound l (callsIn_wide.2 HCM.out)).mono ?_⟩
  rintro e W2 ⟨v2,rfl,hst2,hB2⟩
  obtain⟨g2,rfl,⟨hg2,_⟩,hh2⟩:=hst2
  have hbl:=HI.out.lt
  have hI2:Boxed W2 w1.heap.size 106 (.slice (some ⟨gS,0,none⟩) 8 8):=(hB2.block w1.heap.size hbl).trans HI.out
  have c2:=hI2.cell
  have f2:=hI2.frozen
  have HI2:=Lib.hid hI2;have HB2':=Lib.hid hB2;have HH2:=Lib.hid hh2
  clear hI2 hB2 hh2 cI
  gi_wp2_with fail
  have hO3:Only2 w1.heap.size w1.heap.size w5 (W2.setCell ⟨w1.heap.size,0,none⟩ (.slice (some ⟨g2,0,none⟩) 8 8)):=(HO.out.below HB2'.out).box w1.heap.size (.inl rfl) _
  refine⟨((ql HB2'.out).trans (KeepsOthers.setCell _ _ _)).from _,xh HO.out hO3 (by omega) (by omega) (by omega) (by omega) (by omega) (by omega),hO3,_,HI2.out.set _,?_⟩
  rw [List.map_append,List.map_cons,List.map_nil,List.foldl_append,<-HSS.out]
  exact⟨g2,rfl,by omega,(Below.heap_setCell _ _ _ _ (by show g2≠w1.heap.size;omega)).trans HH2.out⟩
 case done=>
  rintro D ys W hD rfl ⟨hO,vS,hI,hst⟩ hK
  rw [Qo,Za]at hst
  obtain⟨gS,rfl,hgS,hhS⟩:=hst
  obtain⟨s,hs⟩:∃s,zF (yk b) m=s:=⟨_,rfl⟩
  rw [hs]at hhS
  have E:Hid (xw b=Ke s 8):=Lib.hid (by unfold xw;rw [HMM.out,Nat.mul_div_cancel_left _ (by omega),hs];rfl)
  have hgl:=(Array.getElem?_eq_some_iff.1 hhS).1
  have cI:=hI.cell
  have HHS:=Lib.hid hhS;have HO:=Lib.hid hO;have HKK:=Lib.hid hK
  have HN:=Lib.hid (World.ownsRow_nil W W.heap.size 5 1)
  clear hhS hI hO hs hK
  gi_wp2_with fail
  gi_loopw [5,21] (fun o i wr=>∃(j N:Nat) (A c:_),j<=8/\N=4*j/\o=.slice A N c/\i=.int .i64 j/\wr.ownsRow W.heap.size 5 1 (.slice A N c) N ((Ke s j).map U8)/\Below W.heap.size W wr)
   (fun _ i _=>8 - (intOf i).toNat)
  case atStart=>exact⟨0,0,none,0,by omega,rfl,rfl,rfl,HN.out,Below.refl _ _⟩
  case round=>
   obtain⟨j,N,Ao,co,hj,hN,rfl,rfl,hown,hbr⟩:=hrel
   have HBR:=Lib.hid hbr
   have hsz:=hbr.size
   by_cases hlt:j<8
   ·have hlt':(j:Int)<8:=by omega
    obtain⟨x,hx⟩:∃x,s.list.getD j 0=x:=⟨_,rfl⟩
    have cx:wr.cell? ⟨gS,j,none⟩=some (W32 x):=by
     rw [<-hx];exact zS ((hbr.block gS hgl).trans HHS.out) hlt
    have HON:Hid (Ke s (j+1)=Ke s j++kN x):=Lib.hid (by rw [<-hx];exact XR s hlt)
    have HOWN:=Lib.hid hown
    have HNN:=Lib.hid hN
    have hN2:N<=28:=by omega
    clear hx hbr hown hN
    gi_wp2_with fail
    refine⟨trivial,(callsIn_wide.2 (zw x wr)).mono ?_⟩
    rintro e w6 ⟨v6,rfl,hs6,hb6⟩
    obtain⟨A6,c6,rfl⟩:∃A c,v6=.slice A 4 c:=(by obtain⟨a,c,e,_⟩:=hs6;exact⟨a,c,e⟩)
    have HSRC:=Lib.hid (show SrcAt w6 A6 4 ((kN x).map U8) from hs6.src.2)
    have HO6:=Lib.hid (kT HOWN.out hb6)
    have HB6:=Lib.hid (HBR.out.trans (hb6.mono HBR.out.size))
    clear hs6 hb6
    gi_wp2_with (gi_at_builtin;(with_reducible refine xq _ rfl (.tmp 25) (.tmp 27) 22 rfl W.heap.size 5 (.int .u8 0) 1 Tryz.underlying22 kC rfl (by omega) (.slice Ao N co) N ((Ke s j).map U8) rfl HO6.out A6 4 c6 ((kN x).map U8) rfl HSRC.out (by omega) HB6.out.size ?_);intro v4 W4 hown4 hg4 _ _;obtain⟨A4,c4,rfl⟩:=j0r hown4;have HO4:=Lib.hid hown4;have HB4:=Lib.hid (HB6.out.trans (jj HO6.out hg4 (Nat.le_refl _) HB6.out.size));clear hown4 hg4)
    go_roundw
    case rel=>exact⟨j+1,N+4,A4,c4,by omega,by have:=HNN.out;omega,rfl,by go_num,by rw [HON.out,List.map_append];exact HO4.out,HB4.out⟩
    case measure=>simp [intOf];omega
   ·obtain rfl:j=8:=by omega
    subst hN
    have hK2:=(hbr.block D (Array.getElem?_eq_some_iff.1 HKK.out).1).trans HKK.out
    have HOWN:=Lib.hid hown
    have HSW:=HO.out.size
    clear hbr hown
    gi_wp2_with fail
    refine⟨by simp,.inl ⟨_,_,rfl,run_takeDeferred hK2,?_⟩⟩
    refine⟨_,results_tmp rfl _ _ _,_,rfl,?_,?_⟩
    ·have hown':=ownsRow_putObj HOWN.out (.deferred none) hK2 rfl
     have hlen:(Ke s 8).length=4*8:=by simp [Ke,St8.list,kK]
     rw [E.out]
     have hown2:(wr.putObj D (.deferred none)).ownsRow W.heap.size 5 1 (.slice Ao (4*8) co) (Ke s 8).length ((Ke s 8).map U8):=by rw [hlen];exact hown'
     refine(BsS.of_own hown2 (by rw [hlen];omega)).keep fun g hg _=>⟨rfl,?_,hg.2⟩
     have:=hg.1
     have:=HB5.out.size
     omega
    ·exact((HB5.out.trans (HO.out.toBelow (B:=w.heap.size) (by omega) (by omega) HB5.out.size)).trans (HBR.out.mono (by have:=HB5.out.size;omega))).trans (belowK_b (w:=w) (Nat.le_refl _) wr D _ _ (by have:=HB5.out.size;omega) hK2 rfl rfl)
 case stop=>
  rintro D c pre W _ _ h _
  exact h.elim
end
theorem j6y{w:World}{q:Nat}{l:List UInt8}{t:TypeId}{n:Nat}(hn:n=l.length)(hl:l.length<=1000)(h:w.heap[q]?=some (.cells (l.map U8).toArray t (0,0))):BsS w (fun _=>True) (.slice (some ⟨q,0,none⟩) n n) l:=by
 subst hn
 refine⟨_,_,rfl,Nat.le_refl _,by omega,by omega,fun _=>⟨q,0,rfl,trivial,fun j hj=> ?_⟩⟩
 rw [Nat.zero_add,cell_of_row _ _ _ _ _ _ h]
 exact(List.getElem?_toArray ..).trans (jK l j hj)
theorem QC(s:St8){j:Nat}(hj:j<=8):(Ke s j).length=4*j:=by
 obtain rfl|rfl|rfl|rfl|rfl|rfl|rfl|rfl|rfl:j=0\/j=1\/j=2\/j=3\/j=4\/j=5\/j=6\/j=7\/j=8:=by omega
 all_goals simp [Ke,St8.list,kK]
theorem y9(v:Value)(b:List UInt8)(hl:b.length<=140737488355000)(w:World)(hK:KR w)(hv:Bs w w.heap.size v b):
 Calls Tryz.prog 49 #[v] w fun e w'=>∃v',e=.returned v'/\BsS w' (New w w') v' (xw b)/\Below w.heap.size w w':=by
 obtain⟨A,n,c,rfl⟩:=hv.form
 obtain rfl:=Bs.lenEq hv
 obtain⟨m,hm⟩:∃m,(yk b).length=64*m:=⟨_,YM b⟩
 have hm0:0<m/\64*m<=140737488355200:=by
  have h:=XT b
  have h2:zY b.length<64:=Nat.mod_lt _ (by omega)
  omega
 have HP:=Lib.hid (UV _ b hl w hv)
 have HK:=Lib.hid hK;have HMM:=Lib.hid hm;have HM0:=Lib.hid hm0
 clear hv hK hm hm0
 go_enter Tryz.func49,Tryz.ntmps49
 go_upto_region 3 with (first
  |(go_at_call 104;refine(VH w1).mono ?_;rintro e w2 ⟨v2,rfl,hs2,hb2⟩;obtain⟨gF,rfl,⟨hgF,_⟩,hhF⟩:=hs2;have HF:=Lib.hid hhF;have HB2:=Lib.hid hb2;clear hhF hb2)
  |(go_at_call 103;refine HP.out.mono ?_;rintro e w1 ⟨v1,rfl,ho1,hb1⟩;obtain⟨A1,c1,hv1⟩:=ho1.form;rw [HMM.out]at hv1;subst hv1;have HO1:=Lib.hid ho1;have HB1:=Lib.hid hb1;clear ho1 hb1))
 have hm0:=HM0.out
 have hs1:BsS w1 (New w w1) (.slice A1 (64*m) c1) (yk b):=HO1.out.out (by rw [HMM.out];omega) w (Nat.le_refl _)
 obtain⟨_,_,ev,hc1,hc1',_,hcell1⟩:=hs1
 obtain⟨q1,q2,q3⟩:=Value.slice.inj ev
 clear ev q2
 subst q1 q3
 rw [HMM.out]at hc1 hcell1
 obtain⟨bb,bo,rfl,hbb,hcell1⟩:=hcell1 (by omega)
 have HC1:Hid (∀W,Below w2.heap.size w2 W->∀j,j<64*m->W.cell? ⟨bb,bo+j,none⟩=some (U8 (gb (yk b) j))):=Lib.hid (fun W h j hj=>by
  have hlt:=hbb.2
  exact(World.cell?_of_block (a:=⟨bb,bo+j,none⟩) ((h.block bb (Nat.lt_of_lt_of_le hlt HB2.out.size)).trans (HB2.out.block bb hlt))).trans (hcell1 j hj))
 have HBW:Hid (Below w.heap.size w w2):=Lib.hid (HB1.out.trans (HB2.out.mono HB1.out.size))
 have hm47:(64*m:Nat)<=140737488355200:=hm0.2
 have hm1:0<m:=hm0.1
 clear hcell1 hm0 hbb
 go_wp2_with fail
 go_loopg [4,5] m (fun m0 hv iv wr=>∃j q g:Nat,j+m0=m/\Hid (q=64*j)/\hv=.slice (some ⟨g,0,none⟩) 8 8/\iv=.int .i64 (q:Int)/\w.heap.size<=g/\Hid (wr.heap[g]?=some (.cells (zF (yk b) j).cells 113 (0,0)))/\Below w2.heap.size w2 wr)
 case atStart=>exact⟨0,0,gF,by omega,rfl,rfl,rfl,Nat.le_trans HB1.out.size hgF,HF,Below.refl _ _⟩
 case round=>
  obtain⟨j,q,g,hj,hq,rfl,rfl,hg,HG,hbr⟩:=hrel
  have HBR:=Lib.hid hbr
  have hsz:=hbr.size
  clear hbr
  by_cases hlt:j<m
  ·have hq1:q+64<=64*m:=by have:=hq.out;omega
   have hq2:(q:Int)+64<=((64*m:Nat):Int):=by omega
   have hqc:q<c1:=by omega
   have hX:BsS wr (fun _=>True) (.slice (some ⟨bb,bo+q,none⟩) 64 (c1 - q)) (Ug (yk b) j):=by
    have hlx:=J8 HMM.out hlt
    refine⟨some ⟨bb,bo+q,none⟩,c1 - q,by rw [hlx],by omega,by omega,by omega,fun _=>⟨bb,bo+q,rfl,trivial,fun i hi=> ?_⟩⟩
    rw [hlx]at hi
    rw [Yq _ _ _ hi,Nat.add_assoc,hq.out]
    exact HC1.out wr HBR.out _ (by have:=hq.out;omega)
   have HK2:KR wr:=(HK.out.below HBW.out HK.out.lt).below HBR.out (Nat.lt_of_lt_of_le HK.out.lt HBW.out.size)
   have HCM:=Lib.hid (QI (zF (yk b) j) (Ug (yk b) j) (.slice (some ⟨g,0,none⟩) 8 8) _ (fun _=>True) _ wr HK2 ⟨g,rfl,trivial,HG.out⟩ hX (J8 HMM.out hlt))
   have HJM:=Lib.hid hj
   clear hX HK2
   go_wp2_with(go_at_call 105;refine HCM.out.mono ?_;rintro e w6 ⟨v6,rfl,hs6,hb6⟩;obtain⟨g6,rfl,⟨hg6,_⟩,hh6⟩:=hs6;have HH6:=Lib.hid hh6;have HB6:=Lib.hid (HBR.out.trans (hb6.mono HBR.out.size));clear hh6 hb6)
   go_roundg (m - (j+1))
   case measure=>omega
   case rel=>exact⟨j+1,q+64,g6,by omega,by have:=hq.out;unfold Hid;omega,rfl,by go_num,Nat.le_trans HBW.out.size (Nat.le_trans hsz hg6),HH6,HB6.out⟩
  ·obtain rfl:j=m:=by omega
   have hqm:q=64*j:=hq.out
   have hd:decide ((q:Int)+64<=((64*j:Nat):Int))=false:=decide_eq_false (by omega)
   obtain⟨s,hs⟩:∃s,zF (yk b) j=s:=⟨_,rfl⟩
   rw [hs]at HG
   have E:Hid (xw b=Ke s 8):=Lib.hid (by unfold xw;rw [HMM.out,Nat.mul_div_cancel_left _ (by omega),hs];rfl)
   obtain⟨wo,rfl⟩:∃wo:World,wo=wr:=⟨_,rfl⟩
   obtain⟨gS,rfl⟩:∃gS,gS=g:=⟨_,rfl⟩
   have hgS:=(Array.getElem?_eq_some_iff.1 HG.out).1
   have hq5:q<=140737488355200:=by omega
   have hgt:64*(j:Int)<(q:Int)+64:=by omega
   clear hs hj hq hlt hqm
   go_wp2_with fail
   clear hd hgt hq5
   go_loopg [6,7] 8 (fun m0 ov iv wr=>∃(j N:Nat) (A c:_),j+m0=8/\N=4*j/\ov=.slice A N c/\iv=.int .i64 (j:Int)/\Hid (OwnB wr wo.heap.size (.slice A N c) (Ke s j))/\Below wo.heap.size wo wr)
   case atStart=>exact⟨0,0,none,0,by omega,rfl,rfl,rfl,Lib.hid (OwnB.nil _ _),Below.refl _ _⟩
   case round=>
    obtain⟨j,N,Ao,co,hj,hN,rfl,rfl,HOWN,hbr⟩:=hrel
    have HBO:=Lib.hid (hbr)
    clear hbr
    by_cases hlt:j<8
    ·obtain⟨x,hx⟩:∃x,s.list.getD j 0=x:=⟨_,rfl⟩
     have CX:Hid (∀W,Below wr.heap.size wr W->W.cell? ⟨gS,j,none⟩=some (W32 x)):=Lib.hid (fun W h=>by
      rw [<-hx];exact zS (((HBO.out.trans (h.mono HBO.out.size)).block gS hgS).trans HG.out) hlt)
     have HON:Hid (Ke s (j+1)=Ke s j++kN x):=Lib.hid (by rw [<-hx];exact XR s hlt)
     have HLN:Hid ((Ke s j).length=N):=Lib.hid (by rw [QC s (by omega),hN])
     have HLN2:Hid ((Ke s (j+1)).length=N+4):=Lib.hid (by rw [QC s (by omega),hN];omega)
     have HNN:=Lib.hid hN
     have HN28:Hid (N<=28):=Lib.hid (by omega)
     have HJ8:Hid ((j:Int)<8):=Lib.hid (by omega)
     have hlt8:(j:Int)<8:=by omega
     have HBR:=HBO
     clear hx hN
     go_upto_region 11 with fail
     refine ja 25 [some 34,some 35,some 36,some 37,some 38,some 39,some 40,some 41,some 42,some 43,some 44,some 45,some 46,some 47,some 48,some 49,some 50,some 51,some 52,some 53,some 54,some 55,some 56,some 57,some 58] [[],[],[],[1,2],[1,2,3],[1,2,3,4],[1,2,3,4,5],[],[],[7,8],[7,8,9],[7,8,9,10],[7,8,9,10,11],[],[],[13,14],[13,14,15],[13,14,15,16],[13,14,15,16,17],[],[],[19,20],[19,20,21],[19,20,21,22],[1,2,3,4,5,6,7,8,9,10,11,12,13,14,15,16,17,18,19,20,21,22,23]]
      (fun _ _ w1=>Below wr.heap.size wr w1) (fun w1 w2=>Below w1.heap.size w1 w2)
      [.v (.slice Ao N co),
       .v (.slice (some ⟨gS,0,none⟩) 8 8),
       .v (.int .i64 (j:Int)),
       .v (.pointer (some ⟨gS,j,none⟩)),
       .v (W32 x),
       .v (W32 (x / ofW 16777216)),
       .v (U8 (ofI (wv (x / ofW 16777216)))),
       .v (.slice (some ⟨gS,0,none⟩) 8 8),
       .v (.int .i64 (j:Int)),
       .v (.pointer (some ⟨gS,j,none⟩)),
       .v (W32 x),
       .v (W32 (x / ofW 65536)),
       .v (U8 (ofI (wv (x / ofW 65536)))),
       .v (.slice (some ⟨gS,0,none⟩) 8 8),
       .v (.int .i64 (j:Int)),
       .v (.pointer (some ⟨gS,j,none⟩)),
       .v (W32 x),
       .v (W32 (x / ofW 256)),
       .v (U8 (ofI (wv (x / ofW 256)))),
       .v (.slice (some ⟨gS,0,none⟩) 8 8),
       .v (.int .i64 (j:Int)),
       .v (.pointer (some ⟨gS,j,none⟩)),
       .v (W32 x),
       .v (U8 (ofI (wv x))),
       .p (fun v w1=>∃q,v 24=.slice (some ⟨q,0,none⟩) 4 4/\w1.heap[q]?=some (.cells ((kN x).map U8).toArray 5 (0,0))) (fun _ _ _ _ _ hr ⟨q,e,h⟩=>⟨q,e,(hr.block q (Array.getElem?_eq_some_iff.1 h).1).trans h⟩)]
      (by kernel_rfl) (by kernel_rfl) rfl (fun _=>(Below.refl _ _).drew) ?steps ?tail
     case steps=>
      simp only [List.take_succ_cons,List.take_zero]
      repeat' (with_reducible first|exact StepsRG.nil|refine StepsRG.cons ?_ ?_)
      all_goals(intro L v w1 hJ hL hF hD K hK;simp only [jb,Act.put,Nat.zero_add,Nat.reduceAdd,List.setIfInBounds_toArray,List.set_cons_zero,List.set_cons_succ,↓jZ,List.getD_cons_zero,List.getD_cons_succ,Nat.reduceEqDiff,↓reduceIte]at hD hK |-)
      all_goals try(have h8:(j:Int)<8:=HJ8.out;have c0:=CX.out _ hJ;(try simp only [hD]at hK |-);go_simp;refine hK _ _ hJ (Below.refl _ _) ?_;first|exact rfl|exact jh _|exact yF _)
      ·simp only [hD]at hK |-
       go_simp
       exact hK _ _ (hJ.alloc hJ.size _) ((Below.refl _ _).alloc (Nat.le_refl _) _) ⟨_,rfl,heap_alloc_new _ _⟩
     case tail=>
      intro v w1 hJ hF hD
      simp only [kE]at hD
      obtain⟨e0,e1,e2,e3,e4,e5,e6,e7,e8,e9,e10,e11,e12,e13,e14,e15,e16,e17,e18,e19,e20,e21,e22,e23, -⟩:=hD
      obtain⟨qb,e24,hqb⟩:∃q,v 24=_/\_:=hF 24 (by simp)
      simp only [List.drop_succ_cons,List.drop_zero,jb,Act.put,Nat.zero_add,Nat.reduceAdd,List.setIfInBounds_toArray,List.set_cons_zero,List.set_cons_succ]
      have HJJ:=Lib.hid hJ;have HQB:=Lib.hid (j6y (n:=4) rfl (by rw [kK];omega) hqb)
      clear hJ hF hqb
      simp only [e0,e24]
      go_wp2_with(at_builtin;(with_reducible refine j5 (w:=w1) rfl (.tmp 34) (.tmp 58) rfl wo.heap.size (.slice Ao N co) (Ke s j) rfl (JJ HOWN.out HJJ.out) (some ⟨qb,0,none⟩) 4 4 (kN x) (fun _=>True) rfl HQB.out (by rw [HLN.out,kK];have:=HN28.out;omega) (Nat.le_trans HBR.out.size HJJ.out.size) ?_);intro o2 w2 hG;rw [<-HON.out]at hG;obtain⟨A2,c2,ho2⟩:=hG.1.form;rw [HLN2.out]at ho2;subst ho2;have HO2:=Lib.hid hG.1;have HB2:=Lib.hid ((HBR.out.trans (HJJ.out.mono HBR.out.size)).trans hG.2.1);clear hG)
      go_roundg (8 - (j+1))
      case measure=>omega
      case rel=>exact⟨j+1,N+4,A2,c2,by omega,by have:=HNN.out;omega,rfl,by go_num,HO2,HB2.out⟩
    ·obtain rfl:j=8:=by omega
     subst hN
     clear hj
     go_wp2_with fail
     go_ret
     have hlen:(Ke s 8).length=4*8:=QC s (by omega)
     refine⟨_,rfl,?_,?_⟩
     ·rw [E.out]
      have hown:=HOWN.out
      refine(OwnB.out hown (by rw [hlen];omega) wo (Nat.le_refl _)).keep fun g hg _=>⟨rfl,?_,hg.2⟩
      have:=hg.1
      have:=HBW.out.size
      omega
     ·exact(HBW.out.trans (HBR.out.mono HBW.out.size)).trans (HBO.out.mono (by have:=HBW.out.size;omega))
def xG(s:List UInt8)(u:Int):List UInt8:=(xw (s++jd u)).take 16
theorem jG(s:List UInt8)(u:Int):(xG s u).length=16:=by unfold xG;rw [List.length_take,je]<;>rfl
theorem BsS.cut{w:World}{S:Nat->Prop}{A:Option Addr}{n c k d:Nat}{l:List UInt8}(h:BsS w S (.slice A n c) l)(hk:k<=l.length)(hd:k<=d)(hd2:d<=9223372036854775807):BsS w S (.slice A k d) (l.take k):=by
 obtain⟨a,c',hv,h1,h2,h3,h4⟩:=h
 obtain⟨ha,hn,hc⟩:=Value.slice.inj hv
 subst ha
 have hl:(l.take k).length=k:=by rw [List.length_take];omega
 refine⟨A,d,by rw [hl],by omega,hd2,by omega,fun hp=> ?_⟩
 rw [hl]at hp
 obtain⟨b,off,rfl,hb,hcell⟩:=h4 (by omega)
 refine⟨b,off,rfl,hb,fun j hj=> ?_⟩
 rw [hl]at hj
 rw [hcell j (by omega)]
 congr 2
 unfold gb
 rw [List.getD_eq_getElem?_getD,List.getD_eq_getElem?_getD,List.getElem?_take,iT hj]
theorem OwnB.bs{w w':World}{v:Value}{l:List UInt8}(h:OwnB w' w.heap.size v l)(hl:l.length<=140737488355328):Bs w' w'.heap.size v l:=(h.out hl w iL).keep fun _ hs _=>⟨rfl,hs.2⟩
theorem Xa(va vb:Value)(a b:List UInt8)(w:World)(hK:KD w)(ha:Bs w w.heap.size va a)(hb:Bs w w.heap.size vb b)(hl:a.length+b.length<=140737488355000):
 Calls Tryz.prog 102 #[va,vb] w fun e w'=>∃v',e=.returned v'/\BsS w' (New w w') v' (xw (a++b))/\Below w.heap.size w w':=by
 obtain⟨w1,hw1⟩:∃w1,w1=w.alloc (.cells #[va,vb] 22):=⟨_,rfl⟩
 have hB1:Below w.heap.size w w1:=by rw [hw1];exact iA
 have hh:w1.heap[w.heap.size]?=some (.cells #[va,vb] 22 (0,0)):=by rw [hw1];exact iN
 have e:Ju [(va,a),(vb,b)]=a++b:=by simp [Ju]
 have HC:=iH (Kw [(va,a),(vb,b)] w.heap.size (·<w.heap.size) w1 22 hh (by
  intro p hp
  simp only [List.mem_cons,List.not_mem_nil,or_false]at hp
  rcases hp with rfl|rfl
  ·exact BsS.keep ha fun g hs hl=>⟨hB1.block g hl,hs⟩
  ·exact BsS.keep hb fun g hs hl=>⟨hB1.block g hl,hs⟩) (by rw [e,List.length_append];exact hl) (by simp))
 rw [e]at HC
 have HW1:=iH hw1;have HB1:=iH hB1;have HK:=iH hK;have HL:=iH hl
 obtain⟨A,n,c,rfl⟩:=ha.form
 obtain⟨B,m,d,rfl⟩:=hb.form
 clear ha hb hw1 hB1 hh hK e
 go_enter Tryz.func102,Tryz.ntmps102
 go_wp2_with(first
  |(go_at_call 46;refine(Yb _ (a++b) (by have:=HL.out;rw [List.length_append];exact this) w2 (HK.out.below HB2.out HK.out.lt) HS2.out).mono ?_;rintro e w3 ⟨v3,rfl,hs,hb3⟩;have HS3:=iH hs;have HB3:=iH hb3;clear hs hb3)
  |(go_at_call 63;rw [<-HW1.out];refine HC.out.mono ?_;rintro e w2 ⟨v2,rfl,ho,hb2⟩;have HS2:Hid (Bs w2 w2.heap.size v2 (a++b)):=iH (ho.bs (by have:=HL.out;rw [List.length_append];omega));have HB2:Hid (Below w.heap.size w w2):=iH (HB1.out.trans (hb2.mono HB1.out.size));clear ho hb2))
 go_ret
 refine⟨_,rfl,HS3.out.keep fun g hg _=>⟨rfl,Nat.le_trans HB2.out.size hg.1,hg.2⟩,HB2.out.trans (HB3.out.mono HB2.out.size)⟩
section
variable(u:Int)(h0:0<=u)(h1:u<=65535)(v:Value)(s:List UInt8)(w:World)
include u h0 h1 v s w
theorem Ja(hK:KD w)(hv:Bs w w.heap.size v s)(hl:s.length<=140737488354000):
 Calls Tryz.prog 47 #[v,.int .i64 u] w fun e w'=>∃v',e=.returned (.tuple #[v',.int .i64 0])/\BsS w' (New w w') v' (xG s u)/\Below w.heap.size w w':=by
 obtain⟨A,n,c,rfl⟩:=hv.form
 have HV:=iH hv;have HK:=iH hK;have HL:=iH hl
 have HO:=iH (YI u w h0 (by omega))
 have g1:decide (u<0)=false:=decide_eq_false (by omega)
 have g2:decide (u>65535)=false:=decide_eq_false (by omega)
 clear hv hK h0 h1
 go_enter Tryz.func47,Tryz.ntmps47
 go_wp2_with(first
  |(go_at_call 102;refine(Xa _ _ s (jd u) w1 (HK.out.below HB1.out HK.out.lt) (HV.out.lift HB1.out) HS1.out (by have:=HL.out;simp only [jd,List.length_cons,List.length_nil];omega)).mono ?_;rintro e w2 ⟨v2,rfl,hs,hb2⟩;obtain⟨A2,c2,hv2,hc2,hc2'⟩:∃A c,v2=.slice A 32 c/\32<=c/\c<=9223372036854775807:=(by obtain⟨a,c,e,h1,h2,_⟩:=hs;rw [je]at e h1;exact⟨a,c,e,h1,h2⟩);subst hv2;have HS2:=iH hs;have HB2:=iH (HB1.out.trans (hb2.mono HB1.out.size));have HZ2:=iH hb2;clear hs hb2)
  |(go_at_call 101;refine HO.out.mono ?_;rintro e w1 ⟨v1,rfl,hs,hb1⟩;obtain⟨A1,c1,rfl⟩:∃A c,v1=.slice A 4 c:=(by obtain⟨a,c,e,_⟩:=hs;exact⟨a,c,e⟩);have HS1:Hid (Bs w1 w1.heap.size (.slice A1 4 c1) (jd u)):=iH (BsS.keep hs fun g hg _=>⟨rfl,hg.2⟩);have HB1:=iH hb1;clear hs hb1))
 go_ret2
 refine⟨_,rfl,?_,HB2.out⟩
 exact BsS.keep (BsS.cut HS2.out (k:=16) (d:=16) (by rw [je];omega) (by omega) (by omega)) fun g hg _=>⟨rfl,Nat.le_trans HB1.out.size hg.1,hg.2⟩
theorem y5(hK:KR w)(hv:Bs w w.heap.size v s)(hl:s.length<=140737488354000):
 Calls Tryz.prog 50 #[v,.int .i64 u] w fun e w'=>∃v',e=.returned (.tuple #[v',.int .i64 0])/\BsS w' (New w w') v' (xG s u)/\Below w.heap.size w w':=by
 obtain⟨A,n,c,rfl⟩:=hv.form
 have HV:=iH hv;have HK:=iH hK;have HL:=iH hl
 have HO:=iH (VJ u w h0 (by omega))
 have g1:decide (u<0)=false:=decide_eq_false (by omega)
 have g2:decide (u>65535)=false:=decide_eq_false (by omega)
 clear hv hK h0 h1
 go_enter Tryz.func50,Tryz.ntmps50
 go_wp2_with(first
  |(go_at_call 49;refine(y9 _ (s++jd u) (by have:=HL.out;rw [List.length_append];simp only [jd,List.length_cons,List.length_nil];omega) w3 (HK.out.below HB3.out HK.out.lt) HS3.out).mono ?_;rintro e w2 ⟨v2,rfl,hs,hb2⟩;obtain⟨A2,c2,hv2,hc2,hc2'⟩:∃A c,v2=.slice A 32 c/\32<=c/\c<=9223372036854775807:=(by obtain⟨a,c,e,h1,h2,_⟩:=hs;rw [je]at e h1;exact⟨a,c,e,h1,h2⟩);subst hv2;have HS2:=iH hs;have HB2:=iH (HB3.out.trans (hb2.mono HB3.out.size));clear hs hb2)
  |(go_at_call 64;refine(Jd _ _ s (jd u) _ _ w1 (HV.out.lift HB1.out) HS1.out (by have:=HL.out;simp only [jd,List.length_cons,List.length_nil];omega)).mono ?_;rintro e w3 ⟨v3,rfl,ho,hb3⟩;have HS3:Hid (Bs w3 w3.heap.size v3 (s++jd u)):=iH (ho.bs (by have:=HL.out;rw [List.length_append];simp only [jd,List.length_cons,List.length_nil];omega));have HB3:=iH (HB1.out.trans (hb3.mono HB1.out.size));clear ho hb3)
  |(go_at_call 83;refine HO.out.mono ?_;rintro e w1 ⟨v1,rfl,hs,hb1⟩;have HS1:Hid (Bs w1 w1.heap.size v1 (jd u)):=iH (BsS.keep hs fun g hg _=>⟨rfl,hg.2⟩);have HB1:=iH hb1;clear hs hb1))
 go_ret2
 refine⟨_,rfl,?_,HB2.out⟩
 exact BsS.keep (BsS.cut HS2.out (k:=16) (d:=c2) (by rw [je];omega) (by omega) (by omega)) fun g hg _=>⟨rfl,Nat.le_trans HB3.out.size hg.1,hg.2⟩
end
end Go.Proofs.YtalmmiojbmpmiaaGreatDoor
