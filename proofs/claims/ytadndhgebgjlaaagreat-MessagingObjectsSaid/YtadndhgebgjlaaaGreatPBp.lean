/- Layer 2: the walk of Size; Layer 2: the walks of the reference's tag and size; Layer 2: words for the reference's list; Layer 2: the walk of the reference's ... -/
import Derived.Test.YtadndhgebgjlaaaGreatPBo
import Derived.Test.YtadndhgebgjlaaaGreatPq
set_option linter.all false
set_option maxRecDepth 100000
set_option maxHeartbeats 16000000
namespace Go.Proofs.YtadndhgebgjlaaaGreat
open Go.RowKit Go.Deep
theorem mi{P:Prop}(h:P:=by
 go_wp2_with fail
 go_ret3
 exact⟨zL E.out,0,rfl⟩):P:=h
theorem mq{P:Prop}(h:P:=by
 rw [E.out,jS hh ho,qy,List.drop_drop]<;>rfl):P:=h
theorem m08{P:Prop}(h:P:=by
 obtain⟨vl,hvl⟩:∃vl,vl=(l.drop (u+k+j)).take q:=⟨_,rfl⟩
 have hql:vl.length=q:=by rw [hvl,List.length_take,List.length_drop];omega
 rw [<-hvl]at E2 CUT2
 clear hh E ho hvl hA2
 have HQ:=iH hql;clear hql
 go_upto_region 14 with (go_at_call 102;refine(HT _ Hbel.out).out.mono ?_;rintro e1 w' ⟨rfl,n1,rfl⟩)
 have HB1:=iH (j4 Hbel.out n1)
 obtain⟨w1,hw1⟩:∃w1,w1=wr.drewN n1:=⟨_,rfl⟩
 have HD1:=iH (jv wr n1)
 rw [<-hw1]at HB1 HD1 |-
 clear hw1
 refine wp_region_quiet_lit (by kernel_rfl) (by kernel_rfl) ?_
 iterate 3 (first|go_big_quiet_step (fail)|quiet_step (fail))
 (try rw [hA1])
 repeat(first|go_big_quiet_step ((first|(go_at_call 95;exact Calls.quiet_of_same (HC.out _))|(go_at_call 103;exact ja (HS _ (j4 HB1.out _)).out)))|quiet_step ((first|(go_at_call 95;exact Calls.quiet_of_same (HC.out _))|(go_at_call 103;exact ja (HS _ (j4 HB1.out _)).out))))
 refine wpQuiet_nil ?_
 intro w2 hqq
 obtain⟨nq,hqr⟩:=hqq
 have HB2:=iH (j4 HB1.out nq)
 have HD2:=iH (j4 HD1.out nq)
 rw [<-hqr]at HB2 HD2
 clear hqr
 have HW:=iH HD2.out
 go_upto_region 26 with (go_at_call 95;refine(HC.out _).mono ?_;rintro e w' ⟨rfl,rfl⟩)
 have hsz3:=iH HW.out.size
 obtain⟨w3,hw3⟩:∃w3,w3=w2.alloc (.cells #[.int .i64 t,.slice none 0 0,.slice none 0 0] 61):=⟨_,rfl⟩
 obtain⟨X,hX⟩:∃X,X=w2.heap.size:=⟨_,rfl⟩
 have X3:Hid (w3.heap[X]?=some (.cells #[.int .i64 t,.slice none 0 0,.slice none 0 0] 61 (0,0))):=by rw [hw3,hX];exact heap_alloc_new w2 _
 have HW3:Hid (Below wr.heap.size wr w3):=by rw [hw3];exact HW.out.alloc HW.out.size _
 have HB3:Hid (Below w.heap.size w w3):=by rw [hw3];exact HB2.out.alloc HB2.out.size _
 have hXr:wr.heap.size<=X:=by rw [hX];exact HD2.out.size
 have hXw:w.heap.size<=X:=Nat.le_trans Hbel.out.size hXr
 have hX3:X<w3.heap.size:=(iG X3.out)
 rw [<-hw3,<-hX]
 clear hw3 hX hsz3
 obtain⟨x0,x1,x2,xf⟩:=jO X3.out
 have xf1:=xf 1
 clear xf
 rcases HA3.out with ⟨rfl,hb5⟩|⟨rfl,hb5⟩
 rotate_left
 obtain rfl:bc=u+k+j:=by omega
 simp only [Nat.sub_self]at CUT2
 clear hb5
 all_goals
  have CC:=iH (CUT2.out w3 HB3.out)
  go_wp2_with(first
   |(at_builtin;(with_reducible refine je rfl (.const (.slice none 0 0)) (.tmp 117) rfl w3.heap.size (.slice none 0 0) [] rfl (OwnB.nil _ _) (some ⟨bb,bo+(u+k+j),none⟩) q (bc - (u+k+j)) vl _ (by simp [Act.eval]) CC.out (by have:=HQ.out;simp;omega) iL ?_);intro v4 w4 hg4;rw [List.nil_append]at hg4;obtain⟨va,vc,rfl⟩:=hg4.1.form;have X4:=iH ((hg4.2.1.block _ (iG X3.out)).trans X3.out);have Hb4:=iH hg4.2.1;have Hv4:=iH ((BsS.of_own hg4.1 (by have:=HQ.out;omega)));clear hg4 x0 x1 x2 xf1;obtain⟨x0,x1,x2,xf⟩:=jO X4.out;have xf1:=xf 1;clear xf;have HWW:=iH (show Below wr.heap.size wr (w4.setCell ⟨X,1,none⟩ (.slice va vl.length vc)) from(HW3.out.trans (Hb4.out.mono HW3.out.size)).setCell hXr _);have HN:=iH (zZ Hown.out Hb4.out HW3.out hX3 hXr Hbel.out.size (.slice va vl.length vc) Hv4.out))
   |(at_builtin;(with_reducible refine je rfl (.const (.slice none 0 0)) (.tmp 117) rfl w3.heap.size (.slice none 0 0) [] rfl (OwnB.nil _ _) (some ⟨bb,bo,none⟩) q 0 vl _ (by simp [Act.eval]) CC.out (by have:=HQ.out;simp;omega) iL ?_);intro v4 w4 hg4;rw [List.nil_append]at hg4;obtain⟨va,vc,rfl⟩:=hg4.1.form;have X4:=iH ((hg4.2.1.block _ (iG X3.out)).trans X3.out);have Hb4:=iH hg4.2.1;have Hv4:=iH ((BsS.of_own hg4.1 (by have:=HQ.out;omega)));clear hg4 x0 x1 x2 xf1;obtain⟨x0,x1,x2,xf⟩:=jO X4.out;have xf1:=xf 1;clear xf;have HWW:=iH (show Below wr.heap.size wr (w4.setCell ⟨X,1,none⟩ (.slice va vl.length vc)) from(HW3.out.trans (Hb4.out.mono HW3.out.size)).setCell hXr _);have HN:=iH (zZ Hown.out Hb4.out HW3.out hX3 hXr Hbel.out.size (.slice va vl.length vc) Hv4.out))
   |(at_builtin;(with_reducible refine jz rfl (.tmp 164) (.tmp 166) rfl w.heap.size (.slice oa L.len oc) L rfl (Hown.out.below HWW.out) t vl .nil (.slice va vl.length vc) (.slice none 0 0) _ w4.heap.size rfl (by simp [World.setCell]) HI.out HN.out (NsS.nil0 _ _) (by omega) (Nat.le_trans Hbel.out.size HWW.out.size) ?_);intro o2 w2 hg2;have G2:=iH hg2;clear hg2))
  go_roundg m
  case measure=>omega
  case rel=>exact⟨L.app (.cons t vl .nil .nil),u+(k+j+q),cc+1,E2.out,by go_num,by go_num,G2.out.1,(Hbel.out.trans (HWW.out.mono Hbel.out.size)).trans G2.out.2.1,by omega,by omega,by omega,by omega,by rw [Ns.len_snoc];omega⟩):P:=h
theorem m0a{P:Prop}(h:P:=by
 rw [hl]at HF
 clear hl hl0 hh E ho u3 hA2
 go_upto_region 14 with (go_at_call 102;refine(HT _ Hbel.out).out.mono ?_;rintro e1 w' ⟨rfl,n1,rfl⟩)
 have HB1:=iH (j4 Hbel.out n1)
 obtain⟨w1,hw1⟩:∃w1,w1=wr.drewN n1:=⟨_,rfl⟩
 have HD1:=iH (jv wr n1)
 rw [<-hw1]at HB1 HD1 |-
 clear hw1
 refine wp_region_quiet_lit (by kernel_rfl) (by kernel_rfl) ?_
 iterate 3 (first|go_big_quiet_step (fail)|quiet_step (fail))
 (try rw [hA1])
 repeat(first|go_big_quiet_step ((first|(go_at_call 95;exact Calls.quiet_of_same (HC.out _))|(go_at_call 103;exact ja (HS _ (j4 HB1.out _)).out)))|quiet_step ((first|(go_at_call 95;exact Calls.quiet_of_same (HC.out _))|(go_at_call 103;exact ja (HS _ (j4 HB1.out _)).out))))
 refine wpQuiet_nil ?_
 intro w2 hqq
 obtain⟨nq,hqr⟩:=hqq
 have HB2:=iH (j4 HB1.out nq)
 have HD2:=iH (j4 HD1.out nq)
 rw [<-hqr]at HB2 HD2
 clear hqr
 have HW:=iH HD2.out
 go_upto_region 31 with (go_at_call 95;refine(HC.out _).mono ?_;rintro e w' ⟨rfl,rfl⟩)
 have hsz3:=iH HW.out.size
 obtain⟨w3,hw3⟩:∃w3,w3=w2.alloc (.cells #[.int .i64 t,.slice none 0 0,.slice none 0 0] 61):=⟨_,rfl⟩
 obtain⟨X,hX⟩:∃X,X=w2.heap.size:=⟨_,rfl⟩
 have X3:Hid (w3.heap[X]?=some (.cells #[.int .i64 t,.slice none 0 0,.slice none 0 0] 61 (0,0))):=by rw [hw3,hX];exact heap_alloc_new w2 _
 have HW3:Hid (Below wr.heap.size wr w3):=by rw [hw3];exact HW.out.alloc HW.out.size _
 have HB3:Hid (Below w.heap.size w w3):=by rw [hw3];exact HB2.out.alloc HB2.out.size _
 have hXr:wr.heap.size<=X:=by rw [hX];exact HD2.out.size
 have hXw:w.heap.size<=X:=Nat.le_trans Hbel.out.size hXr
 have hX3:X<w3.heap.size:=(iG X3.out)
 rw [<-hw3,<-hX]
 clear hw3 hX hsz3
 obtain⟨x0,x1,x2,xf⟩:=jO X3.out
 have xf1:=xf 2
 clear xf
 rcases HA3.out with ⟨rfl,hb5⟩|⟨rfl,hb5⟩
 rotate_left
 obtain rfl:bc=u+k+j:=by omega
 clear hb5
 all_goals
  go_wp2_with(first
   |(go_at_call 79;refine(HF _ HB3.out _ _ _ (Qj (HV.out.below HB3.out) (u+k+j) q hq (fun h=>by first|rfl|omega) (by omega) ⟨by omega,by omega⟩)).out.mono ?_;intro e4 w4 h4;obtain⟨v4,rfl,hv4,hb4,_⟩:=h4;obtain⟨va,vc,rfl⟩:=NsS.form2 hv4;have X4:=iH ((hb4.block _ (iG X3.out)).trans X3.out);have Hb4:=iH hb4;have Hv4:=iH hv4;clear hb4 hv4 x0 x1 x2 xf1;obtain⟨x0,x1,x2,xf⟩:=jO X4.out;have xf1:=xf 2;clear xf;have HWW:=iH (show Below wr.heap.size wr (w4.setCell ⟨X,2,none⟩ (.slice va r.list.len vc)) from(HW3.out.trans (Hb4.out.mono HW3.out.size)).setCell hXr _);have HN:=iH (Ju Hown.out Hb4.out HW3.out hX3 hXr Hbel.out.size (.slice va r.list.len vc) Hv4.out))
   |(at_builtin;(with_reducible refine jz rfl (.tmp 164) (.tmp 166) rfl w.heap.size (.slice oa L.len oc) L rfl (Hown.out.below HWW.out) t [] r.list (.slice none 0 0) (.slice va r.list.len vc) _ w4.heap.size rfl (by simp [World.setCell]) HI.out (BsS.nil0 _ _) HN.out (by omega) (Nat.le_trans Hbel.out.size HWW.out.size) ?_);intro o2 w2 hg2;have G2:=iH hg2;clear hg2))
  go_roundg m
  case measure=>omega
  case rel=>exact⟨L.app (.cons t [] r.list .nil),u+(k+j+q),r.count,E2.out,by go_num,by go_num,G2.out.1,(Hbel.out.trans (HWW.out.mono Hbel.out.size)).trans G2.out.2.1,by omega,by omega,by omega,u2,by rw [Ns.len_snoc];omega⟩):P:=h
theorem m0c{P:Prop}(h:P:=by
 have ne:=hl0.2 er hl
 have n0:(er != 0)=true:=by simp [ne]
 have N0:=iH ne
 rw [hl]at HF
 clear hl hl0 ne hh E ho hA2
 go_upto_region 14 with (go_at_call 102;refine(HT _ Hbel.out).out.mono ?_;rintro e1 w' ⟨rfl,n1,rfl⟩)
 have HB1:=iH (j4 Hbel.out n1)
 obtain⟨w1,hw1⟩:∃w1,w1=wr.drewN n1:=⟨_,rfl⟩
 have HD1:=iH (jv wr n1)
 rw [<-hw1]at HB1 HD1 |-
 clear hw1
 refine wp_region_quiet_lit (by kernel_rfl) (by kernel_rfl) ?_
 iterate 3 (first|go_big_quiet_step (fail)|quiet_step (fail))
 (try rw [hA1])
 repeat(first|go_big_quiet_step ((first|(go_at_call 95;exact Calls.quiet_of_same (HC.out _))|(go_at_call 103;exact ja (HS _ (j4 HB1.out _)).out)))|quiet_step ((first|(go_at_call 95;exact Calls.quiet_of_same (HC.out _))|(go_at_call 103;exact ja (HS _ (j4 HB1.out _)).out))))
 refine wpQuiet_nil ?_
 intro w2 hqq
 obtain⟨nq,hqr⟩:=hqq
 have HB2:=iH (j4 HB1.out nq)
 have HD2:=iH (j4 HD1.out nq)
 rw [<-hqr]at HB2 HD2
 clear hqr
 have HW:=iH HD2.out
 go_upto_region 31 with (go_at_call 95;refine(HC.out _).mono ?_;rintro e w' ⟨rfl,rfl⟩)
 have hsz3:=iH HW.out.size
 obtain⟨w3,hw3⟩:∃w3,w3=w2.alloc (.cells #[.int .i64 t,.slice none 0 0,.slice none 0 0] 61):=⟨_,rfl⟩
 obtain⟨X,hX⟩:∃X,X=w2.heap.size:=⟨_,rfl⟩
 have X3:Hid (w3.heap[X]?=some (.cells #[.int .i64 t,.slice none 0 0,.slice none 0 0] 61 (0,0))):=by rw [hw3,hX];exact heap_alloc_new w2 _
 have HW3:Hid (Below wr.heap.size wr w3):=by rw [hw3];exact HW.out.alloc HW.out.size _
 have HB3:Hid (Below w.heap.size w w3):=by rw [hw3];exact HB2.out.alloc HB2.out.size _
 have hXr:wr.heap.size<=X:=by rw [hX];exact HD2.out.size
 have hXw:w.heap.size<=X:=Nat.le_trans Hbel.out.size hXr
 have hX3:X<w3.heap.size:=(iG X3.out)
 rw [<-hw3,<-hX]
 clear hw3 hX hsz3
 obtain⟨x0,x1,x2,xf⟩:=jO X3.out
 have xf1:=xf 2
 clear xf
 rcases HA3.out with ⟨rfl,hb5⟩|⟨rfl,hb5⟩
 rotate_left
 obtain rfl:bc=u+k+j:=by omega
 clear hb5
 all_goals
  go_wp2_with(go_at_call 79;refine(HF _ HB3.out _ _ _ (Qj (HV.out.below HB3.out) (u+k+j) q hq (fun h=>by first|rfl|omega) (by omega) ⟨by omega,by omega⟩)).out.mono ?_;intro e4 w4 h4;obtain⟨_,rfl,hb4⟩:=h4;have X4:=iH ((hb4.block _ (iG X3.out)).trans X3.out);have Hb4:=iH hb4;clear hb4 x0 x1 x2 xf1;obtain⟨x0,x1,x2,xf⟩:=jO X4.out;have xf1:=xf 2;clear xf)
  refine bodyPost_ret (v:=.tuple #[.slice none 0 0,.int .i64 0,.int .i64 0,.int .i64 er]) (by simp [results,Tryz.results79,go_sem]) rfl (RListOut.no E2.out N0.out ((HB3.out.trans (Hb4.out.mono HB3.out.size)).setCell hXw _))):P:=h
theorem m0d{P:Prop}(h:P:=by
 have ne:=hl0.2 er hl
 have n0:(er != 0)=true:=by simp [ne]
 have N0:=iH ne
 rw [hl]at HF
 clear hl hl0 ne hh E ho hA2
 go_upto_region 14 with (go_at_call 102;refine(HT _ Hbel.out).out.mono ?_;rintro e1 w' ⟨rfl,n1,rfl⟩)
 have HB1:=iH (j4 Hbel.out n1)
 obtain⟨w1,hw1⟩:∃w1,w1=wr.drewN n1:=⟨_,rfl⟩
 have HD1:=iH (jv wr n1)
 rw [<-hw1]at HB1 HD1 |-
 clear hw1
 refine wp_region_quiet_lit (by kernel_rfl) (by kernel_rfl) ?_
 iterate 3 (first|go_big_quiet_step (fail)|quiet_step (fail))
 (try rw [hA1])
 repeat(first|go_big_quiet_step ((first|(go_at_call 95;exact Calls.quiet_of_same (HC.out _))|(go_at_call 103;exact ja (HS _ (j4 HB1.out _)).out)))|quiet_step ((first|(go_at_call 95;exact Calls.quiet_of_same (HC.out _))|(go_at_call 103;exact ja (HS _ (j4 HB1.out _)).out))))
 refine wpQuiet_nil ?_
 intro w2 hqq
 obtain⟨nq,hqr⟩:=hqq
 have HB2:=iH (j4 HB1.out nq)
 have HD2:=iH (j4 HD1.out nq)
 rw [<-hqr]at HB2 HD2
 clear hqr
 have HW:=iH HD2.out
 go_upto_region 28 with (go_at_call 95;refine(HC.out _).mono ?_;rintro e w' ⟨rfl,rfl⟩)
 have hsz3:=iH HW.out.size
 obtain⟨w3,hw3⟩:∃w3,w3=w2.alloc (.cells #[.int .i64 t,.slice none 0 0,.slice none 0 0] 61):=⟨_,rfl⟩
 obtain⟨X,hX⟩:∃X,X=w2.heap.size:=⟨_,rfl⟩
 have X3:Hid (w3.heap[X]?=some (.cells #[.int .i64 t,.slice none 0 0,.slice none 0 0] 61 (0,0))):=by rw [hw3,hX];exact heap_alloc_new w2 _
 have HW3:Hid (Below wr.heap.size wr w3):=by rw [hw3];exact HW.out.alloc HW.out.size _
 have HB3:Hid (Below w.heap.size w w3):=by rw [hw3];exact HB2.out.alloc HB2.out.size _
 have hXr:wr.heap.size<=X:=by rw [hX];exact HD2.out.size
 have hXw:w.heap.size<=X:=Nat.le_trans Hbel.out.size hXr
 have hX3:X<w3.heap.size:=(iG X3.out)
 rw [<-hw3,<-hX]
 clear hw3 hX hsz3
 obtain⟨x0,x1,x2,xf⟩:=jO X3.out
 have xf1:=xf 2
 clear xf
 rcases HA3.out with ⟨rfl,hb5⟩|⟨rfl,hb5⟩
 rotate_left
 obtain rfl:bc=u+k+j:=by omega
 clear hb5
 all_goals
  go_wp2_with(go_at_call 79;refine(HF _ HB3.out _ _ _ (Yf (HV.out.below HB3.out) (u+k+j) hj2 (fun h=>by first|rfl|omega) (by omega) ⟨by omega,by omega⟩)).out.mono ?_;intro e4 w4 h4;obtain⟨_,rfl,hb4⟩:=h4;have X4:=iH ((hb4.block _ (iG X3.out)).trans X3.out);have Hb4:=iH hb4;clear hb4 x0 x1 x2 xf1;obtain⟨x0,x1,x2,xf⟩:=jO X4.out;have xf1:=xf 2;clear xf)
  refine bodyPost_ret (v:=.tuple #[.slice none 0 0,.int .i64 0,.int .i64 0,.int .i64 er]) (by simp [results,Tryz.results79,go_sem]) rfl (RListOut.no E2.out N0.out ((HB3.out.trans (Hb4.out.mono HB3.out.size)).setCell hXw _))):P:=h
theorem m0l{P:Prop}(h:P:=by
 have ne:=qb hs
 have n0:(er != 0)=true:=by simp [ne]
 have N0:=iH ne
 simp only [hs,j18]at HS
 clear hs ho ne hh E
 go_upto_region 14 with (go_at_call 102;refine(HT _ Hbel.out).out.mono ?_;rintro e1 w' ⟨rfl,n1,rfl⟩)
 have HB1:=iH (j4 Hbel.out n1)
 obtain⟨w1,hw1⟩:∃w1,w1=wr.drewN n1:=⟨_,rfl⟩
 have HD1:=iH (jv wr n1)
 rw [<-hw1]at HB1 HD1 |-
 clear hw1
 refine wp_region_quiet_lit (by kernel_rfl) (by kernel_rfl) ?_
 iterate 3 (first|go_big_quiet_step (fail)|quiet_step (fail))
 (try rw [hA1])
 repeat(first|go_big_quiet_step ((first|(go_at_call 95;exact Calls.quiet_of_same (HC.out _))|(go_at_call 103;exact ja (HS _ (j4 HB1.out _)).out)))|quiet_step ((first|(go_at_call 95;exact Calls.quiet_of_same (HC.out _))|(go_at_call 103;exact ja (HS _ (j4 HB1.out _)).out))))
 refine wpQuiet_nil ?_
 intro w2 hqq
 obtain⟨nq,hqr⟩:=hqq
 have HB2:=iH (j4 HB1.out nq)
 have HD2:=iH (j4 HD1.out nq)
 rw [<-hqr]at HB2 HD2
 clear hqr
 go_wp2_with fail
 refine bodyPost_ret (v:=.tuple #[.slice none 0 0,.int .i64 0,.int .i64 0,.int .i64 er]) (by simp [results,Tryz.results79,go_sem]) rfl (RListOut.no E2.out N0.out HB2.out)):P:=h
theorem m0n{P:Prop}(h:P:=by
 have h11:(l.length:Int) - ((u:Int)+k+j)<z:=by omega
 clear hh E h10
 go_upto_region 14 with (go_at_call 102;refine(HT _ Hbel.out).out.mono ?_;rintro e1 w' ⟨rfl,n1,rfl⟩)
 have HB1:=iH (j4 Hbel.out n1)
 obtain⟨w1,hw1⟩:∃w1,w1=wr.drewN n1:=⟨_,rfl⟩
 have HD1:=iH (jv wr n1)
 rw [<-hw1]at HB1 HD1 |-
 clear hw1
 refine wp_region_quiet_lit (by kernel_rfl) (by kernel_rfl) ?_
 iterate 3 (first|go_big_quiet_step (fail)|quiet_step (fail))
 (try rw [hA1])
 repeat(first|go_big_quiet_step ((first|(go_at_call 95;exact Calls.quiet_of_same (HC.out _))|(go_at_call 103;exact ja (HS _ (j4 HB1.out _)).out)))|quiet_step ((first|(go_at_call 95;exact Calls.quiet_of_same (HC.out _))|(go_at_call 103;exact ja (HS _ (j4 HB1.out _)).out))))
 refine wpQuiet_nil ?_
 intro w2 hqq
 obtain⟨nq,hqr⟩:=hqq
 have HB2:=iH (j4 HB1.out nq)
 have HD2:=iH (j4 HD1.out nq)
 rw [<-hqr]at HB2 HD2
 clear hqr
 go_wp2_with fail
 refine bodyPost_ret (v:=.tuple #[.slice none 0 0,.int .i64 0,.int .i64 0,.int .i64 6]) (by simp [results,Tryz.results79,go_sem]) rfl (RListOut.no E2.out (by decide) HB2.out)):P:=h
theorem m0p{P:Prop}(h:P:=by
 clear hh E
 go_upto_region 14 with (go_at_call 102;refine(HT _ Hbel.out).out.mono ?_;rintro e1 w' ⟨rfl,n1,rfl⟩)
 have HB1:=iH (j4 Hbel.out n1)
 obtain⟨w1,hw1⟩:∃w1,w1=wr.drewN n1:=⟨_,rfl⟩
 have HD1:=iH (jv wr n1)
 rw [<-hw1]at HB1 HD1 |-
 clear hw1
 refine wp_region_quiet_lit (by kernel_rfl) (by kernel_rfl) ?_
 iterate 3 (first|go_big_quiet_step (fail)|quiet_step (fail))
 (try rw [hA1])
 repeat(first|go_big_quiet_step ((first|(go_at_call 95;exact Calls.quiet_of_same (HC.out _))|(go_at_call 103;exact ja (HS _ (j4 HB1.out _)).out)))|quiet_step ((first|(go_at_call 95;exact Calls.quiet_of_same (HC.out _))|(go_at_call 103;exact ja (HS _ (j4 HB1.out _)).out))))
 refine wpQuiet_nil ?_
 intro w2 hqq
 obtain⟨nq,hqr⟩:=hqq
 have HB2:=iH (j4 HB1.out nq)
 have HD2:=iH (j4 HD1.out nq)
 rw [<-hqr]at HB2 HD2
 clear hqr
 go_wp2_with fail
 refine bodyPost_ret (v:=.tuple #[.slice none 0 0,.int .i64 0,.int .i64 0,.int .i64 7]) (by simp [results,Tryz.results79,go_sem]) rfl (RListOut.no E2.out (by decide) HB2.out)):P:=h
theorem m0q{P:Prop}(h:P:=by
 clear hh E
 go_upto_region 14 with (go_at_call 102;refine(HT _ Hbel.out).out.mono ?_;rintro e1 w' ⟨rfl,n1,rfl⟩)
 have HB1:=iH (j4 Hbel.out n1)
 obtain⟨w1,hw1⟩:∃w1,w1=wr.drewN n1:=⟨_,rfl⟩
 have HD1:=iH (jv wr n1)
 rw [<-hw1]at HB1 HD1 |-
 clear hw1
 refine wp_region_quiet_lit (by kernel_rfl) (by kernel_rfl) ?_
 iterate 3 (first|go_big_quiet_step (fail)|quiet_step (fail))
 (try rw [hA1])
 repeat(first|go_big_quiet_step ((first|(go_at_call 95;exact Calls.quiet_of_same (HC.out _))|(go_at_call 103;exact ja (HS _ (j4 HB1.out _)).out)))|quiet_step ((first|(go_at_call 95;exact Calls.quiet_of_same (HC.out _))|(go_at_call 103;exact ja (HS _ (j4 HB1.out _)).out))))
 refine wpQuiet_nil ?_
 intro w2 hqq
 obtain⟨nq,hqr⟩:=hqq
 have HB2:=iH (j4 HB1.out nq)
 have HD2:=iH (j4 HD1.out nq)
 rw [<-hqr]at HB2 HD2
 clear hqr
 go_wp2_with fail
 refine bodyPost_ret (v:=.tuple #[.slice none 0 0,.int .i64 0,.int .i64 0,.int .i64 2]) (by simp [results,Tryz.results79,go_sem]) rfl (RListOut.no E2.out (by decide) HB2.out)):P:=h
theorem m16{P:Prop}(h:P:=by
 have ne:=yE ht
 have n0:(er != 0)=true:=by simp [ne]
 have N0:=iH ne
 simp only [ht,j18]at HT
 clear ht ne hh E
 go_wp2_with(go_at_call 102;refine(HT _ Hbel.out).out.mono ?_;rintro e1 w' ⟨rfl,n1,rfl⟩)
 refine bodyPost_ret (v:=.tuple #[.slice none 0 0,.int .i64 0,.int .i64 0,.int .i64 er]) (by simp [results,Tryz.results79,go_sem]) rfl (RListOut.no E2.out N0.out (j4 Hbel.out _))):P:=h
theorem m2l{P:Prop}(h:P:=by
 rw [VZ HT2.out HS2.out h8 h9 (by have:=H3.out;omega) (by omega) (by rw [<-TC.out];decide),List.drop_drop,<-Nat.add_assoc,Int.toNat_natCast]):P:=h
theorem m2n{P:Prop}(h:P:=by
 rcases Nat.lt_or_ge (u+k+j) bc with h|h
 ·exact .inl ⟨by rw [<-hA2,iF (by omega)],h⟩
 ·exact .inr ⟨by rw [<-hA2,iT (by omega)],h⟩):P:=h
theorem m3k{P:Prop}(h:P:=by
 go_wp2_with fail
 go_ret3
 exact⟨zV E.out rfl,0,rfl⟩):P:=h
theorem Qa{w:World}{S:Nat->Prop}{a:Option Addr}{n c:Nat}{l:List UInt8}(h:BsS w S (.slice a n c) l)(hl:0<l.length):∃b off,a=some ⟨b,off,none⟩:=by
 obtain⟨_,_,hv,_,_,_,h4⟩:=h
 injection hv with ha _ _
 obtain⟨b,off,e,_⟩:=h4 hl
 exact⟨b,off,ha.trans e⟩
def Q5:Except Int (Int×Nat)->Value
 |.error e=>.tuple #[.int .i64 0,.int .i64 0,.int .i64 e]
 |.ok x=>.tuple #[.int .i64 x.1,.int .i64 (x.2:Int),.int .i64 0]
theorem zL{r:Except Int (Int×Nat)}{e:Int}(h:r=.error e):Ending.returned (.tuple #[.int .i64 0,.int .i64 0,.int .i64 e])=.returned (Q5 r):=by subst h;rfl
theorem zV{r:Except Int (Int×Nat)}{n m:Int}{k:Nat}(h:r=.ok (n,k))(hm:m=k):Ending.returned (.tuple #[.int .i64 n,.int .i64 m,.int .i64 0])=.returned (Q5 r):=by subst h hm;rfl
theorem Ym{w:World}{S:Nat->Prop}{b off n c:Nat}{l:List UInt8}(h:BsS w S (.slice (some ⟨b,off,none⟩) n c) l)(hl:0<l.length):w.cell? ⟨b,off,none⟩=some (.int .u8 ((gb l 0).toNat:Int)):=h.cellAt rfl (j:=0) hl
theorem QI(l:List UInt8)(v:Value)(S:Nat->Prop)(w:World)(hv:BsS w S v l):Calls Tryz.prog 102 #[v] w fun e w'=>e=.returned (Q5 (qg l))/\∃n,w'=w.drewN n:=by
 have hlen:=hv.len
 obtain⟨a,c,rfl⟩:=hv.form2
 by_cases h0:l.length=0
 ·have E:Hid (qg l=.error 6):=by show qg l=_;unfold qg;rw [iT h0]
  have d0:((l.length:Int)==0)=true:=by simp [h0]
  clear hv
  go_enter Tryz.func102,Tryz.ntmps102
  exact mi
 ·obtain⟨bb,bo,rfl⟩:=Qa hv (by omega)
  have d0:((l.length:Int)==0)=false:=by rw [beq_eq_false_iff_ne];omega
  have q0:=Ym hv (by omega)
  obtain⟨x,hx⟩:∃x:Nat,x=(gb l 0).toNat:=⟨_,rfl⟩
  have hxl:x<256:=by rw [hx];exact UInt8.toNat_lt _
  have ex:bv (gb l 0)=x:=by rw [hx]<;>rfl
  rw [<-hx]at q0
  have b0:(0:Int)<l.length:=by omega
  by_cases h1:x % 32=31
  ·have d1:((x:Int) % 32 != 31)=false:=by simp;omega
   by_cases h2:l.length<2
   ·have E:Hid (qg l=.error 6):=by show qg l=_;unfold qg;rw [iF h0,ex,iT (by omega),iT h2]
    clear hv hx ex h0
    go_enter Tryz.func102,Tryz.ntmps102
    exact mi
   ·have q1:w.cell? ⟨bb,bo+1,none⟩=some (.int .u8 ((gb l 1).toNat:Int)):=hv.cellAt rfl (j:=1) (by omega)
    obtain⟨y,hy⟩:∃y:Nat,y=(gb l 1).toNat:=⟨_,rfl⟩
    have hyl:y<256:=by rw [hy];exact UInt8.toNat_lt _
    have ey:bv (gb l 1)=y:=by rw [hy]<;>rfl
    rw [<-hy]at q1
    have b1:(1:Int)<l.length:=by omega
    have V:=iH (fun w=>J4 (256*(x:Int)+y) ⟨by omega,by omega⟩ w)
    cases et:qX (256*(x:Int)+y)with
    |false=>
     have E:Hid (qg l=.error 4):=by show qg l=_;unfold qg;rw [iF h0,ex,ey,iT (by omega),iF h2,iF (by rw [et];decide)]
     rw [et]at V
     clear hv hx ex h0 hy ey et
     go_enter Tryz.func102,Tryz.ntmps102
     go_wp2_with fail
     go_quiet (fail)
     go_wp2_with(go_at_call 94;refine(V.out _).mono ?_;rintro e w' ⟨rfl,rfl⟩)
     go_ret3
     exact⟨zL E.out,nq,rfl⟩
    |true=>
     have E:Hid (qg l=.ok (256*(x:Int)+y,2)):=by show qg l=_;unfold qg;rw [iF h0,ex,ey,iT (by omega),iF h2,iT et]
     rw [et]at V
     clear hv hx ex h0 hy ey et
     go_enter Tryz.func102,Tryz.ntmps102
     go_wp2_with fail
     go_quiet (fail)
     go_wp2_with(go_at_call 94;refine(V.out _).mono ?_;rintro e w' ⟨rfl,rfl⟩)
     go_ret3
     exact⟨zV E.out rfl,nq,rfl⟩
  ·have d1:((x:Int) % 32 != 31)=true:=by simp;omega
   by_cases hx0:x=0
   ·subst hx0
    have E:Hid (qg l=.error 4):=by show qg l=_;unfold qg;rw [iF h0,ex,iF (by omega),iF (by decide)]
    clear hv hx ex h0
    go_enter Tryz.func102,Tryz.ntmps102
    exact mi
   ·have E:Hid (qg l=.ok ((x:Int),1)):=by show qg l=_;unfold qg;rw [iF h0,ex,iF (by omega),iT (by apply decide_eq_true;omega)]
    have x0:((x:Int)==0)=false:=by simp;omega
    clear hv hx ex h0
    go_enter Tryz.func102,Tryz.ntmps102
    go_wp2_with fail
    go_ret3
    exact⟨zV E.out rfl,0,rfl⟩
theorem XT(l:List UInt8)(v:Value)(S:Nat->Prop)(cn st:Bool)(w:World)(hv:BsS w S v l):Calls Tryz.prog 103 #[v,.bool cn,.bool st] w fun e w'=>e=.returned (Q5 (jG l (cn&& !st) st))/\∃n,w'=w.drewN n:=by
 obtain⟨op,hop⟩:∃op,op=(cn&& !st):=⟨_,rfl⟩
 rw [<-hop]
 have HOP:=iH hop
 clear hop
 have hlen:=hv.len
 obtain⟨a,c,rfl⟩:=hv.form2
 by_cases h0:l.length=0
 ·have E:Hid (jG l op st=.error 6):=by show jG l _ _=_;unfold jG;rw [iT h0]
  have d0:((l.length:Int)==0)=true:=by simp [h0]
  clear hv
  go_enter Tryz.func103,Tryz.ntmps103
  exact mi
 ·obtain⟨bb,bo,rfl⟩:=Qa hv (by omega)
  have d0:((l.length:Int)==0)=false:=by rw [beq_eq_false_iff_ne];omega
  have q0:=Ym hv (by omega)
  obtain⟨x,hx⟩:∃x:Nat,x=(gb l 0).toNat:=⟨_,rfl⟩
  have hxl:x<256:=by rw [hx];exact UInt8.toNat_lt _
  have E0:=iH (YQ l (gb l 0) x op st h0 rfl hx)
  rw [<-hx]at q0
  have b0:(0:Int)<l.length:=by omega
  have HV:=iH hv
  clear hx hv h0
  by_cases h1:x<128
  ·have E:Hid (jG l op st=.ok ((x:Int),1)):=by rw [E0.out,iT (by omega)]<;>rfl
   go_enter Tryz.func103,Tryz.ntmps103
   exact m3k
  ·by_cases h2:132<x
   ·have E:Hid (jG l op st=.error 5):=by rw [E0.out,iF (by omega),iT (by omega)]<;>rfl
    go_enter Tryz.func103,Tryz.ntmps103
    exact mi
   ·by_cases h3:x=128
    ·subst h3
     cases cn<;>cases st
     case true.false=>
      have E:Hid (jG l op false=.ok (-1,1)):=by rw [E0.out,iF (by omega),iF (by omega),iT (by omega),iT (by rw [HOP.out]<;>rfl)]<;>rfl
      go_enter Tryz.func103,Tryz.ntmps103
      exact m3k
     all_goals
      have E:=iH (show jG l op _=.error 5 by rw [E0.out,iF (by omega),iF (by omega),iT (by omega),iF (by rw [HOP.out];decide)])
      go_enter Tryz.func103,Tryz.ntmps103
      go_wp2_with fail
      go_ret3
      exact⟨zL E.out,0,rfl⟩
    ·obtain⟨s,rfl,hs1,hs4⟩:∃s:Nat,x=128+s/\1<=s/\s<=4:=⟨x - 128,by omega,by omega,by omega⟩
     have E1:=E0.out
     rw [iF (by omega),iF (by omega),iF (by omega),show 128+s - 128=s by omega]at E1
     clear E0 h1 h2 h3
     by_cases h4:l.length<1+s
     ·have E:Hid (jG l op st=.error 6):=by rw [E1,iT h4]<;>rfl
      clear E1
      go_enter Tryz.func103,Tryz.ntmps103
      exact mi
     ·rw [iF h4]at E1
      have E9:=iH E1
      clear E1
      have h5:1+s<=l.length:=by omega
      clear h4
      go_enter Tryz.func103,Tryz.ntmps103
      go_wp2_with fail
      go_loopg [11,12] s (fun m n i wr=>∃k:Nat,k+m=s/\i=.int .i64 ((k:Int)+1)/\n=.int .i64 (beV l k)/\wr=w)
      case atStart=>exact⟨0,by omega,rfl,rfl,rfl⟩
      case round=>
       obtain⟨k,hk,rfl,rfl,rfl⟩:=hrel
       by_cases hlt:k<s
       ·have q2:=HV.out.cellAt rfl (j:=k+1) (by omega)
        obtain⟨z,hz⟩:=Int.eq_ofNat_of_zero_le (X6 l k)
        obtain⟨y,hy⟩:∃y:Nat,y=(gb l (k+1)).toNat:=⟨_,rfl⟩
        have ey:bv (gb l (k+1))=y:=by rw [hy]<;>rfl
        have hyl:y<256:=by rw [hy];exact UInt8.toNat_lt _
        have hzl:z<16777216:=by
         exact m2x
        have E2:Hid (beV l (k+1)=256*(z:Int)+y):=by rw [beV,ey,hz]<;>rfl
        change wr.cell? _=some (.int .u8 (bv (gb l (k+1))))at q2
        rw [ey]at q2
        rw [hz]
        have b3:(0:Int)<=(k:Int)+1:=by omega
        have b4:(k:Int)+1<l.length:=by omega
        clear hy ey hz
        go_wp2_with fail
        go_roundg (s - (k+1))
        case measure=>omega
        case rel=>exact⟨k+1,by omega,by go_num,by rw [E2.out],rfl⟩
       ·obtain rfl:k=s:=by omega
        obtain⟨z,hz⟩:=Int.eq_ofNat_of_zero_le (X6 l k)
        rw [hz]at E9 |-
        have hzb:z<4294967296:=by
         have h:=QZ l k
         have:(256:Int) ^ k<=256 ^ 4:=by
          obtain h|h|h|h:k=1\/k=2\/k=3\/k=4:=by omega
          all_goals subst h;decide
         omega
        clear hz
        cases st with
        |false=>
         have E:Hid (jG l op false=.ok ((z:Int),1+k)):=by rw [E9.out,iF (by simp)]<;>rfl
         go_wp2_with fail
         go_ret3
         exact⟨zV E.out (by omega),0,rfl⟩
        |true=>
         by_cases h6:z<128
         ·have E:Hid (jG l op true=.error 5):=by rw [E9.out,iT ⟨rfl,.inl (by omega)⟩]<;>rfl
          have d6:decide ((z:Int)<=127)=true:=by simp;omega
          go_wp2_with fail
          go_ret3
          exact⟨zL E.out,0,rfl⟩
         ·have d6:decide ((z:Int)<=127)=false:=by simp;omega
          by_cases h7:1<k
          ·have d7:decide ((k:Int)>1)=true:=by simp;omega
           have q1:wr.cell? ⟨bb,bo+1,none⟩=some (.int .u8 ((gb l 1).toNat:Int)):=HV.out.cellAt rfl (j:=1) (by omega)
           have ez:gb l 1=0↔(gb l 1).toNat=0:=⟨fun h=>by rw [h]<;>rfl,fun h=>UInt8.toNat_inj.1 h⟩
           obtain⟨y,hy⟩:∃y:Nat,y=(gb l 1).toNat:=⟨_,rfl⟩
           rw [<-hy]at q1 ez
           have b1:(1:Int)<l.length:=by omega
           by_cases h8:y=0
           ·have E:Hid (jG l op true=.error 5):=by rw [E9.out,iT ⟨rfl,.inr ⟨h7,ez.2 h8⟩⟩]<;>rfl
            have d8:((y:Int)==0)=true:=by simp [h8]
            clear ez hy h8
            exact mi
           ·have E:Hid (jG l op true=.ok ((z:Int),1+k)):=by rw [E9.out,iF (fun h=>h.2.elim (by omega) fun h=>h8 (ez.1 h.2))]<;>rfl
            have d8:((y:Int)==0)=false:=by simp;omega
            clear ez hy h8
            go_wp2_with fail
            go_ret3
            exact⟨zV E.out (by omega),0,rfl⟩
          ·have d7:decide ((k:Int)>1)=false:=by simp;omega
           have E:Hid (jG l op true=.ok ((z:Int),1+k)):=by rw [E9.out,iF (fun h=>h.2.elim (by omega) fun h=>h7 h.1)]<;>rfl
           go_wp2_with fail
           go_ret3
           exact⟨zV E.out (by omega),0,rfl⟩
def RListOut(r:Except Int Lst)(w:World)(e:Ending)(w':World):Prop:=
 match r with
 |.error er=>er≠0/\e=.returned (.tuple #[.slice none 0 0,.int .i64 0,.int .i64 0,.int .i64 er])/\Below w.heap.size w w'
 |.ok o=>∃v,e=.returned (.tuple #[v,.int .i64 (o.used:Int),.int .i64 (o.count:Int),.int .i64 0])/\NsS w' (New w w') v o.list/\Below w.heap.size w w'/\OwnN w' w.heap.size v o.list
def J9(n:Nat)(op:Bool):Prop:=∀(l:List UInt8) (v:Value) (d c:Nat) (st:Bool) (w:World),Bs w w.heap.size v l->l.length<=4096->l.length<=n->d<=9->c<=256->
 Calls Tryz.prog 79 #[v,.int .i64 d,.int .i64 c,.bool st,.bool op] w (RListOut (jh st n l d c op) w)
section
variable{w:World}{S:Nat->Prop}{bb bo n bc:Nat}{l:List UInt8}(h:BsS w S (.slice (some ⟨bb,bo,none⟩) n bc) l)
include w S bb bo n bc l h
theorem yP(g:Nat)(hg:g<=l.length){A:Option Addr}(hA:(if bc=g then some (⟨bb,bo,none⟩:Addr)else some ⟨bb,bo+g,none⟩)=A):
 BsS w S (.slice A (l.length - g) (bc - g)) (l.drop g):=by
 subst hA
 obtain⟨a,c,hv,h1,h2,h3,h4⟩:=h
 injection hv with ha hn hc
 subst ha hc hn
 refine⟨_,bc - g,by rw [List.length_drop],by rw [List.length_drop];omega,by omega,by rw [List.length_drop];omega,fun hp=> ?_⟩
 rw [List.length_drop]at hp
 obtain⟨b',off',e,hb,hcell⟩:=h4 (by omega)
 injection e with e
 injection e with e1 e2
 subst e1 e2
 rw [iF (by omega)]
 refine⟨bb,bo+g,rfl,hb,fun j hj=> ?_⟩
 rw [List.length_drop]at hj
 rw [Nat.add_assoc,hcell (g+j) (by omega)]
 congr 2
 unfold gb
 rw [List.getD_eq_getElem?_getD,List.getD_eq_getElem?_getD,List.getElem?_drop]
theorem Zt(g u:Nat)(hg:g+u<=l.length){A:Option Addr}(hA:(if bc=g then some (⟨bb,bo,none⟩:Addr)else some ⟨bb,bo+g,none⟩)=A):
 BsS w S (.slice A u (bc - g)) ((l.drop g).take u):=by
 have:=j46 h g u hg
 rw [hA,Nat.add_sub_cancel_left]at this
 have e:rst l g (g+u)=(l.drop g).take u:=by unfold rst;rw [List.take_drop]
 rwa [e]at this
theorem Yf(g:Nat)(hg:g<=l.length){A:Option Addr}{N C:Nat}(hA:g<l.length->A=some ⟨bb,bo+g,none⟩)(hN:N=l.length - g)(hC:N<=C/\C<=9223372036854775807):
 BsS w S (.slice A N C) (l.drop g):=by
 have h0:=yP h g hg rfl
 obtain⟨a,c,hv,h1,h2,h3,h4⟩:=h0
 refine⟨A,C,by rw [hN,List.length_drop],by rw [List.length_drop];omega,hC.2,h3,fun hp=> ?_⟩
 obtain⟨b,off,ha,hs,hc⟩:=h4 hp
 rw [List.length_drop]at hp
 have hbc:=h.capOf
 have hlen:=Bs.lenEq h
 rw [iF (by omega)]at hv
 injection hv with e1 _ _
 exact⟨b,off,by rw [hA (by omega),e1,ha],hs,hc⟩
theorem Qj(g u:Nat)(hg:g+u<=l.length){A:Option Addr}{N C:Nat}(hA:0<u->A=some ⟨bb,bo+g,none⟩)(hN:N=u)(hC:N<=C/\C<=9223372036854775807):
 BsS w S (.slice A N C) ((l.drop g).take u):=by
 have h0:=Zt h g u hg rfl
 have hl:((l.drop g).take u).length=u:=by rw [List.length_take,List.length_drop];omega
 obtain⟨a,c,hv,h1,h2,h3,h4⟩:=h0
 refine⟨A,C,by rw [hN,hl],by rw [hl];omega,hC.2,h3,fun hp=> ?_⟩
 obtain⟨b,off,ha,hs,hc⟩:=h4 hp
 rw [hl]at hp
 have hbc:=h.capOf
 have hlen:=Bs.lenEq h
 rw [iF (by omega)]at hv
 injection hv with e1 _ _
 exact⟨b,off,by rw [hA hp,e1,ha],hs,hc⟩
end
theorem ja{P:Program}{f:FuncId}{args:Array Value}{w:World}{n:Nat}{v:Value}(h:Calls P f args (w.drewN n) fun e w'=>e=.returned v/\∃m,w'=(w.drewN n).drewN m):Calls P f args (w.drewN n) fun e w''=>e=.returned v/\∃m,w''=w.drewN m:=
 h.mono fun _ _ ⟨he,m,hm⟩=>⟨he,n+m,by rw [hm,World.drewN_drewN]⟩
theorem j18{er:Int}:Q5 (.error er)=.tuple #[.int .i64 0,.int .i64 0,.int .i64 er]:=rfl
theorem j3m{n:Int}{k:Nat}:Q5 (.ok (n,k))=.tuple #[.int .i64 n,.int .i64 (k:Int),.int .i64 0]:=rfl
theorem RListOut.no{r:Except Int Lst}{w w':World}{er:Int}(hr:r=.error er)(ne:er≠0)(hb:Below w.heap.size w w'):RListOut r w (.returned (.tuple #[.slice none 0 0,.int .i64 0,.int .i64 0,.int .i64 er])) w':=by subst hr;exact⟨ne,rfl,hb⟩
theorem RListOut.yes{r:Except Int Lst}{w w':World}{L:Ns}{u c:Nat}{o:Value}{un cn:Int}(hr:r=.ok ⟨L,u,c⟩)(hu:un=u)(hc:cn=c)(ho:OwnN w' w.heap.size o L)(hl:L.len<=2513169434843)(hb:Below w.heap.size w w'):
 RListOut r w (.returned (.tuple #[o,.int .i64 un,.int .i64 cn,.int .i64 0])) w':=by subst hr hu hc;exact⟨_,rfl,ho.nss hl,hb,ho⟩
theorem KJ{l:List UInt8}{u:Nat}(h:l.length<=u):(l.drop u).length=0:=by rw [List.length_drop];omega
theorem Vt(l:List UInt8)(u j:Nat):gb (l.drop u) j=gb l (u+j):=by unfold gb;rw [List.getD_eq_getElem?_getD,List.getD_eq_getElem?_getD,List.getElem?_drop]
theorem jv(w:World)(n:Nat):Below w.heap.size w (w.drewN n):=j4 iB n
theorem Ju{wr w3 w4:World}{base X:Nat}{o:Value}{L k:Ns}(ho:OwnN wr base o L)(_:Below w3.heap.size w3 w4)(_:Below wr.heap.size wr w3)(hX:X<w3.heap.size)(hXr:wr.heap.size<=X)(hb:base<=wr.heap.size)(v:Value)(h:NsS w4 (New w3 w4) v k):
 NsS (w4.setCell ⟨X,2,none⟩ v) (xM base (w4.setCell ⟨X,2,none⟩ v) o) v k:=
 h.keep fun b hs hl=>⟨iO (by have:=hs.1;show b≠X;omega),by simpa [World.setCell]using hl,fun e=>by have:=(ho.lt e).2;have:=hs.1;omega,by have:=hs.1;omega⟩
theorem zZ{wr w3 w4:World}{base X:Nat}{o:Value}{L:Ns}{k:List UInt8}(ho:OwnN wr base o L)(_:Below w3.heap.size w3 w4)(_:Below wr.heap.size wr w3)(hX:X<w3.heap.size)(hXr:wr.heap.size<=X)(hb:base<=wr.heap.size)(v:Value)(h:BsS w4 (fun b=>w3.heap.size<=b/\b<w4.heap.size) v k):
 BsS (w4.setCell ⟨X,1,none⟩ v) (xM base (w4.setCell ⟨X,1,none⟩ v) o) v k:=
 h.keep fun b hs hl=>⟨iO (by have:=hs.1;show b≠X;omega),by simpa [World.setCell]using hl,fun e=>by have:=(ho.lt e).2;have:=hs.1;omega,by have:=hs.1;omega⟩
section
variable(n:Nat)(ihT:∀m,m<n->J9 m true)(ihF:∀m,m<n->J9 m false)
include n ihT ihF
theorem XP:J9 n false:=by
 intro l v d c st w hv hl4 hln hd hc
 have hlen:=hv.len
 by_cases hemp:l.length=0
 ·obtain⟨va,bc,rfl⟩:=hv.form2
  have E2:Hid (jh st n l d c false=.ok ⟨.nil,0,c⟩):=kx (by unfold kj;rw [iF (by decide),iT hemp])
  have e0:l= []:=List.eq_nil_of_length_eq_zero hemp
  clear hv hlen hemp
  subst e0
  simp only [List.length_nil]
  go_enter Tryz.func79,Tryz.ntmps79
  go_wp2_with fail
  refine wp_loop_rounds 1 ?_
  rw [rounds_succ]
  go_wp2_with fail
  exact bodyPost_ret (v:=.tuple #[.slice none 0 0,.int .i64 0,.int .i64 (c:Int),.int .i64 0]) (by simp [results,Tryz.results79,go_sem]) rfl (RListOut.yes E2.out rfl rfl (OwnN.nil _ _) (Nat.zero_le _) iB)
 ·obtain⟨va,bc,rfl⟩:=hv.form2
  obtain⟨bb,bo,rfl⟩:=Qa hv (by omega)
  have hbc:=hv.capOf
  have HV:=iH hv
  clear hv hemp
  go_enter Tryz.func79,Tryz.ntmps79
  go_wp2_with fail
  go_loopg [2,14,15] n (fun m cs o at_ wr=>∃(L:Ns) (u cc:Nat),Hid (jh st n l d c false=yY L u (jh st m (l.drop u) d cc false))/\at_=.int .i64 u/\cs=.int .i64 cc/\OwnN wr w.heap.size o L/\Below w.heap.size w wr/\
   u<=l.length/\l.length - u<=m/\m<=n/\cc<=256/\L.len<=u)
  case atStart=>exact⟨.nil,0,c,by rw [Jw]<;>rfl,rfl,rfl,OwnN.nil _ _,Below.refl _ _,by omega,by omega,Nat.le_refl _,hc,Nat.le_refl _⟩
  case round=>
   obtain⟨L,u,cc,E,rfl,rfl,hown,hbel,hu1,hu2,hm,hcc,hLl⟩:=hrel
   obtain⟨oa,oc,rfl⟩:=hown.form
   have Hown:=iH hown;have Hbel:=iH hbel
   clear hown hbel
   by_cases hlt:u<l.length
   ·obtain⟨m,rfl⟩:∃m,gk=m+1:=⟨gk - 1,by omega⟩
    have hh:kj (l.drop u) false=none:=by unfold kj;rw [iF (by decide),iF (by rw [List.length_drop];omega)]
    have ihT:=ihT m (by omega);have ihF:=ihF m (by omega)
    have b0:(u:Int)<=l.length:=by omega
    have b4:(u:Int)<bc:=by omega
    have HT:=fun(w1:World) (hb:Below w.heap.size w w1)=>iH (QI (l.drop u) _ (·<w.heap.size) w1 (yP (HV.out.below hb) u (by omega) (A:=some ⟨bb,bo+u,none⟩) (by rw [iF (by omega)])))
    cases ht:qg (l.drop u)with
    |error er=>
     have E2:Hid (jh st n l d c false=.error er):=by rw [E.out,jJ hh (by show yL _ _ _ _ _=_;unfold yL;rw [ht])]<;>rfl
     exact m16
    |ok x=>
     obtain⟨t,k⟩:=x
     obtain⟨tv,k1,k2⟩:=zU ht
     rw [List.length_drop]at k2
     have hin:=Kp tv
     obtain⟨tc,htc⟩:∃tc,tc=jY t:=⟨_,rfl⟩
     have HC:=iH (fun w=>yw t hin w)
     rw [<-htc]at HC
     simp only [ht,j3m]at HT
     obtain⟨A1,hA1⟩:∃A,(if bc=u+k then some (⟨bb,bo,none⟩:Addr)else some ⟨bb,bo+(u+k),none⟩)=A:=⟨_,rfl⟩
     have CUT1:=iH (fun(w1:World) (hb:Below w.heap.size w w1)=>yP (HV.out.below hb) (u+k) (by omega) hA1)
     have HS:=fun(w1:World) (hb:Below w.heap.size w w1)=>iH (XT (l.drop (u+k)) _ (·<w.heap.size) tc st w1 (CUT1.out w1 hb))
     have HI:=iH hin;have TC:=iH htc
     have HT2:=iH ht
     have b1:(0:Int)<=(u:Int)+k:=by omega
     have b2:(u:Int)+k<=l.length:=by omega
     have b3:(u:Int)+k<=bc:=by omega
     clear tv hin htc ht
     cases hs:jG (l.drop (u+k)) (tc&& !st) st with
     |error er=>
      have ho:kP st m (l.drop u) d cc=.error er:=Xz HT2.out (by rw [List.drop_drop,<-TC.out];exact hs)
      have E2:Hid (jh st n l d c false=.error er):=by rw [E.out,jJ hh ho]<;>rfl
      exact m0l
     |ok y=>
      obtain⟨z,j⟩:=y
      obtain⟨j1,j2,m1,m2⟩:=xF hs
      rw [List.length_drop]at j2
      have hs':jG ((l.drop u).drop k) (jY t&& !st) st=.ok (z,j):=by rw [List.drop_drop,<-TC.out];exact hs
      have HS2:=iH hs'
      simp only [hs,j3m]at HS
      clear hs hs'
      obtain rfl:some (⟨bb,bo+(u+k),none⟩:Addr)=A1:=by rw [<-hA1,iF (by omega)]
      clear hA1
      by_cases h8:8<d
      ·have E2:Hid (jh st n l d c false=.error 7):=by rw [E.out,jJ hh (XA HT2.out HS2.out h8)]<;>rfl
       exact m0p
      ·by_cases h9:256<cc+1
       ·have E2:Hid (jh st n l d c false=.error 2):=by rw [E.out,jJ hh (XB HT2.out HS2.out h8 h9)]<;>rfl
        exact m0q
       ·by_cases h10:(l.length:Int) - ((u+k+j:Nat):Int)<z
        ·have E2:Hid (jh st n l d c false=.error 6):=by rw [E.out,jJ hh (XC HT2.out HS2.out h8 h9 (by rw [List.drop_drop,List.length_drop];omega))]<;>rfl
         exact m0n
        ·have h3':¬(((l.drop u).drop (k+j)).length:Int)<z:=by rw [List.drop_drop,List.length_drop];omega
         have H3:=iH h3';clear h3'
         have h11:z<=(l.length:Int) - ((u:Int)+k+j):=by omega
         clear h10
         obtain⟨A2,hA2⟩:∃A,(if bc=u+k+j then some (⟨bb,bo,none⟩:Addr)else some ⟨bb,bo+(u+k+j),none⟩)=A:=⟨_,rfl⟩
         have hA3:(A2=some ⟨bb,bo+(u+k+j),none⟩/\u+k+j<bc)\/(A2=some ⟨bb,bo,none⟩/\bc<=u+k+j):=by
          exact m2n
         have hj2:u+k+j<=l.length:=by omega
         have hm2:l.length<=u+m+1:=by omega
         have hz1:=iH (show z= -1\/0<=z from m2.elim .inr fun h=>.inl h.1)
         have hkj:2<=k+j:=by omega
         have HA3:=iH hA3;clear hA3
         clear k2 j2 m1 m2 hu2 hu1 hlt hln
         by_cases hz0:z<0
         ·skip
          have hpl:(l.drop (u+k+j)).length<=m:=by rw [List.length_drop];omega
          have hp4:(l.drop (u+k+j)).length<=4096:=by rw [List.length_drop];omega
          have HF:=fun(w3:World) (hb:Below w.heap.size w w3) (A:Option Addr) (N C:Nat) (h:BsS w3 (·<w.heap.size) (.slice A N C) (l.drop (u+k+j)))=>iH (show Calls Tryz.prog 79 #[.slice A N C,.int .i64 ((d:Int)+1),.int .i64 ((cc:Int)+1),.bool st,.bool true] w3 (RListOut (jh st m (l.drop (u+k+j)) (d+1) (cc+1) true) w3) from
           ihT (l.drop (u+k+j)) _ (d+1) (cc+1) st w3 (h.keep fun b hs _=>⟨rfl,iZ hs hb.size⟩) hp4 hpl (by omega) (by omega))
          have hl0:=jP st m (l.drop (u+k+j)) (d+1) (cc+1) true (by omega)
          clear hpl hp4
          cases hl:jh st m (l.drop (u+k+j)) (d+1) (cc+1) true with
          |error er=>
           have ho:kP st m (l.drop u) d cc=.error er:=VY HT2.out HS2.out h8 h9 (by have:=H3.out;omega) hz0 (by rw [List.drop_drop,<-Nat.add_assoc];exact hl)
           have E2:Hid (jh st n l d c false=.error er):=by rw [E.out,jJ hh ho]<;>rfl
           exact m0d
          |ok r=>
           have ho:kP st m (l.drop u) d cc=.ok ⟨t,[],r.list,k+j+r.used,r.count⟩:=j2r HT2.out HS2.out h8 h9 (by have:=H3.out;omega) hz0 (by rw [List.drop_drop,<-Nat.add_assoc];exact hl)
           obtain⟨u1,u2,u3⟩:=hl0.1 r hl
           have u5:u+k+j+r.used<=l.length:=by rw [List.length_drop]at u1;omega
           clear u1
           have E2:Hid (jh st n l d c false=yY (L.app (.cons t [] r.list .nil)) (u+(k+j+r.used)) (jh st m (l.drop (u+(k+j+r.used))) d r.count false)):=by
            exact mq
           rw [hl]at HF
           clear hl hl0 hh E ho u3 hA2
           go_upto_region 14 with (go_at_call 102;refine(HT _ Hbel.out).out.mono ?_;rintro e1 w' ⟨rfl,n1,rfl⟩)
           have HB1:=iH (j4 Hbel.out n1)
           obtain⟨w1,hw1⟩:∃w1,w1=wr.drewN n1:=⟨_,rfl⟩
           have HD1:=iH (jv wr n1)
           rw [<-hw1]at HB1 HD1 |-
           clear hw1
           refine wp_region_quiet_lit (by kernel_rfl) (by kernel_rfl) ?_
           iterate 3 (first|go_big_quiet_step (fail)|quiet_step (fail))
           (try rw [hA1])
           repeat(first|go_big_quiet_step ((first|(go_at_call 95;exact Calls.quiet_of_same (HC.out _))|(go_at_call 103;exact ja (HS _ (j4 HB1.out _)).out)))|quiet_step ((first|(go_at_call 95;exact Calls.quiet_of_same (HC.out _))|(go_at_call 103;exact ja (HS _ (j4 HB1.out _)).out))))
           refine wpQuiet_nil ?_
           intro w2 hqq
           obtain⟨nq,hqr⟩:=hqq
           have HB2:=iH (j4 HB1.out nq)
           have HD2:=iH (j4 HD1.out nq)
           rw [<-hqr]at HB2 HD2
           clear hqr
           have HW:=iH HD2.out
           go_upto_region 28 with (go_at_call 95;refine(HC.out _).mono ?_;rintro e w' ⟨rfl,rfl⟩)
           have hsz3:=iH HW.out.size
           obtain⟨w3,hw3⟩:∃w3,w3=w2.alloc (.cells #[.int .i64 t,.slice none 0 0,.slice none 0 0] 61):=⟨_,rfl⟩
           obtain⟨X,hX⟩:∃X,X=w2.heap.size:=⟨_,rfl⟩
           have X3:Hid (w3.heap[X]?=some (.cells #[.int .i64 t,.slice none 0 0,.slice none 0 0] 61 (0,0))):=by rw [hw3,hX];exact heap_alloc_new w2 _
           have HW3:Hid (Below wr.heap.size wr w3):=by rw [hw3];exact HW.out.alloc HW.out.size _
           have HB3:Hid (Below w.heap.size w w3):=by rw [hw3];exact HB2.out.alloc HB2.out.size _
           have hXr:wr.heap.size<=X:=by rw [hX];exact HD2.out.size
           have hXw:w.heap.size<=X:=Nat.le_trans Hbel.out.size hXr
           have hX3:X<w3.heap.size:=(iG X3.out)
           rw [<-hw3,<-hX]
           clear hw3 hX hsz3
           obtain⟨x0,x1,x2,xf⟩:=jO X3.out
           have xf1:=xf 2
           clear xf
           rcases HA3.out with ⟨rfl,hb5⟩|⟨rfl,hb5⟩
           rotate_left
           obtain rfl:bc=u+k+j:=by omega
           clear hb5
           all_goals
            go_wp2_with(first
             |(go_at_call 79;refine(HF _ HB3.out _ _ _ (Yf (HV.out.below HB3.out) (u+k+j) hj2 (fun h=>by first|rfl|omega) (by omega) ⟨by omega,by omega⟩)).out.mono ?_;intro e4 w4 h4;obtain⟨v4,rfl,hv4,hb4,_⟩:=h4;obtain⟨va,vc,rfl⟩:=NsS.form2 hv4;have X4:=iH ((hb4.block _ (iG X3.out)).trans X3.out);have Hb4:=iH hb4;have Hv4:=iH hv4;clear hb4 hv4 x0 x1 x2 xf1;obtain⟨x0,x1,x2,xf⟩:=jO X4.out;have xf1:=xf 2;clear xf;have HWW:=iH (show Below wr.heap.size wr (w4.setCell ⟨X,2,none⟩ (.slice va r.list.len vc)) from(HW3.out.trans (Hb4.out.mono HW3.out.size)).setCell hXr _);have HN:=iH (Ju Hown.out Hb4.out HW3.out hX3 hXr Hbel.out.size (.slice va r.list.len vc) Hv4.out))
             |(at_builtin;(with_reducible refine jz rfl (.tmp 164) (.tmp 166) rfl w.heap.size (.slice oa L.len oc) L rfl (Hown.out.below HWW.out) t [] r.list (.slice none 0 0) (.slice va r.list.len vc) _ w4.heap.size rfl (by simp [World.setCell]) HI.out (BsS.nil0 _ _) HN.out (by omega) (Nat.le_trans Hbel.out.size HWW.out.size) ?_);intro o2 w2 hg2;have G2:=iH hg2;clear hg2))
            go_roundg m
            case measure=>omega
            case rel=>exact⟨L.app (.cons t [] r.list .nil),u+(k+j+r.used),r.count,E2.out,by go_num,by go_num,G2.out.1,(Hbel.out.trans (HWW.out.mono Hbel.out.size)).trans G2.out.2.1,by omega,by omega,by omega,u2,by rw [Ns.len_snoc];omega⟩
         ·obtain⟨q,rfl⟩:=Int.eq_ofNat_of_zero_le (show 0<=z by omega)
          have hq:u+k+j+q<=l.length:=by omega
          clear hz1 h11 hz0
          cases tc with
          |true=>
           have hpl:((l.drop (u+k+j)).take q).length<=m:=by rw [List.length_take,List.length_drop];omega
           have hp4:((l.drop (u+k+j)).take q).length<=4096:=by rw [List.length_take,List.length_drop];omega
           have HF:=fun(w3:World) (hb:Below w.heap.size w w3) (A:Option Addr) (N C:Nat) (h:BsS w3 (·<w.heap.size) (.slice A N C) ((l.drop (u+k+j)).take q))=>iH (show Calls Tryz.prog 79 #[.slice A N C,.int .i64 ((d:Int)+1),.int .i64 ((cc:Int)+1),.bool st,.bool false] w3 (RListOut (jh st m ((l.drop (u+k+j)).take q) (d+1) (cc+1) false) w3) from
            ihF ((l.drop (u+k+j)).take q) _ (d+1) (cc+1) st w3 (h.keep fun b hs _=>⟨rfl,iZ hs hb.size⟩) hp4 hpl (by omega) (by omega))
           have hl0:=jP st m ((l.drop (u+k+j)).take q) (d+1) (cc+1) false (by omega)
           clear hpl hp4
           cases hl:jh st m ((l.drop (u+k+j)).take q) (d+1) (cc+1) false with
           |error er=>
            have ho:kP st m (l.drop u) d cc=.error er:=Yv HT2.out HS2.out h8 h9 (by have:=H3.out;omega) (by omega) (TC.out.symm.trans rfl) (by rw [List.drop_drop,<-Nat.add_assoc,Int.toNat_natCast];exact hl)
            have E2:Hid (jh st n l d c false=.error er):=by rw [E.out,jJ hh ho]<;>rfl
            exact m0c
           |ok r=>
            have ho:kP st m (l.drop u) d cc=.ok ⟨t,[],r.list,k+j+q,r.count⟩:=Ut HT2.out HS2.out h8 h9 (by have:=H3.out;omega) (by omega) (TC.out.symm.trans rfl) (by rw [List.drop_drop,<-Nat.add_assoc,Int.toNat_natCast];exact hl)
            obtain⟨u1,u2,u3⟩:=hl0.1 r hl
            have u4:=u3 rfl
            rw [List.length_take,List.length_drop,Nat.min_eq_left (by omega)]at u4
            clear u1
            have E2:Hid (jh st n l d c false=yY (L.app (.cons t [] r.list .nil)) (u+(k+j+q)) (jh st m (l.drop (u+(k+j+q))) d r.count false)):=by
             exact mq
            exact m0a
          |false=>
           have CUT2:=iH (fun(w1:World) (hb:Below w.heap.size w w1)=>Zt (HV.out.below hb) (u+k+j) q (by omega) hA2)
           have ho:kP st m (l.drop u) d cc=.ok ⟨t,(l.drop (u+k+j)).take q,.nil,k+j+q,cc+1⟩:=by
            exact m2l
           have E2:Hid (jh st n l d c false=yY (L.app (.cons t ((l.drop (u+k+j)).take q) .nil .nil)) (u+(k+j+q)) (jh st m (l.drop (u+(k+j+q))) d (cc+1) false)):=by
            exact mq
           exact m08
   ·have E2:Hid (jh st n l d c false=.ok ⟨L,u+0,cc⟩):=by
     rw [E.out,kx (u:=0) (by unfold kj;rw [iF (by decide),iT (KJ (by omega))]),yt]<;>rfl
    clear E
    go_wp2_with fail
    exact bodyPost_ret (v:=.tuple #[.slice oa L.len oc,.int .i64 (u:Int),.int .i64 (cc:Int),.int .i64 0]) (by simp [results,Tryz.results79,go_sem]) rfl (RListOut.yes E2.out rfl rfl Hown.out (by omega) Hbel.out)
theorem UE:J9 n true:=by
 intro l v d c st w hv hl4 hln hd hc
 have hlen:=hv.len
 by_cases hemp:l.length=0
 ·obtain⟨va,bc,rfl⟩:=hv.form2
  have E2:Hid (jh st n l d c true=.error 6):=xV (by unfold kj;rw [iT rfl,iT (.inl hemp)])
  have e0:l= []:=List.eq_nil_of_length_eq_zero hemp
  clear hv hlen hemp
  subst e0
  simp only [List.length_nil]
  go_enter Tryz.func79,Tryz.ntmps79
  go_wp2_with fail
  refine wp_loop_rounds 1 ?_
  rw [rounds_succ]
  go_wp2_with fail
  exact bodyPost_ret (v:=.tuple #[.slice none 0 0,.int .i64 0,.int .i64 0,.int .i64 6]) (by simp [results,Tryz.results79,go_sem]) rfl (RListOut.no E2.out (by decide) iB)
 ·obtain⟨va,bc,rfl⟩:=hv.form2
  obtain⟨bb,bo,rfl⟩:=Qa hv (by omega)
  have hbc:=hv.capOf
  have HV:=iH hv
  clear hv hemp
  go_enter Tryz.func79,Tryz.ntmps79
  go_wp2_with fail
  go_loopg [2,14,15] n (fun m cs o at_ wr=>∃(L:Ns) (u cc:Nat),Hid (jh st n l d c true=yY L u (jh st m (l.drop u) d cc true))/\at_=.int .i64 u/\cs=.int .i64 cc/\OwnN wr w.heap.size o L/\Below w.heap.size w wr/\
   u<=l.length/\l.length - u<=m/\m<=n/\cc<=256/\L.len<=u)
  case atStart=>exact⟨.nil,0,c,by rw [Jw]<;>rfl,rfl,rfl,OwnN.nil _ _,Below.refl _ _,by omega,by omega,Nat.le_refl _,hc,Nat.le_refl _⟩
  case round=>
   obtain⟨L,u,cc,E,rfl,rfl,hown,hbel,hu1,hu2,hm,hcc,hLl⟩:=hrel
   obtain⟨oa,oc,rfl⟩:=hown.form
   have Hown:=iH hown;have Hbel:=iH hbel
   clear hown hbel
   by_cases h0:u=l.length
   ·have E2:Hid (jh st n l d c true=.error 6):=by
     rw [E.out,xV (e:=6) (by unfold kj;rw [iT rfl,iT (.inl (KJ (by omega)))])]<;>rfl
    have d0:decide ((u:Int)>=l.length)=true:=by simp;omega
    clear E
    go_wp2_with fail
    exact bodyPost_ret (v:=.tuple #[.slice none 0 0,.int .i64 0,.int .i64 0,.int .i64 6]) (by simp [results,Tryz.results79,go_sem]) rfl (RListOut.no E2.out (by decide) Hbel.out)
   ·have hlt:u<l.length:=by omega
    have q1:=(HV.out.below Hbel.out).cellAt rfl hlt
    have g0:gb (l.drop u) 0=gb l u:=Vt l u 0
    obtain⟨x0,hx⟩:∃x0:Nat,x0=(gb l u).toNat:=⟨_,rfl⟩
    have ex:bv (gb l u)=x0:=by rw [hx]<;>rfl
    have ez:gb l u=0↔x0=0:=by rw [hx];exact⟨fun h=>by rw [h]<;>rfl,fun h=>UInt8.toNat_inj.1 h⟩
    change wr.cell? _=some (.int .u8 (bv (gb l u)))at q1
    rw [ex]at q1
    have d0:decide ((u:Int)>=l.length)=false:=by simp;omega
    have b5:(u:Int)<l.length:=by omega
    have hdl:(l.drop u).length=l.length - u:=List.length_drop
    clear hx ex
    by_cases hx0:x0=0
    ·have g0':gb (l.drop u) 0=0:=g0.trans (ez.2 hx0)
     subst hx0
     by_cases h1:u+1=l.length
     ·have E2:Hid (jh st n l d c true=.error 6):=by
       rw [E.out,xV (e:=6) (by unfold kj;rw [iT rfl,iT (.inr ⟨g0',by omega⟩)])]<;>rfl
      have d1:decide ((u:Int)+1>=l.length)=true:=by simp;omega
      clear E g0 g0' ez h0 h1 hdl
      go_wp2_with fail
      exact bodyPost_ret (v:=.tuple #[.slice none 0 0,.int .i64 0,.int .i64 0,.int .i64 6]) (by simp [results,Tryz.results79,go_sem]) rfl (RListOut.no E2.out (by decide) Hbel.out)
     ·have hl2:u+1<l.length:=by omega
      have d1:decide ((u:Int)+1>=l.length)=false:=by simp;omega
      have q2:=(HV.out.below Hbel.out).cellAt rfl hl2
      have g1:gb (l.drop u) 1=gb l (u+1):=Vt l u 1
      obtain⟨y,hy⟩:∃y:Nat,y=(gb l (u+1)).toNat:=⟨_,rfl⟩
      have ey:bv (gb l (u+1))=y:=by rw [hy]<;>rfl
      have ew:gb l (u+1)=0↔y=0:=by rw [hy];exact⟨fun h=>by rw [h]<;>rfl,fun h=>UInt8.toNat_inj.1 h⟩
      change wr.cell? _=some (.int .u8 (bv (gb l (u+1))))at q2
      rw [ey]at q2
      have b6:(0:Int)<=(u:Int)+1:=by omega
      have b7:(u:Int)+1<l.length:=by omega
      have hn1:¬((l.drop u).length=0\/(gb (l.drop u) 0=0/\(l.drop u).length=1)):=by omega
      clear hy ey
      by_cases hy0:y=0
      ·have g1':=g1.trans (ew.2 hy0)
       subst hy0
       have E2:Hid (jh st n l d c true=.ok ⟨L,u+2,cc⟩):=by
        exact m3u
       clear E g0 g0' g1 g1' ez ew hn1 h0 h1 hdl
       go_wp2_with fail
       exact bodyPost_ret (v:=.tuple #[.slice oa L.len oc,.int .i64 ((u:Int)+2),.int .i64 (cc:Int),.int .i64 0]) (by simp [results,Tryz.results79,go_sem]) rfl (RListOut.yes E2.out (by omega) rfl Hown.out (by omega) Hbel.out)
      ·obtain⟨m,rfl⟩:∃m,gk=m+1:=⟨gk - 1,by omega⟩
       have hh:kj (l.drop u) true=none:=by unfold kj;rw [iT rfl,iF hn1,iF (fun h=>hy0 (ew.1 (g1.symm.trans h.2)))]
       have y0:((y:Int)==0)=false:=by simp;omega
       have ht:qg (l.drop u)=.error 4:=by
        have e0:bv (gb (l.drop u) 0)=0:=by rw [g0']<;>rfl
        unfold qg;rw [iF (by omega),e0,iF (by decide),iF (by decide)]
       have HT:=fun(w1:World) (hb:Below w.heap.size w w1)=>iH (QI (l.drop u) _ (·<w.heap.size) w1 (yP (HV.out.below hb) u (by omega) (A:=some ⟨bb,bo+u,none⟩) (by rw [iF (by omega)])))
       have E2:Hid (jh st n l d c true=.error 4):=by rw [E.out,jJ hh (by show yL _ _ _ _ _=_;unfold yL;rw [ht])]<;>rfl
       simp only [ht,j18]at HT
       have b8:(u:Int)<=l.length:=by omega
       have b9:(u:Int)<bc:=by omega
       clear g0 g0' g1 ez ew hn1 h0 h1 hy0 hdl hh ht E
       go_wp2_with(go_at_call 102;refine(HT _ Hbel.out).out.mono ?_;rintro e1 w' ⟨rfl,n1,rfl⟩)
       refine bodyPost_ret (v:=.tuple #[.slice none 0 0,.int .i64 0,.int .i64 0,.int .i64 4]) (by simp [results,Tryz.results79,go_sem]) rfl (RListOut.no E2.out (by decide) (j4 Hbel.out n1))
    ·obtain⟨m,rfl⟩:∃m,gk=m+1:=⟨gk - 1,by omega⟩
     have hne:¬gb (l.drop u) 0=0:=fun h=>hx0 (ez.1 (g0.symm.trans h))
     have hh:kj (l.drop u) true=none:=by
      unfold kj;rw [iT rfl,iF (fun h=>h.elim (fun h=>by omega) fun h=>hne h.1),iF (fun h=>hne h.1)]
     have y0:((x0:Int)==0)=false:=by simp;omega
     have ihT:=ihT m (by omega);have ihF:=ihF m (by omega)
     have b0:(u:Int)<=l.length:=by omega
     have b4:(u:Int)<bc:=by omega
     clear g0 ez h0 hx0 hne hdl
     have HT:=fun(w1:World) (hb:Below w.heap.size w w1)=>iH (QI (l.drop u) _ (·<w.heap.size) w1 (yP (HV.out.below hb) u (by omega) (A:=some ⟨bb,bo+u,none⟩) (by rw [iF (by omega)])))
     cases ht:qg (l.drop u)with
     |error er=>
      have E2:Hid (jh st n l d c true=.error er):=by rw [E.out,jJ hh (by show yL _ _ _ _ _=_;unfold yL;rw [ht])]<;>rfl
      exact m16
     |ok x=>
      obtain⟨t,k⟩:=x
      obtain⟨tv,k1,k2⟩:=zU ht
      rw [List.length_drop]at k2
      have hin:=Kp tv
      obtain⟨tc,htc⟩:∃tc,tc=jY t:=⟨_,rfl⟩
      have HC:=iH (fun w=>yw t hin w)
      rw [<-htc]at HC
      simp only [ht,j3m]at HT
      obtain⟨A1,hA1⟩:∃A,(if bc=u+k then some (⟨bb,bo,none⟩:Addr)else some ⟨bb,bo+(u+k),none⟩)=A:=⟨_,rfl⟩
      have CUT1:=iH (fun(w1:World) (hb:Below w.heap.size w w1)=>yP (HV.out.below hb) (u+k) (by omega) hA1)
      have HS:=fun(w1:World) (hb:Below w.heap.size w w1)=>iH (XT (l.drop (u+k)) _ (·<w.heap.size) tc st w1 (CUT1.out w1 hb))
      have HI:=iH hin;have TC:=iH htc
      have HT2:=iH ht
      have b1:(0:Int)<=(u:Int)+k:=by omega
      have b2:(u:Int)+k<=l.length:=by omega
      have b3:(u:Int)+k<=bc:=by omega
      clear tv hin htc ht
      cases hs:jG (l.drop (u+k)) (tc&& !st) st with
      |error er=>
       have ho:kP st m (l.drop u) d cc=.error er:=Xz HT2.out (by rw [List.drop_drop,<-TC.out];exact hs)
       have E2:Hid (jh st n l d c true=.error er):=by rw [E.out,jJ hh ho]<;>rfl
       exact m0l
      |ok y=>
       obtain⟨z,j⟩:=y
       obtain⟨j1,j2,m1,m2⟩:=xF hs
       rw [List.length_drop]at j2
       have hs':jG ((l.drop u).drop k) (jY t&& !st) st=.ok (z,j):=by rw [List.drop_drop,<-TC.out];exact hs
       have HS2:=iH hs'
       simp only [hs,j3m]at HS
       clear hs hs'
       obtain rfl:some (⟨bb,bo+(u+k),none⟩:Addr)=A1:=by rw [<-hA1,iF (by omega)]
       clear hA1
       by_cases h8:8<d
       ·have E2:Hid (jh st n l d c true=.error 7):=by rw [E.out,jJ hh (XA HT2.out HS2.out h8)]<;>rfl
        exact m0p
       ·by_cases h9:256<cc+1
        ·have E2:Hid (jh st n l d c true=.error 2):=by rw [E.out,jJ hh (XB HT2.out HS2.out h8 h9)]<;>rfl
         exact m0q
        ·by_cases h10:(l.length:Int) - ((u+k+j:Nat):Int)<z
         ·have E2:Hid (jh st n l d c true=.error 6):=by rw [E.out,jJ hh (XC HT2.out HS2.out h8 h9 (by rw [List.drop_drop,List.length_drop];omega))]<;>rfl
          exact m0n
         ·have h3':¬(((l.drop u).drop (k+j)).length:Int)<z:=by rw [List.drop_drop,List.length_drop];omega
          have H3:=iH h3';clear h3'
          have h11:z<=(l.length:Int) - ((u:Int)+k+j):=by omega
          clear h10
          obtain⟨A2,hA2⟩:∃A,(if bc=u+k+j then some (⟨bb,bo,none⟩:Addr)else some ⟨bb,bo+(u+k+j),none⟩)=A:=⟨_,rfl⟩
          have hA3:(A2=some ⟨bb,bo+(u+k+j),none⟩/\u+k+j<bc)\/(A2=some ⟨bb,bo,none⟩/\bc<=u+k+j):=by
           exact m2n
          have hj2:u+k+j<=l.length:=by omega
          have hm2:l.length<=u+m+1:=by omega
          have hz1:=iH (show z= -1\/0<=z from m2.elim .inr fun h=>.inl h.1)
          have hkj:2<=k+j:=by omega
          have HA3:=iH hA3;clear hA3
          clear k2 j2 m1 m2 hu2 hlt hln
          by_cases hz0:z<0
          ·skip
           have hpl:(l.drop (u+k+j)).length<=m:=by rw [List.length_drop];omega
           have hp4:(l.drop (u+k+j)).length<=4096:=by rw [List.length_drop];omega
           have HF:=fun(w3:World) (hb:Below w.heap.size w w3) (A:Option Addr) (N C:Nat) (h:BsS w3 (·<w.heap.size) (.slice A N C) (l.drop (u+k+j)))=>iH (show Calls Tryz.prog 79 #[.slice A N C,.int .i64 ((d:Int)+1),.int .i64 ((cc:Int)+1),.bool st,.bool true] w3 (RListOut (jh st m (l.drop (u+k+j)) (d+1) (cc+1) true) w3) from
            ihT (l.drop (u+k+j)) _ (d+1) (cc+1) st w3 (h.keep fun b hs _=>⟨rfl,iZ hs hb.size⟩) hp4 hpl (by omega) (by omega))
           have hl0:=jP st m (l.drop (u+k+j)) (d+1) (cc+1) true (by omega)
           clear hpl hp4
           cases hl:jh st m (l.drop (u+k+j)) (d+1) (cc+1) true with
           |error er=>
            have ho:kP st m (l.drop u) d cc=.error er:=VY HT2.out HS2.out h8 h9 (by have:=H3.out;omega) hz0 (by rw [List.drop_drop,<-Nat.add_assoc];exact hl)
            have E2:Hid (jh st n l d c true=.error er):=by rw [E.out,jJ hh ho]<;>rfl
            exact m0d
           |ok r=>
            have ho:kP st m (l.drop u) d cc=.ok ⟨t,[],r.list,k+j+r.used,r.count⟩:=j2r HT2.out HS2.out h8 h9 (by have:=H3.out;omega) hz0 (by rw [List.drop_drop,<-Nat.add_assoc];exact hl)
            obtain⟨u1,u2,u3⟩:=hl0.1 r hl
            have u5:u+k+j+r.used<=l.length:=by rw [List.length_drop]at u1;omega
            clear u1
            have E2:Hid (jh st n l d c true=yY (L.app (.cons t [] r.list .nil)) (u+(k+j+r.used)) (jh st m (l.drop (u+(k+j+r.used))) d r.count true)):=by
             exact mq
            rw [hl]at HF
            clear hl hl0 hh E ho u3 hA2
            go_upto_region 14 with (go_at_call 102;refine(HT _ Hbel.out).out.mono ?_;rintro e1 w' ⟨rfl,n1,rfl⟩)
            have HB1:=iH (j4 Hbel.out n1)
            obtain⟨w1,hw1⟩:∃w1,w1=wr.drewN n1:=⟨_,rfl⟩
            have HD1:=iH (jv wr n1)
            rw [<-hw1]at HB1 HD1 |-
            clear hw1
            refine wp_region_quiet_lit (by kernel_rfl) (by kernel_rfl) ?_
            iterate 3 (first|go_big_quiet_step (fail)|quiet_step (fail))
            (try rw [hA1])
            repeat(first|go_big_quiet_step ((first|(go_at_call 95;exact Calls.quiet_of_same (HC.out _))|(go_at_call 103;exact ja (HS _ (j4 HB1.out _)).out)))|quiet_step ((first|(go_at_call 95;exact Calls.quiet_of_same (HC.out _))|(go_at_call 103;exact ja (HS _ (j4 HB1.out _)).out))))
            refine wpQuiet_nil ?_
            intro w2 hqq
            obtain⟨nq,hqr⟩:=hqq
            have HB2:=iH (j4 HB1.out nq)
            have HD2:=iH (j4 HD1.out nq)
            rw [<-hqr]at HB2 HD2
            clear hqr
            have HW:=iH HD2.out
            go_upto_region 28 with (go_at_call 95;refine(HC.out _).mono ?_;rintro e w' ⟨rfl,rfl⟩)
            have hsz3:=iH HW.out.size
            obtain⟨w3,hw3⟩:∃w3,w3=w2.alloc (.cells #[.int .i64 t,.slice none 0 0,.slice none 0 0] 61):=⟨_,rfl⟩
            obtain⟨X,hX⟩:∃X,X=w2.heap.size:=⟨_,rfl⟩
            have X3:Hid (w3.heap[X]?=some (.cells #[.int .i64 t,.slice none 0 0,.slice none 0 0] 61 (0,0))):=by rw [hw3,hX];exact heap_alloc_new w2 _
            have HW3:Hid (Below wr.heap.size wr w3):=by rw [hw3];exact HW.out.alloc HW.out.size _
            have HB3:Hid (Below w.heap.size w w3):=by rw [hw3];exact HB2.out.alloc HB2.out.size _
            have hXr:wr.heap.size<=X:=by rw [hX];exact HD2.out.size
            have hXw:w.heap.size<=X:=Nat.le_trans Hbel.out.size hXr
            have hX3:X<w3.heap.size:=(iG X3.out)
            rw [<-hw3,<-hX]
            clear hw3 hX hsz3
            obtain⟨x0,x1,x2,xf⟩:=jO X3.out
            have xf1:=xf 2
            clear xf
            rcases HA3.out with ⟨rfl,hb5⟩|⟨rfl,hb5⟩
            rotate_left
            obtain rfl:bc=u+k+j:=by omega
            clear hb5
            all_goals
             go_wp2_with(first
              |(go_at_call 79;refine(HF _ HB3.out _ _ _ (Yf (HV.out.below HB3.out) (u+k+j) hj2 (fun h=>by first|rfl|omega) (by omega) ⟨by omega,by omega⟩)).out.mono ?_;intro e4 w4 h4;obtain⟨v4,rfl,hv4,hb4,_⟩:=h4;obtain⟨va,vc,rfl⟩:=NsS.form2 hv4;have X4:=iH ((hb4.block _ (iG X3.out)).trans X3.out);have Hb4:=iH hb4;have Hv4:=iH hv4;clear hb4 hv4 x0 x1 x2 xf1;obtain⟨x0,x1,x2,xf⟩:=jO X4.out;have xf1:=xf 2;clear xf;have HWW:=iH (show Below wr.heap.size wr (w4.setCell ⟨X,2,none⟩ (.slice va r.list.len vc)) from(HW3.out.trans (Hb4.out.mono HW3.out.size)).setCell hXr _);have HN:=iH (Ju Hown.out Hb4.out HW3.out hX3 hXr Hbel.out.size (.slice va r.list.len vc) Hv4.out))
              |(at_builtin;(with_reducible refine jz rfl (.tmp 164) (.tmp 166) rfl w.heap.size (.slice oa L.len oc) L rfl (Hown.out.below HWW.out) t [] r.list (.slice none 0 0) (.slice va r.list.len vc) _ w4.heap.size rfl (by simp [World.setCell]) HI.out (BsS.nil0 _ _) HN.out (by omega) (Nat.le_trans Hbel.out.size HWW.out.size) ?_);intro o2 w2 hg2;have G2:=iH hg2;clear hg2))
             go_roundg m
             case measure=>omega
             case rel=>exact⟨L.app (.cons t [] r.list .nil),u+(k+j+r.used),r.count,E2.out,by go_num,by go_num,G2.out.1,(Hbel.out.trans (HWW.out.mono Hbel.out.size)).trans G2.out.2.1,by omega,by omega,by omega,u2,by rw [Ns.len_snoc];omega⟩
          ·obtain⟨q,rfl⟩:=Int.eq_ofNat_of_zero_le (show 0<=z by omega)
           have hq:u+k+j+q<=l.length:=by omega
           clear hz1 h11 hz0
           cases tc with
           |true=>
            have hpl:((l.drop (u+k+j)).take q).length<=m:=by rw [List.length_take,List.length_drop];omega
            have hp4:((l.drop (u+k+j)).take q).length<=4096:=by rw [List.length_take,List.length_drop];omega
            have HF:=fun(w3:World) (hb:Below w.heap.size w w3) (A:Option Addr) (N C:Nat) (h:BsS w3 (·<w.heap.size) (.slice A N C) ((l.drop (u+k+j)).take q))=>iH (show Calls Tryz.prog 79 #[.slice A N C,.int .i64 ((d:Int)+1),.int .i64 ((cc:Int)+1),.bool st,.bool false] w3 (RListOut (jh st m ((l.drop (u+k+j)).take q) (d+1) (cc+1) false) w3) from
             ihF ((l.drop (u+k+j)).take q) _ (d+1) (cc+1) st w3 (h.keep fun b hs _=>⟨rfl,iZ hs hb.size⟩) hp4 hpl (by omega) (by omega))
            have hl0:=jP st m ((l.drop (u+k+j)).take q) (d+1) (cc+1) false (by omega)
            clear hpl hp4
            cases hl:jh st m ((l.drop (u+k+j)).take q) (d+1) (cc+1) false with
            |error er=>
             have ho:kP st m (l.drop u) d cc=.error er:=Yv HT2.out HS2.out h8 h9 (by have:=H3.out;omega) (by omega) (TC.out.symm.trans rfl) (by rw [List.drop_drop,<-Nat.add_assoc,Int.toNat_natCast];exact hl)
             have E2:Hid (jh st n l d c true=.error er):=by rw [E.out,jJ hh ho]<;>rfl
             exact m0c
            |ok r=>
             have ho:kP st m (l.drop u) d cc=.ok ⟨t,[],r.list,k+j+q,r.count⟩:=Ut HT2.out HS2.out h8 h9 (by have:=H3.out;omega) (by omega) (TC.out.symm.trans rfl) (by rw [List.drop_drop,<-Nat.add_assoc,Int.toNat_natCast];exact hl)
             obtain⟨u1,u2,u3⟩:=hl0.1 r hl
             have u4:=u3 rfl
             rw [List.length_take,List.length_drop,Nat.min_eq_left (by omega)]at u4
             clear u1
             have E2:Hid (jh st n l d c true=yY (L.app (.cons t [] r.list .nil)) (u+(k+j+q)) (jh st m (l.drop (u+(k+j+q))) d r.count true)):=by
              exact mq
             exact m0a
           |false=>
            have CUT2:=iH (fun(w1:World) (hb:Below w.heap.size w w1)=>Zt (HV.out.below hb) (u+k+j) q (by omega) hA2)
            have ho:kP st m (l.drop u) d cc=.ok ⟨t,(l.drop (u+k+j)).take q,.nil,k+j+q,cc+1⟩:=by
             exact m2l
            have E2:Hid (jh st n l d c true=yY (L.app (.cons t ((l.drop (u+k+j)).take q) .nil .nil)) (u+(k+j+q)) (jh st m (l.drop (u+(k+j+q))) d (cc+1) true)):=by
             exact mq
            exact m08
end
theorem UF(n:Nat):J9 n true/\J9 n false:=by
 induction n using Nat.strongRecOn with
 |_ n ih=>exact⟨UE n (fun m hm=>(ih m hm).1) (fun m hm=>(ih m hm).2),XP n (fun m hm=>(ih m hm).1) (fun m hm=>(ih m hm).2)⟩
section
variable(B:List UInt8)(v:Value)(st:Bool)(w:World)(hv:Bs w w.heap.size v B)
include B v st w hv
theorem KZ:Calls Tryz.prog 45 #[v,.bool st] w fun e w'=>NodesOut (jK B st) w e w'/\∀L,jK B st=.ok L->∃v',e=.returned (.tuple #[v',.int .i64 0])/\OwnN w' w.heap.size v' L:=by
 have hlen:=hv.len
 by_cases h1:4096<B.length
 ·obtain⟨a,c,rfl⟩:=hv.form2
  have E:=iH (K4 (st:=st) h1)
  clear hv
  go_enter Tryz.func45,Tryz.ntmps45
  go_wp2_with fail
  go_ret2
  exact⟨NodesOut.no E.out iB,fun L h=>by rw [E.out]at h;cases h⟩
 ·have hc:=(UF B.length).2 B v 1 0 st w hv (by omega) iL (by omega) (by omega)
  obtain⟨a,c,rfl⟩:=hv.form2
  have HC:=iH hc
  cases hl:jh st B.length B 1 0 false with
  |error er=>
   have E:=iH (KR h1 hl)
   rw [hl]at HC
   clear hc hl hv
   go_enter Tryz.func45,Tryz.ntmps45
   go_wp2_with(go_at_call 79;refine HC.out.mono ?_;intro e w1 h1;obtain⟨_,rfl,hb⟩:=h1;have Hb:=iH hb;clear hb)
   go_ret2
   exact⟨NodesOut.no E.out Hb.out,fun L h=>by rw [E.out]at h;cases h⟩
  |ok r=>
   have E:=iH (K6 h1 hl)
   rw [hl]at HC
   clear hc hl hv
   go_enter Tryz.func45,Tryz.ntmps45
   go_wp2_with(go_at_call 79;refine HC.out.mono ?_;intro e w1 h1;obtain⟨v1,rfl,hv1,hb,ho⟩:=h1;obtain⟨va,vc,rfl⟩:=NsS.form2 hv1;have Hv1:=iH hv1;have Hb:=iH hb;have HO:=iH ho;clear hb hv1 ho)
   go_ret2
   exact⟨NodesOut.yes E.out Hv1.out Hb.out,fun L h=>⟨_,rfl,by rw [E.out]at h;injection h with h;rw [<-h];exact HO.out⟩⟩
theorem KX:Calls Tryz.prog 45 #[v,.bool st] w (NodesOut (jK B st) w):=(KZ B v st w hv).mono fun _ _ h=>h.1
end
theorem VI{n:Nat}(h:n<=65535):qT n=xu n:=by
 unfold qT xu
 by_cases h1:n<=127
 ·rw [iT h1,iT (by omega)]
 ·rw [iF h1,iF (show ¬n<128 by omega)]
  by_cases h2:n<=255
  ·exact m2u
  ·exact m1v
theorem j5w(L:Ns):∀o:List UInt8,(o.length+L.enc.length<=4096->L.raw o=o++L.enc)/\(4096<o.length+L.enc.length->4096<(L.raw o).length):=by
 induction L with
 |nil=>intro o;simp [Ns.raw,Ns.enc]
 |cons t v k r ihk ihr=>
  intro o
  by_cases ho:o.length<=4096
  ·obtain⟨c,hc⟩:∃c,(if jY t then k.enc else v)=c:=⟨_,rfl⟩
   obtain⟨c',hc'⟩:∃c',(if jY t then k.raw []else v)=c':=⟨_,rfl⟩
   rw [qk t v k r c hc.symm,qz t v k r o c' _ ho hc' rfl]
   simp only [List.length_append]
   by_cases h:c.length<=4096
   ·have e:c'=c:=by
     rw [<-hc,<-hc']
     split
     ·rename_i ht
      rw [iT ht]at hc
      have:=(ihk []).1 (by rw [hc];simpa using h)
      simpa using this
     ·rfl
    rw [e,JM (by omega),VI (by omega)]
    obtain⟨h1,h2⟩:=ihr (o++ku t++xu c.length++c)
    simp only [List.length_append]at h1 h2
    refine⟨fun hh=> ?_,fun hh=>h2 (by omega)⟩
    rw [h1 (by omega)]
    simp [List.append_assoc]
   ·refine⟨fun hh=>by omega,fun _=> ?_⟩
    have h3:4096<c'.length:=by
     rw [<-hc']
     split
     ·rename_i ht
      rw [iT ht]at hc
      exact(ihk []).2 (by rw [hc];simp;omega)
     ·rename_i ht
      rw [iF ht]at hc
      rw [hc];omega
    obtain⟨h1,h2⟩:=ihr (o++ku t++qT (j45 c').length++j45 c')
    have h4:(j45 c').length=4097:=by rw [yd h3,List.length_take];omega
    simp only [List.length_append]at h1 h2
    exact h2 (by omega)
  ·rw [YC t v k r o ho]
   exact⟨fun h=>by omega,fun _=>by omega⟩
theorem xC(L:Ns)(v:Value)(w:World)(hv:NsS w (·<w.heap.size) v L)(ha:L.all<=100000000000):
 Calls Tryz.prog 33 #[v] w (BytesOut (qG L) w):=by
 obtain⟨a,c,rfl⟩:=hv.form2
 have HC:=iH (UC L.all L _ 1 _ w iL hv (by omega))
 have HN:=iH (fun(w1:World) (h:Below w.heap.size w w1)=>Vk L.all L _ _ w1 iL ha (hv.keep fun b hs hl=>⟨h.block b hl,hs⟩))
 have HR:=iH (fun(w1:World) (h:Below w.heap.size w w1)=>j5v L.all L (.slice a L.len c) w1 iL (hv.keep fun b hs hl=>⟨h.block b hl,iZ hs h.size⟩))
 clear hv
 by_cases h1:L.chk 1=0
 ·by_cases h2:256<L.all
  ·have E:Hid (qG L=.error 2):=by unfold qG;rw [iF (by simpa using h1),iT h2]<;>rfl
   have hc:=(Ns.cnt_all L 0).2 (by omega)
   rw [h1]at HC
   clear h1
   go_enter Tryz.func33,Tryz.ntmps33
   go_wp2_with(first|(go_at_call 66;refine HC.out.mono ?_;rintro e w1 ⟨rfl,hb⟩;have HB:=iH hb;clear hb)|(go_at_call 67;refine(HN.out _ HB.out).mono ?_;rintro e w2 ⟨rfl,rfl⟩))
   go_ret2
   exact BytesOut.no E.out HB.out
  ·have hc:=(Ns.cnt_all L 0).1 (by omega)
   rw [Nat.zero_add]at hc
   rw [h1]at HC
   rw [hc]at HN
   clear hc
   obtain⟨r1,r2⟩:=j5w L []
   rw [List.length_nil,Nat.zero_add]at r1 r2
   by_cases h3:4096<L.enc.length
   ·have E:Hid (qG L=.error 2):=by unfold qG;rw [iF (by simpa using h1),iF h2,iT h3]<;>rfl
    have h4:=r2 h3
    clear h1 r1 r2
    go_enter Tryz.func33,Tryz.ntmps33
    go_wp2_with(first|(go_at_call 66;refine HC.out.mono ?_;rintro e w1 ⟨rfl,hb⟩;have HB:=iH hb;clear hb)|(go_at_call 67;refine(HN.out _ HB.out).mono ?_;rintro e w2 ⟨rfl,rfl⟩)|(go_at_call 68;refine(HR.out _ HB.out).mono ?_;rintro e w3 ⟨v3,rfl,hv3,hb3⟩;obtain⟨a3,c3,rfl⟩:=hv3.form2;have Hv3:=iH hv3;have Hb3:=iH hb3;clear hv3 hb3))
    go_ret2
    exact BytesOut.no E.out (HB.out.trans (Hb3.out.mono HB.out.size))
   ·have E:Hid (qG L=.ok L.enc):=by unfold qG;rw [iF (by simpa using h1),iF h2,iF h3]<;>rfl
    have r3:=r1 (by omega)
    rw [List.nil_append]at r3
    rw [r3]at HR
    clear h1 r1 r2 r3
    go_enter Tryz.func33,Tryz.ntmps33
    go_wp2_with(first|(go_at_call 66;refine HC.out.mono ?_;rintro e w1 ⟨rfl,hb⟩;have HB:=iH hb;clear hb)|(go_at_call 67;refine(HN.out _ HB.out).mono ?_;rintro e w2 ⟨rfl,rfl⟩)|(go_at_call 68;refine(HR.out _ HB.out).mono ?_;rintro e w3 ⟨v3,rfl,hv3,hb3⟩;obtain⟨a3,c3,rfl⟩:=hv3.form2;have Hv3:=iH hv3;have Hb3:=iH hb3;clear hv3 hb3))
    go_ret2
    exact BytesOut.yes E.out (Hv3.out.keep fun b hs _=>⟨rfl,Nat.le_trans HB.out.size hs.1,hs.2⟩) (HB.out.trans (Hb3.out.mono HB.out.size))
 ·have E:Hid (qG L=.error (L.chk 1)):=by unfold qG;rw [iT h1]<;>rfl
  have n0:((L.chk 1) != 0)=true:=by simp [h1]
  clear h1
  go_enter Tryz.func33,Tryz.ntmps33
  go_wp2_with(first|(go_at_call 66;refine HC.out.mono ?_;rintro e w1 ⟨rfl,hb⟩;have HB:=iH hb;clear hb))
  go_ret2
  exact BytesOut.no E.out HB.out
end Go.Proofs.YtadndhgebgjlaaaGreat
