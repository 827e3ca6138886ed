/- Layer 2: the walk of the reference's list, up to the end; Layer 2: the walk of the reference's list, up to two bytes 0; Layer 2: the reference's list, Parse ... -/
import Derived.Test.YtalmmiojbmpmiaaGreatDoorPBl
set_option linter.all false
set_option maxRecDepth 100000
set_option maxHeartbeats 16000000
namespace Go.Proofs.YtalmmiojbmpmiaaGreatDoor
open Go.RowKit Go.Deep
section
variable(n:Nat)(ihT:∀m,m<n->yH m true)(ihF:∀m,m<n->yH m false)
include n ihT ihF
theorem Z2:yH n false:=by
 intro l v d c st w hv hl4 hln hd hc
 have hlen:=hv.len
 by_cases hemp:l.length=0
 ·obtain⟨va,bc,rfl⟩:=hv.form2
  have E2:Hid (jf st n l d c false=.ok ⟨.nil,0,c⟩):=kw (by unfold kh;rw [iF (by decide),iT hemp])
  have e0:l= []:=List.eq_nil_of_length_eq_zero hemp
  clear hv hlen hemp
  subst e0
  simp only [List.length_nil]
  go_enter Tryz.func94,Tryz.ntmps94
  go_wp2_with fail
  refine wp_loop_rounds 1 ?_
  rw [rounds_succ]
  go_wp2_with fail
  exact bodyPost_ret (v:=.tuple #[.slice none 0 0,.int .i64 0,.int .i64 (c:Int),.int .i64 0]) (by simp [results,Tryz.results94,go_sem]) rfl (RListOut.yes E2.out rfl rfl (OwnN.nil _ _) (Nat.zero_le _) iB)
 ·obtain⟨va,bc,rfl⟩:=hv.form2
  obtain⟨bb,bo,rfl⟩:=Q7 hv (by omega)
  have hbc:=hv.capOf
  have HV:=iH hv
  clear hv hemp
  go_enter Tryz.func94,Tryz.ntmps94
  go_wp2_with fail
  go_loopg [2,14,15] n (fun m cs o at_ wr=>∃(L:Ns) (u cc:Nat),Hid (jf st n l d c false=yx L u (jf st m (l.drop u) d cc false))/\at_=.int .i64 u/\cs=.int .i64 cc/\OwnN wr w.heap.size o L/\Below w.heap.size w wr/\
   u<=l.length/\l.length - u<=m/\m<=n/\cc<=256/\L.len<=u)
  case atStart=>exact⟨.nil,0,c,by rw [Jg]<;>rfl,rfl,rfl,OwnN.nil _ _,Below.refl _ _,by omega,by omega,Nat.le_refl _,hc,Nat.le_refl _⟩
  case round=>
   obtain⟨L,u,cc,E,rfl,rfl,hown,hbel,hu1,hu2,hm,hcc,hLl⟩:=hrel
   obtain⟨oa,oc,rfl⟩:=hown.form
   have Hown:=iH hown;have Hbel:=iH hbel
   clear hown hbel
   by_cases hlt:u<l.length
   ·obtain⟨m,rfl⟩:∃m,gk=m+1:=⟨gk - 1,by omega⟩
    have hh:kh (l.drop u) false=none:=by unfold kh;rw [iF (by decide),iF (by rw [List.length_drop];omega)]
    have ihT:=ihT m (by omega);have ihF:=ihF m (by omega)
    have b0:(u:Int)<=l.length:=by omega
    have b4:(u:Int)<bc:=by omega
    have HT:=fun(w1:World) (hb:Below w.heap.size w w1)=>iH (QP (l.drop u) _ (·<w.heap.size) w1 (yo (HV.out.below hb) u (by omega) (A:=some ⟨bb,bo+u,none⟩) (by rw [iF (by omega)])))
    cases ht:qj (l.drop u)with
    |error er=>
     have E2:Hid (jf st n l d c false=.error er):=by rw [E.out,jD hh (by show yX _ _ _ _ _=_;unfold yX;rw [ht])]<;>rfl
     have ne:=yd ht
     have n0:(er != 0)=true:=by simp [ne]
     have N0:=iH ne
     simp only [ht,j1e]at HT
     clear ht ne hh E
     go_wp2_with(go_at_call 141;refine(HT _ Hbel.out).out.mono ?_;rintro e1 w' ⟨rfl,n1,rfl⟩)
     refine bodyPost_ret (v:=.tuple #[.slice none 0 0,.int .i64 0,.int .i64 0,.int .i64 er]) (by simp [results,Tryz.results94,go_sem]) rfl (RListOut.no E2.out N0.out (j3 Hbel.out _))
    |ok x=>
     obtain⟨t,k⟩:=x
     obtain⟨tv,k1,k2⟩:=zG ht
     rw [List.length_drop]at k2
     have hin:=K7 tv
     obtain⟨tc,htc⟩:∃tc,tc=kr t:=⟨_,rfl⟩
     have HC:=iH (fun w=>y4 t hin w)
     rw [<-htc]at HC
     simp only [ht,j3p]at HT
     obtain⟨A1,hA1⟩:∃A,(if bc=u+k then some (⟨bb,bo,none⟩:Addr)else some ⟨bb,bo+(u+k),none⟩)=A:=⟨_,rfl⟩
     have CUT1:=iH (fun(w1:World) (hb:Below w.heap.size w w1)=>yo (HV.out.below hb) (u+k) (by omega) hA1)
     have HS:=fun(w1:World) (hb:Below w.heap.size w w1)=>iH (Z6 (l.drop (u+k)) _ (·<w.heap.size) tc st w1 (CUT1.out w1 hb))
     have HI:=iH hin;have TC:=iH htc
     have HT2:=iH ht
     have b1:(0:Int)<=(u:Int)+k:=by omega
     have b2:(u:Int)+k<=l.length:=by omega
     have b3:(u:Int)+k<=bc:=by omega
     clear tv hin htc ht
     cases hs:jz (l.drop (u+k)) (tc&& !st) st with
     |error er=>
      have ho:kP st m (l.drop u) d cc=.error er:=XK HT2.out (by rw [List.drop_drop,<-TC.out];exact hs)
      have E2:Hid (jf st n l d c false=.error er):=by rw [E.out,jD hh ho]<;>rfl
      have ne:=qh hs
      have n0:(er != 0)=true:=by simp [ne]
      have N0:=iH ne
      simp only [hs,j1e]at HS
      clear hs ho ne hh E
      go_upto_region 14 with (go_at_call 141;refine(HT _ Hbel.out).out.mono ?_;rintro e1 w' ⟨rfl,n1,rfl⟩)
      have HB1:=iH (j3 Hbel.out n1)
      obtain⟨w1,hw1⟩:∃w1,w1=wr.drewN n1:=⟨_,rfl⟩
      have HD1:=iH (jq wr n1)
      rw [<-hw1]at HB1 HD1 |-
      clear hw1
      refine wp_region_quiet_lit (by kernel_rfl) (by kernel_rfl) ?_
      iterate 3 (first|go_big_quiet_step (fail)|quiet_step (fail))
      (try rw [hA1])
      repeat(first|go_big_quiet_step ((first|(go_at_call 143;exact Calls.quiet_of_same (HC.out _))|(go_at_call 142;exact j6 (HS _ (j3 HB1.out _)).out)))|quiet_step ((first|(go_at_call 143;exact Calls.quiet_of_same (HC.out _))|(go_at_call 142;exact j6 (HS _ (j3 HB1.out _)).out))))
      refine wpQuiet_nil ?_
      intro w2 hqq
      obtain⟨nq,hqr⟩:=hqq
      have HB2:=iH (j3 HB1.out nq)
      have HD2:=iH (j3 HD1.out nq)
      rw [<-hqr]at HB2 HD2
      clear hqr
      go_wp2_with fail
      refine bodyPost_ret (v:=.tuple #[.slice none 0 0,.int .i64 0,.int .i64 0,.int .i64 er]) (by simp [results,Tryz.results94,go_sem]) rfl (RListOut.no E2.out N0.out HB2.out)
     |ok y=>
      obtain⟨z,j⟩:=y
      obtain⟨j1,j2,m1,m2⟩:=xl hs
      rw [List.length_drop]at j2
      have hs':jz ((l.drop u).drop k) (kr t&& !st) st=.ok (z,j):=by rw [List.drop_drop,<-TC.out];exact hs
      have HS2:=iH hs'
      simp only [hs,j3p]at HS
      clear hs hs'
      obtain rfl:some (⟨bb,bo+(u+k),none⟩:Addr)=A1:=by rw [<-hA1,iF (by omega)]
      clear hA1
      by_cases h8:8<d
      ·have E2:Hid (jf st n l d c false=.error 7):=by rw [E.out,jD hh (XL HT2.out HS2.out h8)]<;>rfl
       clear hh E
       go_upto_region 14 with (go_at_call 141;refine(HT _ Hbel.out).out.mono ?_;rintro e1 w' ⟨rfl,n1,rfl⟩)
       have HB1:=iH (j3 Hbel.out n1)
       obtain⟨w1,hw1⟩:∃w1,w1=wr.drewN n1:=⟨_,rfl⟩
       have HD1:=iH (jq wr n1)
       rw [<-hw1]at HB1 HD1 |-
       clear hw1
       refine wp_region_quiet_lit (by kernel_rfl) (by kernel_rfl) ?_
       iterate 3 (first|go_big_quiet_step (fail)|quiet_step (fail))
       (try rw [hA1])
       repeat(first|go_big_quiet_step ((first|(go_at_call 143;exact Calls.quiet_of_same (HC.out _))|(go_at_call 142;exact j6 (HS _ (j3 HB1.out _)).out)))|quiet_step ((first|(go_at_call 143;exact Calls.quiet_of_same (HC.out _))|(go_at_call 142;exact j6 (HS _ (j3 HB1.out _)).out))))
       refine wpQuiet_nil ?_
       intro w2 hqq
       obtain⟨nq,hqr⟩:=hqq
       have HB2:=iH (j3 HB1.out nq)
       have HD2:=iH (j3 HD1.out nq)
       rw [<-hqr]at HB2 HD2
       clear hqr
       go_wp2_with fail
       refine bodyPost_ret (v:=.tuple #[.slice none 0 0,.int .i64 0,.int .i64 0,.int .i64 7]) (by simp [results,Tryz.results94,go_sem]) rfl (RListOut.no E2.out (by decide) HB2.out)
      ·by_cases h9:256<cc+1
       ·have E2:Hid (jf st n l d c false=.error 2):=by rw [E.out,jD hh (XM HT2.out HS2.out h8 h9)]<;>rfl
        clear hh E
        go_upto_region 14 with (go_at_call 141;refine(HT _ Hbel.out).out.mono ?_;rintro e1 w' ⟨rfl,n1,rfl⟩)
        have HB1:=iH (j3 Hbel.out n1)
        obtain⟨w1,hw1⟩:∃w1,w1=wr.drewN n1:=⟨_,rfl⟩
        have HD1:=iH (jq wr n1)
        rw [<-hw1]at HB1 HD1 |-
        clear hw1
        refine wp_region_quiet_lit (by kernel_rfl) (by kernel_rfl) ?_
        iterate 3 (first|go_big_quiet_step (fail)|quiet_step (fail))
        (try rw [hA1])
        repeat(first|go_big_quiet_step ((first|(go_at_call 143;exact Calls.quiet_of_same (HC.out _))|(go_at_call 142;exact j6 (HS _ (j3 HB1.out _)).out)))|quiet_step ((first|(go_at_call 143;exact Calls.quiet_of_same (HC.out _))|(go_at_call 142;exact j6 (HS _ (j3 HB1.out _)).out))))
        refine wpQuiet_nil ?_
        intro w2 hqq
        obtain⟨nq,hqr⟩:=hqq
        have HB2:=iH (j3 HB1.out nq)
        have HD2:=iH (j3 HD1.out nq)
        rw [<-hqr]at HB2 HD2
        clear hqr
        go_wp2_with fail
        refine bodyPost_ret (v:=.tuple #[.slice none 0 0,.int .i64 0,.int .i64 0,.int .i64 2]) (by simp [results,Tryz.results94,go_sem]) rfl (RListOut.no E2.out (by decide) HB2.out)
       ·by_cases h10:(l.length:Int) - ((u+k+j:Nat):Int)<z
        ·have E2:Hid (jf st n l d c false=.error 6):=by rw [E.out,jD hh (XN HT2.out HS2.out h8 h9 (by rw [List.drop_drop,List.length_drop];omega))]<;>rfl
         have h11:(l.length:Int) - ((u:Int)+k+j)<z:=by omega
         clear hh E h10
         go_upto_region 14 with (go_at_call 141;refine(HT _ Hbel.out).out.mono ?_;rintro e1 w' ⟨rfl,n1,rfl⟩)
         have HB1:=iH (j3 Hbel.out n1)
         obtain⟨w1,hw1⟩:∃w1,w1=wr.drewN n1:=⟨_,rfl⟩
         have HD1:=iH (jq wr n1)
         rw [<-hw1]at HB1 HD1 |-
         clear hw1
         refine wp_region_quiet_lit (by kernel_rfl) (by kernel_rfl) ?_
         iterate 3 (first|go_big_quiet_step (fail)|quiet_step (fail))
         (try rw [hA1])
         repeat(first|go_big_quiet_step ((first|(go_at_call 143;exact Calls.quiet_of_same (HC.out _))|(go_at_call 142;exact j6 (HS _ (j3 HB1.out _)).out)))|quiet_step ((first|(go_at_call 143;exact Calls.quiet_of_same (HC.out _))|(go_at_call 142;exact j6 (HS _ (j3 HB1.out _)).out))))
         refine wpQuiet_nil ?_
         intro w2 hqq
         obtain⟨nq,hqr⟩:=hqq
         have HB2:=iH (j3 HB1.out nq)
         have HD2:=iH (j3 HD1.out nq)
         rw [<-hqr]at HB2 HD2
         clear hqr
         go_wp2_with fail
         refine bodyPost_ret (v:=.tuple #[.slice none 0 0,.int .i64 0,.int .i64 0,.int .i64 6]) (by simp [results,Tryz.results94,go_sem]) rfl (RListOut.no E2.out (by decide) HB2.out)
        ·have h3':¬(((l.drop u).drop (k+j)).length:Int)<z:=by rw [List.drop_drop,List.length_drop];omega
         have H3:=iH h3';clear h3'
         have h11:z<=(l.length:Int) - ((u:Int)+k+j):=by omega
         clear h10
         obtain⟨A2,hA2⟩:∃A,(if bc=u+k+j then some (⟨bb,bo,none⟩:Addr)else some ⟨bb,bo+(u+k+j),none⟩)=A:=⟨_,rfl⟩
         have hA3:(A2=some ⟨bb,bo+(u+k+j),none⟩/\u+k+j<bc)\/(A2=some ⟨bb,bo,none⟩/\bc<=u+k+j):=by
          rcases Nat.lt_or_ge (u+k+j) bc with h|h
          ·exact .inl ⟨by rw [<-hA2,iF (by omega)],h⟩
          ·exact .inr ⟨by rw [<-hA2,iT (by omega)],h⟩
         have hj2:u+k+j<=l.length:=by omega
         have hm2:l.length<=u+m+1:=by omega
         have hz1:=iH (show z= -1\/0<=z from m2.elim .inr fun h=>.inl h.1)
         have hkj:2<=k+j:=by omega
         have HA3:=iH hA3;clear hA3
         clear k2 j2 m1 m2 hu2 hu1 hlt hln
         by_cases hz0:z<0
         ·skip
          have hpl:(l.drop (u+k+j)).length<=m:=by rw [List.length_drop];omega
          have hp4:(l.drop (u+k+j)).length<=4096:=by rw [List.length_drop];omega
          have HF:=fun(w3:World) (hb:Below w.heap.size w w3) (A:Option Addr) (N C:Nat) (h:BsS w3 (·<w.heap.size) (.slice A N C) (l.drop (u+k+j)))=>iH (show Calls Tryz.prog 94 #[.slice A N C,.int .i64 ((d:Int)+1),.int .i64 ((cc:Int)+1),.bool st,.bool true] w3 (RListOut (jf st m (l.drop (u+k+j)) (d+1) (cc+1) true) w3) from
           ihT (l.drop (u+k+j)) _ (d+1) (cc+1) st w3 (h.keep fun b hs _=>⟨rfl,iZ hs hb.size⟩) hp4 hpl (by omega) (by omega))
          have hl0:=jS st m (l.drop (u+k+j)) (d+1) (cc+1) true (by omega)
          clear hpl hp4
          cases hl:jf st m (l.drop (u+k+j)) (d+1) (cc+1) true with
          |error er=>
           have ho:kP st m (l.drop u) d cc=.error er:=j04 HT2.out HS2.out h8 h9 (by have:=H3.out;omega) hz0 (by rw [List.drop_drop,<-Nat.add_assoc];exact hl)
           have E2:Hid (jf st n l d c false=.error er):=by rw [E.out,jD hh ho]<;>rfl
           have ne:=hl0.2 er hl
           have n0:(er != 0)=true:=by simp [ne]
           have N0:=iH ne
           rw [hl]at HF
           clear hl hl0 ne hh E ho hA2
           go_upto_region 14 with (go_at_call 141;refine(HT _ Hbel.out).out.mono ?_;rintro e1 w' ⟨rfl,n1,rfl⟩)
           have HB1:=iH (j3 Hbel.out n1)
           obtain⟨w1,hw1⟩:∃w1,w1=wr.drewN n1:=⟨_,rfl⟩
           have HD1:=iH (jq wr n1)
           rw [<-hw1]at HB1 HD1 |-
           clear hw1
           refine wp_region_quiet_lit (by kernel_rfl) (by kernel_rfl) ?_
           iterate 3 (first|go_big_quiet_step (fail)|quiet_step (fail))
           (try rw [hA1])
           repeat(first|go_big_quiet_step ((first|(go_at_call 143;exact Calls.quiet_of_same (HC.out _))|(go_at_call 142;exact j6 (HS _ (j3 HB1.out _)).out)))|quiet_step ((first|(go_at_call 143;exact Calls.quiet_of_same (HC.out _))|(go_at_call 142;exact j6 (HS _ (j3 HB1.out _)).out))))
           refine wpQuiet_nil ?_
           intro w2 hqq
           obtain⟨nq,hqr⟩:=hqq
           have HB2:=iH (j3 HB1.out nq)
           have HD2:=iH (j3 HD1.out nq)
           rw [<-hqr]at HB2 HD2
           clear hqr
           have HW:=iH HD2.out
           go_upto_region 28 with (go_at_call 143;refine(HC.out _).mono ?_;rintro e w' ⟨rfl,rfl⟩)
           have hsz3:=iH HW.out.size
           obtain⟨w3,hw3⟩:∃w3,w3=w2.alloc (.cells #[.int .i64 t,.slice none 0 0,.slice none 0 0] 66):=⟨_,rfl⟩
           obtain⟨X,hX⟩:∃X,X=w2.heap.size:=⟨_,rfl⟩
           have X3:Hid (w3.heap[X]?=some (.cells #[.int .i64 t,.slice none 0 0,.slice none 0 0] 66 (0,0))):=by rw [hw3,hX];exact heap_alloc_new w2 _
           have HW3:Hid (Below wr.heap.size wr w3):=by rw [hw3];exact HW.out.alloc HW.out.size _
           have HB3:Hid (Below w.heap.size w w3):=by rw [hw3];exact HB2.out.alloc HB2.out.size _
           have hXr:wr.heap.size<=X:=by rw [hX];exact HD2.out.size
           have hXw:w.heap.size<=X:=Nat.le_trans Hbel.out.size hXr
           have hX3:X<w3.heap.size:=(iG X3.out)
           rw [<-hw3,<-hX]
           clear hw3 hX hsz3
           obtain⟨x0,x1,x2,xf⟩:=kt X3.out
           have xf1:=xf 2
           clear xf
           rcases HA3.out with ⟨rfl,hb5⟩|⟨rfl,hb5⟩
           rotate_left
           obtain rfl:bc=u+k+j:=by omega
           clear hb5
           all_goals
            go_wp2_with(go_at_call 94;refine(HF _ HB3.out _ _ _ (Yv (HV.out.below HB3.out) (u+k+j) hj2 (fun h=>by first|rfl|omega) (by omega) ⟨by omega,by omega⟩)).out.mono ?_;intro e4 w4 h4;obtain⟨_,rfl,hb4⟩:=h4;have X4:=iH ((hb4.block _ (iG X3.out)).trans X3.out);have Hb4:=iH hb4;clear hb4 x0 x1 x2 xf1;obtain⟨x0,x1,x2,xf⟩:=kt X4.out;have xf1:=xf 2;clear xf)
            refine bodyPost_ret (v:=.tuple #[.slice none 0 0,.int .i64 0,.int .i64 0,.int .i64 er]) (by simp [results,Tryz.results94,go_sem]) rfl (RListOut.no E2.out N0.out ((HB3.out.trans (Hb4.out.mono HB3.out.size)).setCell hXw _))
          |ok r=>
           have ho:kP st m (l.drop u) d cc=.ok ⟨t,[],r.list,k+j+r.used,r.count⟩:=j2x HT2.out HS2.out h8 h9 (by have:=H3.out;omega) hz0 (by rw [List.drop_drop,<-Nat.add_assoc];exact hl)
           obtain⟨u1,u2,u3⟩:=hl0.1 r hl
           have u5:u+k+j+r.used<=l.length:=by rw [List.length_drop]at u1;omega
           clear u1
           have E2:Hid (jf st n l d c false=yx (L.app (.cons t [] r.list .nil)) (u+(k+j+r.used)) (jf st m (l.drop (u+(k+j+r.used))) d r.count false)):=by
            rw [E.out,jN hh ho,qB,List.drop_drop]<;>rfl
           rw [hl]at HF
           clear hl hl0 hh E ho u3 hA2
           go_upto_region 14 with (go_at_call 141;refine(HT _ Hbel.out).out.mono ?_;rintro e1 w' ⟨rfl,n1,rfl⟩)
           have HB1:=iH (j3 Hbel.out n1)
           obtain⟨w1,hw1⟩:∃w1,w1=wr.drewN n1:=⟨_,rfl⟩
           have HD1:=iH (jq wr n1)
           rw [<-hw1]at HB1 HD1 |-
           clear hw1
           refine wp_region_quiet_lit (by kernel_rfl) (by kernel_rfl) ?_
           iterate 3 (first|go_big_quiet_step (fail)|quiet_step (fail))
           (try rw [hA1])
           repeat(first|go_big_quiet_step ((first|(go_at_call 143;exact Calls.quiet_of_same (HC.out _))|(go_at_call 142;exact j6 (HS _ (j3 HB1.out _)).out)))|quiet_step ((first|(go_at_call 143;exact Calls.quiet_of_same (HC.out _))|(go_at_call 142;exact j6 (HS _ (j3 HB1.out _)).out))))
           refine wpQuiet_nil ?_
           intro w2 hqq
           obtain⟨nq,hqr⟩:=hqq
           have HB2:=iH (j3 HB1.out nq)
           have HD2:=iH (j3 HD1.out nq)
           rw [<-hqr]at HB2 HD2
           clear hqr
           have HW:=iH HD2.out
           go_upto_region 28 with (go_at_call 143;refine(HC.out _).mono ?_;rintro e w' ⟨rfl,rfl⟩)
           have hsz3:=iH HW.out.size
           obtain⟨w3,hw3⟩:∃w3,w3=w2.alloc (.cells #[.int .i64 t,.slice none 0 0,.slice none 0 0] 66):=⟨_,rfl⟩
           obtain⟨X,hX⟩:∃X,X=w2.heap.size:=⟨_,rfl⟩
           have X3:Hid (w3.heap[X]?=some (.cells #[.int .i64 t,.slice none 0 0,.slice none 0 0] 66 (0,0))):=by rw [hw3,hX];exact heap_alloc_new w2 _
           have HW3:Hid (Below wr.heap.size wr w3):=by rw [hw3];exact HW.out.alloc HW.out.size _
           have HB3:Hid (Below w.heap.size w w3):=by rw [hw3];exact HB2.out.alloc HB2.out.size _
           have hXr:wr.heap.size<=X:=by rw [hX];exact HD2.out.size
           have hXw:w.heap.size<=X:=Nat.le_trans Hbel.out.size hXr
           have hX3:X<w3.heap.size:=(iG X3.out)
           rw [<-hw3,<-hX]
           clear hw3 hX hsz3
           obtain⟨x0,x1,x2,xf⟩:=kt X3.out
           have xf1:=xf 2
           clear xf
           rcases HA3.out with ⟨rfl,hb5⟩|⟨rfl,hb5⟩
           rotate_left
           obtain rfl:bc=u+k+j:=by omega
           clear hb5
           all_goals
            go_wp2_with(first
             |(go_at_call 94;refine(HF _ HB3.out _ _ _ (Yv (HV.out.below HB3.out) (u+k+j) hj2 (fun h=>by first|rfl|omega) (by omega) ⟨by omega,by omega⟩)).out.mono ?_;intro e4 w4 h4;obtain⟨v4,rfl,hv4,hb4,_⟩:=h4;obtain⟨va,vc,rfl⟩:=NsS.form2 hv4;have X4:=iH ((hb4.block _ (iG X3.out)).trans X3.out);have Hb4:=iH hb4;have Hv4:=iH hv4;clear hb4 hv4 x0 x1 x2 xf1;obtain⟨x0,x1,x2,xf⟩:=kt X4.out;have xf1:=xf 2;clear xf;have HWW:=iH (show Below wr.heap.size wr (w4.setCell ⟨X,2,none⟩ (.slice va r.list.len vc)) from(HW3.out.trans (Hb4.out.mono HW3.out.size)).setCell hXr _);have HN:=iH (Je Hown.out Hb4.out HW3.out hX3 hXr Hbel.out.size (.slice va r.list.len vc) Hv4.out))
             |(at_builtin;(with_reducible refine ku rfl (.tmp 164) (.tmp 166) rfl w.heap.size (.slice oa L.len oc) L rfl (Hown.out.below HWW.out) t [] r.list (.slice none 0 0) (.slice va r.list.len vc) _ w4.heap.size rfl (by simp [World.setCell]) HI.out (BsS.nil0 _ _) HN.out (by omega) (Nat.le_trans Hbel.out.size HWW.out.size) ?_);intro o2 w2 hg2;have G2:=iH hg2;clear hg2))
            go_roundg m
            case measure=>omega
            case rel=>exact⟨L.app (.cons t [] r.list .nil),u+(k+j+r.used),r.count,E2.out,by go_num,by go_num,G2.out.1,(Hbel.out.trans (HWW.out.mono Hbel.out.size)).trans G2.out.2.1,by omega,by omega,by omega,u2,by rw [Ns.len_snoc];omega⟩
         ·obtain⟨q,rfl⟩:=Int.eq_ofNat_of_zero_le (show 0<=z by omega)
          have hq:u+k+j+q<=l.length:=by omega
          clear hz1 h11 hz0
          cases tc with
          |true=>
           have hpl:((l.drop (u+k+j)).take q).length<=m:=by rw [List.length_take,List.length_drop];omega
           have hp4:((l.drop (u+k+j)).take q).length<=4096:=by rw [List.length_take,List.length_drop];omega
           have HF:=fun(w3:World) (hb:Below w.heap.size w w3) (A:Option Addr) (N C:Nat) (h:BsS w3 (·<w.heap.size) (.slice A N C) ((l.drop (u+k+j)).take q))=>iH (show Calls Tryz.prog 94 #[.slice A N C,.int .i64 ((d:Int)+1),.int .i64 ((cc:Int)+1),.bool st,.bool false] w3 (RListOut (jf st m ((l.drop (u+k+j)).take q) (d+1) (cc+1) false) w3) from
            ihF ((l.drop (u+k+j)).take q) _ (d+1) (cc+1) st w3 (h.keep fun b hs _=>⟨rfl,iZ hs hb.size⟩) hp4 hpl (by omega) (by omega))
           have hl0:=jS st m ((l.drop (u+k+j)).take q) (d+1) (cc+1) false (by omega)
           clear hpl hp4
           cases hl:jf st m ((l.drop (u+k+j)).take q) (d+1) (cc+1) false with
           |error er=>
            have ho:kP st m (l.drop u) d cc=.error er:=YH HT2.out HS2.out h8 h9 (by have:=H3.out;omega) (by omega) (TC.out.symm.trans rfl) (by rw [List.drop_drop,<-Nat.add_assoc,Int.toNat_natCast];exact hl)
            have E2:Hid (jf st n l d c false=.error er):=by rw [E.out,jD hh ho]<;>rfl
            have ne:=hl0.2 er hl
            have n0:(er != 0)=true:=by simp [ne]
            have N0:=iH ne
            rw [hl]at HF
            clear hl hl0 ne hh E ho hA2
            go_upto_region 14 with (go_at_call 141;refine(HT _ Hbel.out).out.mono ?_;rintro e1 w' ⟨rfl,n1,rfl⟩)
            have HB1:=iH (j3 Hbel.out n1)
            obtain⟨w1,hw1⟩:∃w1,w1=wr.drewN n1:=⟨_,rfl⟩
            have HD1:=iH (jq wr n1)
            rw [<-hw1]at HB1 HD1 |-
            clear hw1
            refine wp_region_quiet_lit (by kernel_rfl) (by kernel_rfl) ?_
            iterate 3 (first|go_big_quiet_step (fail)|quiet_step (fail))
            (try rw [hA1])
            repeat(first|go_big_quiet_step ((first|(go_at_call 143;exact Calls.quiet_of_same (HC.out _))|(go_at_call 142;exact j6 (HS _ (j3 HB1.out _)).out)))|quiet_step ((first|(go_at_call 143;exact Calls.quiet_of_same (HC.out _))|(go_at_call 142;exact j6 (HS _ (j3 HB1.out _)).out))))
            refine wpQuiet_nil ?_
            intro w2 hqq
            obtain⟨nq,hqr⟩:=hqq
            have HB2:=iH (j3 HB1.out nq)
            have HD2:=iH (j3 HD1.out nq)
            rw [<-hqr]at HB2 HD2
            clear hqr
            have HW:=iH HD2.out
            go_upto_region 31 with (go_at_call 143;refine(HC.out _).mono ?_;rintro e w' ⟨rfl,rfl⟩)
            have hsz3:=iH HW.out.size
            obtain⟨w3,hw3⟩:∃w3,w3=w2.alloc (.cells #[.int .i64 t,.slice none 0 0,.slice none 0 0] 66):=⟨_,rfl⟩
            obtain⟨X,hX⟩:∃X,X=w2.heap.size:=⟨_,rfl⟩
            have X3:Hid (w3.heap[X]?=some (.cells #[.int .i64 t,.slice none 0 0,.slice none 0 0] 66 (0,0))):=by rw [hw3,hX];exact heap_alloc_new w2 _
            have HW3:Hid (Below wr.heap.size wr w3):=by rw [hw3];exact HW.out.alloc HW.out.size _
            have HB3:Hid (Below w.heap.size w w3):=by rw [hw3];exact HB2.out.alloc HB2.out.size _
            have hXr:wr.heap.size<=X:=by rw [hX];exact HD2.out.size
            have hXw:w.heap.size<=X:=Nat.le_trans Hbel.out.size hXr
            have hX3:X<w3.heap.size:=(iG X3.out)
            rw [<-hw3,<-hX]
            clear hw3 hX hsz3
            obtain⟨x0,x1,x2,xf⟩:=kt X3.out
            have xf1:=xf 2
            clear xf
            rcases HA3.out with ⟨rfl,hb5⟩|⟨rfl,hb5⟩
            rotate_left
            obtain rfl:bc=u+k+j:=by omega
            clear hb5
            all_goals
             go_wp2_with(go_at_call 94;refine(HF _ HB3.out _ _ _ (Ql (HV.out.below HB3.out) (u+k+j) q hq (fun h=>by first|rfl|omega) (by omega) ⟨by omega,by omega⟩)).out.mono ?_;intro e4 w4 h4;obtain⟨_,rfl,hb4⟩:=h4;have X4:=iH ((hb4.block _ (iG X3.out)).trans X3.out);have Hb4:=iH hb4;clear hb4 x0 x1 x2 xf1;obtain⟨x0,x1,x2,xf⟩:=kt X4.out;have xf1:=xf 2;clear xf)
             refine bodyPost_ret (v:=.tuple #[.slice none 0 0,.int .i64 0,.int .i64 0,.int .i64 er]) (by simp [results,Tryz.results94,go_sem]) rfl (RListOut.no E2.out N0.out ((HB3.out.trans (Hb4.out.mono HB3.out.size)).setCell hXw _))
           |ok r=>
            have ho:kP st m (l.drop u) d cc=.ok ⟨t,[],r.list,k+j+q,r.count⟩:=UD HT2.out HS2.out h8 h9 (by have:=H3.out;omega) (by omega) (TC.out.symm.trans rfl) (by rw [List.drop_drop,<-Nat.add_assoc,Int.toNat_natCast];exact hl)
            obtain⟨u1,u2,u3⟩:=hl0.1 r hl
            have u4:=u3 rfl
            rw [List.length_take,List.length_drop,Nat.min_eq_left (by omega)]at u4
            clear u1
            have E2:Hid (jf st n l d c false=yx (L.app (.cons t [] r.list .nil)) (u+(k+j+q)) (jf st m (l.drop (u+(k+j+q))) d r.count false)):=by
             rw [E.out,jN hh ho,qB,List.drop_drop]<;>rfl
            rw [hl]at HF
            clear hl hl0 hh E ho u3 hA2
            go_upto_region 14 with (go_at_call 141;refine(HT _ Hbel.out).out.mono ?_;rintro e1 w' ⟨rfl,n1,rfl⟩)
            have HB1:=iH (j3 Hbel.out n1)
            obtain⟨w1,hw1⟩:∃w1,w1=wr.drewN n1:=⟨_,rfl⟩
            have HD1:=iH (jq wr n1)
            rw [<-hw1]at HB1 HD1 |-
            clear hw1
            refine wp_region_quiet_lit (by kernel_rfl) (by kernel_rfl) ?_
            iterate 3 (first|go_big_quiet_step (fail)|quiet_step (fail))
            (try rw [hA1])
            repeat(first|go_big_quiet_step ((first|(go_at_call 143;exact Calls.quiet_of_same (HC.out _))|(go_at_call 142;exact j6 (HS _ (j3 HB1.out _)).out)))|quiet_step ((first|(go_at_call 143;exact Calls.quiet_of_same (HC.out _))|(go_at_call 142;exact j6 (HS _ (j3 HB1.out _)).out))))
            refine wpQuiet_nil ?_
            intro w2 hqq
            obtain⟨nq,hqr⟩:=hqq
            have HB2:=iH (j3 HB1.out nq)
            have HD2:=iH (j3 HD1.out nq)
            rw [<-hqr]at HB2 HD2
            clear hqr
            have HW:=iH HD2.out
            go_upto_region 31 with (go_at_call 143;refine(HC.out _).mono ?_;rintro e w' ⟨rfl,rfl⟩)
            have hsz3:=iH HW.out.size
            obtain⟨w3,hw3⟩:∃w3,w3=w2.alloc (.cells #[.int .i64 t,.slice none 0 0,.slice none 0 0] 66):=⟨_,rfl⟩
            obtain⟨X,hX⟩:∃X,X=w2.heap.size:=⟨_,rfl⟩
            have X3:Hid (w3.heap[X]?=some (.cells #[.int .i64 t,.slice none 0 0,.slice none 0 0] 66 (0,0))):=by rw [hw3,hX];exact heap_alloc_new w2 _
            have HW3:Hid (Below wr.heap.size wr w3):=by rw [hw3];exact HW.out.alloc HW.out.size _
            have HB3:Hid (Below w.heap.size w w3):=by rw [hw3];exact HB2.out.alloc HB2.out.size _
            have hXr:wr.heap.size<=X:=by rw [hX];exact HD2.out.size
            have hXw:w.heap.size<=X:=Nat.le_trans Hbel.out.size hXr
            have hX3:X<w3.heap.size:=(iG X3.out)
            rw [<-hw3,<-hX]
            clear hw3 hX hsz3
            obtain⟨x0,x1,x2,xf⟩:=kt X3.out
            have xf1:=xf 2
            clear xf
            rcases HA3.out with ⟨rfl,hb5⟩|⟨rfl,hb5⟩
            rotate_left
            obtain rfl:bc=u+k+j:=by omega
            clear hb5
            all_goals
             go_wp2_with(first
              |(go_at_call 94;refine(HF _ HB3.out _ _ _ (Ql (HV.out.below HB3.out) (u+k+j) q hq (fun h=>by first|rfl|omega) (by omega) ⟨by omega,by omega⟩)).out.mono ?_;intro e4 w4 h4;obtain⟨v4,rfl,hv4,hb4,_⟩:=h4;obtain⟨va,vc,rfl⟩:=NsS.form2 hv4;have X4:=iH ((hb4.block _ (iG X3.out)).trans X3.out);have Hb4:=iH hb4;have Hv4:=iH hv4;clear hb4 hv4 x0 x1 x2 xf1;obtain⟨x0,x1,x2,xf⟩:=kt X4.out;have xf1:=xf 2;clear xf;have HWW:=iH (show Below wr.heap.size wr (w4.setCell ⟨X,2,none⟩ (.slice va r.list.len vc)) from(HW3.out.trans (Hb4.out.mono HW3.out.size)).setCell hXr _);have HN:=iH (Je Hown.out Hb4.out HW3.out hX3 hXr Hbel.out.size (.slice va r.list.len vc) Hv4.out))
              |(at_builtin;(with_reducible refine ku rfl (.tmp 164) (.tmp 166) rfl w.heap.size (.slice oa L.len oc) L rfl (Hown.out.below HWW.out) t [] r.list (.slice none 0 0) (.slice va r.list.len vc) _ w4.heap.size rfl (by simp [World.setCell]) HI.out (BsS.nil0 _ _) HN.out (by omega) (Nat.le_trans Hbel.out.size HWW.out.size) ?_);intro o2 w2 hg2;have G2:=iH hg2;clear hg2))
             go_roundg m
             case measure=>omega
             case rel=>exact⟨L.app (.cons t [] r.list .nil),u+(k+j+q),r.count,E2.out,by go_num,by go_num,G2.out.1,(Hbel.out.trans (HWW.out.mono Hbel.out.size)).trans G2.out.2.1,by omega,by omega,by omega,u2,by rw [Ns.len_snoc];omega⟩
          |false=>
           have CUT2:=iH (fun(w1:World) (hb:Below w.heap.size w w1)=>ZE (HV.out.below hb) (u+k+j) q (by omega) hA2)
           have ho:kP st m (l.drop u) d cc=.ok ⟨t,(l.drop (u+k+j)).take q,.nil,k+j+q,cc+1⟩:=by
            rw [j05 HT2.out HS2.out h8 h9 (by have:=H3.out;omega) (by omega) (by rw [<-TC.out];decide),List.drop_drop,<-Nat.add_assoc,Int.toNat_natCast]
           have E2:Hid (jf st n l d c false=yx (L.app (.cons t ((l.drop (u+k+j)).take q) .nil .nil)) (u+(k+j+q)) (jf st m (l.drop (u+(k+j+q))) d (cc+1) false)):=by
            rw [E.out,jN hh ho,qB,List.drop_drop]<;>rfl
           obtain⟨vl,hvl⟩:∃vl,vl=(l.drop (u+k+j)).take q:=⟨_,rfl⟩
           have hql:vl.length=q:=by rw [hvl,List.length_take,List.length_drop];omega
           rw [<-hvl]at E2 CUT2
           clear hh E ho hvl hA2
           have HQ:=iH hql;clear hql
           go_upto_region 14 with (go_at_call 141;refine(HT _ Hbel.out).out.mono ?_;rintro e1 w' ⟨rfl,n1,rfl⟩)
           have HB1:=iH (j3 Hbel.out n1)
           obtain⟨w1,hw1⟩:∃w1,w1=wr.drewN n1:=⟨_,rfl⟩
           have HD1:=iH (jq wr n1)
           rw [<-hw1]at HB1 HD1 |-
           clear hw1
           refine wp_region_quiet_lit (by kernel_rfl) (by kernel_rfl) ?_
           iterate 3 (first|go_big_quiet_step (fail)|quiet_step (fail))
           (try rw [hA1])
           repeat(first|go_big_quiet_step ((first|(go_at_call 143;exact Calls.quiet_of_same (HC.out _))|(go_at_call 142;exact j6 (HS _ (j3 HB1.out _)).out)))|quiet_step ((first|(go_at_call 143;exact Calls.quiet_of_same (HC.out _))|(go_at_call 142;exact j6 (HS _ (j3 HB1.out _)).out))))
           refine wpQuiet_nil ?_
           intro w2 hqq
           obtain⟨nq,hqr⟩:=hqq
           have HB2:=iH (j3 HB1.out nq)
           have HD2:=iH (j3 HD1.out nq)
           rw [<-hqr]at HB2 HD2
           clear hqr
           have HW:=iH HD2.out
           go_upto_region 26 with (go_at_call 143;refine(HC.out _).mono ?_;rintro e w' ⟨rfl,rfl⟩)
           have hsz3:=iH HW.out.size
           obtain⟨w3,hw3⟩:∃w3,w3=w2.alloc (.cells #[.int .i64 t,.slice none 0 0,.slice none 0 0] 66):=⟨_,rfl⟩
           obtain⟨X,hX⟩:∃X,X=w2.heap.size:=⟨_,rfl⟩
           have X3:Hid (w3.heap[X]?=some (.cells #[.int .i64 t,.slice none 0 0,.slice none 0 0] 66 (0,0))):=by rw [hw3,hX];exact heap_alloc_new w2 _
           have HW3:Hid (Below wr.heap.size wr w3):=by rw [hw3];exact HW.out.alloc HW.out.size _
           have HB3:Hid (Below w.heap.size w w3):=by rw [hw3];exact HB2.out.alloc HB2.out.size _
           have hXr:wr.heap.size<=X:=by rw [hX];exact HD2.out.size
           have hXw:w.heap.size<=X:=Nat.le_trans Hbel.out.size hXr
           have hX3:X<w3.heap.size:=(iG X3.out)
           rw [<-hw3,<-hX]
           clear hw3 hX hsz3
           obtain⟨x0,x1,x2,xf⟩:=kt X3.out
           have xf1:=xf 1
           clear xf
           rcases HA3.out with ⟨rfl,hb5⟩|⟨rfl,hb5⟩
           rotate_left
           obtain rfl:bc=u+k+j:=by omega
           simp only [Nat.sub_self]at CUT2
           clear hb5
           all_goals
            have CC:=iH (CUT2.out w3 HB3.out)
            go_wp2_with(first
             |(at_builtin;(with_reducible refine j5 rfl (.const (.slice none 0 0)) (.tmp 117) rfl w3.heap.size (.slice none 0 0) [] rfl (OwnB.nil _ _) (some ⟨bb,bo+(u+k+j),none⟩) q (bc - (u+k+j)) vl _ (by simp [Act.eval]) CC.out (by have:=HQ.out;simp;omega) iL ?_);intro v4 w4 hg4;rw [List.nil_append]at hg4;obtain⟨va,vc,rfl⟩:=hg4.1.form;have X4:=iH ((hg4.2.1.block _ (iG X3.out)).trans X3.out);have Hb4:=iH hg4.2.1;have Hv4:=iH ((BsS.of_own hg4.1 (by have:=HQ.out;omega)));clear hg4 x0 x1 x2 xf1;obtain⟨x0,x1,x2,xf⟩:=kt X4.out;have xf1:=xf 1;clear xf;have HWW:=iH (show Below wr.heap.size wr (w4.setCell ⟨X,1,none⟩ (.slice va vl.length vc)) from(HW3.out.trans (Hb4.out.mono HW3.out.size)).setCell hXr _);have HN:=iH (zL Hown.out Hb4.out HW3.out hX3 hXr Hbel.out.size (.slice va vl.length vc) Hv4.out))
             |(at_builtin;(with_reducible refine j5 rfl (.const (.slice none 0 0)) (.tmp 117) rfl w3.heap.size (.slice none 0 0) [] rfl (OwnB.nil _ _) (some ⟨bb,bo,none⟩) q 0 vl _ (by simp [Act.eval]) CC.out (by have:=HQ.out;simp;omega) iL ?_);intro v4 w4 hg4;rw [List.nil_append]at hg4;obtain⟨va,vc,rfl⟩:=hg4.1.form;have X4:=iH ((hg4.2.1.block _ (iG X3.out)).trans X3.out);have Hb4:=iH hg4.2.1;have Hv4:=iH ((BsS.of_own hg4.1 (by have:=HQ.out;omega)));clear hg4 x0 x1 x2 xf1;obtain⟨x0,x1,x2,xf⟩:=kt X4.out;have xf1:=xf 1;clear xf;have HWW:=iH (show Below wr.heap.size wr (w4.setCell ⟨X,1,none⟩ (.slice va vl.length vc)) from(HW3.out.trans (Hb4.out.mono HW3.out.size)).setCell hXr _);have HN:=iH (zL Hown.out Hb4.out HW3.out hX3 hXr Hbel.out.size (.slice va vl.length vc) Hv4.out))
             |(at_builtin;(with_reducible refine ku rfl (.tmp 164) (.tmp 166) rfl w.heap.size (.slice oa L.len oc) L rfl (Hown.out.below HWW.out) t vl .nil (.slice va vl.length vc) (.slice none 0 0) _ w4.heap.size rfl (by simp [World.setCell]) HI.out HN.out (NsS.nil0 _ _) (by omega) (Nat.le_trans Hbel.out.size HWW.out.size) ?_);intro o2 w2 hg2;have G2:=iH hg2;clear hg2))
            go_roundg m
            case measure=>omega
            case rel=>exact⟨L.app (.cons t vl .nil .nil),u+(k+j+q),cc+1,E2.out,by go_num,by go_num,G2.out.1,(Hbel.out.trans (HWW.out.mono Hbel.out.size)).trans G2.out.2.1,by omega,by omega,by omega,by omega,by rw [Ns.len_snoc];omega⟩
   ·have E2:Hid (jf st n l d c false=.ok ⟨L,u+0,cc⟩):=by
     rw [E.out,kw (u:=0) (by unfold kh;rw [iF (by decide),iT (Ky (by omega))]),y3]<;>rfl
    clear E
    go_wp2_with fail
    exact bodyPost_ret (v:=.tuple #[.slice oa L.len oc,.int .i64 (u:Int),.int .i64 (cc:Int),.int .i64 0]) (by simp [results,Tryz.results94,go_sem]) rfl (RListOut.yes E2.out rfl rfl Hown.out (by omega) Hbel.out)
theorem UR:yH n true:=by
 intro l v d c st w hv hl4 hln hd hc
 have hlen:=hv.len
 by_cases hemp:l.length=0
 ·obtain⟨va,bc,rfl⟩:=hv.form2
  have E2:Hid (jf st n l d c true=.error 6):=xI (by unfold kh;rw [iT rfl,iT (.inl hemp)])
  have e0:l= []:=List.eq_nil_of_length_eq_zero hemp
  clear hv hlen hemp
  subst e0
  simp only [List.length_nil]
  go_enter Tryz.func94,Tryz.ntmps94
  go_wp2_with fail
  refine wp_loop_rounds 1 ?_
  rw [rounds_succ]
  go_wp2_with fail
  exact bodyPost_ret (v:=.tuple #[.slice none 0 0,.int .i64 0,.int .i64 0,.int .i64 6]) (by simp [results,Tryz.results94,go_sem]) rfl (RListOut.no E2.out (by decide) iB)
 ·obtain⟨va,bc,rfl⟩:=hv.form2
  obtain⟨bb,bo,rfl⟩:=Q7 hv (by omega)
  have hbc:=hv.capOf
  have HV:=iH hv
  clear hv hemp
  go_enter Tryz.func94,Tryz.ntmps94
  go_wp2_with fail
  go_loopg [2,14,15] n (fun m cs o at_ wr=>∃(L:Ns) (u cc:Nat),Hid (jf st n l d c true=yx L u (jf st m (l.drop u) d cc true))/\at_=.int .i64 u/\cs=.int .i64 cc/\OwnN wr w.heap.size o L/\Below w.heap.size w wr/\
   u<=l.length/\l.length - u<=m/\m<=n/\cc<=256/\L.len<=u)
  case atStart=>exact⟨.nil,0,c,by rw [Jg]<;>rfl,rfl,rfl,OwnN.nil _ _,Below.refl _ _,by omega,by omega,Nat.le_refl _,hc,Nat.le_refl _⟩
  case round=>
   obtain⟨L,u,cc,E,rfl,rfl,hown,hbel,hu1,hu2,hm,hcc,hLl⟩:=hrel
   obtain⟨oa,oc,rfl⟩:=hown.form
   have Hown:=iH hown;have Hbel:=iH hbel
   clear hown hbel
   by_cases h0:u=l.length
   ·have E2:Hid (jf st n l d c true=.error 6):=by
     rw [E.out,xI (e:=6) (by unfold kh;rw [iT rfl,iT (.inl (Ky (by omega)))])]<;>rfl
    have d0:decide ((u:Int)>=l.length)=true:=by simp;omega
    clear E
    go_wp2_with fail
    exact bodyPost_ret (v:=.tuple #[.slice none 0 0,.int .i64 0,.int .i64 0,.int .i64 6]) (by simp [results,Tryz.results94,go_sem]) rfl (RListOut.no E2.out (by decide) Hbel.out)
   ·have hlt:u<l.length:=by omega
    have q1:=(HV.out.below Hbel.out).cellAt rfl hlt
    have g0:gb (l.drop u) 0=gb l u:=ZH l u 0
    obtain⟨x0,hx⟩:∃x0:Nat,x0=(gb l u).toNat:=⟨_,rfl⟩
    have ex:bv (gb l u)=x0:=by rw [hx]<;>rfl
    have ez:gb l u=0↔x0=0:=by rw [hx];exact⟨fun h=>by rw [h]<;>rfl,fun h=>UInt8.toNat_inj.1 h⟩
    change wr.cell? _=some (.int .u8 (bv (gb l u)))at q1
    rw [ex]at q1
    have d0:decide ((u:Int)>=l.length)=false:=by simp;omega
    have b5:(u:Int)<l.length:=by omega
    have hdl:(l.drop u).length=l.length - u:=List.length_drop
    clear hx ex
    by_cases hx0:x0=0
    ·have g0':gb (l.drop u) 0=0:=g0.trans (ez.2 hx0)
     subst hx0
     by_cases h1:u+1=l.length
     ·have E2:Hid (jf st n l d c true=.error 6):=by
       rw [E.out,xI (e:=6) (by unfold kh;rw [iT rfl,iT (.inr ⟨g0',by omega⟩)])]<;>rfl
      have d1:decide ((u:Int)+1>=l.length)=true:=by simp;omega
      clear E g0 g0' ez h0 h1 hdl
      go_wp2_with fail
      exact bodyPost_ret (v:=.tuple #[.slice none 0 0,.int .i64 0,.int .i64 0,.int .i64 6]) (by simp [results,Tryz.results94,go_sem]) rfl (RListOut.no E2.out (by decide) Hbel.out)
     ·have hl2:u+1<l.length:=by omega
      have d1:decide ((u:Int)+1>=l.length)=false:=by simp;omega
      have q2:=(HV.out.below Hbel.out).cellAt rfl hl2
      have g1:gb (l.drop u) 1=gb l (u+1):=ZH l u 1
      obtain⟨y,hy⟩:∃y:Nat,y=(gb l (u+1)).toNat:=⟨_,rfl⟩
      have ey:bv (gb l (u+1))=y:=by rw [hy]<;>rfl
      have ew:gb l (u+1)=0↔y=0:=by rw [hy];exact⟨fun h=>by rw [h]<;>rfl,fun h=>UInt8.toNat_inj.1 h⟩
      change wr.cell? _=some (.int .u8 (bv (gb l (u+1))))at q2
      rw [ey]at q2
      have b6:(0:Int)<=(u:Int)+1:=by omega
      have b7:(u:Int)+1<l.length:=by omega
      have hn1:¬((l.drop u).length=0\/(gb (l.drop u) 0=0/\(l.drop u).length=1)):=by omega
      clear hy ey
      by_cases hy0:y=0
      ·have g1':=g1.trans (ew.2 hy0)
       subst hy0
       have E2:Hid (jf st n l d c true=.ok ⟨L,u+2,cc⟩):=by
        rw [E.out,kw (u:=2) (by unfold kh;rw [iT rfl,iF hn1,iT ⟨g0',g1'⟩]),y3]<;>rfl
       clear E g0 g0' g1 g1' ez ew hn1 h0 h1 hdl
       go_wp2_with fail
       exact bodyPost_ret (v:=.tuple #[.slice oa L.len oc,.int .i64 ((u:Int)+2),.int .i64 (cc:Int),.int .i64 0]) (by simp [results,Tryz.results94,go_sem]) rfl (RListOut.yes E2.out (by omega) rfl Hown.out (by omega) Hbel.out)
      ·obtain⟨m,rfl⟩:∃m,gk=m+1:=⟨gk - 1,by omega⟩
       have hh:kh (l.drop u) true=none:=by unfold kh;rw [iT rfl,iF hn1,iF (fun h=>hy0 (ew.1 (g1.symm.trans h.2)))]
       have y0:((y:Int)==0)=false:=by simp;omega
       have ht:qj (l.drop u)=.error 4:=by
        have e0:bv (gb (l.drop u) 0)=0:=by rw [g0']<;>rfl
        unfold qj;rw [iF (by omega),e0,iF (by decide),iF (by decide)]
       have HT:=fun(w1:World) (hb:Below w.heap.size w w1)=>iH (QP (l.drop u) _ (·<w.heap.size) w1 (yo (HV.out.below hb) u (by omega) (A:=some ⟨bb,bo+u,none⟩) (by rw [iF (by omega)])))
       have E2:Hid (jf st n l d c true=.error 4):=by rw [E.out,jD hh (by show yX _ _ _ _ _=_;unfold yX;rw [ht])]<;>rfl
       simp only [ht,j1e]at HT
       have b8:(u:Int)<=l.length:=by omega
       have b9:(u:Int)<bc:=by omega
       clear g0 g0' g1 ez ew hn1 h0 h1 hy0 hdl hh ht E
       go_wp2_with(go_at_call 141;refine(HT _ Hbel.out).out.mono ?_;rintro e1 w' ⟨rfl,n1,rfl⟩)
       refine bodyPost_ret (v:=.tuple #[.slice none 0 0,.int .i64 0,.int .i64 0,.int .i64 4]) (by simp [results,Tryz.results94,go_sem]) rfl (RListOut.no E2.out (by decide) (j3 Hbel.out n1))
    ·obtain⟨m,rfl⟩:∃m,gk=m+1:=⟨gk - 1,by omega⟩
     have hne:¬gb (l.drop u) 0=0:=fun h=>hx0 (ez.1 (g0.symm.trans h))
     have hh:kh (l.drop u) true=none:=by
      unfold kh;rw [iT rfl,iF (fun h=>h.elim (fun h=>by omega) fun h=>hne h.1),iF (fun h=>hne h.1)]
     have y0:((x0:Int)==0)=false:=by simp;omega
     have ihT:=ihT m (by omega);have ihF:=ihF m (by omega)
     have b0:(u:Int)<=l.length:=by omega
     have b4:(u:Int)<bc:=by omega
     clear g0 ez h0 hx0 hne hdl
     have HT:=fun(w1:World) (hb:Below w.heap.size w w1)=>iH (QP (l.drop u) _ (·<w.heap.size) w1 (yo (HV.out.below hb) u (by omega) (A:=some ⟨bb,bo+u,none⟩) (by rw [iF (by omega)])))
     cases ht:qj (l.drop u)with
     |error er=>
      have E2:Hid (jf st n l d c true=.error er):=by rw [E.out,jD hh (by show yX _ _ _ _ _=_;unfold yX;rw [ht])]<;>rfl
      have ne:=yd ht
      have n0:(er != 0)=true:=by simp [ne]
      have N0:=iH ne
      simp only [ht,j1e]at HT
      clear ht ne hh E
      go_wp2_with(go_at_call 141;refine(HT _ Hbel.out).out.mono ?_;rintro e1 w' ⟨rfl,n1,rfl⟩)
      refine bodyPost_ret (v:=.tuple #[.slice none 0 0,.int .i64 0,.int .i64 0,.int .i64 er]) (by simp [results,Tryz.results94,go_sem]) rfl (RListOut.no E2.out N0.out (j3 Hbel.out _))
     |ok x=>
      obtain⟨t,k⟩:=x
      obtain⟨tv,k1,k2⟩:=zG ht
      rw [List.length_drop]at k2
      have hin:=K7 tv
      obtain⟨tc,htc⟩:∃tc,tc=kr t:=⟨_,rfl⟩
      have HC:=iH (fun w=>y4 t hin w)
      rw [<-htc]at HC
      simp only [ht,j3p]at HT
      obtain⟨A1,hA1⟩:∃A,(if bc=u+k then some (⟨bb,bo,none⟩:Addr)else some ⟨bb,bo+(u+k),none⟩)=A:=⟨_,rfl⟩
      have CUT1:=iH (fun(w1:World) (hb:Below w.heap.size w w1)=>yo (HV.out.below hb) (u+k) (by omega) hA1)
      have HS:=fun(w1:World) (hb:Below w.heap.size w w1)=>iH (Z6 (l.drop (u+k)) _ (·<w.heap.size) tc st w1 (CUT1.out w1 hb))
      have HI:=iH hin;have TC:=iH htc
      have HT2:=iH ht
      have b1:(0:Int)<=(u:Int)+k:=by omega
      have b2:(u:Int)+k<=l.length:=by omega
      have b3:(u:Int)+k<=bc:=by omega
      clear tv hin htc ht
      cases hs:jz (l.drop (u+k)) (tc&& !st) st with
      |error er=>
       have ho:kP st m (l.drop u) d cc=.error er:=XK HT2.out (by rw [List.drop_drop,<-TC.out];exact hs)
       have E2:Hid (jf st n l d c true=.error er):=by rw [E.out,jD hh ho]<;>rfl
       have ne:=qh hs
       have n0:(er != 0)=true:=by simp [ne]
       have N0:=iH ne
       simp only [hs,j1e]at HS
       clear hs ho ne hh E
       go_upto_region 14 with (go_at_call 141;refine(HT _ Hbel.out).out.mono ?_;rintro e1 w' ⟨rfl,n1,rfl⟩)
       have HB1:=iH (j3 Hbel.out n1)
       obtain⟨w1,hw1⟩:∃w1,w1=wr.drewN n1:=⟨_,rfl⟩
       have HD1:=iH (jq wr n1)
       rw [<-hw1]at HB1 HD1 |-
       clear hw1
       refine wp_region_quiet_lit (by kernel_rfl) (by kernel_rfl) ?_
       iterate 3 (first|go_big_quiet_step (fail)|quiet_step (fail))
       (try rw [hA1])
       repeat(first|go_big_quiet_step ((first|(go_at_call 143;exact Calls.quiet_of_same (HC.out _))|(go_at_call 142;exact j6 (HS _ (j3 HB1.out _)).out)))|quiet_step ((first|(go_at_call 143;exact Calls.quiet_of_same (HC.out _))|(go_at_call 142;exact j6 (HS _ (j3 HB1.out _)).out))))
       refine wpQuiet_nil ?_
       intro w2 hqq
       obtain⟨nq,hqr⟩:=hqq
       have HB2:=iH (j3 HB1.out nq)
       have HD2:=iH (j3 HD1.out nq)
       rw [<-hqr]at HB2 HD2
       clear hqr
       go_wp2_with fail
       refine bodyPost_ret (v:=.tuple #[.slice none 0 0,.int .i64 0,.int .i64 0,.int .i64 er]) (by simp [results,Tryz.results94,go_sem]) rfl (RListOut.no E2.out N0.out HB2.out)
      |ok y=>
       obtain⟨z,j⟩:=y
       obtain⟨j1,j2,m1,m2⟩:=xl hs
       rw [List.length_drop]at j2
       have hs':jz ((l.drop u).drop k) (kr t&& !st) st=.ok (z,j):=by rw [List.drop_drop,<-TC.out];exact hs
       have HS2:=iH hs'
       simp only [hs,j3p]at HS
       clear hs hs'
       obtain rfl:some (⟨bb,bo+(u+k),none⟩:Addr)=A1:=by rw [<-hA1,iF (by omega)]
       clear hA1
       by_cases h8:8<d
       ·have E2:Hid (jf st n l d c true=.error 7):=by rw [E.out,jD hh (XL HT2.out HS2.out h8)]<;>rfl
        clear hh E
        go_upto_region 14 with (go_at_call 141;refine(HT _ Hbel.out).out.mono ?_;rintro e1 w' ⟨rfl,n1,rfl⟩)
        have HB1:=iH (j3 Hbel.out n1)
        obtain⟨w1,hw1⟩:∃w1,w1=wr.drewN n1:=⟨_,rfl⟩
        have HD1:=iH (jq wr n1)
        rw [<-hw1]at HB1 HD1 |-
        clear hw1
        refine wp_region_quiet_lit (by kernel_rfl) (by kernel_rfl) ?_
        iterate 3 (first|go_big_quiet_step (fail)|quiet_step (fail))
        (try rw [hA1])
        repeat(first|go_big_quiet_step ((first|(go_at_call 143;exact Calls.quiet_of_same (HC.out _))|(go_at_call 142;exact j6 (HS _ (j3 HB1.out _)).out)))|quiet_step ((first|(go_at_call 143;exact Calls.quiet_of_same (HC.out _))|(go_at_call 142;exact j6 (HS _ (j3 HB1.out _)).out))))
        refine wpQuiet_nil ?_
        intro w2 hqq
        obtain⟨nq,hqr⟩:=hqq
        have HB2:=iH (j3 HB1.out nq)
        have HD2:=iH (j3 HD1.out nq)
        rw [<-hqr]at HB2 HD2
        clear hqr
        go_wp2_with fail
        refine bodyPost_ret (v:=.tuple #[.slice none 0 0,.int .i64 0,.int .i64 0,.int .i64 7]) (by simp [results,Tryz.results94,go_sem]) rfl (RListOut.no E2.out (by decide) HB2.out)
       ·by_cases h9:256<cc+1
        ·have E2:Hid (jf st n l d c true=.error 2):=by rw [E.out,jD hh (XM HT2.out HS2.out h8 h9)]<;>rfl
         clear hh E
         go_upto_region 14 with (go_at_call 141;refine(HT _ Hbel.out).out.mono ?_;rintro e1 w' ⟨rfl,n1,rfl⟩)
         have HB1:=iH (j3 Hbel.out n1)
         obtain⟨w1,hw1⟩:∃w1,w1=wr.drewN n1:=⟨_,rfl⟩
         have HD1:=iH (jq wr n1)
         rw [<-hw1]at HB1 HD1 |-
         clear hw1
         refine wp_region_quiet_lit (by kernel_rfl) (by kernel_rfl) ?_
         iterate 3 (first|go_big_quiet_step (fail)|quiet_step (fail))
         (try rw [hA1])
         repeat(first|go_big_quiet_step ((first|(go_at_call 143;exact Calls.quiet_of_same (HC.out _))|(go_at_call 142;exact j6 (HS _ (j3 HB1.out _)).out)))|quiet_step ((first|(go_at_call 143;exact Calls.quiet_of_same (HC.out _))|(go_at_call 142;exact j6 (HS _ (j3 HB1.out _)).out))))
         refine wpQuiet_nil ?_
         intro w2 hqq
         obtain⟨nq,hqr⟩:=hqq
         have HB2:=iH (j3 HB1.out nq)
         have HD2:=iH (j3 HD1.out nq)
         rw [<-hqr]at HB2 HD2
         clear hqr
         go_wp2_with fail
         refine bodyPost_ret (v:=.tuple #[.slice none 0 0,.int .i64 0,.int .i64 0,.int .i64 2]) (by simp [results,Tryz.results94,go_sem]) rfl (RListOut.no E2.out (by decide) HB2.out)
        ·by_cases h10:(l.length:Int) - ((u+k+j:Nat):Int)<z
         ·have E2:Hid (jf st n l d c true=.error 6):=by rw [E.out,jD hh (XN HT2.out HS2.out h8 h9 (by rw [List.drop_drop,List.length_drop];omega))]<;>rfl
          have h11:(l.length:Int) - ((u:Int)+k+j)<z:=by omega
          clear hh E h10
          go_upto_region 14 with (go_at_call 141;refine(HT _ Hbel.out).out.mono ?_;rintro e1 w' ⟨rfl,n1,rfl⟩)
          have HB1:=iH (j3 Hbel.out n1)
          obtain⟨w1,hw1⟩:∃w1,w1=wr.drewN n1:=⟨_,rfl⟩
          have HD1:=iH (jq wr n1)
          rw [<-hw1]at HB1 HD1 |-
          clear hw1
          refine wp_region_quiet_lit (by kernel_rfl) (by kernel_rfl) ?_
          iterate 3 (first|go_big_quiet_step (fail)|quiet_step (fail))
          (try rw [hA1])
          repeat(first|go_big_quiet_step ((first|(go_at_call 143;exact Calls.quiet_of_same (HC.out _))|(go_at_call 142;exact j6 (HS _ (j3 HB1.out _)).out)))|quiet_step ((first|(go_at_call 143;exact Calls.quiet_of_same (HC.out _))|(go_at_call 142;exact j6 (HS _ (j3 HB1.out _)).out))))
          refine wpQuiet_nil ?_
          intro w2 hqq
          obtain⟨nq,hqr⟩:=hqq
          have HB2:=iH (j3 HB1.out nq)
          have HD2:=iH (j3 HD1.out nq)
          rw [<-hqr]at HB2 HD2
          clear hqr
          go_wp2_with fail
          refine bodyPost_ret (v:=.tuple #[.slice none 0 0,.int .i64 0,.int .i64 0,.int .i64 6]) (by simp [results,Tryz.results94,go_sem]) rfl (RListOut.no E2.out (by decide) HB2.out)
         ·have h3':¬(((l.drop u).drop (k+j)).length:Int)<z:=by rw [List.drop_drop,List.length_drop];omega
          have H3:=iH h3';clear h3'
          have h11:z<=(l.length:Int) - ((u:Int)+k+j):=by omega
          clear h10
          obtain⟨A2,hA2⟩:∃A,(if bc=u+k+j then some (⟨bb,bo,none⟩:Addr)else some ⟨bb,bo+(u+k+j),none⟩)=A:=⟨_,rfl⟩
          have hA3:(A2=some ⟨bb,bo+(u+k+j),none⟩/\u+k+j<bc)\/(A2=some ⟨bb,bo,none⟩/\bc<=u+k+j):=by
           rcases Nat.lt_or_ge (u+k+j) bc with h|h
           ·exact .inl ⟨by rw [<-hA2,iF (by omega)],h⟩
           ·exact .inr ⟨by rw [<-hA2,iT (by omega)],h⟩
          have hj2:u+k+j<=l.length:=by omega
          have hm2:l.length<=u+m+1:=by omega
          have hz1:=iH (show z= -1\/0<=z from m2.elim .inr fun h=>.inl h.1)
          have hkj:2<=k+j:=by omega
          have HA3:=iH hA3;clear hA3
          clear k2 j2 m1 m2 hu2 hlt hln
          by_cases hz0:z<0
          ·skip
           have hpl:(l.drop (u+k+j)).length<=m:=by rw [List.length_drop];omega
           have hp4:(l.drop (u+k+j)).length<=4096:=by rw [List.length_drop];omega
           have HF:=fun(w3:World) (hb:Below w.heap.size w w3) (A:Option Addr) (N C:Nat) (h:BsS w3 (·<w.heap.size) (.slice A N C) (l.drop (u+k+j)))=>iH (show Calls Tryz.prog 94 #[.slice A N C,.int .i64 ((d:Int)+1),.int .i64 ((cc:Int)+1),.bool st,.bool true] w3 (RListOut (jf st m (l.drop (u+k+j)) (d+1) (cc+1) true) w3) from
            ihT (l.drop (u+k+j)) _ (d+1) (cc+1) st w3 (h.keep fun b hs _=>⟨rfl,iZ hs hb.size⟩) hp4 hpl (by omega) (by omega))
           have hl0:=jS st m (l.drop (u+k+j)) (d+1) (cc+1) true (by omega)
           clear hpl hp4
           cases hl:jf st m (l.drop (u+k+j)) (d+1) (cc+1) true with
           |error er=>
            have ho:kP st m (l.drop u) d cc=.error er:=j04 HT2.out HS2.out h8 h9 (by have:=H3.out;omega) hz0 (by rw [List.drop_drop,<-Nat.add_assoc];exact hl)
            have E2:Hid (jf st n l d c true=.error er):=by rw [E.out,jD hh ho]<;>rfl
            have ne:=hl0.2 er hl
            have n0:(er != 0)=true:=by simp [ne]
            have N0:=iH ne
            rw [hl]at HF
            clear hl hl0 ne hh E ho hA2
            go_upto_region 14 with (go_at_call 141;refine(HT _ Hbel.out).out.mono ?_;rintro e1 w' ⟨rfl,n1,rfl⟩)
            have HB1:=iH (j3 Hbel.out n1)
            obtain⟨w1,hw1⟩:∃w1,w1=wr.drewN n1:=⟨_,rfl⟩
            have HD1:=iH (jq wr n1)
            rw [<-hw1]at HB1 HD1 |-
            clear hw1
            refine wp_region_quiet_lit (by kernel_rfl) (by kernel_rfl) ?_
            iterate 3 (first|go_big_quiet_step (fail)|quiet_step (fail))
            (try rw [hA1])
            repeat(first|go_big_quiet_step ((first|(go_at_call 143;exact Calls.quiet_of_same (HC.out _))|(go_at_call 142;exact j6 (HS _ (j3 HB1.out _)).out)))|quiet_step ((first|(go_at_call 143;exact Calls.quiet_of_same (HC.out _))|(go_at_call 142;exact j6 (HS _ (j3 HB1.out _)).out))))
            refine wpQuiet_nil ?_
            intro w2 hqq
            obtain⟨nq,hqr⟩:=hqq
            have HB2:=iH (j3 HB1.out nq)
            have HD2:=iH (j3 HD1.out nq)
            rw [<-hqr]at HB2 HD2
            clear hqr
            have HW:=iH HD2.out
            go_upto_region 28 with (go_at_call 143;refine(HC.out _).mono ?_;rintro e w' ⟨rfl,rfl⟩)
            have hsz3:=iH HW.out.size
            obtain⟨w3,hw3⟩:∃w3,w3=w2.alloc (.cells #[.int .i64 t,.slice none 0 0,.slice none 0 0] 66):=⟨_,rfl⟩
            obtain⟨X,hX⟩:∃X,X=w2.heap.size:=⟨_,rfl⟩
            have X3:Hid (w3.heap[X]?=some (.cells #[.int .i64 t,.slice none 0 0,.slice none 0 0] 66 (0,0))):=by rw [hw3,hX];exact heap_alloc_new w2 _
            have HW3:Hid (Below wr.heap.size wr w3):=by rw [hw3];exact HW.out.alloc HW.out.size _
            have HB3:Hid (Below w.heap.size w w3):=by rw [hw3];exact HB2.out.alloc HB2.out.size _
            have hXr:wr.heap.size<=X:=by rw [hX];exact HD2.out.size
            have hXw:w.heap.size<=X:=Nat.le_trans Hbel.out.size hXr
            have hX3:X<w3.heap.size:=(iG X3.out)
            rw [<-hw3,<-hX]
            clear hw3 hX hsz3
            obtain⟨x0,x1,x2,xf⟩:=kt X3.out
            have xf1:=xf 2
            clear xf
            rcases HA3.out with ⟨rfl,hb5⟩|⟨rfl,hb5⟩
            rotate_left
            obtain rfl:bc=u+k+j:=by omega
            clear hb5
            all_goals
             go_wp2_with(go_at_call 94;refine(HF _ HB3.out _ _ _ (Yv (HV.out.below HB3.out) (u+k+j) hj2 (fun h=>by first|rfl|omega) (by omega) ⟨by omega,by omega⟩)).out.mono ?_;intro e4 w4 h4;obtain⟨_,rfl,hb4⟩:=h4;have X4:=iH ((hb4.block _ (iG X3.out)).trans X3.out);have Hb4:=iH hb4;clear hb4 x0 x1 x2 xf1;obtain⟨x0,x1,x2,xf⟩:=kt X4.out;have xf1:=xf 2;clear xf)
             refine bodyPost_ret (v:=.tuple #[.slice none 0 0,.int .i64 0,.int .i64 0,.int .i64 er]) (by simp [results,Tryz.results94,go_sem]) rfl (RListOut.no E2.out N0.out ((HB3.out.trans (Hb4.out.mono HB3.out.size)).setCell hXw _))
           |ok r=>
            have ho:kP st m (l.drop u) d cc=.ok ⟨t,[],r.list,k+j+r.used,r.count⟩:=j2x HT2.out HS2.out h8 h9 (by have:=H3.out;omega) hz0 (by rw [List.drop_drop,<-Nat.add_assoc];exact hl)
            obtain⟨u1,u2,u3⟩:=hl0.1 r hl
            have u5:u+k+j+r.used<=l.length:=by rw [List.length_drop]at u1;omega
            clear u1
            have E2:Hid (jf st n l d c true=yx (L.app (.cons t [] r.list .nil)) (u+(k+j+r.used)) (jf st m (l.drop (u+(k+j+r.used))) d r.count true)):=by
             rw [E.out,jN hh ho,qB,List.drop_drop]<;>rfl
            rw [hl]at HF
            clear hl hl0 hh E ho u3 hA2
            go_upto_region 14 with (go_at_call 141;refine(HT _ Hbel.out).out.mono ?_;rintro e1 w' ⟨rfl,n1,rfl⟩)
            have HB1:=iH (j3 Hbel.out n1)
            obtain⟨w1,hw1⟩:∃w1,w1=wr.drewN n1:=⟨_,rfl⟩
            have HD1:=iH (jq wr n1)
            rw [<-hw1]at HB1 HD1 |-
            clear hw1
            refine wp_region_quiet_lit (by kernel_rfl) (by kernel_rfl) ?_
            iterate 3 (first|go_big_quiet_step (fail)|quiet_step (fail))
            (try rw [hA1])
            repeat(first|go_big_quiet_step ((first|(go_at_call 143;exact Calls.quiet_of_same (HC.out _))|(go_at_call 142;exact j6 (HS _ (j3 HB1.out _)).out)))|quiet_step ((first|(go_at_call 143;exact Calls.quiet_of_same (HC.out _))|(go_at_call 142;exact j6 (HS _ (j3 HB1.out _)).out))))
            refine wpQuiet_nil ?_
            intro w2 hqq
            obtain⟨nq,hqr⟩:=hqq
            have HB2:=iH (j3 HB1.out nq)
            have HD2:=iH (j3 HD1.out nq)
            rw [<-hqr]at HB2 HD2
            clear hqr
            have HW:=iH HD2.out
            go_upto_region 28 with (go_at_call 143;refine(HC.out _).mono ?_;rintro e w' ⟨rfl,rfl⟩)
            have hsz3:=iH HW.out.size
            obtain⟨w3,hw3⟩:∃w3,w3=w2.alloc (.cells #[.int .i64 t,.slice none 0 0,.slice none 0 0] 66):=⟨_,rfl⟩
            obtain⟨X,hX⟩:∃X,X=w2.heap.size:=⟨_,rfl⟩
            have X3:Hid (w3.heap[X]?=some (.cells #[.int .i64 t,.slice none 0 0,.slice none 0 0] 66 (0,0))):=by rw [hw3,hX];exact heap_alloc_new w2 _
            have HW3:Hid (Below wr.heap.size wr w3):=by rw [hw3];exact HW.out.alloc HW.out.size _
            have HB3:Hid (Below w.heap.size w w3):=by rw [hw3];exact HB2.out.alloc HB2.out.size _
            have hXr:wr.heap.size<=X:=by rw [hX];exact HD2.out.size
            have hXw:w.heap.size<=X:=Nat.le_trans Hbel.out.size hXr
            have hX3:X<w3.heap.size:=(iG X3.out)
            rw [<-hw3,<-hX]
            clear hw3 hX hsz3
            obtain⟨x0,x1,x2,xf⟩:=kt X3.out
            have xf1:=xf 2
            clear xf
            rcases HA3.out with ⟨rfl,hb5⟩|⟨rfl,hb5⟩
            rotate_left
            obtain rfl:bc=u+k+j:=by omega
            clear hb5
            all_goals
             go_wp2_with(first
              |(go_at_call 94;refine(HF _ HB3.out _ _ _ (Yv (HV.out.below HB3.out) (u+k+j) hj2 (fun h=>by first|rfl|omega) (by omega) ⟨by omega,by omega⟩)).out.mono ?_;intro e4 w4 h4;obtain⟨v4,rfl,hv4,hb4,_⟩:=h4;obtain⟨va,vc,rfl⟩:=NsS.form2 hv4;have X4:=iH ((hb4.block _ (iG X3.out)).trans X3.out);have Hb4:=iH hb4;have Hv4:=iH hv4;clear hb4 hv4 x0 x1 x2 xf1;obtain⟨x0,x1,x2,xf⟩:=kt X4.out;have xf1:=xf 2;clear xf;have HWW:=iH (show Below wr.heap.size wr (w4.setCell ⟨X,2,none⟩ (.slice va r.list.len vc)) from(HW3.out.trans (Hb4.out.mono HW3.out.size)).setCell hXr _);have HN:=iH (Je Hown.out Hb4.out HW3.out hX3 hXr Hbel.out.size (.slice va r.list.len vc) Hv4.out))
              |(at_builtin;(with_reducible refine ku rfl (.tmp 164) (.tmp 166) rfl w.heap.size (.slice oa L.len oc) L rfl (Hown.out.below HWW.out) t [] r.list (.slice none 0 0) (.slice va r.list.len vc) _ w4.heap.size rfl (by simp [World.setCell]) HI.out (BsS.nil0 _ _) HN.out (by omega) (Nat.le_trans Hbel.out.size HWW.out.size) ?_);intro o2 w2 hg2;have G2:=iH hg2;clear hg2))
             go_roundg m
             case measure=>omega
             case rel=>exact⟨L.app (.cons t [] r.list .nil),u+(k+j+r.used),r.count,E2.out,by go_num,by go_num,G2.out.1,(Hbel.out.trans (HWW.out.mono Hbel.out.size)).trans G2.out.2.1,by omega,by omega,by omega,u2,by rw [Ns.len_snoc];omega⟩
          ·obtain⟨q,rfl⟩:=Int.eq_ofNat_of_zero_le (show 0<=z by omega)
           have hq:u+k+j+q<=l.length:=by omega
           clear hz1 h11 hz0
           cases tc with
           |true=>
            have hpl:((l.drop (u+k+j)).take q).length<=m:=by rw [List.length_take,List.length_drop];omega
            have hp4:((l.drop (u+k+j)).take q).length<=4096:=by rw [List.length_take,List.length_drop];omega
            have HF:=fun(w3:World) (hb:Below w.heap.size w w3) (A:Option Addr) (N C:Nat) (h:BsS w3 (·<w.heap.size) (.slice A N C) ((l.drop (u+k+j)).take q))=>iH (show Calls Tryz.prog 94 #[.slice A N C,.int .i64 ((d:Int)+1),.int .i64 ((cc:Int)+1),.bool st,.bool false] w3 (RListOut (jf st m ((l.drop (u+k+j)).take q) (d+1) (cc+1) false) w3) from
             ihF ((l.drop (u+k+j)).take q) _ (d+1) (cc+1) st w3 (h.keep fun b hs _=>⟨rfl,iZ hs hb.size⟩) hp4 hpl (by omega) (by omega))
            have hl0:=jS st m ((l.drop (u+k+j)).take q) (d+1) (cc+1) false (by omega)
            clear hpl hp4
            cases hl:jf st m ((l.drop (u+k+j)).take q) (d+1) (cc+1) false with
            |error er=>
             have ho:kP st m (l.drop u) d cc=.error er:=YH HT2.out HS2.out h8 h9 (by have:=H3.out;omega) (by omega) (TC.out.symm.trans rfl) (by rw [List.drop_drop,<-Nat.add_assoc,Int.toNat_natCast];exact hl)
             have E2:Hid (jf st n l d c true=.error er):=by rw [E.out,jD hh ho]<;>rfl
             have ne:=hl0.2 er hl
             have n0:(er != 0)=true:=by simp [ne]
             have N0:=iH ne
             rw [hl]at HF
             clear hl hl0 ne hh E ho hA2
             go_upto_region 14 with (go_at_call 141;refine(HT _ Hbel.out).out.mono ?_;rintro e1 w' ⟨rfl,n1,rfl⟩)
             have HB1:=iH (j3 Hbel.out n1)
             obtain⟨w1,hw1⟩:∃w1,w1=wr.drewN n1:=⟨_,rfl⟩
             have HD1:=iH (jq wr n1)
             rw [<-hw1]at HB1 HD1 |-
             clear hw1
             refine wp_region_quiet_lit (by kernel_rfl) (by kernel_rfl) ?_
             iterate 3 (first|go_big_quiet_step (fail)|quiet_step (fail))
             (try rw [hA1])
             repeat(first|go_big_quiet_step ((first|(go_at_call 143;exact Calls.quiet_of_same (HC.out _))|(go_at_call 142;exact j6 (HS _ (j3 HB1.out _)).out)))|quiet_step ((first|(go_at_call 143;exact Calls.quiet_of_same (HC.out _))|(go_at_call 142;exact j6 (HS _ (j3 HB1.out _)).out))))
             refine wpQuiet_nil ?_
             intro w2 hqq
             obtain⟨nq,hqr⟩:=hqq
             have HB2:=iH (j3 HB1.out nq)
             have HD2:=iH (j3 HD1.out nq)
             rw [<-hqr]at HB2 HD2
             clear hqr
             have HW:=iH HD2.out
             go_upto_region 31 with (go_at_call 143;refine(HC.out _).mono ?_;rintro e w' ⟨rfl,rfl⟩)
             have hsz3:=iH HW.out.size
             obtain⟨w3,hw3⟩:∃w3,w3=w2.alloc (.cells #[.int .i64 t,.slice none 0 0,.slice none 0 0] 66):=⟨_,rfl⟩
             obtain⟨X,hX⟩:∃X,X=w2.heap.size:=⟨_,rfl⟩
             have X3:Hid (w3.heap[X]?=some (.cells #[.int .i64 t,.slice none 0 0,.slice none 0 0] 66 (0,0))):=by rw [hw3,hX];exact heap_alloc_new w2 _
             have HW3:Hid (Below wr.heap.size wr w3):=by rw [hw3];exact HW.out.alloc HW.out.size _
             have HB3:Hid (Below w.heap.size w w3):=by rw [hw3];exact HB2.out.alloc HB2.out.size _
             have hXr:wr.heap.size<=X:=by rw [hX];exact HD2.out.size
             have hXw:w.heap.size<=X:=Nat.le_trans Hbel.out.size hXr
             have hX3:X<w3.heap.size:=(iG X3.out)
             rw [<-hw3,<-hX]
             clear hw3 hX hsz3
             obtain⟨x0,x1,x2,xf⟩:=kt X3.out
             have xf1:=xf 2
             clear xf
             rcases HA3.out with ⟨rfl,hb5⟩|⟨rfl,hb5⟩
             rotate_left
             obtain rfl:bc=u+k+j:=by omega
             clear hb5
             all_goals
              go_wp2_with(go_at_call 94;refine(HF _ HB3.out _ _ _ (Ql (HV.out.below HB3.out) (u+k+j) q hq (fun h=>by first|rfl|omega) (by omega) ⟨by omega,by omega⟩)).out.mono ?_;intro e4 w4 h4;obtain⟨_,rfl,hb4⟩:=h4;have X4:=iH ((hb4.block _ (iG X3.out)).trans X3.out);have Hb4:=iH hb4;clear hb4 x0 x1 x2 xf1;obtain⟨x0,x1,x2,xf⟩:=kt X4.out;have xf1:=xf 2;clear xf)
              refine bodyPost_ret (v:=.tuple #[.slice none 0 0,.int .i64 0,.int .i64 0,.int .i64 er]) (by simp [results,Tryz.results94,go_sem]) rfl (RListOut.no E2.out N0.out ((HB3.out.trans (Hb4.out.mono HB3.out.size)).setCell hXw _))
            |ok r=>
             have ho:kP st m (l.drop u) d cc=.ok ⟨t,[],r.list,k+j+q,r.count⟩:=UD HT2.out HS2.out h8 h9 (by have:=H3.out;omega) (by omega) (TC.out.symm.trans rfl) (by rw [List.drop_drop,<-Nat.add_assoc,Int.toNat_natCast];exact hl)
             obtain⟨u1,u2,u3⟩:=hl0.1 r hl
             have u4:=u3 rfl
             rw [List.length_take,List.length_drop,Nat.min_eq_left (by omega)]at u4
             clear u1
             have E2:Hid (jf st n l d c true=yx (L.app (.cons t [] r.list .nil)) (u+(k+j+q)) (jf st m (l.drop (u+(k+j+q))) d r.count true)):=by
              rw [E.out,jN hh ho,qB,List.drop_drop]<;>rfl
             rw [hl]at HF
             clear hl hl0 hh E ho u3 hA2
             go_upto_region 14 with (go_at_call 141;refine(HT _ Hbel.out).out.mono ?_;rintro e1 w' ⟨rfl,n1,rfl⟩)
             have HB1:=iH (j3 Hbel.out n1)
             obtain⟨w1,hw1⟩:∃w1,w1=wr.drewN n1:=⟨_,rfl⟩
             have HD1:=iH (jq wr n1)
             rw [<-hw1]at HB1 HD1 |-
             clear hw1
             refine wp_region_quiet_lit (by kernel_rfl) (by kernel_rfl) ?_
             iterate 3 (first|go_big_quiet_step (fail)|quiet_step (fail))
             (try rw [hA1])
             repeat(first|go_big_quiet_step ((first|(go_at_call 143;exact Calls.quiet_of_same (HC.out _))|(go_at_call 142;exact j6 (HS _ (j3 HB1.out _)).out)))|quiet_step ((first|(go_at_call 143;exact Calls.quiet_of_same (HC.out _))|(go_at_call 142;exact j6 (HS _ (j3 HB1.out _)).out))))
             refine wpQuiet_nil ?_
             intro w2 hqq
             obtain⟨nq,hqr⟩:=hqq
             have HB2:=iH (j3 HB1.out nq)
             have HD2:=iH (j3 HD1.out nq)
             rw [<-hqr]at HB2 HD2
             clear hqr
             have HW:=iH HD2.out
             go_upto_region 31 with (go_at_call 143;refine(HC.out _).mono ?_;rintro e w' ⟨rfl,rfl⟩)
             have hsz3:=iH HW.out.size
             obtain⟨w3,hw3⟩:∃w3,w3=w2.alloc (.cells #[.int .i64 t,.slice none 0 0,.slice none 0 0] 66):=⟨_,rfl⟩
             obtain⟨X,hX⟩:∃X,X=w2.heap.size:=⟨_,rfl⟩
             have X3:Hid (w3.heap[X]?=some (.cells #[.int .i64 t,.slice none 0 0,.slice none 0 0] 66 (0,0))):=by rw [hw3,hX];exact heap_alloc_new w2 _
             have HW3:Hid (Below wr.heap.size wr w3):=by rw [hw3];exact HW.out.alloc HW.out.size _
             have HB3:Hid (Below w.heap.size w w3):=by rw [hw3];exact HB2.out.alloc HB2.out.size _
             have hXr:wr.heap.size<=X:=by rw [hX];exact HD2.out.size
             have hXw:w.heap.size<=X:=Nat.le_trans Hbel.out.size hXr
             have hX3:X<w3.heap.size:=(iG X3.out)
             rw [<-hw3,<-hX]
             clear hw3 hX hsz3
             obtain⟨x0,x1,x2,xf⟩:=kt X3.out
             have xf1:=xf 2
             clear xf
             rcases HA3.out with ⟨rfl,hb5⟩|⟨rfl,hb5⟩
             rotate_left
             obtain rfl:bc=u+k+j:=by omega
             clear hb5
             all_goals
              go_wp2_with(first
               |(go_at_call 94;refine(HF _ HB3.out _ _ _ (Ql (HV.out.below HB3.out) (u+k+j) q hq (fun h=>by first|rfl|omega) (by omega) ⟨by omega,by omega⟩)).out.mono ?_;intro e4 w4 h4;obtain⟨v4,rfl,hv4,hb4,_⟩:=h4;obtain⟨va,vc,rfl⟩:=NsS.form2 hv4;have X4:=iH ((hb4.block _ (iG X3.out)).trans X3.out);have Hb4:=iH hb4;have Hv4:=iH hv4;clear hb4 hv4 x0 x1 x2 xf1;obtain⟨x0,x1,x2,xf⟩:=kt X4.out;have xf1:=xf 2;clear xf;have HWW:=iH (show Below wr.heap.size wr (w4.setCell ⟨X,2,none⟩ (.slice va r.list.len vc)) from(HW3.out.trans (Hb4.out.mono HW3.out.size)).setCell hXr _);have HN:=iH (Je Hown.out Hb4.out HW3.out hX3 hXr Hbel.out.size (.slice va r.list.len vc) Hv4.out))
               |(at_builtin;(with_reducible refine ku rfl (.tmp 164) (.tmp 166) rfl w.heap.size (.slice oa L.len oc) L rfl (Hown.out.below HWW.out) t [] r.list (.slice none 0 0) (.slice va r.list.len vc) _ w4.heap.size rfl (by simp [World.setCell]) HI.out (BsS.nil0 _ _) HN.out (by omega) (Nat.le_trans Hbel.out.size HWW.out.size) ?_);intro o2 w2 hg2;have G2:=iH hg2;clear hg2))
              go_roundg m
              case measure=>omega
              case rel=>exact⟨L.app (.cons t [] r.list .nil),u+(k+j+q),r.count,E2.out,by go_num,by go_num,G2.out.1,(Hbel.out.trans (HWW.out.mono Hbel.out.size)).trans G2.out.2.1,by omega,by omega,by omega,u2,by rw [Ns.len_snoc];omega⟩
           |false=>
            have CUT2:=iH (fun(w1:World) (hb:Below w.heap.size w w1)=>ZE (HV.out.below hb) (u+k+j) q (by omega) hA2)
            have ho:kP st m (l.drop u) d cc=.ok ⟨t,(l.drop (u+k+j)).take q,.nil,k+j+q,cc+1⟩:=by
             rw [j05 HT2.out HS2.out h8 h9 (by have:=H3.out;omega) (by omega) (by rw [<-TC.out];decide),List.drop_drop,<-Nat.add_assoc,Int.toNat_natCast]
            have E2:Hid (jf st n l d c true=yx (L.app (.cons t ((l.drop (u+k+j)).take q) .nil .nil)) (u+(k+j+q)) (jf st m (l.drop (u+(k+j+q))) d (cc+1) true)):=by
             rw [E.out,jN hh ho,qB,List.drop_drop]<;>rfl
            obtain⟨vl,hvl⟩:∃vl,vl=(l.drop (u+k+j)).take q:=⟨_,rfl⟩
            have hql:vl.length=q:=by rw [hvl,List.length_take,List.length_drop];omega
            rw [<-hvl]at E2 CUT2
            clear hh E ho hvl hA2
            have HQ:=iH hql;clear hql
            go_upto_region 14 with (go_at_call 141;refine(HT _ Hbel.out).out.mono ?_;rintro e1 w' ⟨rfl,n1,rfl⟩)
            have HB1:=iH (j3 Hbel.out n1)
            obtain⟨w1,hw1⟩:∃w1,w1=wr.drewN n1:=⟨_,rfl⟩
            have HD1:=iH (jq wr n1)
            rw [<-hw1]at HB1 HD1 |-
            clear hw1
            refine wp_region_quiet_lit (by kernel_rfl) (by kernel_rfl) ?_
            iterate 3 (first|go_big_quiet_step (fail)|quiet_step (fail))
            (try rw [hA1])
            repeat(first|go_big_quiet_step ((first|(go_at_call 143;exact Calls.quiet_of_same (HC.out _))|(go_at_call 142;exact j6 (HS _ (j3 HB1.out _)).out)))|quiet_step ((first|(go_at_call 143;exact Calls.quiet_of_same (HC.out _))|(go_at_call 142;exact j6 (HS _ (j3 HB1.out _)).out))))
            refine wpQuiet_nil ?_
            intro w2 hqq
            obtain⟨nq,hqr⟩:=hqq
            have HB2:=iH (j3 HB1.out nq)
            have HD2:=iH (j3 HD1.out nq)
            rw [<-hqr]at HB2 HD2
            clear hqr
            have HW:=iH HD2.out
            go_upto_region 26 with (go_at_call 143;refine(HC.out _).mono ?_;rintro e w' ⟨rfl,rfl⟩)
            have hsz3:=iH HW.out.size
            obtain⟨w3,hw3⟩:∃w3,w3=w2.alloc (.cells #[.int .i64 t,.slice none 0 0,.slice none 0 0] 66):=⟨_,rfl⟩
            obtain⟨X,hX⟩:∃X,X=w2.heap.size:=⟨_,rfl⟩
            have X3:Hid (w3.heap[X]?=some (.cells #[.int .i64 t,.slice none 0 0,.slice none 0 0] 66 (0,0))):=by rw [hw3,hX];exact heap_alloc_new w2 _
            have HW3:Hid (Below wr.heap.size wr w3):=by rw [hw3];exact HW.out.alloc HW.out.size _
            have HB3:Hid (Below w.heap.size w w3):=by rw [hw3];exact HB2.out.alloc HB2.out.size _
            have hXr:wr.heap.size<=X:=by rw [hX];exact HD2.out.size
            have hXw:w.heap.size<=X:=Nat.le_trans Hbel.out.size hXr
            have hX3:X<w3.heap.size:=(iG X3.out)
            rw [<-hw3,<-hX]
            clear hw3 hX hsz3
            obtain⟨x0,x1,x2,xf⟩:=kt X3.out
            have xf1:=xf 1
            clear xf
            rcases HA3.out with ⟨rfl,hb5⟩|⟨rfl,hb5⟩
            rotate_left
            obtain rfl:bc=u+k+j:=by omega
            simp only [Nat.sub_self]at CUT2
            clear hb5
            all_goals
             have CC:=iH (CUT2.out w3 HB3.out)
             go_wp2_with(first
              |(at_builtin;(with_reducible refine j5 rfl (.const (.slice none 0 0)) (.tmp 117) rfl w3.heap.size (.slice none 0 0) [] rfl (OwnB.nil _ _) (some ⟨bb,bo+(u+k+j),none⟩) q (bc - (u+k+j)) vl _ (by simp [Act.eval]) CC.out (by have:=HQ.out;simp;omega) iL ?_);intro v4 w4 hg4;rw [List.nil_append]at hg4;obtain⟨va,vc,rfl⟩:=hg4.1.form;have X4:=iH ((hg4.2.1.block _ (iG X3.out)).trans X3.out);have Hb4:=iH hg4.2.1;have Hv4:=iH ((BsS.of_own hg4.1 (by have:=HQ.out;omega)));clear hg4 x0 x1 x2 xf1;obtain⟨x0,x1,x2,xf⟩:=kt X4.out;have xf1:=xf 1;clear xf;have HWW:=iH (show Below wr.heap.size wr (w4.setCell ⟨X,1,none⟩ (.slice va vl.length vc)) from(HW3.out.trans (Hb4.out.mono HW3.out.size)).setCell hXr _);have HN:=iH (zL Hown.out Hb4.out HW3.out hX3 hXr Hbel.out.size (.slice va vl.length vc) Hv4.out))
              |(at_builtin;(with_reducible refine j5 rfl (.const (.slice none 0 0)) (.tmp 117) rfl w3.heap.size (.slice none 0 0) [] rfl (OwnB.nil _ _) (some ⟨bb,bo,none⟩) q 0 vl _ (by simp [Act.eval]) CC.out (by have:=HQ.out;simp;omega) iL ?_);intro v4 w4 hg4;rw [List.nil_append]at hg4;obtain⟨va,vc,rfl⟩:=hg4.1.form;have X4:=iH ((hg4.2.1.block _ (iG X3.out)).trans X3.out);have Hb4:=iH hg4.2.1;have Hv4:=iH ((BsS.of_own hg4.1 (by have:=HQ.out;omega)));clear hg4 x0 x1 x2 xf1;obtain⟨x0,x1,x2,xf⟩:=kt X4.out;have xf1:=xf 1;clear xf;have HWW:=iH (show Below wr.heap.size wr (w4.setCell ⟨X,1,none⟩ (.slice va vl.length vc)) from(HW3.out.trans (Hb4.out.mono HW3.out.size)).setCell hXr _);have HN:=iH (zL Hown.out Hb4.out HW3.out hX3 hXr Hbel.out.size (.slice va vl.length vc) Hv4.out))
              |(at_builtin;(with_reducible refine ku rfl (.tmp 164) (.tmp 166) rfl w.heap.size (.slice oa L.len oc) L rfl (Hown.out.below HWW.out) t vl .nil (.slice va vl.length vc) (.slice none 0 0) _ w4.heap.size rfl (by simp [World.setCell]) HI.out HN.out (NsS.nil0 _ _) (by omega) (Nat.le_trans Hbel.out.size HWW.out.size) ?_);intro o2 w2 hg2;have G2:=iH hg2;clear hg2))
             go_roundg m
             case measure=>omega
             case rel=>exact⟨L.app (.cons t vl .nil .nil),u+(k+j+q),cc+1,E2.out,by go_num,by go_num,G2.out.1,(Hbel.out.trans (HWW.out.mono Hbel.out.size)).trans G2.out.2.1,by omega,by omega,by omega,by omega,by rw [Ns.len_snoc];omega⟩
end
theorem US(n:Nat):yH n true/\yH n false:=by
 induction n using Nat.strongRecOn with
 |_ n ih=>exact⟨UR n (fun m hm=>(ih m hm).1) (fun m hm=>(ih m hm).2),Z2 n (fun m hm=>(ih m hm).1) (fun m hm=>(ih m hm).2)⟩
section
variable(B:List UInt8)(v:Value)(st:Bool)(w:World)(hv:Bs w w.heap.size v B)
include B v st w hv
theorem UW:Calls Tryz.prog 41 #[v,.bool st] w fun e w'=>NodesOut (kl B st) w e w'/\∀L,kl B st=.ok L->∃v',e=.returned (.tuple #[v',.int .i64 0])/\OwnN w' w.heap.size v' L:=by
 have hlen:=hv.len
 by_cases h1:4096<B.length
 ·obtain⟨a,c,rfl⟩:=hv.form2
  have E:=iH (JK (st:=st) h1)
  clear hv
  go_enter Tryz.func41,Tryz.ntmps41
  go_wp2_with fail
  go_ret2
  exact⟨NodesOut.no E.out iB,fun L h=>by rw [E.out]at h;cases h⟩
 ·have hc:=(US B.length).2 B v 1 0 st w hv (by omega) iL (by omega) (by omega)
  obtain⟨a,c,rfl⟩:=hv.form2
  have HC:=iH hc
  cases hl:jf st B.length B 1 0 false with
  |error er=>
   have E:=iH (KK h1 hl)
   rw [hl]at HC
   clear hc hl hv
   go_enter Tryz.func41,Tryz.ntmps41
   go_wp2_with(go_at_call 94;refine HC.out.mono ?_;intro e w1 h1;obtain⟨_,rfl,hb⟩:=h1;have Hb:=iH hb;clear hb)
   go_ret2
   exact⟨NodesOut.no E.out Hb.out,fun L h=>by rw [E.out]at h;cases h⟩
  |ok r=>
   have E:=iH (JL h1 hl)
   rw [hl]at HC
   clear hc hl hv
   go_enter Tryz.func41,Tryz.ntmps41
   go_wp2_with(go_at_call 94;refine HC.out.mono ?_;intro e w1 h1;obtain⟨v1,rfl,hv1,hb,ho⟩:=h1;obtain⟨va,vc,rfl⟩:=NsS.form2 hv1;have Hv1:=iH hv1;have Hb:=iH hb;have HO:=iH ho;clear hb hv1 ho)
   go_ret2
   exact⟨NodesOut.yes E.out Hv1.out Hb.out,fun L h=>⟨_,rfl,by rw [E.out]at h;injection h with h;rw [<-h];exact HO.out⟩⟩
theorem KS:Calls Tryz.prog 41 #[v,.bool st] w (NodesOut (kl B st) w):=(UW B v st w hv).mono fun _ _ h=>h.1
end
end Go.Proofs.YtalmmiojbmpmiaaGreatDoor
