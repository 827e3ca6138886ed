/- made.Dice: Nodes; Layer 2: the walk of the reference's list, up to the end; Layer 2: the walk of the reference's list, up to two bytes 0; Layer 2: the refere... -/
import Derived.Test.YtadndhgebgjlaaaGreatPBi
import Derived.Test.YtadndhgebgjlaaaGreatPBl
import Derived.Test.YtadndhgebgjlaaaGreatPBm
import Derived.Test.YtadndhgebgjlaaaGreatPBn
set_option linter.unusedVariables false
set_option linter.unusedSimpArgs false
set_option linter.unnecessarySimpa false
set_option maxRecDepth 100000
set_option maxHeartbeats 16000000
namespace Go.Proofs.YtadndhgebgjlaaaGreat
open Go.RowKit Go.Deep
theorem QR(n:Nat):(madeCells (Value.int .u8 0).cells (n*1)).toList=(List.replicate n (0:UInt8)).map U8:=by
 rw [List.map_replicate]
 apply List.ext_getElem
 ·simp [madeCells]
 ·intro i h1 h2
  simp [madeCells,Value.cells,Nat.mod_one]
  rfl
theorem Qn{ops:Array Oper}{rest:List Oper}{o:Oper}{a:Act}{w:World}{Q:Exit->Act->World->Prop}(hgd:o.guard=none)(x:Operand)(ho:o.op=.makeSlice 27 x x)
 (L:Int) (n:Nat) (hx:a.eval x=.int .i64 L) (hL:L=n) (hn:n<=1000000)
 (h:∀w',BsS w' (New w w') (.slice (some ⟨w.heap.size,0,none⟩) n n) (List.replicate n 0)->Below w.heap.size w w'->wpList Tryz.prog ops Q rest (a.put o.dst (.slice (some ⟨w.heap.size,0,none⟩) n n)) w'):wpList Tryz.prog ops Q (o :: rest) a w:=by
 obtain⟨i,hinfo,hzz⟩:=Option.map_eq_some_iff.1 kx
 simp only [Prod.mk.injEq]at hzz
 obtain⟨hz,hsize,hbb⟩:=hzz
 refine wpList_make_full w hgd x x 27 ho w.heap.size 5 i _ 1 Tryz.underlying27 hinfo hz hsize .i64 .i64 L L n hx hx hL hL (by rw [hbb];omega) (by unfold maxLen;omega) iL fun w' h1 h2=>h w' ?_ ⟨h2.os,h2.tape,h2.output,h2.size,fun k hk=>h2.block k hk (by simp)⟩
 rw [QR]at h1
 exact(BsS.of_own h1 (by simp;omega)).keep fun b hs _=>⟨rfl,hs⟩
theorem Xi(n:Nat)(ihT:∀m,m<n->yE m true)(ihF:∀m,m<n->yE m false):yE n false:=by
 intro l v d c st w hv hl4 hln hd hc
 have hlen:=hv.len
 by_cases hemp:l.length=0
 ·obtain⟨va,bc,rfl⟩:=hv.form2
  have E2:Hid (jg st n l d c false=.ok ⟨.nil,0,c⟩):=kj (by unfold k9;rw [iF (by decide),iT hemp])
  have e0:l= []:=List.eq_nil_of_length_eq_zero hemp
  clear hv hlen hemp
  subst e0
  simp only [List.length_nil]
  go_enter Tryz.func79,Tryz.ntmps79
  go_wp2_with fail
  refine wp_loop_rounds 1 ?_
  rw [rounds_succ]
  go_wp2_with fail
  exact bodyPost_ret (v:=.tuple #[.slice none 0 0,.int .i64 0,.int .i64 (c:Int),.int .i64 0]) (by simp [results,Tryz.results79,go_sem]) rfl (RListOut.yes E2.out rfl rfl (OwnN.nil _ _) (Nat.zero_le _) iB)
 ·obtain⟨va,bc,rfl⟩:=hv.form2
  obtain⟨bb,bo,rfl⟩:=KH hv (by omega)
  have hbc:=hv.capOf
  have HV:=iH hv
  clear hv hemp
  go_enter Tryz.func79,Tryz.ntmps79
  go_wp2_with fail
  go_loopg [2,14,15] n (fun m cs o at_ wr=>∃(L:Ns) (u cc:Nat),Hid (jg st n l d c false=yr L u (jg st m (l.drop u) d cc false))/\at_=.int .i64 u/\cs=.int .i64 cc/\OwnN wr w.heap.size o L/\Below w.heap.size w wr/\
   u<=l.length/\l.length - u<=m/\m<=n/\cc<=256/\L.len<=u)
  case atStart=>exact⟨.nil,0,c,by rw [J1]<;>rfl,rfl,rfl,OwnN.nil _ _,Below.refl _ _,by omega,by omega,Nat.le_refl _,hc,Nat.le_refl _⟩
  case round=>
   obtain⟨L,u,cc,E,rfl,rfl,hown,hbel,hu1,hu2,hm,hcc,hLl⟩:=hrel
   obtain⟨oa,oc,rfl⟩:=hown.form
   have Hown:=iH hown;have Hbel:=iH hbel
   clear hown hbel
   by_cases hlt:u<l.length
   ·obtain⟨m,rfl⟩:∃m,gk=m+1:=⟨gk - 1,by omega⟩
    have hh:k9 (l.drop u) false=none:=by unfold k9;rw [iF (by decide),iF (by rw [List.length_drop];omega)]
    have ihT:=ihT m (by omega);have ihF:=ihF m (by omega)
    have b0:(u:Int)<=l.length:=by omega
    have b4:(u:Int)<bc:=by omega
    have HT:=fun(w1:World) (hb:Below w.heap.size w w1)=>iH (Qd (l.drop u) _ (·<w.heap.size) w1 (yg (HV.out.below hb) u (by omega) (A:=some ⟨bb,bo+u,none⟩) (by rw [iF (by omega)])))
    cases ht:kX (l.drop u)with
    |error er=>
     have E2:Hid (jg st n l d c false=.error er):=by rw [E.out,jB hh (by show yS _ _ _ _ _=_;unfold yS;rw [ht])]<;>rfl
     have ne:=zY ht
     have n0:(er != 0)=true:=by simp [ne]
     have N0:=iH ne
     simp only [ht,j0a]at HT
     clear ht ne hh E
     go_wp2_with(go_at_call 102;refine(HT _ Hbel.out).out.mono ?_;rintro e1 w' ⟨rfl,n1,rfl⟩)
     refine bodyPost_ret (v:=.tuple #[.slice none 0 0,.int .i64 0,.int .i64 0,.int .i64 er]) (by simp [results,Tryz.results79,go_sem]) rfl (RListOut.no E2.out N0.out (j4 Hbel.out _))
    |ok x=>
     obtain⟨t,k⟩:=x
     obtain⟨tv,k1,k2⟩:=zl ht
     rw [List.length_drop]at k2
     have hin:=JR tv
     obtain⟨tc,htc⟩:∃tc,tc=jW t:=⟨_,rfl⟩
     have HC:=iH (fun w=>zS t hin w)
     rw [<-htc]at HC
     simp only [ht,j2o]at HT
     obtain⟨A1,hA1⟩:∃A,(if bc=u+k then some (⟨bb,bo,none⟩:Addr)else some ⟨bb,bo+(u+k),none⟩)=A:=⟨_,rfl⟩
     have CUT1:=iH (fun(w1:World) (hb:Below w.heap.size w w1)=>yg (HV.out.below hb) (u+k) (by omega) hA1)
     have HS:=fun(w1:World) (hb:Below w.heap.size w w1)=>iH (Xl (l.drop (u+k)) _ (·<w.heap.size) tc st w1 (CUT1.out w1 hb))
     have HI:=iH hin;have TC:=iH htc
     have HT2:=iH ht
     have b1:(0:Int)<=(u:Int)+k:=by omega
     have b2:(u:Int)+k<=l.length:=by omega
     have b3:(u:Int)+k<=bc:=by omega
     clear tv hin htc ht
     cases hs:jy (l.drop (u+k)) (tc&& !st) st with
     |error er=>
      have ho:kJ st m (l.drop u) d cc=.error er:=QU HT2.out (by rw [List.drop_drop,<-TC.out];exact hs)
      have E2:Hid (jg st n l d c false=.error er):=by rw [E.out,jB hh ho]<;>rfl
      have ne:=kV hs
      have n0:(er != 0)=true:=by simp [ne]
      have N0:=iH ne
      simp only [hs,j0a]at HS
      clear hs ho ne hh E
      go_upto_region 14 with (go_at_call 102;refine(HT _ Hbel.out).out.mono ?_;rintro e1 w' ⟨rfl,n1,rfl⟩)
      have HB1:=iH (j4 Hbel.out n1)
      obtain⟨w1,hw1⟩:∃w1,w1=wr.drewN n1:=⟨_,rfl⟩
      have HD1:=iH (jq wr n1)
      rw [<-hw1]at HB1 HD1 |-
      clear hw1
      refine wp_region_quiet_lit (by kernel_rfl) (by kernel_rfl) ?_
      iterate 3 (first|go_big_quiet_step (fail)|quiet_step (fail))
      (try rw [hA1])
      repeat(first|go_big_quiet_step ((first|(go_at_call 95;exact Calls.quiet_of_same (HC.out _))|(go_at_call 103;exact j7 (HS _ (j4 HB1.out _)).out)))|quiet_step ((first|(go_at_call 95;exact Calls.quiet_of_same (HC.out _))|(go_at_call 103;exact j7 (HS _ (j4 HB1.out _)).out))))
      refine wpQuiet_nil ?_
      intro w2 hqq
      obtain⟨nq,hqr⟩:=hqq
      have HB2:=iH (j4 HB1.out nq)
      have HD2:=iH (j4 HD1.out nq)
      rw [<-hqr]at HB2 HD2
      clear hqr
      go_wp2_with fail
      refine bodyPost_ret (v:=.tuple #[.slice none 0 0,.int .i64 0,.int .i64 0,.int .i64 er]) (by simp [results,Tryz.results79,go_sem]) rfl (RListOut.no E2.out N0.out HB2.out)
     |ok y=>
      obtain⟨z,j⟩:=y
      obtain⟨j1,j2,m1,m2⟩:=xe hs
      rw [List.length_drop]at j2
      have hs':jy ((l.drop u).drop k) (jW t&& !st) st=.ok (z,j):=by rw [List.drop_drop,<-TC.out];exact hs
      have HS2:=iH hs'
      simp only [hs,j2o]at HS
      clear hs hs'
      obtain rfl:some (⟨bb,bo+(u+k),none⟩:Addr)=A1:=by rw [<-hA1,iF (by omega)]
      clear hA1
      by_cases h8:8<d
      ·have E2:Hid (jg st n l d c false=.error 7):=by rw [E.out,jB hh (QV HT2.out HS2.out h8)]<;>rfl
       clear hh E
       go_upto_region 14 with (go_at_call 102;refine(HT _ Hbel.out).out.mono ?_;rintro e1 w' ⟨rfl,n1,rfl⟩)
       have HB1:=iH (j4 Hbel.out n1)
       obtain⟨w1,hw1⟩:∃w1,w1=wr.drewN n1:=⟨_,rfl⟩
       have HD1:=iH (jq wr n1)
       rw [<-hw1]at HB1 HD1 |-
       clear hw1
       refine wp_region_quiet_lit (by kernel_rfl) (by kernel_rfl) ?_
       iterate 3 (first|go_big_quiet_step (fail)|quiet_step (fail))
       (try rw [hA1])
       repeat(first|go_big_quiet_step ((first|(go_at_call 95;exact Calls.quiet_of_same (HC.out _))|(go_at_call 103;exact j7 (HS _ (j4 HB1.out _)).out)))|quiet_step ((first|(go_at_call 95;exact Calls.quiet_of_same (HC.out _))|(go_at_call 103;exact j7 (HS _ (j4 HB1.out _)).out))))
       refine wpQuiet_nil ?_
       intro w2 hqq
       obtain⟨nq,hqr⟩:=hqq
       have HB2:=iH (j4 HB1.out nq)
       have HD2:=iH (j4 HD1.out nq)
       rw [<-hqr]at HB2 HD2
       clear hqr
       go_wp2_with fail
       refine bodyPost_ret (v:=.tuple #[.slice none 0 0,.int .i64 0,.int .i64 0,.int .i64 7]) (by simp [results,Tryz.results79,go_sem]) rfl (RListOut.no E2.out (by decide) HB2.out)
      ·by_cases h9:256<cc+1
       ·have E2:Hid (jg st n l d c false=.error 2):=by rw [E.out,jB hh (QW HT2.out HS2.out h8 h9)]<;>rfl
        clear hh E
        go_upto_region 14 with (go_at_call 102;refine(HT _ Hbel.out).out.mono ?_;rintro e1 w' ⟨rfl,n1,rfl⟩)
        have HB1:=iH (j4 Hbel.out n1)
        obtain⟨w1,hw1⟩:∃w1,w1=wr.drewN n1:=⟨_,rfl⟩
        have HD1:=iH (jq wr n1)
        rw [<-hw1]at HB1 HD1 |-
        clear hw1
        refine wp_region_quiet_lit (by kernel_rfl) (by kernel_rfl) ?_
        iterate 3 (first|go_big_quiet_step (fail)|quiet_step (fail))
        (try rw [hA1])
        repeat(first|go_big_quiet_step ((first|(go_at_call 95;exact Calls.quiet_of_same (HC.out _))|(go_at_call 103;exact j7 (HS _ (j4 HB1.out _)).out)))|quiet_step ((first|(go_at_call 95;exact Calls.quiet_of_same (HC.out _))|(go_at_call 103;exact j7 (HS _ (j4 HB1.out _)).out))))
        refine wpQuiet_nil ?_
        intro w2 hqq
        obtain⟨nq,hqr⟩:=hqq
        have HB2:=iH (j4 HB1.out nq)
        have HD2:=iH (j4 HD1.out nq)
        rw [<-hqr]at HB2 HD2
        clear hqr
        go_wp2_with fail
        refine bodyPost_ret (v:=.tuple #[.slice none 0 0,.int .i64 0,.int .i64 0,.int .i64 2]) (by simp [results,Tryz.results79,go_sem]) rfl (RListOut.no E2.out (by decide) HB2.out)
       ·by_cases h10:(l.length:Int) - ((u+k+j:Nat):Int)<z
        ·have E2:Hid (jg st n l d c false=.error 6):=by rw [E.out,jB hh (QX HT2.out HS2.out h8 h9 (by rw [List.drop_drop,List.length_drop];omega))]<;>rfl
         have h11:(l.length:Int) - ((u:Int)+k+j)<z:=by omega
         clear hh E h10
         go_upto_region 14 with (go_at_call 102;refine(HT _ Hbel.out).out.mono ?_;rintro e1 w' ⟨rfl,n1,rfl⟩)
         have HB1:=iH (j4 Hbel.out n1)
         obtain⟨w1,hw1⟩:∃w1,w1=wr.drewN n1:=⟨_,rfl⟩
         have HD1:=iH (jq wr n1)
         rw [<-hw1]at HB1 HD1 |-
         clear hw1
         refine wp_region_quiet_lit (by kernel_rfl) (by kernel_rfl) ?_
         iterate 3 (first|go_big_quiet_step (fail)|quiet_step (fail))
         (try rw [hA1])
         repeat(first|go_big_quiet_step ((first|(go_at_call 95;exact Calls.quiet_of_same (HC.out _))|(go_at_call 103;exact j7 (HS _ (j4 HB1.out _)).out)))|quiet_step ((first|(go_at_call 95;exact Calls.quiet_of_same (HC.out _))|(go_at_call 103;exact j7 (HS _ (j4 HB1.out _)).out))))
         refine wpQuiet_nil ?_
         intro w2 hqq
         obtain⟨nq,hqr⟩:=hqq
         have HB2:=iH (j4 HB1.out nq)
         have HD2:=iH (j4 HD1.out nq)
         rw [<-hqr]at HB2 HD2
         clear hqr
         go_wp2_with fail
         refine bodyPost_ret (v:=.tuple #[.slice none 0 0,.int .i64 0,.int .i64 0,.int .i64 6]) (by simp [results,Tryz.results79,go_sem]) rfl (RListOut.no E2.out (by decide) HB2.out)
        ·have h3':¬(((l.drop u).drop (k+j)).length:Int)<z:=by rw [List.drop_drop,List.length_drop];omega
         have H3:=iH h3';clear h3'
         have h11:z<=(l.length:Int) - ((u:Int)+k+j):=by omega
         clear h10
         obtain⟨A2,hA2⟩:∃A,(if bc=u+k+j then some (⟨bb,bo,none⟩:Addr)else some ⟨bb,bo+(u+k+j),none⟩)=A:=⟨_,rfl⟩
         have hA3:(A2=some ⟨bb,bo+(u+k+j),none⟩/\u+k+j<bc)\/(A2=some ⟨bb,bo,none⟩/\bc<=u+k+j):=by
          rcases Nat.lt_or_ge (u+k+j) bc with h|h
          ·exact .inl ⟨by rw [<-hA2,iF (by omega)],h⟩
          ·exact .inr ⟨by rw [<-hA2,iT (by omega)],h⟩
         have hj2:u+k+j<=l.length:=by omega
         have hm2:l.length<=u+m+1:=by omega
         have hz1:=iH (show z= -1\/0<=z from m2.elim .inr fun h=>.inl h.1)
         have hkj:2<=k+j:=by omega
         have HA3:=iH hA3;clear hA3
         clear k2 j2 m1 m2 hu2 hu1 hlt hln
         by_cases hz0:z<0
         ·skip
          have hpl:(l.drop (u+k+j)).length<=m:=by rw [List.length_drop];omega
          have hp4:(l.drop (u+k+j)).length<=4096:=by rw [List.length_drop];omega
          have HF:=fun(w3:World) (hb:Below w.heap.size w w3) (A:Option Addr) (N C:Nat) (h:BsS w3 (·<w.heap.size) (.slice A N C) (l.drop (u+k+j)))=>iH (show Calls Tryz.prog 79 #[.slice A N C,.int .i64 ((d:Int)+1),.int .i64 ((cc:Int)+1),.bool st,.bool true] w3 (RListOut (jg st m (l.drop (u+k+j)) (d+1) (cc+1) true) w3) from
           ihT (l.drop (u+k+j)) _ (d+1) (cc+1) st w3 (h.keep fun b hs _=>⟨rfl,iZ hs hb.size⟩) hp4 hpl (by omega) (by omega))
          have hl0:=jS st m (l.drop (u+k+j)) (d+1) (cc+1) true (by omega)
          clear hpl hp4
          cases hl:jg st m (l.drop (u+k+j)) (d+1) (cc+1) true with
          |error er=>
           have ho:kJ st m (l.drop u) d cc=.error er:=Vd HT2.out HS2.out h8 h9 (by have:=H3.out;omega) hz0 (by rw [List.drop_drop,<-Nat.add_assoc];exact hl)
           have E2:Hid (jg st n l d c false=.error er):=by rw [E.out,jB hh ho]<;>rfl
           have ne:=hl0.2 er hl
           have n0:(er != 0)=true:=by simp [ne]
           have N0:=iH ne
           rw [hl]at HF
           clear hl hl0 ne hh E ho hA2
           go_upto_region 14 with (go_at_call 102;refine(HT _ Hbel.out).out.mono ?_;rintro e1 w' ⟨rfl,n1,rfl⟩)
           have HB1:=iH (j4 Hbel.out n1)
           obtain⟨w1,hw1⟩:∃w1,w1=wr.drewN n1:=⟨_,rfl⟩
           have HD1:=iH (jq wr n1)
           rw [<-hw1]at HB1 HD1 |-
           clear hw1
           refine wp_region_quiet_lit (by kernel_rfl) (by kernel_rfl) ?_
           iterate 3 (first|go_big_quiet_step (fail)|quiet_step (fail))
           (try rw [hA1])
           repeat(first|go_big_quiet_step ((first|(go_at_call 95;exact Calls.quiet_of_same (HC.out _))|(go_at_call 103;exact j7 (HS _ (j4 HB1.out _)).out)))|quiet_step ((first|(go_at_call 95;exact Calls.quiet_of_same (HC.out _))|(go_at_call 103;exact j7 (HS _ (j4 HB1.out _)).out))))
           refine wpQuiet_nil ?_
           intro w2 hqq
           obtain⟨nq,hqr⟩:=hqq
           have HB2:=iH (j4 HB1.out nq)
           have HD2:=iH (j4 HD1.out nq)
           rw [<-hqr]at HB2 HD2
           clear hqr
           have HW:=iH HD2.out
           go_upto_region 28 with (go_at_call 95;refine(HC.out _).mono ?_;rintro e w' ⟨rfl,rfl⟩)
           have hsz3:=iH HW.out.size
           obtain⟨w3,hw3⟩:∃w3,w3=w2.alloc (.cells #[.int .i64 t,.slice none 0 0,.slice none 0 0] 61):=⟨_,rfl⟩
           obtain⟨X,hX⟩:∃X,X=w2.heap.size:=⟨_,rfl⟩
           have X3:Hid (w3.heap[X]?=some (.cells #[.int .i64 t,.slice none 0 0,.slice none 0 0] 61 (0,0))):=by rw [hw3,hX];exact heap_alloc_new w2 _
           have HW3:Hid (Below wr.heap.size wr w3):=by rw [hw3];exact HW.out.alloc HW.out.size _
           have HB3:Hid (Below w.heap.size w w3):=by rw [hw3];exact HB2.out.alloc HB2.out.size _
           have hXr:wr.heap.size<=X:=by rw [hX];exact HD2.out.size
           have hXw:w.heap.size<=X:=Nat.le_trans Hbel.out.size hXr
           have hX3:X<w3.heap.size:=(iG X3.out)
           rw [<-hw3,<-hX]
           clear hw3 hX hsz3
           obtain⟨x0,x1,x2,xf⟩:=jH X3.out
           have xf1:=xf 2
           clear xf
           rcases HA3.out with ⟨rfl,hb5⟩|⟨rfl,hb5⟩
           rotate_left
           obtain rfl:bc=u+k+j:=by omega
           clear hb5
           all_goals
            go_wp2_with(go_at_call 79;refine(HF _ HB3.out _ _ _ (Zw (HV.out.below HB3.out) (u+k+j) hj2 (fun h=>by first|rfl|omega) (by omega) ⟨by omega,by omega⟩)).out.mono ?_;intro e4 w4 h4;obtain⟨_,rfl,hb4⟩:=h4;have X4:=iH ((hb4.block _ (iG X3.out)).trans X3.out);have Hb4:=iH hb4;clear hb4 x0 x1 x2 xf1;obtain⟨x0,x1,x2,xf⟩:=jH X4.out;have xf1:=xf 2;clear xf)
            refine bodyPost_ret (v:=.tuple #[.slice none 0 0,.int .i64 0,.int .i64 0,.int .i64 er]) (by simp [results,Tryz.results79,go_sem]) rfl (RListOut.no E2.out N0.out ((HB3.out.trans (Hb4.out.mono HB3.out.size)).setCell hXw _))
          |ok r=>
           have ho:kJ st m (l.drop u) d cc=.ok ⟨t,[],r.list,k+j+r.used,r.count⟩:=j1t HT2.out HS2.out h8 h9 (by have:=H3.out;omega) hz0 (by rw [List.drop_drop,<-Nat.add_assoc];exact hl)
           obtain⟨u1,u2,u3⟩:=hl0.1 r hl
           have u5:u+k+j+r.used<=l.length:=by rw [List.length_drop]at u1;omega
           clear u1
           have E2:Hid (jg st n l d c false=yr (L.app (.cons t [] r.list .nil)) (u+(k+j+r.used)) (jg st m (l.drop (u+(k+j+r.used))) d r.count false)):=by
            rw [E.out,jJ hh ho,qk,List.drop_drop]<;>rfl
           rw [hl]at HF
           clear hl hl0 hh E ho u3 hA2
           go_upto_region 14 with (go_at_call 102;refine(HT _ Hbel.out).out.mono ?_;rintro e1 w' ⟨rfl,n1,rfl⟩)
           have HB1:=iH (j4 Hbel.out n1)
           obtain⟨w1,hw1⟩:∃w1,w1=wr.drewN n1:=⟨_,rfl⟩
           have HD1:=iH (jq wr n1)
           rw [<-hw1]at HB1 HD1 |-
           clear hw1
           refine wp_region_quiet_lit (by kernel_rfl) (by kernel_rfl) ?_
           iterate 3 (first|go_big_quiet_step (fail)|quiet_step (fail))
           (try rw [hA1])
           repeat(first|go_big_quiet_step ((first|(go_at_call 95;exact Calls.quiet_of_same (HC.out _))|(go_at_call 103;exact j7 (HS _ (j4 HB1.out _)).out)))|quiet_step ((first|(go_at_call 95;exact Calls.quiet_of_same (HC.out _))|(go_at_call 103;exact j7 (HS _ (j4 HB1.out _)).out))))
           refine wpQuiet_nil ?_
           intro w2 hqq
           obtain⟨nq,hqr⟩:=hqq
           have HB2:=iH (j4 HB1.out nq)
           have HD2:=iH (j4 HD1.out nq)
           rw [<-hqr]at HB2 HD2
           clear hqr
           have HW:=iH HD2.out
           go_upto_region 28 with (go_at_call 95;refine(HC.out _).mono ?_;rintro e w' ⟨rfl,rfl⟩)
           have hsz3:=iH HW.out.size
           obtain⟨w3,hw3⟩:∃w3,w3=w2.alloc (.cells #[.int .i64 t,.slice none 0 0,.slice none 0 0] 61):=⟨_,rfl⟩
           obtain⟨X,hX⟩:∃X,X=w2.heap.size:=⟨_,rfl⟩
           have X3:Hid (w3.heap[X]?=some (.cells #[.int .i64 t,.slice none 0 0,.slice none 0 0] 61 (0,0))):=by rw [hw3,hX];exact heap_alloc_new w2 _
           have HW3:Hid (Below wr.heap.size wr w3):=by rw [hw3];exact HW.out.alloc HW.out.size _
           have HB3:Hid (Below w.heap.size w w3):=by rw [hw3];exact HB2.out.alloc HB2.out.size _
           have hXr:wr.heap.size<=X:=by rw [hX];exact HD2.out.size
           have hXw:w.heap.size<=X:=Nat.le_trans Hbel.out.size hXr
           have hX3:X<w3.heap.size:=(iG X3.out)
           rw [<-hw3,<-hX]
           clear hw3 hX hsz3
           obtain⟨x0,x1,x2,xf⟩:=jH X3.out
           have xf1:=xf 2
           clear xf
           rcases HA3.out with ⟨rfl,hb5⟩|⟨rfl,hb5⟩
           rotate_left
           obtain rfl:bc=u+k+j:=by omega
           clear hb5
           all_goals
            go_wp2_with(first
             |(go_at_call 79;refine(HF _ HB3.out _ _ _ (Zw (HV.out.below HB3.out) (u+k+j) hj2 (fun h=>by first|rfl|omega) (by omega) ⟨by omega,by omega⟩)).out.mono ?_;intro e4 w4 h4;obtain⟨v4,rfl,hv4,hb4⟩:=h4;obtain⟨va,vc,rfl⟩:=NsS.form2 hv4;have X4:=iH ((hb4.block _ (iG X3.out)).trans X3.out);have Hb4:=iH hb4;have Hv4:=iH hv4;clear hb4 hv4 x0 x1 x2 xf1;obtain⟨x0,x1,x2,xf⟩:=jH X4.out;have xf1:=xf 2;clear xf;have HWW:=iH (show Below wr.heap.size wr (w4.setCell ⟨X,2,none⟩ (.slice va r.list.len vc)) from(HW3.out.trans (Hb4.out.mono HW3.out.size)).setCell hXr _);have HN:=iH (yY Hown.out Hb4.out HW3.out hX3 hXr Hbel.out.size (.slice va r.list.len vc) Hv4.out))
             |(at_builtin;(with_reducible refine jC rfl (.tmp 164) (.tmp 166) rfl w.heap.size (.slice oa L.len oc) L rfl (Hown.out.below HWW.out) t [] r.list (.slice none 0 0) (.slice va r.list.len vc) _ w4.heap.size rfl (by simp [World.setCell]) HI.out (BsS.nil0 _ _) HN.out (by omega) (Nat.le_trans Hbel.out.size HWW.out.size) ?_);intro o2 w2 hg2;have G2:=iH hg2;clear hg2))
            go_roundg m
            case measure=>omega
            case rel=>exact⟨L.app (.cons t [] r.list .nil),u+(k+j+r.used),r.count,E2.out,by go_num,by go_num,G2.out.1,(Hbel.out.trans (HWW.out.mono Hbel.out.size)).trans G2.out.2.1,by omega,by omega,by omega,u2,by rw [Ns.len_snoc];omega⟩
         ·obtain⟨q,rfl⟩:=Int.eq_ofNat_of_zero_le (show 0<=z by omega)
          have hq:u+k+j+q<=l.length:=by omega
          clear hz1 h11 hz0
          cases tc with
          |true=>
           have hpl:((l.drop (u+k+j)).take q).length<=m:=by rw [List.length_take,List.length_drop];omega
           have hp4:((l.drop (u+k+j)).take q).length<=4096:=by rw [List.length_take,List.length_drop];omega
           have HF:=fun(w3:World) (hb:Below w.heap.size w w3) (A:Option Addr) (N C:Nat) (h:BsS w3 (·<w.heap.size) (.slice A N C) ((l.drop (u+k+j)).take q))=>iH (show Calls Tryz.prog 79 #[.slice A N C,.int .i64 ((d:Int)+1),.int .i64 ((cc:Int)+1),.bool st,.bool false] w3 (RListOut (jg st m ((l.drop (u+k+j)).take q) (d+1) (cc+1) false) w3) from
            ihF ((l.drop (u+k+j)).take q) _ (d+1) (cc+1) st w3 (h.keep fun b hs _=>⟨rfl,iZ hs hb.size⟩) hp4 hpl (by omega) (by omega))
           have hl0:=jS st m ((l.drop (u+k+j)).take q) (d+1) (cc+1) false (by omega)
           clear hpl hp4
           cases hl:jg st m ((l.drop (u+k+j)).take q) (d+1) (cc+1) false with
           |error er=>
            have ho:kJ st m (l.drop u) d cc=.error er:=ZL HT2.out HS2.out h8 h9 (by have:=H3.out;omega) (by omega) (TC.out.symm.trans rfl) (by rw [List.drop_drop,<-Nat.add_assoc,Int.toNat_natCast];exact hl)
            have E2:Hid (jg st n l d c false=.error er):=by rw [E.out,jB hh ho]<;>rfl
            have ne:=hl0.2 er hl
            have n0:(er != 0)=true:=by simp [ne]
            have N0:=iH ne
            rw [hl]at HF
            clear hl hl0 ne hh E ho hA2
            go_upto_region 14 with (go_at_call 102;refine(HT _ Hbel.out).out.mono ?_;rintro e1 w' ⟨rfl,n1,rfl⟩)
            have HB1:=iH (j4 Hbel.out n1)
            obtain⟨w1,hw1⟩:∃w1,w1=wr.drewN n1:=⟨_,rfl⟩
            have HD1:=iH (jq wr n1)
            rw [<-hw1]at HB1 HD1 |-
            clear hw1
            refine wp_region_quiet_lit (by kernel_rfl) (by kernel_rfl) ?_
            iterate 3 (first|go_big_quiet_step (fail)|quiet_step (fail))
            (try rw [hA1])
            repeat(first|go_big_quiet_step ((first|(go_at_call 95;exact Calls.quiet_of_same (HC.out _))|(go_at_call 103;exact j7 (HS _ (j4 HB1.out _)).out)))|quiet_step ((first|(go_at_call 95;exact Calls.quiet_of_same (HC.out _))|(go_at_call 103;exact j7 (HS _ (j4 HB1.out _)).out))))
            refine wpQuiet_nil ?_
            intro w2 hqq
            obtain⟨nq,hqr⟩:=hqq
            have HB2:=iH (j4 HB1.out nq)
            have HD2:=iH (j4 HD1.out nq)
            rw [<-hqr]at HB2 HD2
            clear hqr
            have HW:=iH HD2.out
            go_upto_region 31 with (go_at_call 95;refine(HC.out _).mono ?_;rintro e w' ⟨rfl,rfl⟩)
            have hsz3:=iH HW.out.size
            obtain⟨w3,hw3⟩:∃w3,w3=w2.alloc (.cells #[.int .i64 t,.slice none 0 0,.slice none 0 0] 61):=⟨_,rfl⟩
            obtain⟨X,hX⟩:∃X,X=w2.heap.size:=⟨_,rfl⟩
            have X3:Hid (w3.heap[X]?=some (.cells #[.int .i64 t,.slice none 0 0,.slice none 0 0] 61 (0,0))):=by rw [hw3,hX];exact heap_alloc_new w2 _
            have HW3:Hid (Below wr.heap.size wr w3):=by rw [hw3];exact HW.out.alloc HW.out.size _
            have HB3:Hid (Below w.heap.size w w3):=by rw [hw3];exact HB2.out.alloc HB2.out.size _
            have hXr:wr.heap.size<=X:=by rw [hX];exact HD2.out.size
            have hXw:w.heap.size<=X:=Nat.le_trans Hbel.out.size hXr
            have hX3:X<w3.heap.size:=(iG X3.out)
            rw [<-hw3,<-hX]
            clear hw3 hX hsz3
            obtain⟨x0,x1,x2,xf⟩:=jH X3.out
            have xf1:=xf 2
            clear xf
            rcases HA3.out with ⟨rfl,hb5⟩|⟨rfl,hb5⟩
            rotate_left
            obtain rfl:bc=u+k+j:=by omega
            clear hb5
            all_goals
             go_wp2_with(go_at_call 79;refine(HF _ HB3.out _ _ _ (KQ (HV.out.below HB3.out) (u+k+j) q hq (fun h=>by first|rfl|omega) (by omega) ⟨by omega,by omega⟩)).out.mono ?_;intro e4 w4 h4;obtain⟨_,rfl,hb4⟩:=h4;have X4:=iH ((hb4.block _ (iG X3.out)).trans X3.out);have Hb4:=iH hb4;clear hb4 x0 x1 x2 xf1;obtain⟨x0,x1,x2,xf⟩:=jH X4.out;have xf1:=xf 2;clear xf)
             refine bodyPost_ret (v:=.tuple #[.slice none 0 0,.int .i64 0,.int .i64 0,.int .i64 er]) (by simp [results,Tryz.results79,go_sem]) rfl (RListOut.no E2.out N0.out ((HB3.out.trans (Hb4.out.mono HB3.out.size)).setCell hXw _))
           |ok r=>
            have ho:kJ st m (l.drop u) d cc=.ok ⟨t,[],r.list,k+j+q,r.count⟩:=YF HT2.out HS2.out h8 h9 (by have:=H3.out;omega) (by omega) (TC.out.symm.trans rfl) (by rw [List.drop_drop,<-Nat.add_assoc,Int.toNat_natCast];exact hl)
            obtain⟨u1,u2,u3⟩:=hl0.1 r hl
            have u4:=u3 rfl
            rw [List.length_take,List.length_drop,Nat.min_eq_left (by omega)]at u4
            clear u1
            have E2:Hid (jg st n l d c false=yr (L.app (.cons t [] r.list .nil)) (u+(k+j+q)) (jg st m (l.drop (u+(k+j+q))) d r.count false)):=by
             rw [E.out,jJ hh ho,qk,List.drop_drop]<;>rfl
            rw [hl]at HF
            clear hl hl0 hh E ho u3 hA2
            go_upto_region 14 with (go_at_call 102;refine(HT _ Hbel.out).out.mono ?_;rintro e1 w' ⟨rfl,n1,rfl⟩)
            have HB1:=iH (j4 Hbel.out n1)
            obtain⟨w1,hw1⟩:∃w1,w1=wr.drewN n1:=⟨_,rfl⟩
            have HD1:=iH (jq wr n1)
            rw [<-hw1]at HB1 HD1 |-
            clear hw1
            refine wp_region_quiet_lit (by kernel_rfl) (by kernel_rfl) ?_
            iterate 3 (first|go_big_quiet_step (fail)|quiet_step (fail))
            (try rw [hA1])
            repeat(first|go_big_quiet_step ((first|(go_at_call 95;exact Calls.quiet_of_same (HC.out _))|(go_at_call 103;exact j7 (HS _ (j4 HB1.out _)).out)))|quiet_step ((first|(go_at_call 95;exact Calls.quiet_of_same (HC.out _))|(go_at_call 103;exact j7 (HS _ (j4 HB1.out _)).out))))
            refine wpQuiet_nil ?_
            intro w2 hqq
            obtain⟨nq,hqr⟩:=hqq
            have HB2:=iH (j4 HB1.out nq)
            have HD2:=iH (j4 HD1.out nq)
            rw [<-hqr]at HB2 HD2
            clear hqr
            have HW:=iH HD2.out
            go_upto_region 31 with (go_at_call 95;refine(HC.out _).mono ?_;rintro e w' ⟨rfl,rfl⟩)
            have hsz3:=iH HW.out.size
            obtain⟨w3,hw3⟩:∃w3,w3=w2.alloc (.cells #[.int .i64 t,.slice none 0 0,.slice none 0 0] 61):=⟨_,rfl⟩
            obtain⟨X,hX⟩:∃X,X=w2.heap.size:=⟨_,rfl⟩
            have X3:Hid (w3.heap[X]?=some (.cells #[.int .i64 t,.slice none 0 0,.slice none 0 0] 61 (0,0))):=by rw [hw3,hX];exact heap_alloc_new w2 _
            have HW3:Hid (Below wr.heap.size wr w3):=by rw [hw3];exact HW.out.alloc HW.out.size _
            have HB3:Hid (Below w.heap.size w w3):=by rw [hw3];exact HB2.out.alloc HB2.out.size _
            have hXr:wr.heap.size<=X:=by rw [hX];exact HD2.out.size
            have hXw:w.heap.size<=X:=Nat.le_trans Hbel.out.size hXr
            have hX3:X<w3.heap.size:=(iG X3.out)
            rw [<-hw3,<-hX]
            clear hw3 hX hsz3
            obtain⟨x0,x1,x2,xf⟩:=jH X3.out
            have xf1:=xf 2
            clear xf
            rcases HA3.out with ⟨rfl,hb5⟩|⟨rfl,hb5⟩
            rotate_left
            obtain rfl:bc=u+k+j:=by omega
            clear hb5
            all_goals
             go_wp2_with(first
              |(go_at_call 79;refine(HF _ HB3.out _ _ _ (KQ (HV.out.below HB3.out) (u+k+j) q hq (fun h=>by first|rfl|omega) (by omega) ⟨by omega,by omega⟩)).out.mono ?_;intro e4 w4 h4;obtain⟨v4,rfl,hv4,hb4⟩:=h4;obtain⟨va,vc,rfl⟩:=NsS.form2 hv4;have X4:=iH ((hb4.block _ (iG X3.out)).trans X3.out);have Hb4:=iH hb4;have Hv4:=iH hv4;clear hb4 hv4 x0 x1 x2 xf1;obtain⟨x0,x1,x2,xf⟩:=jH X4.out;have xf1:=xf 2;clear xf;have HWW:=iH (show Below wr.heap.size wr (w4.setCell ⟨X,2,none⟩ (.slice va r.list.len vc)) from(HW3.out.trans (Hb4.out.mono HW3.out.size)).setCell hXr _);have HN:=iH (yY Hown.out Hb4.out HW3.out hX3 hXr Hbel.out.size (.slice va r.list.len vc) Hv4.out))
              |(at_builtin;(with_reducible refine jC rfl (.tmp 164) (.tmp 166) rfl w.heap.size (.slice oa L.len oc) L rfl (Hown.out.below HWW.out) t [] r.list (.slice none 0 0) (.slice va r.list.len vc) _ w4.heap.size rfl (by simp [World.setCell]) HI.out (BsS.nil0 _ _) HN.out (by omega) (Nat.le_trans Hbel.out.size HWW.out.size) ?_);intro o2 w2 hg2;have G2:=iH hg2;clear hg2))
             go_roundg m
             case measure=>omega
             case rel=>exact⟨L.app (.cons t [] r.list .nil),u+(k+j+q),r.count,E2.out,by go_num,by go_num,G2.out.1,(Hbel.out.trans (HWW.out.mono Hbel.out.size)).trans G2.out.2.1,by omega,by omega,by omega,u2,by rw [Ns.len_snoc];omega⟩
          |false=>
           have CUT2:=iH (fun(w1:World) (hb:Below w.heap.size w w1)=>XO (HV.out.below hb) (u+k+j) q (by omega) hA2)
           have ho:kJ st m (l.drop u) d cc=.ok ⟨t,(l.drop (u+k+j)).take q,.nil,k+j+q,cc+1⟩:=by
            rw [Ve HT2.out HS2.out h8 h9 (by have:=H3.out;omega) (by omega) (by rw [<-TC.out];decide),List.drop_drop,<-Nat.add_assoc,Int.toNat_natCast]
           have E2:Hid (jg st n l d c false=yr (L.app (.cons t ((l.drop (u+k+j)).take q) .nil .nil)) (u+(k+j+q)) (jg st m (l.drop (u+(k+j+q))) d (cc+1) false)):=by
            rw [E.out,jJ hh ho,qk,List.drop_drop]<;>rfl
           obtain⟨vl,hvl⟩:∃vl,vl=(l.drop (u+k+j)).take q:=⟨_,rfl⟩
           have hql:vl.length=q:=by rw [hvl,List.length_take,List.length_drop];omega
           rw [<-hvl]at E2 CUT2
           clear hh E ho hvl hA2
           have HQ:=iH hql;clear hql
           go_upto_region 14 with (go_at_call 102;refine(HT _ Hbel.out).out.mono ?_;rintro e1 w' ⟨rfl,n1,rfl⟩)
           have HB1:=iH (j4 Hbel.out n1)
           obtain⟨w1,hw1⟩:∃w1,w1=wr.drewN n1:=⟨_,rfl⟩
           have HD1:=iH (jq wr n1)
           rw [<-hw1]at HB1 HD1 |-
           clear hw1
           refine wp_region_quiet_lit (by kernel_rfl) (by kernel_rfl) ?_
           iterate 3 (first|go_big_quiet_step (fail)|quiet_step (fail))
           (try rw [hA1])
           repeat(first|go_big_quiet_step ((first|(go_at_call 95;exact Calls.quiet_of_same (HC.out _))|(go_at_call 103;exact j7 (HS _ (j4 HB1.out _)).out)))|quiet_step ((first|(go_at_call 95;exact Calls.quiet_of_same (HC.out _))|(go_at_call 103;exact j7 (HS _ (j4 HB1.out _)).out))))
           refine wpQuiet_nil ?_
           intro w2 hqq
           obtain⟨nq,hqr⟩:=hqq
           have HB2:=iH (j4 HB1.out nq)
           have HD2:=iH (j4 HD1.out nq)
           rw [<-hqr]at HB2 HD2
           clear hqr
           have HW:=iH HD2.out
           go_upto_region 26 with (go_at_call 95;refine(HC.out _).mono ?_;rintro e w' ⟨rfl,rfl⟩)
           have hsz3:=iH HW.out.size
           obtain⟨w3,hw3⟩:∃w3,w3=w2.alloc (.cells #[.int .i64 t,.slice none 0 0,.slice none 0 0] 61):=⟨_,rfl⟩
           obtain⟨X,hX⟩:∃X,X=w2.heap.size:=⟨_,rfl⟩
           have X3:Hid (w3.heap[X]?=some (.cells #[.int .i64 t,.slice none 0 0,.slice none 0 0] 61 (0,0))):=by rw [hw3,hX];exact heap_alloc_new w2 _
           have HW3:Hid (Below wr.heap.size wr w3):=by rw [hw3];exact HW.out.alloc HW.out.size _
           have HB3:Hid (Below w.heap.size w w3):=by rw [hw3];exact HB2.out.alloc HB2.out.size _
           have hXr:wr.heap.size<=X:=by rw [hX];exact HD2.out.size
           have hXw:w.heap.size<=X:=Nat.le_trans Hbel.out.size hXr
           have hX3:X<w3.heap.size:=(iG X3.out)
           rw [<-hw3,<-hX]
           clear hw3 hX hsz3
           obtain⟨x0,x1,x2,xf⟩:=jH X3.out
           have xf1:=xf 1
           clear xf
           rcases HA3.out with ⟨rfl,hb5⟩|⟨rfl,hb5⟩
           rotate_left
           obtain rfl:bc=u+k+j:=by omega
           simp only [Nat.sub_self]at CUT2
           clear hb5
           all_goals
            have CC:=iH (CUT2.out w3 HB3.out)
            go_wp2_with(first
             |(at_builtin;(with_reducible refine jc rfl (.const (.slice none 0 0)) (.tmp 117) rfl w3.heap.size (.slice none 0 0) [] rfl (OwnB.nil _ _) (some ⟨bb,bo+(u+k+j),none⟩) q (bc - (u+k+j)) vl _ (by simp [Act.eval]) CC.out (by have:=HQ.out;simp;omega) iL ?_);intro v4 w4 hg4;rw [List.nil_append]at hg4;obtain⟨va,vc,rfl⟩:=hg4.1.form;have X4:=iH ((hg4.2.1.block _ (iG X3.out)).trans X3.out);have Hb4:=iH hg4.2.1;have Hv4:=iH ((BsS.of_own hg4.1 (by have:=HQ.out;omega)));clear hg4 x0 x1 x2 xf1;obtain⟨x0,x1,x2,xf⟩:=jH X4.out;have xf1:=xf 1;clear xf;have HWW:=iH (show Below wr.heap.size wr (w4.setCell ⟨X,1,none⟩ (.slice va vl.length vc)) from(HW3.out.trans (Hb4.out.mono HW3.out.size)).setCell hXr _);have HN:=iH (zv Hown.out Hb4.out HW3.out hX3 hXr Hbel.out.size (.slice va vl.length vc) Hv4.out))
             |(at_builtin;(with_reducible refine jc rfl (.const (.slice none 0 0)) (.tmp 117) rfl w3.heap.size (.slice none 0 0) [] rfl (OwnB.nil _ _) (some ⟨bb,bo,none⟩) q 0 vl _ (by simp [Act.eval]) CC.out (by have:=HQ.out;simp;omega) iL ?_);intro v4 w4 hg4;rw [List.nil_append]at hg4;obtain⟨va,vc,rfl⟩:=hg4.1.form;have X4:=iH ((hg4.2.1.block _ (iG X3.out)).trans X3.out);have Hb4:=iH hg4.2.1;have Hv4:=iH ((BsS.of_own hg4.1 (by have:=HQ.out;omega)));clear hg4 x0 x1 x2 xf1;obtain⟨x0,x1,x2,xf⟩:=jH X4.out;have xf1:=xf 1;clear xf;have HWW:=iH (show Below wr.heap.size wr (w4.setCell ⟨X,1,none⟩ (.slice va vl.length vc)) from(HW3.out.trans (Hb4.out.mono HW3.out.size)).setCell hXr _);have HN:=iH (zv Hown.out Hb4.out HW3.out hX3 hXr Hbel.out.size (.slice va vl.length vc) Hv4.out))
             |(at_builtin;(with_reducible refine jC rfl (.tmp 164) (.tmp 166) rfl w.heap.size (.slice oa L.len oc) L rfl (Hown.out.below HWW.out) t vl .nil (.slice va vl.length vc) (.slice none 0 0) _ w4.heap.size rfl (by simp [World.setCell]) HI.out HN.out (NsS.nil0 _ _) (by omega) (Nat.le_trans Hbel.out.size HWW.out.size) ?_);intro o2 w2 hg2;have G2:=iH hg2;clear hg2))
            go_roundg m
            case measure=>omega
            case rel=>exact⟨L.app (.cons t vl .nil .nil),u+(k+j+q),cc+1,E2.out,by go_num,by go_num,G2.out.1,(Hbel.out.trans (HWW.out.mono Hbel.out.size)).trans G2.out.2.1,by omega,by omega,by omega,by omega,by rw [Ns.len_snoc];omega⟩
   ·have E2:Hid (jg st n l d c false=.ok ⟨L,u+0,cc⟩):=by
     rw [E.out,kj (u:=0) (by unfold k9;rw [iF (by decide),iT (Ki (by omega))]),zR]<;>rfl
    clear E
    go_wp2_with fail
    exact bodyPost_ret (v:=.tuple #[.slice oa L.len oc,.int .i64 (u:Int),.int .i64 (cc:Int),.int .i64 0]) (by simp [results,Tryz.results79,go_sem]) rfl (RListOut.yes E2.out rfl rfl Hown.out (by omega) Hbel.out)
theorem YT(n:Nat)(ihT:∀m,m<n->yE m true)(ihF:∀m,m<n->yE m false):yE n true:=by
 intro l v d c st w hv hl4 hln hd hc
 have hlen:=hv.len
 by_cases hemp:l.length=0
 ·obtain⟨va,bc,rfl⟩:=hv.form2
  have E2:Hid (jg st n l d c true=.error 6):=xx (by unfold k9;rw [iT rfl,iT (.inl hemp)])
  have e0:l= []:=List.eq_nil_of_length_eq_zero hemp
  clear hv hlen hemp
  subst e0
  simp only [List.length_nil]
  go_enter Tryz.func79,Tryz.ntmps79
  go_wp2_with fail
  refine wp_loop_rounds 1 ?_
  rw [rounds_succ]
  go_wp2_with fail
  exact bodyPost_ret (v:=.tuple #[.slice none 0 0,.int .i64 0,.int .i64 0,.int .i64 6]) (by simp [results,Tryz.results79,go_sem]) rfl (RListOut.no E2.out (by decide) iB)
 ·obtain⟨va,bc,rfl⟩:=hv.form2
  obtain⟨bb,bo,rfl⟩:=KH hv (by omega)
  have hbc:=hv.capOf
  have HV:=iH hv
  clear hv hemp
  go_enter Tryz.func79,Tryz.ntmps79
  go_wp2_with fail
  go_loopg [2,14,15] n (fun m cs o at_ wr=>∃(L:Ns) (u cc:Nat),Hid (jg st n l d c true=yr L u (jg st m (l.drop u) d cc true))/\at_=.int .i64 u/\cs=.int .i64 cc/\OwnN wr w.heap.size o L/\Below w.heap.size w wr/\
   u<=l.length/\l.length - u<=m/\m<=n/\cc<=256/\L.len<=u)
  case atStart=>exact⟨.nil,0,c,by rw [J1]<;>rfl,rfl,rfl,OwnN.nil _ _,Below.refl _ _,by omega,by omega,Nat.le_refl _,hc,Nat.le_refl _⟩
  case round=>
   obtain⟨L,u,cc,E,rfl,rfl,hown,hbel,hu1,hu2,hm,hcc,hLl⟩:=hrel
   obtain⟨oa,oc,rfl⟩:=hown.form
   have Hown:=iH hown;have Hbel:=iH hbel
   clear hown hbel
   by_cases h0:u=l.length
   ·have E2:Hid (jg st n l d c true=.error 6):=by
     rw [E.out,xx (e:=6) (by unfold k9;rw [iT rfl,iT (.inl (Ki (by omega)))])]<;>rfl
    have d0:decide ((u:Int)>=l.length)=true:=by simp;omega
    clear E
    go_wp2_with fail
    exact bodyPost_ret (v:=.tuple #[.slice none 0 0,.int .i64 0,.int .i64 0,.int .i64 6]) (by simp [results,Tryz.results79,go_sem]) rfl (RListOut.no E2.out (by decide) Hbel.out)
   ·have hlt:u<l.length:=by omega
    have q1:=(HV.out.below Hbel.out).cellAt rfl hlt
    have g0:gb (l.drop u) 0=gb l u:=XQ l u 0
    obtain⟨x0,hx⟩:∃x0:Nat,x0=(gb l u).toNat:=⟨_,rfl⟩
    have ex:bv (gb l u)=x0:=by rw [hx]<;>rfl
    have ez:gb l u=0↔x0=0:=by rw [hx];exact⟨fun h=>by rw [h]<;>rfl,fun h=>UInt8.toNat_inj.1 h⟩
    change wr.cell? _=some (.int .u8 (bv (gb l u)))at q1
    rw [ex]at q1
    have d0:decide ((u:Int)>=l.length)=false:=by simp;omega
    have b5:(u:Int)<l.length:=by omega
    have hdl:(l.drop u).length=l.length - u:=List.length_drop
    clear hx ex
    by_cases hx0:x0=0
    ·have g0':gb (l.drop u) 0=0:=g0.trans (ez.2 hx0)
     subst hx0
     by_cases h1:u+1=l.length
     ·have E2:Hid (jg st n l d c true=.error 6):=by
       rw [E.out,xx (e:=6) (by unfold k9;rw [iT rfl,iT (.inr ⟨g0',by omega⟩)])]<;>rfl
      have d1:decide ((u:Int)+1>=l.length)=true:=by simp;omega
      clear E g0 g0' ez h0 h1 hdl
      go_wp2_with fail
      exact bodyPost_ret (v:=.tuple #[.slice none 0 0,.int .i64 0,.int .i64 0,.int .i64 6]) (by simp [results,Tryz.results79,go_sem]) rfl (RListOut.no E2.out (by decide) Hbel.out)
     ·have hl2:u+1<l.length:=by omega
      have d1:decide ((u:Int)+1>=l.length)=false:=by simp;omega
      have q2:=(HV.out.below Hbel.out).cellAt rfl hl2
      have g1:gb (l.drop u) 1=gb l (u+1):=XQ l u 1
      obtain⟨y,hy⟩:∃y:Nat,y=(gb l (u+1)).toNat:=⟨_,rfl⟩
      have ey:bv (gb l (u+1))=y:=by rw [hy]<;>rfl
      have ew:gb l (u+1)=0↔y=0:=by rw [hy];exact⟨fun h=>by rw [h]<;>rfl,fun h=>UInt8.toNat_inj.1 h⟩
      change wr.cell? _=some (.int .u8 (bv (gb l (u+1))))at q2
      rw [ey]at q2
      have b6:(0:Int)<=(u:Int)+1:=by omega
      have b7:(u:Int)+1<l.length:=by omega
      have hn1:¬((l.drop u).length=0\/(gb (l.drop u) 0=0/\(l.drop u).length=1)):=by omega
      clear hy ey
      by_cases hy0:y=0
      ·have g1':=g1.trans (ew.2 hy0)
       subst hy0
       have E2:Hid (jg st n l d c true=.ok ⟨L,u+2,cc⟩):=by
        rw [E.out,kj (u:=2) (by unfold k9;rw [iT rfl,iF hn1,iT ⟨g0',g1'⟩]),zR]<;>rfl
       clear E g0 g0' g1 g1' ez ew hn1 h0 h1 hdl
       go_wp2_with fail
       exact bodyPost_ret (v:=.tuple #[.slice oa L.len oc,.int .i64 ((u:Int)+2),.int .i64 (cc:Int),.int .i64 0]) (by simp [results,Tryz.results79,go_sem]) rfl (RListOut.yes E2.out (by omega) rfl Hown.out (by omega) Hbel.out)
      ·obtain⟨m,rfl⟩:∃m,gk=m+1:=⟨gk - 1,by omega⟩
       have hh:k9 (l.drop u) true=none:=by unfold k9;rw [iT rfl,iF hn1,iF (fun h=>hy0 (ew.1 (g1.symm.trans h.2)))]
       have y0:((y:Int)==0)=false:=by simp;omega
       have ht:kX (l.drop u)=.error 4:=by
        have e0:bv (gb (l.drop u) 0)=0:=by rw [g0']<;>rfl
        unfold kX;rw [iF (by omega),e0,iF (by decide),iF (by decide)]
       have HT:=fun(w1:World) (hb:Below w.heap.size w w1)=>iH (Qd (l.drop u) _ (·<w.heap.size) w1 (yg (HV.out.below hb) u (by omega) (A:=some ⟨bb,bo+u,none⟩) (by rw [iF (by omega)])))
       have E2:Hid (jg st n l d c true=.error 4):=by rw [E.out,jB hh (by show yS _ _ _ _ _=_;unfold yS;rw [ht])]<;>rfl
       simp only [ht,j0a]at HT
       have b8:(u:Int)<=l.length:=by omega
       have b9:(u:Int)<bc:=by omega
       clear g0 g0' g1 ez ew hn1 h0 h1 hy0 hdl hh ht E
       go_wp2_with(go_at_call 102;refine(HT _ Hbel.out).out.mono ?_;rintro e1 w' ⟨rfl,n1,rfl⟩)
       refine bodyPost_ret (v:=.tuple #[.slice none 0 0,.int .i64 0,.int .i64 0,.int .i64 4]) (by simp [results,Tryz.results79,go_sem]) rfl (RListOut.no E2.out (by decide) (j4 Hbel.out n1))
    ·obtain⟨m,rfl⟩:∃m,gk=m+1:=⟨gk - 1,by omega⟩
     have hne:¬gb (l.drop u) 0=0:=fun h=>hx0 (ez.1 (g0.symm.trans h))
     have hh:k9 (l.drop u) true=none:=by
      unfold k9;rw [iT rfl,iF (fun h=>h.elim (fun h=>by omega) fun h=>hne h.1),iF (fun h=>hne h.1)]
     have y0:((x0:Int)==0)=false:=by simp;omega
     have ihT:=ihT m (by omega);have ihF:=ihF m (by omega)
     have b0:(u:Int)<=l.length:=by omega
     have b4:(u:Int)<bc:=by omega
     clear g0 ez h0 hx0 hne hdl
     have HT:=fun(w1:World) (hb:Below w.heap.size w w1)=>iH (Qd (l.drop u) _ (·<w.heap.size) w1 (yg (HV.out.below hb) u (by omega) (A:=some ⟨bb,bo+u,none⟩) (by rw [iF (by omega)])))
     cases ht:kX (l.drop u)with
     |error er=>
      have E2:Hid (jg st n l d c true=.error er):=by rw [E.out,jB hh (by show yS _ _ _ _ _=_;unfold yS;rw [ht])]<;>rfl
      have ne:=zY ht
      have n0:(er != 0)=true:=by simp [ne]
      have N0:=iH ne
      simp only [ht,j0a]at HT
      clear ht ne hh E
      go_wp2_with(go_at_call 102;refine(HT _ Hbel.out).out.mono ?_;rintro e1 w' ⟨rfl,n1,rfl⟩)
      refine bodyPost_ret (v:=.tuple #[.slice none 0 0,.int .i64 0,.int .i64 0,.int .i64 er]) (by simp [results,Tryz.results79,go_sem]) rfl (RListOut.no E2.out N0.out (j4 Hbel.out _))
     |ok x=>
      obtain⟨t,k⟩:=x
      obtain⟨tv,k1,k2⟩:=zl ht
      rw [List.length_drop]at k2
      have hin:=JR tv
      obtain⟨tc,htc⟩:∃tc,tc=jW t:=⟨_,rfl⟩
      have HC:=iH (fun w=>zS t hin w)
      rw [<-htc]at HC
      simp only [ht,j2o]at HT
      obtain⟨A1,hA1⟩:∃A,(if bc=u+k then some (⟨bb,bo,none⟩:Addr)else some ⟨bb,bo+(u+k),none⟩)=A:=⟨_,rfl⟩
      have CUT1:=iH (fun(w1:World) (hb:Below w.heap.size w w1)=>yg (HV.out.below hb) (u+k) (by omega) hA1)
      have HS:=fun(w1:World) (hb:Below w.heap.size w w1)=>iH (Xl (l.drop (u+k)) _ (·<w.heap.size) tc st w1 (CUT1.out w1 hb))
      have HI:=iH hin;have TC:=iH htc
      have HT2:=iH ht
      have b1:(0:Int)<=(u:Int)+k:=by omega
      have b2:(u:Int)+k<=l.length:=by omega
      have b3:(u:Int)+k<=bc:=by omega
      clear tv hin htc ht
      cases hs:jy (l.drop (u+k)) (tc&& !st) st with
      |error er=>
       have ho:kJ st m (l.drop u) d cc=.error er:=QU HT2.out (by rw [List.drop_drop,<-TC.out];exact hs)
       have E2:Hid (jg st n l d c true=.error er):=by rw [E.out,jB hh ho]<;>rfl
       have ne:=kV hs
       have n0:(er != 0)=true:=by simp [ne]
       have N0:=iH ne
       simp only [hs,j0a]at HS
       clear hs ho ne hh E
       go_upto_region 14 with (go_at_call 102;refine(HT _ Hbel.out).out.mono ?_;rintro e1 w' ⟨rfl,n1,rfl⟩)
       have HB1:=iH (j4 Hbel.out n1)
       obtain⟨w1,hw1⟩:∃w1,w1=wr.drewN n1:=⟨_,rfl⟩
       have HD1:=iH (jq wr n1)
       rw [<-hw1]at HB1 HD1 |-
       clear hw1
       refine wp_region_quiet_lit (by kernel_rfl) (by kernel_rfl) ?_
       iterate 3 (first|go_big_quiet_step (fail)|quiet_step (fail))
       (try rw [hA1])
       repeat(first|go_big_quiet_step ((first|(go_at_call 95;exact Calls.quiet_of_same (HC.out _))|(go_at_call 103;exact j7 (HS _ (j4 HB1.out _)).out)))|quiet_step ((first|(go_at_call 95;exact Calls.quiet_of_same (HC.out _))|(go_at_call 103;exact j7 (HS _ (j4 HB1.out _)).out))))
       refine wpQuiet_nil ?_
       intro w2 hqq
       obtain⟨nq,hqr⟩:=hqq
       have HB2:=iH (j4 HB1.out nq)
       have HD2:=iH (j4 HD1.out nq)
       rw [<-hqr]at HB2 HD2
       clear hqr
       go_wp2_with fail
       refine bodyPost_ret (v:=.tuple #[.slice none 0 0,.int .i64 0,.int .i64 0,.int .i64 er]) (by simp [results,Tryz.results79,go_sem]) rfl (RListOut.no E2.out N0.out HB2.out)
      |ok y=>
       obtain⟨z,j⟩:=y
       obtain⟨j1,j2,m1,m2⟩:=xe hs
       rw [List.length_drop]at j2
       have hs':jy ((l.drop u).drop k) (jW t&& !st) st=.ok (z,j):=by rw [List.drop_drop,<-TC.out];exact hs
       have HS2:=iH hs'
       simp only [hs,j2o]at HS
       clear hs hs'
       obtain rfl:some (⟨bb,bo+(u+k),none⟩:Addr)=A1:=by rw [<-hA1,iF (by omega)]
       clear hA1
       by_cases h8:8<d
       ·have E2:Hid (jg st n l d c true=.error 7):=by rw [E.out,jB hh (QV HT2.out HS2.out h8)]<;>rfl
        clear hh E
        go_upto_region 14 with (go_at_call 102;refine(HT _ Hbel.out).out.mono ?_;rintro e1 w' ⟨rfl,n1,rfl⟩)
        have HB1:=iH (j4 Hbel.out n1)
        obtain⟨w1,hw1⟩:∃w1,w1=wr.drewN n1:=⟨_,rfl⟩
        have HD1:=iH (jq wr n1)
        rw [<-hw1]at HB1 HD1 |-
        clear hw1
        refine wp_region_quiet_lit (by kernel_rfl) (by kernel_rfl) ?_
        iterate 3 (first|go_big_quiet_step (fail)|quiet_step (fail))
        (try rw [hA1])
        repeat(first|go_big_quiet_step ((first|(go_at_call 95;exact Calls.quiet_of_same (HC.out _))|(go_at_call 103;exact j7 (HS _ (j4 HB1.out _)).out)))|quiet_step ((first|(go_at_call 95;exact Calls.quiet_of_same (HC.out _))|(go_at_call 103;exact j7 (HS _ (j4 HB1.out _)).out))))
        refine wpQuiet_nil ?_
        intro w2 hqq
        obtain⟨nq,hqr⟩:=hqq
        have HB2:=iH (j4 HB1.out nq)
        have HD2:=iH (j4 HD1.out nq)
        rw [<-hqr]at HB2 HD2
        clear hqr
        go_wp2_with fail
        refine bodyPost_ret (v:=.tuple #[.slice none 0 0,.int .i64 0,.int .i64 0,.int .i64 7]) (by simp [results,Tryz.results79,go_sem]) rfl (RListOut.no E2.out (by decide) HB2.out)
       ·by_cases h9:256<cc+1
        ·have E2:Hid (jg st n l d c true=.error 2):=by rw [E.out,jB hh (QW HT2.out HS2.out h8 h9)]<;>rfl
         clear hh E
         go_upto_region 14 with (go_at_call 102;refine(HT _ Hbel.out).out.mono ?_;rintro e1 w' ⟨rfl,n1,rfl⟩)
         have HB1:=iH (j4 Hbel.out n1)
         obtain⟨w1,hw1⟩:∃w1,w1=wr.drewN n1:=⟨_,rfl⟩
         have HD1:=iH (jq wr n1)
         rw [<-hw1]at HB1 HD1 |-
         clear hw1
         refine wp_region_quiet_lit (by kernel_rfl) (by kernel_rfl) ?_
         iterate 3 (first|go_big_quiet_step (fail)|quiet_step (fail))
         (try rw [hA1])
         repeat(first|go_big_quiet_step ((first|(go_at_call 95;exact Calls.quiet_of_same (HC.out _))|(go_at_call 103;exact j7 (HS _ (j4 HB1.out _)).out)))|quiet_step ((first|(go_at_call 95;exact Calls.quiet_of_same (HC.out _))|(go_at_call 103;exact j7 (HS _ (j4 HB1.out _)).out))))
         refine wpQuiet_nil ?_
         intro w2 hqq
         obtain⟨nq,hqr⟩:=hqq
         have HB2:=iH (j4 HB1.out nq)
         have HD2:=iH (j4 HD1.out nq)
         rw [<-hqr]at HB2 HD2
         clear hqr
         go_wp2_with fail
         refine bodyPost_ret (v:=.tuple #[.slice none 0 0,.int .i64 0,.int .i64 0,.int .i64 2]) (by simp [results,Tryz.results79,go_sem]) rfl (RListOut.no E2.out (by decide) HB2.out)
        ·by_cases h10:(l.length:Int) - ((u+k+j:Nat):Int)<z
         ·have E2:Hid (jg st n l d c true=.error 6):=by rw [E.out,jB hh (QX HT2.out HS2.out h8 h9 (by rw [List.drop_drop,List.length_drop];omega))]<;>rfl
          have h11:(l.length:Int) - ((u:Int)+k+j)<z:=by omega
          clear hh E h10
          go_upto_region 14 with (go_at_call 102;refine(HT _ Hbel.out).out.mono ?_;rintro e1 w' ⟨rfl,n1,rfl⟩)
          have HB1:=iH (j4 Hbel.out n1)
          obtain⟨w1,hw1⟩:∃w1,w1=wr.drewN n1:=⟨_,rfl⟩
          have HD1:=iH (jq wr n1)
          rw [<-hw1]at HB1 HD1 |-
          clear hw1
          refine wp_region_quiet_lit (by kernel_rfl) (by kernel_rfl) ?_
          iterate 3 (first|go_big_quiet_step (fail)|quiet_step (fail))
          (try rw [hA1])
          repeat(first|go_big_quiet_step ((first|(go_at_call 95;exact Calls.quiet_of_same (HC.out _))|(go_at_call 103;exact j7 (HS _ (j4 HB1.out _)).out)))|quiet_step ((first|(go_at_call 95;exact Calls.quiet_of_same (HC.out _))|(go_at_call 103;exact j7 (HS _ (j4 HB1.out _)).out))))
          refine wpQuiet_nil ?_
          intro w2 hqq
          obtain⟨nq,hqr⟩:=hqq
          have HB2:=iH (j4 HB1.out nq)
          have HD2:=iH (j4 HD1.out nq)
          rw [<-hqr]at HB2 HD2
          clear hqr
          go_wp2_with fail
          refine bodyPost_ret (v:=.tuple #[.slice none 0 0,.int .i64 0,.int .i64 0,.int .i64 6]) (by simp [results,Tryz.results79,go_sem]) rfl (RListOut.no E2.out (by decide) HB2.out)
         ·have h3':¬(((l.drop u).drop (k+j)).length:Int)<z:=by rw [List.drop_drop,List.length_drop];omega
          have H3:=iH h3';clear h3'
          have h11:z<=(l.length:Int) - ((u:Int)+k+j):=by omega
          clear h10
          obtain⟨A2,hA2⟩:∃A,(if bc=u+k+j then some (⟨bb,bo,none⟩:Addr)else some ⟨bb,bo+(u+k+j),none⟩)=A:=⟨_,rfl⟩
          have hA3:(A2=some ⟨bb,bo+(u+k+j),none⟩/\u+k+j<bc)\/(A2=some ⟨bb,bo,none⟩/\bc<=u+k+j):=by
           rcases Nat.lt_or_ge (u+k+j) bc with h|h
           ·exact .inl ⟨by rw [<-hA2,iF (by omega)],h⟩
           ·exact .inr ⟨by rw [<-hA2,iT (by omega)],h⟩
          have hj2:u+k+j<=l.length:=by omega
          have hm2:l.length<=u+m+1:=by omega
          have hz1:=iH (show z= -1\/0<=z from m2.elim .inr fun h=>.inl h.1)
          have hkj:2<=k+j:=by omega
          have HA3:=iH hA3;clear hA3
          clear k2 j2 m1 m2 hu2 hlt hln
          by_cases hz0:z<0
          ·skip
           have hpl:(l.drop (u+k+j)).length<=m:=by rw [List.length_drop];omega
           have hp4:(l.drop (u+k+j)).length<=4096:=by rw [List.length_drop];omega
           have HF:=fun(w3:World) (hb:Below w.heap.size w w3) (A:Option Addr) (N C:Nat) (h:BsS w3 (·<w.heap.size) (.slice A N C) (l.drop (u+k+j)))=>iH (show Calls Tryz.prog 79 #[.slice A N C,.int .i64 ((d:Int)+1),.int .i64 ((cc:Int)+1),.bool st,.bool true] w3 (RListOut (jg st m (l.drop (u+k+j)) (d+1) (cc+1) true) w3) from
            ihT (l.drop (u+k+j)) _ (d+1) (cc+1) st w3 (h.keep fun b hs _=>⟨rfl,iZ hs hb.size⟩) hp4 hpl (by omega) (by omega))
           have hl0:=jS st m (l.drop (u+k+j)) (d+1) (cc+1) true (by omega)
           clear hpl hp4
           cases hl:jg st m (l.drop (u+k+j)) (d+1) (cc+1) true with
           |error er=>
            have ho:kJ st m (l.drop u) d cc=.error er:=Vd HT2.out HS2.out h8 h9 (by have:=H3.out;omega) hz0 (by rw [List.drop_drop,<-Nat.add_assoc];exact hl)
            have E2:Hid (jg st n l d c true=.error er):=by rw [E.out,jB hh ho]<;>rfl
            have ne:=hl0.2 er hl
            have n0:(er != 0)=true:=by simp [ne]
            have N0:=iH ne
            rw [hl]at HF
            clear hl hl0 ne hh E ho hA2
            go_upto_region 14 with (go_at_call 102;refine(HT _ Hbel.out).out.mono ?_;rintro e1 w' ⟨rfl,n1,rfl⟩)
            have HB1:=iH (j4 Hbel.out n1)
            obtain⟨w1,hw1⟩:∃w1,w1=wr.drewN n1:=⟨_,rfl⟩
            have HD1:=iH (jq wr n1)
            rw [<-hw1]at HB1 HD1 |-
            clear hw1
            refine wp_region_quiet_lit (by kernel_rfl) (by kernel_rfl) ?_
            iterate 3 (first|go_big_quiet_step (fail)|quiet_step (fail))
            (try rw [hA1])
            repeat(first|go_big_quiet_step ((first|(go_at_call 95;exact Calls.quiet_of_same (HC.out _))|(go_at_call 103;exact j7 (HS _ (j4 HB1.out _)).out)))|quiet_step ((first|(go_at_call 95;exact Calls.quiet_of_same (HC.out _))|(go_at_call 103;exact j7 (HS _ (j4 HB1.out _)).out))))
            refine wpQuiet_nil ?_
            intro w2 hqq
            obtain⟨nq,hqr⟩:=hqq
            have HB2:=iH (j4 HB1.out nq)
            have HD2:=iH (j4 HD1.out nq)
            rw [<-hqr]at HB2 HD2
            clear hqr
            have HW:=iH HD2.out
            go_upto_region 28 with (go_at_call 95;refine(HC.out _).mono ?_;rintro e w' ⟨rfl,rfl⟩)
            have hsz3:=iH HW.out.size
            obtain⟨w3,hw3⟩:∃w3,w3=w2.alloc (.cells #[.int .i64 t,.slice none 0 0,.slice none 0 0] 61):=⟨_,rfl⟩
            obtain⟨X,hX⟩:∃X,X=w2.heap.size:=⟨_,rfl⟩
            have X3:Hid (w3.heap[X]?=some (.cells #[.int .i64 t,.slice none 0 0,.slice none 0 0] 61 (0,0))):=by rw [hw3,hX];exact heap_alloc_new w2 _
            have HW3:Hid (Below wr.heap.size wr w3):=by rw [hw3];exact HW.out.alloc HW.out.size _
            have HB3:Hid (Below w.heap.size w w3):=by rw [hw3];exact HB2.out.alloc HB2.out.size _
            have hXr:wr.heap.size<=X:=by rw [hX];exact HD2.out.size
            have hXw:w.heap.size<=X:=Nat.le_trans Hbel.out.size hXr
            have hX3:X<w3.heap.size:=(iG X3.out)
            rw [<-hw3,<-hX]
            clear hw3 hX hsz3
            obtain⟨x0,x1,x2,xf⟩:=jH X3.out
            have xf1:=xf 2
            clear xf
            rcases HA3.out with ⟨rfl,hb5⟩|⟨rfl,hb5⟩
            rotate_left
            obtain rfl:bc=u+k+j:=by omega
            clear hb5
            all_goals
             go_wp2_with(go_at_call 79;refine(HF _ HB3.out _ _ _ (Zw (HV.out.below HB3.out) (u+k+j) hj2 (fun h=>by first|rfl|omega) (by omega) ⟨by omega,by omega⟩)).out.mono ?_;intro e4 w4 h4;obtain⟨_,rfl,hb4⟩:=h4;have X4:=iH ((hb4.block _ (iG X3.out)).trans X3.out);have Hb4:=iH hb4;clear hb4 x0 x1 x2 xf1;obtain⟨x0,x1,x2,xf⟩:=jH X4.out;have xf1:=xf 2;clear xf)
             refine bodyPost_ret (v:=.tuple #[.slice none 0 0,.int .i64 0,.int .i64 0,.int .i64 er]) (by simp [results,Tryz.results79,go_sem]) rfl (RListOut.no E2.out N0.out ((HB3.out.trans (Hb4.out.mono HB3.out.size)).setCell hXw _))
           |ok r=>
            have ho:kJ st m (l.drop u) d cc=.ok ⟨t,[],r.list,k+j+r.used,r.count⟩:=j1t HT2.out HS2.out h8 h9 (by have:=H3.out;omega) hz0 (by rw [List.drop_drop,<-Nat.add_assoc];exact hl)
            obtain⟨u1,u2,u3⟩:=hl0.1 r hl
            have u5:u+k+j+r.used<=l.length:=by rw [List.length_drop]at u1;omega
            clear u1
            have E2:Hid (jg st n l d c true=yr (L.app (.cons t [] r.list .nil)) (u+(k+j+r.used)) (jg st m (l.drop (u+(k+j+r.used))) d r.count true)):=by
             rw [E.out,jJ hh ho,qk,List.drop_drop]<;>rfl
            rw [hl]at HF
            clear hl hl0 hh E ho u3 hA2
            go_upto_region 14 with (go_at_call 102;refine(HT _ Hbel.out).out.mono ?_;rintro e1 w' ⟨rfl,n1,rfl⟩)
            have HB1:=iH (j4 Hbel.out n1)
            obtain⟨w1,hw1⟩:∃w1,w1=wr.drewN n1:=⟨_,rfl⟩
            have HD1:=iH (jq wr n1)
            rw [<-hw1]at HB1 HD1 |-
            clear hw1
            refine wp_region_quiet_lit (by kernel_rfl) (by kernel_rfl) ?_
            iterate 3 (first|go_big_quiet_step (fail)|quiet_step (fail))
            (try rw [hA1])
            repeat(first|go_big_quiet_step ((first|(go_at_call 95;exact Calls.quiet_of_same (HC.out _))|(go_at_call 103;exact j7 (HS _ (j4 HB1.out _)).out)))|quiet_step ((first|(go_at_call 95;exact Calls.quiet_of_same (HC.out _))|(go_at_call 103;exact j7 (HS _ (j4 HB1.out _)).out))))
            refine wpQuiet_nil ?_
            intro w2 hqq
            obtain⟨nq,hqr⟩:=hqq
            have HB2:=iH (j4 HB1.out nq)
            have HD2:=iH (j4 HD1.out nq)
            rw [<-hqr]at HB2 HD2
            clear hqr
            have HW:=iH HD2.out
            go_upto_region 28 with (go_at_call 95;refine(HC.out _).mono ?_;rintro e w' ⟨rfl,rfl⟩)
            have hsz3:=iH HW.out.size
            obtain⟨w3,hw3⟩:∃w3,w3=w2.alloc (.cells #[.int .i64 t,.slice none 0 0,.slice none 0 0] 61):=⟨_,rfl⟩
            obtain⟨X,hX⟩:∃X,X=w2.heap.size:=⟨_,rfl⟩
            have X3:Hid (w3.heap[X]?=some (.cells #[.int .i64 t,.slice none 0 0,.slice none 0 0] 61 (0,0))):=by rw [hw3,hX];exact heap_alloc_new w2 _
            have HW3:Hid (Below wr.heap.size wr w3):=by rw [hw3];exact HW.out.alloc HW.out.size _
            have HB3:Hid (Below w.heap.size w w3):=by rw [hw3];exact HB2.out.alloc HB2.out.size _
            have hXr:wr.heap.size<=X:=by rw [hX];exact HD2.out.size
            have hXw:w.heap.size<=X:=Nat.le_trans Hbel.out.size hXr
            have hX3:X<w3.heap.size:=(iG X3.out)
            rw [<-hw3,<-hX]
            clear hw3 hX hsz3
            obtain⟨x0,x1,x2,xf⟩:=jH X3.out
            have xf1:=xf 2
            clear xf
            rcases HA3.out with ⟨rfl,hb5⟩|⟨rfl,hb5⟩
            rotate_left
            obtain rfl:bc=u+k+j:=by omega
            clear hb5
            all_goals
             go_wp2_with(first
              |(go_at_call 79;refine(HF _ HB3.out _ _ _ (Zw (HV.out.below HB3.out) (u+k+j) hj2 (fun h=>by first|rfl|omega) (by omega) ⟨by omega,by omega⟩)).out.mono ?_;intro e4 w4 h4;obtain⟨v4,rfl,hv4,hb4⟩:=h4;obtain⟨va,vc,rfl⟩:=NsS.form2 hv4;have X4:=iH ((hb4.block _ (iG X3.out)).trans X3.out);have Hb4:=iH hb4;have Hv4:=iH hv4;clear hb4 hv4 x0 x1 x2 xf1;obtain⟨x0,x1,x2,xf⟩:=jH X4.out;have xf1:=xf 2;clear xf;have HWW:=iH (show Below wr.heap.size wr (w4.setCell ⟨X,2,none⟩ (.slice va r.list.len vc)) from(HW3.out.trans (Hb4.out.mono HW3.out.size)).setCell hXr _);have HN:=iH (yY Hown.out Hb4.out HW3.out hX3 hXr Hbel.out.size (.slice va r.list.len vc) Hv4.out))
              |(at_builtin;(with_reducible refine jC rfl (.tmp 164) (.tmp 166) rfl w.heap.size (.slice oa L.len oc) L rfl (Hown.out.below HWW.out) t [] r.list (.slice none 0 0) (.slice va r.list.len vc) _ w4.heap.size rfl (by simp [World.setCell]) HI.out (BsS.nil0 _ _) HN.out (by omega) (Nat.le_trans Hbel.out.size HWW.out.size) ?_);intro o2 w2 hg2;have G2:=iH hg2;clear hg2))
             go_roundg m
             case measure=>omega
             case rel=>exact⟨L.app (.cons t [] r.list .nil),u+(k+j+r.used),r.count,E2.out,by go_num,by go_num,G2.out.1,(Hbel.out.trans (HWW.out.mono Hbel.out.size)).trans G2.out.2.1,by omega,by omega,by omega,u2,by rw [Ns.len_snoc];omega⟩
          ·obtain⟨q,rfl⟩:=Int.eq_ofNat_of_zero_le (show 0<=z by omega)
           have hq:u+k+j+q<=l.length:=by omega
           clear hz1 h11 hz0
           cases tc with
           |true=>
            have hpl:((l.drop (u+k+j)).take q).length<=m:=by rw [List.length_take,List.length_drop];omega
            have hp4:((l.drop (u+k+j)).take q).length<=4096:=by rw [List.length_take,List.length_drop];omega
            have HF:=fun(w3:World) (hb:Below w.heap.size w w3) (A:Option Addr) (N C:Nat) (h:BsS w3 (·<w.heap.size) (.slice A N C) ((l.drop (u+k+j)).take q))=>iH (show Calls Tryz.prog 79 #[.slice A N C,.int .i64 ((d:Int)+1),.int .i64 ((cc:Int)+1),.bool st,.bool false] w3 (RListOut (jg st m ((l.drop (u+k+j)).take q) (d+1) (cc+1) false) w3) from
             ihF ((l.drop (u+k+j)).take q) _ (d+1) (cc+1) st w3 (h.keep fun b hs _=>⟨rfl,iZ hs hb.size⟩) hp4 hpl (by omega) (by omega))
            have hl0:=jS st m ((l.drop (u+k+j)).take q) (d+1) (cc+1) false (by omega)
            clear hpl hp4
            cases hl:jg st m ((l.drop (u+k+j)).take q) (d+1) (cc+1) false with
            |error er=>
             have ho:kJ st m (l.drop u) d cc=.error er:=ZL HT2.out HS2.out h8 h9 (by have:=H3.out;omega) (by omega) (TC.out.symm.trans rfl) (by rw [List.drop_drop,<-Nat.add_assoc,Int.toNat_natCast];exact hl)
             have E2:Hid (jg st n l d c true=.error er):=by rw [E.out,jB hh ho]<;>rfl
             have ne:=hl0.2 er hl
             have n0:(er != 0)=true:=by simp [ne]
             have N0:=iH ne
             rw [hl]at HF
             clear hl hl0 ne hh E ho hA2
             go_upto_region 14 with (go_at_call 102;refine(HT _ Hbel.out).out.mono ?_;rintro e1 w' ⟨rfl,n1,rfl⟩)
             have HB1:=iH (j4 Hbel.out n1)
             obtain⟨w1,hw1⟩:∃w1,w1=wr.drewN n1:=⟨_,rfl⟩
             have HD1:=iH (jq wr n1)
             rw [<-hw1]at HB1 HD1 |-
             clear hw1
             refine wp_region_quiet_lit (by kernel_rfl) (by kernel_rfl) ?_
             iterate 3 (first|go_big_quiet_step (fail)|quiet_step (fail))
             (try rw [hA1])
             repeat(first|go_big_quiet_step ((first|(go_at_call 95;exact Calls.quiet_of_same (HC.out _))|(go_at_call 103;exact j7 (HS _ (j4 HB1.out _)).out)))|quiet_step ((first|(go_at_call 95;exact Calls.quiet_of_same (HC.out _))|(go_at_call 103;exact j7 (HS _ (j4 HB1.out _)).out))))
             refine wpQuiet_nil ?_
             intro w2 hqq
             obtain⟨nq,hqr⟩:=hqq
             have HB2:=iH (j4 HB1.out nq)
             have HD2:=iH (j4 HD1.out nq)
             rw [<-hqr]at HB2 HD2
             clear hqr
             have HW:=iH HD2.out
             go_upto_region 31 with (go_at_call 95;refine(HC.out _).mono ?_;rintro e w' ⟨rfl,rfl⟩)
             have hsz3:=iH HW.out.size
             obtain⟨w3,hw3⟩:∃w3,w3=w2.alloc (.cells #[.int .i64 t,.slice none 0 0,.slice none 0 0] 61):=⟨_,rfl⟩
             obtain⟨X,hX⟩:∃X,X=w2.heap.size:=⟨_,rfl⟩
             have X3:Hid (w3.heap[X]?=some (.cells #[.int .i64 t,.slice none 0 0,.slice none 0 0] 61 (0,0))):=by rw [hw3,hX];exact heap_alloc_new w2 _
             have HW3:Hid (Below wr.heap.size wr w3):=by rw [hw3];exact HW.out.alloc HW.out.size _
             have HB3:Hid (Below w.heap.size w w3):=by rw [hw3];exact HB2.out.alloc HB2.out.size _
             have hXr:wr.heap.size<=X:=by rw [hX];exact HD2.out.size
             have hXw:w.heap.size<=X:=Nat.le_trans Hbel.out.size hXr
             have hX3:X<w3.heap.size:=(iG X3.out)
             rw [<-hw3,<-hX]
             clear hw3 hX hsz3
             obtain⟨x0,x1,x2,xf⟩:=jH X3.out
             have xf1:=xf 2
             clear xf
             rcases HA3.out with ⟨rfl,hb5⟩|⟨rfl,hb5⟩
             rotate_left
             obtain rfl:bc=u+k+j:=by omega
             clear hb5
             all_goals
              go_wp2_with(go_at_call 79;refine(HF _ HB3.out _ _ _ (KQ (HV.out.below HB3.out) (u+k+j) q hq (fun h=>by first|rfl|omega) (by omega) ⟨by omega,by omega⟩)).out.mono ?_;intro e4 w4 h4;obtain⟨_,rfl,hb4⟩:=h4;have X4:=iH ((hb4.block _ (iG X3.out)).trans X3.out);have Hb4:=iH hb4;clear hb4 x0 x1 x2 xf1;obtain⟨x0,x1,x2,xf⟩:=jH X4.out;have xf1:=xf 2;clear xf)
              refine bodyPost_ret (v:=.tuple #[.slice none 0 0,.int .i64 0,.int .i64 0,.int .i64 er]) (by simp [results,Tryz.results79,go_sem]) rfl (RListOut.no E2.out N0.out ((HB3.out.trans (Hb4.out.mono HB3.out.size)).setCell hXw _))
            |ok r=>
             have ho:kJ st m (l.drop u) d cc=.ok ⟨t,[],r.list,k+j+q,r.count⟩:=YF HT2.out HS2.out h8 h9 (by have:=H3.out;omega) (by omega) (TC.out.symm.trans rfl) (by rw [List.drop_drop,<-Nat.add_assoc,Int.toNat_natCast];exact hl)
             obtain⟨u1,u2,u3⟩:=hl0.1 r hl
             have u4:=u3 rfl
             rw [List.length_take,List.length_drop,Nat.min_eq_left (by omega)]at u4
             clear u1
             have E2:Hid (jg st n l d c true=yr (L.app (.cons t [] r.list .nil)) (u+(k+j+q)) (jg st m (l.drop (u+(k+j+q))) d r.count true)):=by
              rw [E.out,jJ hh ho,qk,List.drop_drop]<;>rfl
             rw [hl]at HF
             clear hl hl0 hh E ho u3 hA2
             go_upto_region 14 with (go_at_call 102;refine(HT _ Hbel.out).out.mono ?_;rintro e1 w' ⟨rfl,n1,rfl⟩)
             have HB1:=iH (j4 Hbel.out n1)
             obtain⟨w1,hw1⟩:∃w1,w1=wr.drewN n1:=⟨_,rfl⟩
             have HD1:=iH (jq wr n1)
             rw [<-hw1]at HB1 HD1 |-
             clear hw1
             refine wp_region_quiet_lit (by kernel_rfl) (by kernel_rfl) ?_
             iterate 3 (first|go_big_quiet_step (fail)|quiet_step (fail))
             (try rw [hA1])
             repeat(first|go_big_quiet_step ((first|(go_at_call 95;exact Calls.quiet_of_same (HC.out _))|(go_at_call 103;exact j7 (HS _ (j4 HB1.out _)).out)))|quiet_step ((first|(go_at_call 95;exact Calls.quiet_of_same (HC.out _))|(go_at_call 103;exact j7 (HS _ (j4 HB1.out _)).out))))
             refine wpQuiet_nil ?_
             intro w2 hqq
             obtain⟨nq,hqr⟩:=hqq
             have HB2:=iH (j4 HB1.out nq)
             have HD2:=iH (j4 HD1.out nq)
             rw [<-hqr]at HB2 HD2
             clear hqr
             have HW:=iH HD2.out
             go_upto_region 31 with (go_at_call 95;refine(HC.out _).mono ?_;rintro e w' ⟨rfl,rfl⟩)
             have hsz3:=iH HW.out.size
             obtain⟨w3,hw3⟩:∃w3,w3=w2.alloc (.cells #[.int .i64 t,.slice none 0 0,.slice none 0 0] 61):=⟨_,rfl⟩
             obtain⟨X,hX⟩:∃X,X=w2.heap.size:=⟨_,rfl⟩
             have X3:Hid (w3.heap[X]?=some (.cells #[.int .i64 t,.slice none 0 0,.slice none 0 0] 61 (0,0))):=by rw [hw3,hX];exact heap_alloc_new w2 _
             have HW3:Hid (Below wr.heap.size wr w3):=by rw [hw3];exact HW.out.alloc HW.out.size _
             have HB3:Hid (Below w.heap.size w w3):=by rw [hw3];exact HB2.out.alloc HB2.out.size _
             have hXr:wr.heap.size<=X:=by rw [hX];exact HD2.out.size
             have hXw:w.heap.size<=X:=Nat.le_trans Hbel.out.size hXr
             have hX3:X<w3.heap.size:=(iG X3.out)
             rw [<-hw3,<-hX]
             clear hw3 hX hsz3
             obtain⟨x0,x1,x2,xf⟩:=jH X3.out
             have xf1:=xf 2
             clear xf
             rcases HA3.out with ⟨rfl,hb5⟩|⟨rfl,hb5⟩
             rotate_left
             obtain rfl:bc=u+k+j:=by omega
             clear hb5
             all_goals
              go_wp2_with(first
               |(go_at_call 79;refine(HF _ HB3.out _ _ _ (KQ (HV.out.below HB3.out) (u+k+j) q hq (fun h=>by first|rfl|omega) (by omega) ⟨by omega,by omega⟩)).out.mono ?_;intro e4 w4 h4;obtain⟨v4,rfl,hv4,hb4⟩:=h4;obtain⟨va,vc,rfl⟩:=NsS.form2 hv4;have X4:=iH ((hb4.block _ (iG X3.out)).trans X3.out);have Hb4:=iH hb4;have Hv4:=iH hv4;clear hb4 hv4 x0 x1 x2 xf1;obtain⟨x0,x1,x2,xf⟩:=jH X4.out;have xf1:=xf 2;clear xf;have HWW:=iH (show Below wr.heap.size wr (w4.setCell ⟨X,2,none⟩ (.slice va r.list.len vc)) from(HW3.out.trans (Hb4.out.mono HW3.out.size)).setCell hXr _);have HN:=iH (yY Hown.out Hb4.out HW3.out hX3 hXr Hbel.out.size (.slice va r.list.len vc) Hv4.out))
               |(at_builtin;(with_reducible refine jC rfl (.tmp 164) (.tmp 166) rfl w.heap.size (.slice oa L.len oc) L rfl (Hown.out.below HWW.out) t [] r.list (.slice none 0 0) (.slice va r.list.len vc) _ w4.heap.size rfl (by simp [World.setCell]) HI.out (BsS.nil0 _ _) HN.out (by omega) (Nat.le_trans Hbel.out.size HWW.out.size) ?_);intro o2 w2 hg2;have G2:=iH hg2;clear hg2))
              go_roundg m
              case measure=>omega
              case rel=>exact⟨L.app (.cons t [] r.list .nil),u+(k+j+q),r.count,E2.out,by go_num,by go_num,G2.out.1,(Hbel.out.trans (HWW.out.mono Hbel.out.size)).trans G2.out.2.1,by omega,by omega,by omega,u2,by rw [Ns.len_snoc];omega⟩
           |false=>
            have CUT2:=iH (fun(w1:World) (hb:Below w.heap.size w w1)=>XO (HV.out.below hb) (u+k+j) q (by omega) hA2)
            have ho:kJ st m (l.drop u) d cc=.ok ⟨t,(l.drop (u+k+j)).take q,.nil,k+j+q,cc+1⟩:=by
             rw [Ve HT2.out HS2.out h8 h9 (by have:=H3.out;omega) (by omega) (by rw [<-TC.out];decide),List.drop_drop,<-Nat.add_assoc,Int.toNat_natCast]
            have E2:Hid (jg st n l d c true=yr (L.app (.cons t ((l.drop (u+k+j)).take q) .nil .nil)) (u+(k+j+q)) (jg st m (l.drop (u+(k+j+q))) d (cc+1) true)):=by
             rw [E.out,jJ hh ho,qk,List.drop_drop]<;>rfl
            obtain⟨vl,hvl⟩:∃vl,vl=(l.drop (u+k+j)).take q:=⟨_,rfl⟩
            have hql:vl.length=q:=by rw [hvl,List.length_take,List.length_drop];omega
            rw [<-hvl]at E2 CUT2
            clear hh E ho hvl hA2
            have HQ:=iH hql;clear hql
            go_upto_region 14 with (go_at_call 102;refine(HT _ Hbel.out).out.mono ?_;rintro e1 w' ⟨rfl,n1,rfl⟩)
            have HB1:=iH (j4 Hbel.out n1)
            obtain⟨w1,hw1⟩:∃w1,w1=wr.drewN n1:=⟨_,rfl⟩
            have HD1:=iH (jq wr n1)
            rw [<-hw1]at HB1 HD1 |-
            clear hw1
            refine wp_region_quiet_lit (by kernel_rfl) (by kernel_rfl) ?_
            iterate 3 (first|go_big_quiet_step (fail)|quiet_step (fail))
            (try rw [hA1])
            repeat(first|go_big_quiet_step ((first|(go_at_call 95;exact Calls.quiet_of_same (HC.out _))|(go_at_call 103;exact j7 (HS _ (j4 HB1.out _)).out)))|quiet_step ((first|(go_at_call 95;exact Calls.quiet_of_same (HC.out _))|(go_at_call 103;exact j7 (HS _ (j4 HB1.out _)).out))))
            refine wpQuiet_nil ?_
            intro w2 hqq
            obtain⟨nq,hqr⟩:=hqq
            have HB2:=iH (j4 HB1.out nq)
            have HD2:=iH (j4 HD1.out nq)
            rw [<-hqr]at HB2 HD2
            clear hqr
            have HW:=iH HD2.out
            go_upto_region 26 with (go_at_call 95;refine(HC.out _).mono ?_;rintro e w' ⟨rfl,rfl⟩)
            have hsz3:=iH HW.out.size
            obtain⟨w3,hw3⟩:∃w3,w3=w2.alloc (.cells #[.int .i64 t,.slice none 0 0,.slice none 0 0] 61):=⟨_,rfl⟩
            obtain⟨X,hX⟩:∃X,X=w2.heap.size:=⟨_,rfl⟩
            have X3:Hid (w3.heap[X]?=some (.cells #[.int .i64 t,.slice none 0 0,.slice none 0 0] 61 (0,0))):=by rw [hw3,hX];exact heap_alloc_new w2 _
            have HW3:Hid (Below wr.heap.size wr w3):=by rw [hw3];exact HW.out.alloc HW.out.size _
            have HB3:Hid (Below w.heap.size w w3):=by rw [hw3];exact HB2.out.alloc HB2.out.size _
            have hXr:wr.heap.size<=X:=by rw [hX];exact HD2.out.size
            have hXw:w.heap.size<=X:=Nat.le_trans Hbel.out.size hXr
            have hX3:X<w3.heap.size:=(iG X3.out)
            rw [<-hw3,<-hX]
            clear hw3 hX hsz3
            obtain⟨x0,x1,x2,xf⟩:=jH X3.out
            have xf1:=xf 1
            clear xf
            rcases HA3.out with ⟨rfl,hb5⟩|⟨rfl,hb5⟩
            rotate_left
            obtain rfl:bc=u+k+j:=by omega
            simp only [Nat.sub_self]at CUT2
            clear hb5
            all_goals
             have CC:=iH (CUT2.out w3 HB3.out)
             go_wp2_with(first
              |(at_builtin;(with_reducible refine jc rfl (.const (.slice none 0 0)) (.tmp 117) rfl w3.heap.size (.slice none 0 0) [] rfl (OwnB.nil _ _) (some ⟨bb,bo+(u+k+j),none⟩) q (bc - (u+k+j)) vl _ (by simp [Act.eval]) CC.out (by have:=HQ.out;simp;omega) iL ?_);intro v4 w4 hg4;rw [List.nil_append]at hg4;obtain⟨va,vc,rfl⟩:=hg4.1.form;have X4:=iH ((hg4.2.1.block _ (iG X3.out)).trans X3.out);have Hb4:=iH hg4.2.1;have Hv4:=iH ((BsS.of_own hg4.1 (by have:=HQ.out;omega)));clear hg4 x0 x1 x2 xf1;obtain⟨x0,x1,x2,xf⟩:=jH X4.out;have xf1:=xf 1;clear xf;have HWW:=iH (show Below wr.heap.size wr (w4.setCell ⟨X,1,none⟩ (.slice va vl.length vc)) from(HW3.out.trans (Hb4.out.mono HW3.out.size)).setCell hXr _);have HN:=iH (zv Hown.out Hb4.out HW3.out hX3 hXr Hbel.out.size (.slice va vl.length vc) Hv4.out))
              |(at_builtin;(with_reducible refine jc rfl (.const (.slice none 0 0)) (.tmp 117) rfl w3.heap.size (.slice none 0 0) [] rfl (OwnB.nil _ _) (some ⟨bb,bo,none⟩) q 0 vl _ (by simp [Act.eval]) CC.out (by have:=HQ.out;simp;omega) iL ?_);intro v4 w4 hg4;rw [List.nil_append]at hg4;obtain⟨va,vc,rfl⟩:=hg4.1.form;have X4:=iH ((hg4.2.1.block _ (iG X3.out)).trans X3.out);have Hb4:=iH hg4.2.1;have Hv4:=iH ((BsS.of_own hg4.1 (by have:=HQ.out;omega)));clear hg4 x0 x1 x2 xf1;obtain⟨x0,x1,x2,xf⟩:=jH X4.out;have xf1:=xf 1;clear xf;have HWW:=iH (show Below wr.heap.size wr (w4.setCell ⟨X,1,none⟩ (.slice va vl.length vc)) from(HW3.out.trans (Hb4.out.mono HW3.out.size)).setCell hXr _);have HN:=iH (zv Hown.out Hb4.out HW3.out hX3 hXr Hbel.out.size (.slice va vl.length vc) Hv4.out))
              |(at_builtin;(with_reducible refine jC rfl (.tmp 164) (.tmp 166) rfl w.heap.size (.slice oa L.len oc) L rfl (Hown.out.below HWW.out) t vl .nil (.slice va vl.length vc) (.slice none 0 0) _ w4.heap.size rfl (by simp [World.setCell]) HI.out HN.out (NsS.nil0 _ _) (by omega) (Nat.le_trans Hbel.out.size HWW.out.size) ?_);intro o2 w2 hg2;have G2:=iH hg2;clear hg2))
             go_roundg m
             case measure=>omega
             case rel=>exact⟨L.app (.cons t vl .nil .nil),u+(k+j+q),cc+1,E2.out,by go_num,by go_num,G2.out.1,(Hbel.out.trans (HWW.out.mono Hbel.out.size)).trans G2.out.2.1,by omega,by omega,by omega,by omega,by rw [Ns.len_snoc];omega⟩
theorem YV(n:Nat):yE n true/\yE n false:=by
 induction n using Nat.strongRecOn with
 |_ n ih=>exact⟨YT n (fun m hm=>(ih m hm).1) (fun m hm=>(ih m hm).2),Xi n (fun m hm=>(ih m hm).1) (fun m hm=>(ih m hm).2)⟩
theorem YY(B:List UInt8)(v:Value)(st:Bool)(w:World)(hv:Bs w w.heap.size v B):Calls Tryz.prog 45 #[v,.bool st] w (NodesOut (jO B st) w):=by
 have hlen:=hv.len
 by_cases h1:4096<B.length
 ·obtain⟨a,c,rfl⟩:=hv.form2
  have E:=iH (Ju (st:=st) h1)
  clear hv
  go_enter Tryz.func45,Tryz.ntmps45
  go_wp2_with fail
  go_ret2
  exact NodesOut.no E.out iB
 ·have hc:=(YV B.length).2 B v 1 0 st w hv (by omega) iL (by omega) (by omega)
  obtain⟨a,c,rfl⟩:=hv.form2
  have HC:=iH hc
  cases hl:jg st B.length B 1 0 false with
  |error er=>
   have E:=iH (Kr h1 hl)
   rw [hl]at HC
   clear hc hl hv
   go_enter Tryz.func45,Tryz.ntmps45
   go_wp2_with(go_at_call 79;refine HC.out.mono ?_;intro e w1 h1;obtain⟨_,rfl,hb⟩:=h1;have Hb:=iH hb;clear hb)
   go_ret2
   exact NodesOut.no E.out Hb.out
  |ok r=>
   have E:=iH (Jv h1 hl)
   rw [hl]at HC
   clear hc hl hv
   go_enter Tryz.func45,Tryz.ntmps45
   go_wp2_with(go_at_call 79;refine HC.out.mono ?_;intro e w1 h1;obtain⟨v1,rfl,hv1,hb⟩:=h1;obtain⟨va,vc,rfl⟩:=NsS.form2 hv1;have Hv1:=iH hv1;have Hb:=iH hb;clear hb hv1)
   go_ret2
   exact NodesOut.yes E.out Hv1.out Hb.out
theorem UT{n:Nat}(h:n<=65535):qE n=qZ n:=by
 unfold qE qZ
 by_cases h1:n<=127
 ·rw [iT h1,iT (by omega)]
 ·rw [iF h1,iF (show ¬n<128 by omega)]
  by_cases h2:n<=255
  ·rw [iT h2]
   have e:leN 8 n= [ofI n]:=by
    rw [show(8:Nat)=7+1 from rfl,leN,iF (by omega),show n / 256=0 by omega,zK]
   rw [e]<;>rfl
  ·rw [iF h2]
   have e:leN 8 n= [ofI n,ofI ((n:Int) / 256)]:=by
    rw [show(8:Nat)=7+1 from rfl,leN,iF (by omega),show(7:Nat)=6+1 from rfl,leN,iF (by omega),show n / 256 / 256=0 by omega,zK]
    rfl
   rw [e]<;>rfl
theorem j4t(L:Ns):∀o:List UInt8,(o.length+L.enc.length<=4096->L.raw o=o++L.enc)/\(4096<o.length+L.enc.length->4096<(L.raw o).length):=by
 induction L with
 |nil=>intro o;simp [Ns.raw,Ns.enc]
 |cons t v k r ihk ihr=>
  intro o
  by_cases ho:o.length<=4096
  ·obtain⟨c,hc⟩:∃c,(if jW t then k.enc else v)=c:=⟨_,rfl⟩
   obtain⟨c',hc'⟩:∃c',(if jW t then k.raw []else v)=c':=⟨_,rfl⟩
   rw [qh t v k r c hc.symm,ql t v k r o c' _ ho hc' rfl]
   simp only [List.length_append]
   by_cases h:c.length<=4096
   ·have e:c'=c:=by
     rw [<-hc,<-hc']
     split
     ·rename_i ht
      rw [iT ht]at hc
      have:=(ihk []).1 (by rw [hc];simpa using h)
      simpa using this
     ·rfl
    rw [e,Jf (by omega),UT (by omega)]
    obtain⟨h1,h2⟩:=ihr (o++kr t++qZ c.length++c)
    simp only [List.length_append]at h1 h2
    refine⟨fun hh=> ?_,fun hh=>h2 (by omega)⟩
    rw [h1 (by omega)]
    simp [List.append_assoc]
   ·refine⟨fun hh=>by omega,fun _=> ?_⟩
    have h3:4096<c'.length:=by
     rw [<-hc']
     split
     ·rename_i ht
      rw [iT ht]at hc
      exact(ihk []).2 (by rw [hc];simp;omega)
     ·rename_i ht
      rw [iF ht]at hc
      rw [hc];omega
    obtain⟨h1,h2⟩:=ihr (o++kr t++qE (j33 c').length++j33 c')
    have h4:(j33 c').length=4097:=by rw [zB h3,List.length_take];omega
    simp only [List.length_append]at h1 h2
    exact h2 (by omega)
  ·rw [ZQ t v k r o ho]
   exact⟨fun h=>by omega,fun _=>by omega⟩
theorem JG(L:Ns)(v:Value)(w:World)(hv:NsS w (·<w.heap.size) v L)(ha:L.all<=100000000000):
 Calls Tryz.prog 33 #[v] w (BytesOut (qz L) w):=by
 obtain⟨a,c,rfl⟩:=hv.form2
 have HC:=iH (YN L.all L _ 1 _ w iL hv (by omega))
 have HN:=iH (fun(w1:World) (h:Below w.heap.size w w1)=>Ux L.all L _ _ w1 iL ha (hv.keep fun b hs hl=>⟨h.block b hl,hs⟩))
 have HR:=iH (fun(w1:World) (h:Below w.heap.size w w1)=>j4s L.all L (.slice a L.len c) w1 iL (hv.keep fun b hs hl=>⟨h.block b hl,iZ hs h.size⟩))
 clear hv
 by_cases h1:L.chk 1=0
 ·by_cases h2:256<L.all
  ·have E:Hid (qz L=.error 2):=by unfold qz;rw [iF (by simpa using h1),iT h2]<;>rfl
   have hc:=(Ns.cnt_all L 0).2 (by omega)
   rw [h1]at HC
   clear h1
   go_enter Tryz.func33,Tryz.ntmps33
   go_wp2_with(first|(go_at_call 66;refine HC.out.mono ?_;rintro e w1 ⟨rfl,hb⟩;have HB:=iH hb;clear hb)|(go_at_call 67;refine(HN.out _ HB.out).mono ?_;rintro e w2 ⟨rfl,rfl⟩))
   go_ret2
   exact BytesOut.no E.out HB.out
  ·have hc:=(Ns.cnt_all L 0).1 (by omega)
   rw [Nat.zero_add]at hc
   rw [h1]at HC
   rw [hc]at HN
   clear hc
   obtain⟨r1,r2⟩:=j4t L []
   rw [List.length_nil,Nat.zero_add]at r1 r2
   by_cases h3:4096<L.enc.length
   ·have E:Hid (qz L=.error 2):=by unfold qz;rw [iF (by simpa using h1),iF h2,iT h3]<;>rfl
    have h4:=r2 h3
    clear h1 r1 r2
    go_enter Tryz.func33,Tryz.ntmps33
    go_wp2_with(first|(go_at_call 66;refine HC.out.mono ?_;rintro e w1 ⟨rfl,hb⟩;have HB:=iH hb;clear hb)|(go_at_call 67;refine(HN.out _ HB.out).mono ?_;rintro e w2 ⟨rfl,rfl⟩)|(go_at_call 68;refine(HR.out _ HB.out).mono ?_;rintro e w3 ⟨v3,rfl,hv3,hb3⟩;obtain⟨a3,c3,rfl⟩:=hv3.form2;have Hv3:=iH hv3;have Hb3:=iH hb3;clear hv3 hb3))
    go_ret2
    exact BytesOut.no E.out (HB.out.trans (Hb3.out.mono HB.out.size))
   ·have E:Hid (qz L=.ok L.enc):=by unfold qz;rw [iF (by simpa using h1),iF h2,iF h3]<;>rfl
    have r3:=r1 (by omega)
    rw [List.nil_append]at r3
    rw [r3]at HR
    clear h1 r1 r2 r3
    go_enter Tryz.func33,Tryz.ntmps33
    go_wp2_with(first|(go_at_call 66;refine HC.out.mono ?_;rintro e w1 ⟨rfl,hb⟩;have HB:=iH hb;clear hb)|(go_at_call 67;refine(HN.out _ HB.out).mono ?_;rintro e w2 ⟨rfl,rfl⟩)|(go_at_call 68;refine(HR.out _ HB.out).mono ?_;rintro e w3 ⟨v3,rfl,hv3,hb3⟩;obtain⟨a3,c3,rfl⟩:=hv3.form2;have Hv3:=iH hv3;have Hb3:=iH hb3;clear hv3 hb3))
    go_ret2
    exact BytesOut.yes E.out (Hv3.out.keep fun b hs _=>⟨rfl,Nat.le_trans HB.out.size hs.1,hs.2⟩) (HB.out.trans (Hb3.out.mono HB.out.size))
 ·have E:Hid (qz L=.error (L.chk 1)):=by unfold qz;rw [iT h1]<;>rfl
  have n0:((L.chk 1) != 0)=true:=by simp [h1]
  clear h1
  go_enter Tryz.func33,Tryz.ntmps33
  go_wp2_with(first|(go_at_call 66;refine HC.out.mono ?_;rintro e w1 ⟨rfl,hb⟩;have HB:=iH hb;clear hb))
  go_ret2
  exact BytesOut.no E.out HB.out
theorem VE{w:World}{base:Nat}{S:Nat->Prop}{o:Value}{L:Ns}(h:j65 w base S o L)(hS:∀b,S b->b<base)(hb:base<=w.heap.size):OwnN w 0 o L:=by
 obtain⟨xs,h1,h2⟩:=h
 refine⟨xs,⟨h1.1,h1.2.imp id fun⟨g,cap,cur,a,_,c⟩=>⟨g,cap,cur,a,Nat.zero_le _,c⟩⟩,h2.keep (fun b hs hl=>⟨rfl,iZ (hS b hs) hb,fun e=>by have:=(h1.lt b e).1;have:=hS b hs;omega,Nat.zero_le _⟩) L xs⟩
theorem j4w{w:World}{base:Nat}{S:Nat->Prop}{o:Value}{L:Ns}(h:j65 w base S o L){b:Nat}(e:o.ownBlock=some b):base<=b:=by
 obtain⟨xs,h1,_⟩:=h
 exact(h1.lt b e).1
theorem Un{w1 w3 w4:World}{r:Option Nat}(h:Below w1.heap.size w1 w3)(hg:w3.grownBy w4 r)(hr:∀b,r=some b->w1.heap.size<=b):Below w1.heap.size w1 w4:=
 ⟨hg.os.trans h.os,hg.tape.trans h.tape,hg.output.trans h.output,Nat.le_trans h.size hg.size,fun i hi=>(hg.block i (iZ hi h.size) (fun e=>by have:=hr i e.symm;omega)).trans (h.block i hi)⟩
theorem Ku(L:Ns)(o:Value)(w:World)(hO:NsS w (·<w.heap.size) o L)(ha:L.all<=10):
 Calls Tryz.prog 46 #[o] w fun e w'=>∃v',e=.returned v'/\Bs w' w'.heap.size v' (bytesOf (qz L))/\Below w.heap.size w w':=by
 have HE:=iH (JG L o w hO (by omega))
 clear hO
 go_enter Tryz.func46,Tryz.ntmps46
 go_wp2_with(go_at_call 33;refine HE.out.mono ?_;rintro e w1 ⟨v1,rfl,hs,hb⟩;have HS:=iH (BsS.rd hs);have HB:=iH hb;clear hs hb)
 go_ret
 exact⟨_,rfl,HS.out,HB.out⟩
theorem XI(L:Ns):(bytesOf (qz L)).length<=4096:=by
 rcases h:qz L with x|b
 ·exact Nat.zero_le _
 ·exact KT h
theorem Vv(ua ub vn vh o:Value)(un:Int)(k2 N head:List UInt8)(Lo:Ns)(l2:k2.length=16)(ln:N.length=16)(lh:head.length<=100)(ha:Lo.all<=10)(w:World)(hb:Bs w w.heap.size ub k2)(hc:Bs w w.heap.size vn N)(hh:Bs w w.heap.size vh head)(hO:NsS w (·<w.heap.size) o Lo):
 Calls Tryz.prog 34 #[.agg #[ua,ub,.int .i64 un],vn,vh,o] w fun e w'=>∃o',e=.returned o'/\NsS w' (·<w'.heap.size) o' (Lo.app (.cons 142 (kI k2 N head (bytesOf (qz Lo))) .nil .nil))/\Below w.heap.size w w':=by
 obtain⟨A2,n2,d2,rfl⟩:=hb.form
 obtain⟨A3,n3,d3,rfl⟩:=hc.form
 obtain⟨AH,nh,dh,rfl⟩:=hh.form
 obtain rfl:=Bs.lenEq hb
 obtain rfl:=Bs.lenEq hc
 obtain rfl:=Bs.lenEq hh
 obtain⟨oA,oc,rfl⟩:∃A c,o=.slice A Lo.len c:=by obtain⟨a,c,e,_⟩:=hO;exact⟨a,c,e⟩
 obtain⟨w0,hw0⟩:∃w0,w0=w.alloc (.cells #[ua,.slice A2 k2.length d2,.int .i64 un] 29):=⟨_,rfl⟩
 have hB0:Below w.heap.size w w0:=by rw [hw0];exact iA
 have hh0:w0.heap[w.heap.size]?=some (.cells #[ua,.slice A2 k2.length d2,.int .i64 un] 29 (0,0)):=by rw [hw0];exact iN
 have hlt0:=(iG hh0)
 have CS:Hid (∀W,Below w0.heap.size w0 W->W.cell? ⟨w.heap.size,0,none⟩=some ua/\W.cell? ⟨w.heap.size,1,none⟩=some (.slice A2 k2.length d2)/\W.cell? ⟨w.heap.size,2,none⟩=some (.int .i64 un)):=iH fun W h=>(by obtain⟨a,b,c,_⟩:=j9 ((h.block w.heap.size hlt0).trans hh0);exact⟨a,b,c⟩)
 have hlen:Lo.len<=10:=Nat.le_trans (Ns.len_all Lo) ha
 have hpl:=XI Lo
 obtain⟨P6,hP6⟩:∃P,bytesOf (qz Lo)=P:=⟨_,rfl⟩
 obtain⟨X4,hX4⟩:∃X,N++head=X:=⟨_,rfl⟩
 obtain⟨X7,hX7⟩:∃X,X4++P6=X:=⟨_,rfl⟩
 obtain⟨C9,hC9⟩:∃C,kI k2 N head P6=C:=⟨_,rfl⟩
 rw [hP6]at hpl
 have HCE:Hid (kI k2 N head (bytesOf (qz Lo))=C9):=iH (by rw [hP6];exact hC9)
 have e7:N++(head++P6)=X7:=by rw [<-hX7,<-hX4,List.append_assoc]
 have l4:X4.length<=200:=by rw [<-hX4,List.length_append];omega
 have l7:X7.length<=5000:=by rw [<-hX7,List.length_append];omega
 have HLL:Hid (Lo.len<=1000000000000):=iH (by omega)
 have HL2:Hid ((Lo.app (.cons 142 C9 .nil .nil)).len<=2513169434843):=iH (by rw [Ns.len_snoc];omega)
 have HJ1:Hid (∀w1,Bs w1 w1.heap.size (.slice A3 N.length d3) N->Bs w1 w1.heap.size (.slice AH head.length dh) head->Calls Tryz.prog 65 #[.slice A3 N.length d3,.slice AH head.length dh] w1 fun e w'=>∃v',e=.returned v'/\Bs w' w'.heap.size v' X4/\Below w1.heap.size w1 w'):=iH (fun w1 h1 h2=>(yX _ _ N head _ _ w1 h1 h2 (by omega)).mono fun e w' ⟨v',he,ho,hb⟩=>⟨v',he,by rw [hX4]at ho;exact OwnB.rd ho (by omega),hb⟩)
 have HJ2:Hid (∀(a4:Option Addr) (c4:Nat) (a6:Option Addr) (c6:Nat) (w1:World),Bs w1 w1.heap.size (.slice a4 X4.length c4) X4->Bs w1 w1.heap.size (.slice a6 P6.length c6) P6->Calls Tryz.prog 65 #[.slice a4 X4.length c4,.slice a6 P6.length c6] w1 fun e w'=>∃v',e=.returned v'/\Bs w' w'.heap.size v' X7/\Below w1.heap.size w1 w'):=iH (fun a4 c4 a6 c6 w1 h1 h2=>(yX _ _ X4 P6 _ _ w1 h1 h2 (by omega)).mono fun e w' ⟨v',he,ho,hb⟩=>⟨v',he,by rw [hX7]at ho;exact OwnB.rd ho (by omega),hb⟩)
 have HPL:Hid (∀w1,NsS w1 (·<w1.heap.size) (.slice oA Lo.len oc) Lo->Calls Tryz.prog 46 #[.slice oA Lo.len oc] w1 fun e w'=>∃v',e=.returned v'/\Bs w' w'.heap.size v' P6/\Below w1.heap.size w1 w'):=iH (fun w1 h=>by rw [<-hP6];exact Ku Lo _ w1 h ha)
 have HCK:Hid (∀(vk vb:Value) (w:World),Bs w w.heap.size vk k2->Bs w w.heap.size vb X7->Calls Tryz.prog 69 #[vk,vb] w fun e w'=>∃v',e=.returned (.tuple #[v',.int .i64 0])/\Bs w' w'.heap.size v' C9/\Below w.heap.size w w'):=iH (fun vk vb w h1 h2=>by rw [<-hC9];unfold kI;rw [e7];exact JD vk vb k2 X7 l2 (by omega) w h1 h2)
 have HO:=iH (hO.keep (w':=w0) (S':=(·<w0.heap.size)) fun g hg hl=>⟨hB0.block g hl,iZ hg hB0.size⟩)
 have H2:=iH (hb.lift hB0);have H3:=iH (hc.lift hB0);have HH:=iH (hh.lift hB0)
 have HB:=iH hB0;have HW0:=iH hw0
 clear hb hc hh hO hB0 hw0 hh0 hlt0 hP6 hX4 hX7 hC9 hpl e7 l4 l7 l2 ln lh ha hlen
 go_enter Tryz.func34,Tryz.ntmps34
 go_upto_region 1 with fail
 rw [<-HW0.out]
 refine je 14 [some 12,some 13,some 14,some 15,some 16,some 17,some 18,some 19,some 20,some 11,some 21,some 22,some 9,some 10] [[],[0],[],[],[2,3],[],[2,3,4,5],[2,3,4,5,6],[0,1,2,3,4,5,6,7],[0,1,2,3,4,5,6,7,8],[0,1,2,3,4,5,6,7,8,9],[0,1,2,3,4,5,6,7,8,9],[0,1,2,3,4,5,6,7,8,9,10],[0,1,2,3,4,5,6,7,8,9,10,11,12]]
  (fun _ _ w1=>Below w0.heap.size w0 w1) (fun w1 w2=>Below w1.heap.size w1 w2)
  [fun v _=>v 0=.pointer (some ⟨w.heap.size,1,none⟩),
   fun v _=>v 1=.slice A2 k2.length d2,
   fun v _=>v 2=.slice A3 N.length d3,
   fun v _=>v 3=.slice AH head.length dh,
   fun v w1=>∃a c,v 4=.slice a (X4).length c/\Bs w1 w1.heap.size (.slice a (X4).length c) (X4),
   fun v _=>v 5=.slice oA Lo.len oc,
   fun v w1=>∃a c,v 6=.slice a (P6).length c/\Bs w1 w1.heap.size (.slice a (P6).length c) (P6),
   fun v w1=>∃a c,v 7=.slice a (X7).length c/\Bs w1 w1.heap.size (.slice a (X7).length c) (X7),
   fun v w1=>∃a c,v 8=.tuple #[.slice a (C9).length c,.int .i64 0]/\Bs w1 w1.heap.size (.slice a (C9).length c) (C9),
   fun v w1=>∃a c,v 9=.tuple #[.slice a (C9).length c,.int .i64 0]/\Bs w1 w1.heap.size (.slice a (C9).length c) (C9),
   fun v w1=>∃a c,v 10=.slice a (C9).length c/\Bs w1 w1.heap.size (.slice a (C9).length c) (C9),
   fun v _=>v 11=.int .i64 0,
   fun v w1=>∃a c,v 12=.slice a (C9).length c/\Bs w1 w1.heap.size (.slice a (C9).length c) (C9),
   fun v _=>v 13=.int .i64 0]
  (by kernel_rfl) (by kernel_rfl) (fun _=>iB.drew) ?st ?steps ?tail
 case st=>
  exact(.cons (fun _ _ _ _ _ _ h=>h) (.cons (fun _ _ _ _ _ _ h=>h) (.cons (fun _ _ _ _ _ _ h=>h) (.cons (fun _ _ _ _ _ _ h=>h) (.cons (fun _ _ _ _ _ hr ⟨a,c,e,h⟩=>⟨a,c,e,h.lift hr⟩) (.cons (fun _ _ _ _ _ _ h=>h) (.cons (fun _ _ _ _ _ hr ⟨a,c,e,h⟩=>⟨a,c,e,h.lift hr⟩) (.cons (fun _ _ _ _ _ hr ⟨a,c,e,h⟩=>⟨a,c,e,h.lift hr⟩) (.cons (fun _ _ _ _ _ hr ⟨a,c,e,h⟩=>⟨a,c,e,h.lift hr⟩) (.cons (fun _ _ _ _ _ hr ⟨a,c,e,h⟩=>⟨a,c,e,h.lift hr⟩) (.cons (fun _ _ _ _ _ hr ⟨a,c,e,h⟩=>⟨a,c,e,h.lift hr⟩) (.cons (fun _ _ _ _ _ _ h=>h) (.cons (fun _ _ _ _ _ hr ⟨a,c,e,h⟩=>⟨a,c,e,h.lift hr⟩) (.cons (fun _ _ _ _ _ _ h=>h) .nil))))))))))))))
 case steps=>
  simp only [iI,iK]
  refine(.cons ?_ (.cons ?_ (.cons ?_ (.cons ?_ (.cons ?_ (.cons ?_ (.cons ?_ (.cons ?_ (.cons ?_ (.cons ?_ (.cons ?_ (.cons ?_ (.cons ?_ (.cons ?_ .nil))))))))))))))
  all_goals(intro L v w1 hJ hL hA hF K hK;simp only [jf,Act.put,iM,Nat.reduceAdd,iS,iC,iD]at hK |-)
  ·go_simp
   refine hK _ _ hJ iB ?_
   first|exact rfl|exact j5 _
  ·have e0:v 0=.pointer (some ⟨w.heap.size,1,none⟩):=hF 0 (hA 0 (by simp))
   obtain⟨c0,c1,c2⟩:=CS.out _ hJ
   simp only [e0]at hK
   go_simp
   refine hK _ _ hJ iB ?_
   first|exact rfl|exact j5 _
  ·go_simp
   refine hK _ _ hJ iB ?_
   first|exact rfl|exact j5 _
  ·go_simp
   refine hK _ _ hJ iB ?_
   first|exact rfl|exact j5 _
  ·have e2:v 2=.slice A3 N.length d3:=hF 2 (hA 2 (by simp))
   have e3:v 3=.slice AH head.length dh:=hF 3 (hA 3 (by simp))
   simp only [e2,e3]at hK
   go_simp
   refine(HJ1.out w1 (H3.out.lift hJ) (HH.out.lift hJ)).mono ?_
   rintro e w5 ⟨v5,rfl,ho,hb⟩
   have hx:Bs w5 w5.heap.size v5 (X4):=ho
   obtain⟨A5,C5,hv5⟩:=Bs.formL hx
   subst hv5
   exact hK _ _ (hJ.trans (hb.mono hJ.size)) hb ⟨_,_,rfl,hx⟩
  ·go_simp
   refine hK _ _ hJ iB ?_
   first|exact rfl|exact j5 _
  ·have e5:v 5=.slice oA Lo.len oc:=hF 5 (hA 5 (by simp))
   simp only [e5]at hK
   go_simp
   refine(HPL.out w1 (HO.out.keep fun g hg hl=>⟨hJ.block g hl,iZ hg hJ.size⟩)).mono ?_
   rintro e w5 ⟨v5,rfl,ho,hb⟩
   have hx:Bs w5 w5.heap.size v5 (P6):=ho
   obtain⟨A5,C5,hv5⟩:=Bs.formL hx
   subst hv5
   exact hK _ _ (hJ.trans (hb.mono hJ.size)) hb ⟨_,_,rfl,hx⟩
  ·obtain⟨a4,c4,e4,h4⟩:∃a c,v 4=.slice a (X4).length c/\Bs w1 w1.heap.size (.slice a (X4).length c) (X4):=hF 4 (hA 4 (by simp))
   obtain⟨a6,c6,e6,h6⟩:∃a c,v 6=.slice a (P6).length c/\Bs w1 w1.heap.size (.slice a (P6).length c) (P6):=hF 6 (hA 6 (by simp))
   simp only [e4,e6]at hK
   go_simp
   refine(HJ2.out a4 c4 a6 c6 w1 h4 h6).mono ?_
   rintro e w5 ⟨v5,rfl,ho,hb⟩
   have hx:Bs w5 w5.heap.size v5 (X7):=ho
   obtain⟨A5,C5,hv5⟩:=Bs.formL hx
   subst hv5
   exact hK _ _ (hJ.trans (hb.mono hJ.size)) hb ⟨_,_,rfl,hx⟩
  ·have e1:v 1=.slice A2 k2.length d2:=hF 1 (hA 1 (by simp))
   simp only [e1]at hK
   obtain⟨a7,c7,e7,h7⟩:∃a c,v 7=.slice a (X7).length c/\Bs w1 w1.heap.size (.slice a (X7).length c) (X7):=hF 7 (hA 7 (by simp))
   simp only [e7]at hK
   go_simp
   refine(HCK.out _ _ w1 (H2.out.lift hJ) h7).mono ?_
   rintro e w5 ⟨v5,rfl,ho,hb⟩
   have hx:Bs w5 w5.heap.size v5 (C9):=ho
   obtain⟨A5,C5,hv5⟩:=Bs.formL hx
   subst hv5
   exact hK _ _ (hJ.trans (hb.mono hJ.size)) hb ⟨_,_,rfl,hx⟩
  ·obtain⟨a8,c8,e8,h8⟩:∃a c,v 8=.tuple #[.slice a (C9).length c,.int .i64 0]/\Bs w1 w1.heap.size (.slice a (C9).length c) (C9):=hF 8 (hA 8 (by simp))
   simp only [e8]at hK
   go_simp
   exact hK _ _ hJ iB ⟨_,_,rfl,h8⟩
  ·obtain⟨a9,c9,e9,h9⟩:∃a c,v 9=.tuple #[.slice a (C9).length c,.int .i64 0]/\Bs w1 w1.heap.size (.slice a (C9).length c) (C9):=hF 9 (hA 9 (by simp))
   simp only [e9]at hK
   go_simp
   exact hK _ _ hJ iB ⟨_,_,rfl,h9⟩
  ·obtain⟨a9,c9,e9,h9⟩:∃a c,v 9=.tuple #[.slice a (C9).length c,.int .i64 0]/\Bs w1 w1.heap.size (.slice a (C9).length c) (C9):=hF 9 (hA 9 (by simp))
   simp only [e9]at hK
   go_simp
   exact hK _ _ hJ iB rfl
  ·obtain⟨a10,c10,e10,h10⟩:∃a c,v 10=.slice a (C9).length c/\Bs w1 w1.heap.size (.slice a (C9).length c) (C9):=hF 10 (hA 10 (by simp))
   simp only [e10]at hK
   go_simp
   exact hK _ _ hJ iB ⟨_,_,rfl,h10⟩
  ·have e11:v 11=.int .i64 0:=hF 11 (hA 11 (by simp))
   simp only [e11]at hK
   go_simp
   refine hK _ _ hJ iB ?_
   first|exact rfl|exact j5 _
 case tail=>
  intro v w1 hJ hF
  have e0:v 0=.pointer (some ⟨w.heap.size,1,none⟩):=hF 0 (by simp)
  have e1:v 1=.slice A2 k2.length d2:=hF 1 (by simp)
  have e2:v 2=.slice A3 N.length d3:=hF 2 (by simp)
  have e3:v 3=.slice AH head.length dh:=hF 3 (by simp)
  have e5:v 5=.slice oA Lo.len oc:=hF 5 (by simp)
  have e11:v 11=.int .i64 0:=hF 11 (by simp)
  have e13:v 13=.int .i64 0:=hF 13 (by simp)
  obtain⟨a12,c12,e12,h12⟩:∃a c,v 12=.slice a (C9).length c/\Bs w1 w1.heap.size (.slice a (C9).length c) (C9):=hF 12 (by simp)
  simp only [iE,iJ,jf,Act.put,iM,Nat.reduceAdd,iS,iC,iD]
  simp only [e12,e13]
  clear e0 e1 e2 e3 e5 e11 e13
  have HC:=iH h12
  have HBW:=iH (HB.out.trans (hJ.mono HB.out.size))
  have HN1:=iH (HO.out.keep (w':=w1) (S':=(·<w1.heap.size)) fun g hg hl=>⟨hJ.block g hl,iZ hg hJ.size⟩)
  clear h12 hJ hF
  go_wp2_with(first
   |(at_builtin;have M2:=HP3;(with_reducible refine jC rfl (.tmp 24) (.tmp 27) rfl 0 (.slice rA Lo.len rc) Lo rfl HO3.out 142 C9 .nil (.slice pA C9.length pc) (.slice none 0 0) _ w3.heap.size rfl rfl j5o HP3.out (NsS.nil0 _ _) HLL.out (Nat.zero_le _) ?_);intro o4 w4 hg4;have HG4:=iH hg4;clear hg4)
   |(go_at_call 32;refine(yw 142 _ C9 w2 HC2.out).mono ?_;rintro e w3 ⟨pA,pc,rfl,hs,hb⟩;have HO3:=iH (HO2.out.below hb);have HP3:=iH (xL HO2.out hs hb (Nat.zero_le _));have HB3:=iH (HBW2.out.trans (hb.mono HBW2.out.size));have HB13:=iH hb;clear hs hb)
   |(at_builtin;(with_reducible refine Xx rfl (.const (.slice none 0 0)) (.tmp 23) rfl rfl Lo (·<w1.heap.size) oA oc HLL.out rfl HN1.out ?_);intro o2 w2 hr hb;have hown:=VE hr (fun _ h=>h) hb.size;obtain⟨rA,rc,hp⟩:=hown.form;subst hp;have HO2:=iH hown;have HR2:=iH hr;have HC2:=iH (HC.out.lift hb);have HBW2:=iH (HBW.out.trans (hb.mono HBW.out.size));have HB12:=iH hb;clear hr hb hown))
  go_ret
  refine⟨o4,rfl,by rw [HCE.out];exact(HG4.out.1.nss HL2.out).keep fun g hg _=>⟨rfl,hg.2⟩,?_⟩
  have h13:Below w1.heap.size w1 w3:=HB12.out.trans (HB13.out.mono HB12.out.size)
  exact HBW.out.trans ((Un h13 HG4.out.2.2 (fun b e=>j4w HR2.out e)).mono HBW.out.size)
theorem xu{l:Ns}(h1:l.chk 1=0)(h2:l.all<=256):qz l=if 4096<l.enc.length then .error 2 else .ok l.enc:=by
 unfold qz
 rw [iF (by simpa using h1),iF (by omega)]
theorem Zt(L:Ns)(v:List UInt8):∀d,d<=8->L.chk d=0->(L.app (.cons 142 v .nil .nil)).chk d=0:=by
 induction L with
 |nil=>
  intro d hd _
  have h1:qK 142=true:=by decide
  have h2:jW 142=false:=by decide
  simp only [Ns.app,Ns.chk,h1,h2,Ns.len]
  simp
  omega
 |cons t x k r ihk ihr=>
  intro d hd h
  obtain⟨h1,h2,h3,h4,h5,h6⟩:=x7 h
  have hr:=ihr d hd h6
  simp only [Ns.app,Ns.chk]
  rw [iF (by simp [h1]),iF (fun h=>h.elim (fun h=>by rw [h2 h.1]at h;simp [Ns.len]at h) (fun h=>by rw [h3 h.1]at h;simp at h)),iF (by omega),iT h5]
  exact hr
theorem zX{L:Ns}(v:List UInt8)(hc:L.chk 1=0)(ha:L.all<=10):qz (L.app (.cons 142 v .nil .nil))=if 4096<(L.app (.cons 142 v .nil .nil)).enc.length then .error 2 else .ok (L.app (.cons 142 v .nil .nil)).enc:=
 xu (Zt L v 1 (by omega) hc) (by rw [Ns.all_snoc];omega)
theorem xT(k2 N head:List UInt8){L:Ns}(hc:L.chk 1=0)(ha:L.all<=10):qJ k2 N head L=qz (L.app (.cons 142 (kI k2 N head (bytesOf (qz L))) .nil .nil)):=by
 have hL:=xu hc (by omega)
 unfold qJ
 by_cases h:4096<L.enc.length
 ·rw [iT h]at hL
  rw [zX _ hc ha,hL,iT (by rw [x9,List.length_append];omega)]
 ·rw [iF h]at hL
  rw [hL]
  rfl
theorem VJ{k2 N head:List UInt8}{L:Ns}{x:Int}(hc:L.chk 1=0)(ha:L.all<=10)(h:qJ k2 N head L=.error x):x=2:=by
 rw [xT k2 N head hc ha,zX _ hc ha]at h
 split at h
 ·injection h with h;exact h.symm
 ·cases h
end Go.Proofs.YtadndhgebgjlaaaGreat
