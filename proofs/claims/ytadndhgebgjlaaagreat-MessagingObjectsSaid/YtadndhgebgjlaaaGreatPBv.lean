/- Plain: the reference's reading of a unit's objects is the program's; The reference's Unwrap -/
import Derived.Test.YtadndhgebgjlaaaGreatPBt
import Derived.Test.YtadndhgebgjlaaaGreatPBu
set_option linter.all false
set_option maxRecDepth 100000
set_option maxHeartbeats 40000000
namespace Go.Proofs.YtadndhgebgjlaaaGreat
open Go.RowKit Go.Deep
theorem mI{P:Prop}(h:P:=by
 go_wp2_with fail
 go_meet
 exact⟨rfl,Below.refl _ _⟩):P:=h
theorem m18{P:Prop}(h:P:=by
 clear hp1 hp2
 go_wp2_with(first
  |(go_at_call 72;refine(P2.out w3).mono ?_;rintro e w4 ⟨rfl,hb⟩;have HB4:=iH (HB3.out.trans (hb.mono HB3.out.size));clear hb q0 q1 q2)
  |(go_at_call 72;refine P1.out.mono ?_;rintro e w3 ⟨rfl,hb⟩;have HB3:=iH hb;clear q0 q1 q2;obtain⟨q0,q1,q2⟩:=QC.out w3 hb;clear hb))
 go_meet
 exact⟨rfl,HB4.out⟩):P:=h
theorem m2c{P:Prop}(h:P:=by
 obtain⟨_,_,e,_,_,_,h4⟩:=SDU.out
 injection e with e1 _ e3
 subst e1 e3
 obtain⟨b,o,h1,_,h2,h3⟩:=h4 (by rw [hdl1];decide)
 exact⟨b,o,h1,h2,h3⟩):P:=h
theorem m2g{P:Prop}(h:P:=by
 obtain⟨_,_,e,_,_,_,h4⟩:=SD2.out
 injection e with e1 _ e3
 subst e1 e3
 obtain⟨b,o,h1,_,h2,h3⟩:=h4 (by simp [Ns.len])
 exact⟨b,o,h1,h2,h3⟩):P:=h
theorem m34{P:Prop}(h:P:=by
 obtain⟨_,_,e,h1,h2,_⟩:=HNP.out
 injection e with _ _ e3
 subst e3
 exact⟨by omega,by unfold maxLen at h2;omega⟩):P:=h
theorem m3g{P:Prop}(h:P:=by
 go_simp
 rw [show IntKind.i64.wrap (mm:Int)=mm from IntWalk.i64_in _ (by omega)]
 exact hK _ _ hJ iB rfl):P:=h
theorem j11(P Q:Ns):(P.app Q).takeN P.len=P:=by
 induction P with
 |nil=>cases Q<;>rfl
 |cons t v k r _ ih=>simp only [Ns.app,Ns.len,Ns.takeN,ih]
section
variable{data:List UInt8}{L:Ns}(h:jK data true=.ok L)
include data L h
theorem Yz:L.chk 1=0:=by
 have e1:=(kX h).1
 exact m43
theorem Vs:∀t v k r,L=.cons t v k r->v.length<=4096:=by
 intro t v k r e
 have hc:=Yz h
 obtain⟨_,_,_,e4,e5⟩:=kX h
 subst e
 by_cases ht:jY t=true
 ·rw [(xx hc).2.2.1 ht];simp
 ·have ht:jY t=false:=by simpa using ht
  rw [<-e4]at e5
  simp only [Ns.enc,ht,Bool.false_eq_true,if_false,List.length_append]at e5
  omega
end
section
variable {tg lo:Int} {mu:Bool} {ts:List Int} {data:List UInt8} {L:Ns}
section
variable(ht:¬tg=135)(h142:¬tg=142)(hlo:1<=lo)(hp:jY tg=false)(h:jK data true=.ok L)(hall:(ts.all fun t=>(L.pick t).isSome)=true)
include ht h142 hlo hp h hall
theorem XE(hg:((jB tg L).2.2.2&&Ze tg lo mu (jB tg L).2.1)=true):
 ∃V M C,Zg tg lo mu L V M C/\jB tg L=(V.drop 1,qe tg M,C,true)/\kZ ts (qZ tg lo mu) data=.ok ([V,M,C],L.takeN (L.len - 1)):=by
 obtain⟨V,M,C,hs⟩:=ZQ hlo (Vs h) hg
 obtain⟨n,hf⟩:=Q3 ht h142 hs
 refine⟨V,M,C,hs,(Ko ht hs).1,?_⟩
 rw [Qu h hall hf]
 obtain⟨V',M',C',hv,hs',h3⟩:=zi ht h142 hlo hp (Yz h) hf
 simp only [List.cons.injEq,and_true]at hv
 obtain⟨rfl,rfl,rfl⟩:=hv
 have e:=hs.l
 rw [<-Ns.app_assoc]at e
 have hl:L.len - 1=((qe 135 V).app (qe tg M)).len:=by rw [e,Ns.len_snoc];omega
 rw [h3,hl]
 conv=>rhs;rw [e]
 rw [j11]
theorem Yy(hg:((jB tg L).2.2.2&&Ze tg lo mu (jB tg L).2.1)=false):kZ ts (qZ tg lo mu) data=.error 1:=by
 refine qP h hall fun vs n hf=> ?_
 obtain⟨V,M,C,_,hs,_⟩:=zi ht h142 hlo hp (Yz h) hf
 have h2:=Ko ht hs
 rw [h2.1]at hg
 simp only [Bool.true_and]at hg
 rw [h2.2]at hg
 cases hg
end
end
theorem XK{g:Int}{L:Ns}(h:(L.pick g).isSome=true):∃m,L.len=m+1:=by
 cases L with
 |nil=>simp [Ns.pick]at h
 |cons t v k r=>exact⟨r.len,rfl⟩
theorem XZ(tg:Int)(L:Ns):(jB tg L).2.1=.nil\/∃t v k,(jB tg L).2.1=.cons t v k .nil:=by
 have one:∀M:Ns,M.takeN 1=.nil\/∃t v k,M.takeN 1=.cons t v k .nil:=fun M=>by
  cases M with
  |nil=>exact .inl rfl
  |cons t v k r=>exact .inr ⟨t,v,k,by cases r<;>rfl⟩
 unfold jB
 split
 ·exact .inl rfl
 ·split
  all_goals
   split
   ·exact .inl rfl
   ·exact one _
theorem YO{n:Nat}(h:n=1\/n=2):¬7<n:=by omega
theorem ZN(vs vc:Value)(k1 k2:List UInt8)(n:Int)(c:Cm)(w:World)(hs:qs w (·<w.heap.size) vs k1 k2 n)(hc:Jm w (·<w.heap.size) vc c):
 Calls Tryz.prog 37 #[vs,vc] w (yN (jr k1 k2 n c) w):=by
 obtain⟨cl,ins,p1,p2,data,ex⟩:=c
 obtain⟨A1,d1,A2,d2,A3,d3,ws,wq,w2,wa,rfl,rfl,R2,R3,CS,CC,HZA,HB,HWS,HWC,HW2,HW3,H1,H2,H3,HSV,HCV⟩:=j7a hs hc
 clear hs hc
 by_cases v1:vS k1 k2 n=true
 ·have HVS:=iH v1
  by_cases v2:vC ⟨cl,ins,p1,p2,data,ex⟩=true
  ·have HVC:=iH v2
   have VS:=iH (of_decide_eq_true v1)
   have VC:=iH (of_decide_eq_true v2)
   clear v1 v2
   obtain⟨m,hm⟩:∃m:Nat,cl=m:=⟨cl.toNat,by have:=VC.out;simp only at this;omega⟩
   subst hm
   have hm:m<255:=by have:=VC.out;simp only at this;omega
   have a1:=Jr m (by omega)
   by_cases g3:n=1099511627776
   ·have t3:(n==1099511627776)=true:=by simp [g3]
    have R:Hid (jr k1 k2 n ⟨m,ins,p1,p2,data,ex⟩=(3,zC,[],[],0)):=iH (by unfold jr;rw [iF (by rw [HVS.out];simp),iF (by rw [HVC.out];simp),iT g3])
    clear g3 a1 hm
    go_enter Tryz.func37,Tryz.ntmps37
    go_upto_region 1 with fail
    rw [<-HWS.out,<-HWC.out,<-HW2.out,<-HW3.out]
    obtain⟨f0,f1,f2⟩:=CS.out wa iB
    go_upto_region 4 with (first
     |(go_at_call 29;have M1:=HBV;go_loud(refine(kt _ _ _ wv (HCV.out wv HBV.out)).mono ?_;rw [HVC.out];rintro e wc ⟨rfl,hb⟩;have hb2:=HBV.out.trans (hb.mono HBV.out.size);have HBC:=iH hb2;clear g0 g1 g2 g3 g4 g5;obtain⟨g0,g1,g2,g3,g4,g5⟩:=CC.out wc hb2;clear f0 f1 f2;obtain⟨f0,f1,f2⟩:=CS.out wc hb2;clear hb hb2))
     |(go_at_call 28;refine(jt _ k1 k2 n _ wa HSV.out).mono ?_;rw [HVS.out];rintro e wv ⟨rfl,hb⟩;have HBV:=iH hb;obtain⟨g0,g1,g2,g3,g4,g5⟩:=CC.out wv hb;clear hb))
    clear f0 f1 f2 g0 g1 g2 g3 g4 g5
    obtain⟨r0,r1,r2,r3,r4,r5,rf⟩:=j8 (R2.out wc HBC.out);have rf0:=rf 0;have rf1:=rf 1;have rf2:=rf 2;have rf3:=rf 3;have rf4:=rf 4;have rf5:=rf 5;clear rf;obtain⟨s0,s1,s2,sf⟩:=j7 (R3.out wc HBC.out);have sf0:=sf 0;have sf1:=sf 1;have sf2:=sf 2;clear sf
    go_wp2_with fail
    obtain⟨q2,q3⟩:=jq (R2.out wc HBC.out) (R3.out wc HBC.out) (.int .i64 0) (.int .i64 0) (.int .i64 0) (.int .i64 0) (.slice none 0 0) (.int .i64 0) (.slice none 0 0) (.slice none 0 0) (.int .i64 0)
    obtain⟨y0,y1,y2,y3,y4,y5,_⟩:=j8 q2
    obtain⟨x0,x1,x2,_⟩:=j7 q3
    refine bodyPost_ret (v:=.tuple #[.agg #[.int .i64 0,.int .i64 0,.int .i64 0,.int .i64 0,.slice none 0 0,.int .i64 0],.agg #[.slice none 0 0,.slice none 0 0,.int .i64 0],.int .i64 3]) (by simp only [set6,set3]at y0 y1 y2 y3 y4 y5 x0 x1 x2;simp [results,Tryz.results37,go_sem,y0,y1,y2,y3,y4,y5,x0,x1,x2]) rfl ?_
    exact mr
   ·have t3:(n==1099511627776)=false:=by simpa using g3
    by_cases g1:m / 4 % 4=3
    ·have a2:bits BinOp.and IntKind.i64 (m:Int) 12=12:=by rw [a1,g1]<;>rfl
     have HM:Hid (m<255/\12<=m):=iH ⟨hm,by omega⟩
     clear a1
     have LK1:Hid (k1.length=16):=iH VS.out.1
     have LK2:Hid (k2.length=16):=iH VS.out.2.1
     have LD:Hid (data.length<=4096):=iH VC.out.2.2.2.2.2.1
     have OCI:Hid (ql (m:Int)=true/\ql ins=true/\ql p1=true/\ql p2=true):=iH ⟨decide_eq_true ⟨by omega,by omega⟩,decide_eq_true VC.out.2.2.1,decide_eq_true VC.out.2.2.2.1,decide_eq_true VC.out.2.2.2.2.1⟩
     obtain⟨N,hN⟩:∃N,Jh (n+1)=N:=⟨_,rfl⟩
     have LN:Hid (N.length=16):=iH (by rw [<-hN]<;>rfl)
     have HNX:Hid (∀(va vb:Value) (w:World),Bs w w.heap.size va k1->Bs w w.heap.size vb k2->Calls Tryz.prog 30 #[.agg #[va,vb,.int .i64 n]] w fun e w'=>∃x y z,e=.returned (.tuple #[.agg #[x,y,.int .i64 (n+1)],z])/\Bs w' w'.heap.size x k1/\Bs w' w'.heap.size y k2/\Bs w' w'.heap.size z N/\Below w.heap.size w w'):=iH (fun va vb w h1 h2=>by rw [<-hN];exact yx va vb k1 k2 VS.out.1 VS.out.2.1 n VS.out.2.2.1 (by have:=VS.out.2.2.2;omega) w h1 h2)
     have R0:Hid (∀rr,kZ [142] (qZ 151 1 false) data=rr->jr k1 k2 n ⟨m,ins,p1,p2,data,ex⟩=ZW k1 k2 N n ⟨m,ins,p1,p2,data,ex⟩ rr):=iH (fun rr hrr=>by subst hN;subst hrr;unfold jr;rw [iF (by rw [HVS.out];simp),iF (by rw [HVC.out];simp),iF g3,iF (by simp only;omega)])
     clear hN g1 g3 hm
     go_enter Tryz.func37,Tryz.ntmps37
     go_upto_region 1 with fail
     rw [<-HWS.out,<-HWC.out,<-HW2.out,<-HW3.out]
     obtain⟨f0,f1,f2⟩:=CS.out wa iB
     go_upto_region 7 with (first
      |(go_at_call 29;have M1:=HBV;go_loud(refine(kt _ _ _ wv (HCV.out wv HBV.out)).mono ?_;rw [HVC.out];rintro e wc ⟨rfl,hb⟩;have hb2:=HBV.out.trans (hb.mono HBV.out.size);have HBC:=iH hb2;clear g0 g1 g2 g3 g4 g5;obtain⟨g0,g1,g2,g3,g4,g5⟩:=CC.out wc hb2;clear f0 f1 f2;obtain⟨f0,f1,f2⟩:=CS.out wc hb2;clear hb hb2))
      |(go_at_call 28;refine(jt _ k1 k2 n _ wa HSV.out).mono ?_;rw [HVS.out];rintro e wv ⟨rfl,hb⟩;have HBV:=iH hb;obtain⟨g0,g1,g2,g3,g4,g5⟩:=CC.out wv hb;clear hb))
     clear f0 f1 f2 a2 t3
     have HPA:=iH (KX data (.slice A3 data.length d3) true wc (H3.out.lift HBC.out))
     cases hpp:jK data true with
     |error er=>
      have R:Hid (jr k1 k2 n ⟨m,ins,p1,p2,data,ex⟩=(1,zC,[],[],0)):=iH (R0.out _ (K3 hpp))
      have tne:(er != 0)=true:=by simpa using zP hpp
      rw [hpp]at HPA
      clear hpp
      go_upto_region 9 with (go_at_call 45;refine HPA.out.mono ?_;intro e wl h;obtain⟨la,lc,rfl,hb⟩:=h.err;have HBL:=iH (HBC.out.trans (hb.mono HBC.out.size));clear hb h g0 g1 g2 g3 g4 g5)
      obtain⟨r0,r1,r2,r3,r4,r5,rf⟩:=j8 (R2.out wl HBL.out);have rf0:=rf 0;have rf1:=rf 1;have rf2:=rf 2;have rf3:=rf 3;have rf4:=rf 4;have rf5:=rf 5;clear rf;obtain⟨s0,s1,s2,sf⟩:=j7 (R3.out wl HBL.out);have sf0:=sf 0;have sf1:=sf 1;have sf2:=sf 2;clear sf
      go_wp2_with fail
      obtain⟨q2,q3⟩:=jq (R2.out wl HBL.out) (R3.out wl HBL.out) (.int .i64 0) (.int .i64 0) (.int .i64 0) (.int .i64 0) (.slice none 0 0) (.int .i64 0) (.slice none 0 0) (.slice none 0 0) (.int .i64 0)
      obtain⟨y0,y1,y2,y3,y4,y5,_⟩:=j8 q2
      obtain⟨x0,x1,x2,_⟩:=j7 q3
      refine bodyPost_ret (v:=.tuple #[.agg #[.int .i64 0,.int .i64 0,.int .i64 0,.int .i64 0,.slice none 0 0,.int .i64 0],.agg #[.slice none 0 0,.slice none 0 0,.int .i64 0],.int .i64 1]) (by simp only [set6,set3]at y0 y1 y2 y3 y4 y5 x0 x1 x2;simp [results,Tryz.results37,go_sem,y0,y1,y2,y3,y4,y5,x0,x1,x2]) rfl ?_
      rw [R.out]
      exact⟨_,_,rfl,⟨_,rfl,BsS.nil0 _ _⟩,⟨_,_,rfl,BsS.nil0 _ _,BsS.nil0 _ _⟩,jk (HB.out.trans (Below.mono HBL.out HB.out.size)) (by omega)⟩
     |ok L=>
      rw [hpp]at HPA
      have HPP:=iH hpp
      have hll:L.len<=256:=Nat.le_trans (Ns.len_all L) (kX hpp).2.2.1
      clear hpp
      go_upto_region 10 with (go_at_call 45;refine HPA.out.mono ?_;intro e wl h;obtain⟨la,lc,rfl,hn,hb⟩:=h.got;have HNL:=iH (hn.keep (w':=wl) (S':=(·<wl.heap.size)) fun b hs _=>⟨rfl,hs.2⟩);have HBL:=iH (HBC.out.trans (hb.mono HBC.out.size));clear hb hn h g0 g1 g2 g3 g4 g5)
      have HFI:=iH (KW L (.slice la L.len lc) (·<wl.heap.size) 142 wl HNL.out (by omega))
      have hfp:=yT 142 L 0 (by omega)
      obtain⟨fi,hfi⟩:∃z,zN L 142 0=z:=⟨_,rfl⟩
      rw [hfi]at HFI hfp
      clear hfi
      cases hok:(L.pick 142).isSome with
      |false=>
       rw [hok]at hfp
       have tf:decide (fi<0)=true:=by have:=of_decide_eq_false hfp.symm;exact decide_eq_true (by omega)
       have R:Hid (jr k1 k2 n ⟨m,ins,p1,p2,data,ex⟩=(16,zC,[],[],0)):=iH (R0.out _ (zr HPP.out (by simp [hok])))
       clear hfp hok
       go_upto_region 11 with (go_at_call 70;refine iR HFI.out ?_)
       obtain⟨r0,r1,r2,r3,r4,r5,rf⟩:=j8 (R2.out wl HBL.out);have rf0:=rf 0;have rf1:=rf 1;have rf2:=rf 2;have rf3:=rf 3;have rf4:=rf 4;have rf5:=rf 5;clear rf;obtain⟨s0,s1,s2,sf⟩:=j7 (R3.out wl HBL.out);have sf0:=sf 0;have sf1:=sf 1;have sf2:=sf 2;clear sf
       go_wp2_with fail
       obtain⟨q2,q3⟩:=jq (R2.out wl HBL.out) (R3.out wl HBL.out) (.int .i64 0) (.int .i64 0) (.int .i64 0) (.int .i64 0) (.slice none 0 0) (.int .i64 0) (.slice none 0 0) (.slice none 0 0) (.int .i64 0)
       obtain⟨y0,y1,y2,y3,y4,y5,_⟩:=j8 q2
       obtain⟨x0,x1,x2,_⟩:=j7 q3
       refine bodyPost_ret (v:=.tuple #[.agg #[.int .i64 0,.int .i64 0,.int .i64 0,.int .i64 0,.slice none 0 0,.int .i64 0],.agg #[.slice none 0 0,.slice none 0 0,.int .i64 0],.int .i64 16]) (by simp only [set6,set3]at y0 y1 y2 y3 y4 y5 x0 x1 x2;simp [results,Tryz.results37,go_sem,y0,y1,y2,y3,y4,y5,x0,x1,x2]) rfl ?_
       rw [R.out]
       exact⟨_,_,rfl,⟨_,rfl,BsS.nil0 _ _⟩,⟨_,_,rfl,BsS.nil0 _ _,BsS.nil0 _ _⟩,jk (HB.out.trans (Below.mono HBL.out HB.out.size)) (by omega)⟩
      |true=>
       rw [hok]at hfp
       have tf:decide (fi<0)=false:=by have:=of_decide_eq_true hfp.symm;exact decide_eq_false (by omega)
       obtain⟨mm,hmm⟩:=XK hok
       have HAL:Hid (([142].all fun t=>(L.pick t).isSome)=true):=iH (by simp [hok])
       have HSP:=iH (XY L 151 mm hmm (by omega) (.slice la L.len lc) wl HNL.out)
       obtain⟨⟨sc,sm,sk,so⟩,hsp⟩:∃x,jB 151 L=x:=⟨_,rfl⟩
       have HSE:=iH hsp
       have hmid:=XZ 151 L
       rw [hsp]at HSP hmid
       simp only at hmid HSP
       have HMI:=iH hmid;have HMM:=iH hmm
       rw [hmm]at HNL HSP HFI |-
       have hmm2:mm<=255:=by omega
       have HML:=iH hmm2
       clear hmm2
       clear hfp hok hsp hmid hmm hll
       go_upto_region 13 with (first
        |(go_at_call 71;refine HSP.out.mono ?_;rintro e w2 ⟨c,d,k,rfl,hc,hd,hk,hb⟩;obtain⟨cA,cc,hp⟩:=Bs.formL hc;subst hp;obtain⟨dA,dc,hp⟩:=hd.form3;subst hp;obtain⟨kA,kc,hp⟩:=Bs.formL hk;subst hp;have SC2:=iH hc;have SD2:=iH hd;have SK2:=iH hk;have HB2L:=iH hb;have HB2:=iH (HBL.out.trans (hb.mono HBL.out.size));clear hc hd hk hb)
        |(go_at_call 70;refine iR HFI.out ?_))
       obtain⟨dl,hdl⟩:∃l,sm.len=l:=⟨_,rfl⟩
       rw [hdl]at SD2 |-
       have HDL:=iH hdl
       clear hdl
       obtain⟨gq,hgq⟩:∃b,(so&&Ze 151 1 false sm)=b:=⟨_,rfl⟩
       have HGQ:=iH hgq
       clear hgq tf
       go_cut [81] from 61 to 82 (fun y wx=>y=.bool (!gq)/\Below w2.heap.size w2 wx)
       case first=>
        cases so with
        |false=>
         obtain rfl:gq=false:=by rw [<-HGQ.out]<;>rfl
         exact mI
        |true=>
         have HGQ2:Hid (Ze 151 1 false sm=gq):=HGQ
         rcases HMI.out with rfl|⟨t,v,k,rfl⟩
         ·obtain rfl:gq=true:=by rw [<-HGQ2.out]<;>rfl
          obtain rfl:dl=0:=HDL.out.symm
          exact mI
         ·obtain rfl:dl=1:=HDL.out.symm
          obtain⟨db,dof,rfl,hdl,hat⟩:∃b o,dA=some ⟨b,o,none⟩/\b<w2.heap.size/\NsAt w2 (·<wl.heap.size) (.cons t v k .nil) b o:=by
           exact m2g
          obtain⟨q0,_,⟨x,q1,hx⟩,⟨kA',kc',q2,_⟩,_⟩:=hat
          obtain⟨xA,xc,rfl⟩:=Bs.formL hx
          have hcap:(1:Nat)<=dc:=by obtain⟨_,_,e,h1,_⟩:=SD2.out;injection e with _ _ e3;subst e3;exact h1
          have QC:Hid (∀W,Below w2.heap.size w2 W->W.cell? ⟨db,dof,none⟩=some (.int .i64 t)/\W.cell? ⟨db,dof+1,none⟩=some (.slice xA v.length xc)/\W.cell? ⟨db,dof+2,none⟩=some (.slice kA' k.len kc')):=iH fun W h=>⟨(h.cell (p:=⟨db,dof,none⟩) hdl).trans q0,(h.cell (p:=⟨db,dof+1,none⟩) hdl).trans q1,(h.cell (p:=⟨db,dof+2,none⟩) hdl).trans q2⟩
          have e1:(decide (t=151)&&(decide (k.len=0)&&(decide ((1:Int)<0)||decide ((v.length:Int)=1))))=q8 (t,v,k) 151 1:=yu (t,v,k) 151 1
          have e2:(decide (t=151)&&(decide (k.len=0)&&(decide ((2:Int)<0)||decide ((v.length:Int)=2))))=q8 (t,v,k) 151 2:=yu (t,v,k) 151 2
          have P1:=xn t 151 1 xA kA' v.length xc k.len kc' w2
          rw [e1]at P1
          have P1:=iH P1
          have P2:Hid (∀W,Calls Tryz.prog 72 #[.agg #[.int .i64 t,.slice xA v.length xc,.slice kA' k.len kc'],.int .i64 151,.int .i64 2] W fun e w'=>e=.returned (.bool (q8 (t,v,k) 151 2))/\Below W.heap.size W w'):=iH (fun W=>by
           have h:=xn t 151 2 xA kA' v.length xc k.len kc' W
           rw [e2]at h
           exact h)
          have HMQ:Hid (gq=(q8 (t,v,k) 151 1||q8 (t,v,k) 151 2)):=iH (by
           rw [<-HGQ2.out]
           unfold Ze q8
           simp only
           rw [Bool.eq_iff_iff]
           simp only [Bool.and_eq_true,Bool.or_eq_true,decide_eq_true_eq]
           omega)
          clear q0 q1 q2 hx hdl e1 e2
          have HPRIM:True:=trivial
          obtain⟨q0,q1,q2⟩:=QC.out w2 iB
          cases hp1:q8 (t,v,k) 151 1 with
          |true=>
           rw [hp1]at P1
           obtain rfl:gq=true:=by rw [HMQ.out,hp1]<;>rfl
           clear hp1
           go_wp2_with(go_at_call 72;refine P1.out.mono ?_;rintro e w3 ⟨rfl,hb⟩;have HB3:=iH hb;clear hb q0 q1 q2)
           go_meet
           exact⟨rfl,HB3.out⟩
          |false=>
           rw [hp1]at P1
           cases hp2:q8 (t,v,k) 151 2 with
           |true=>
            rw [hp2]at P2
            obtain rfl:gq=true:=by rw [HMQ.out,hp1,hp2]<;>rfl
            exact m18
           |false=>
            rw [hp2]at P2
            obtain rfl:gq=false:=by rw [HMQ.out,hp1,hp2]<;>rfl
            exact m18
       case rest=>
        obtain⟨rfl,hbx⟩:=hcut
        obtain⟨w4,rfl⟩:∃w4:World,w4=wc:=⟨_,rfl⟩
        have HB4L:=iH (HB2L.out.trans (hbx.mono HB2L.out.size))
        have HB4:=iH (HB2.out.trans (hbx.mono HB2.out.size))
        have SC4:Hid (Bs w4 w4.heap.size (.slice cA sc.length cc) sc):=iH (BsS.keep SC2.out (w':=w4) (S':=(·<w4.heap.size)) fun b hs hl=>⟨hbx.block b hl,iZ hs HB4L.out.size⟩)
        have SD4:=iH (SD2.out.keep (w':=w4) (S':=(·<w4.heap.size)) fun b hs hl=>⟨hbx.block b hl,iZ hs HB4L.out.size⟩)
        have SK4:Hid (Bs w4 w4.heap.size (.slice kA sk.length kc) sk):=iH (BsS.keep SK2.out (w':=w4) (S':=(·<w4.heap.size)) fun b hs hl=>⟨hbx.block b hl,iZ hs HB4L.out.size⟩)
        have HN4:=iH (HNL.out.keep (w':=w4) (S':=(·<w4.heap.size)) fun b hs _=>⟨HB4L.out.block b hs,iZ hs HB4L.out.size⟩)
        clear hbx
        cases gq with
        |false=>
         have R:Hid (jr k1 k2 n ⟨m,ins,p1,p2,data,ex⟩=(1,zC,[],[],0)):=iH (R0.out _ (Yy (tg:=151) (lo:=1) (mu:=false) (by decide) (by decide) (by decide) (by decide) HPP.out HAL.out (by rw [HSE.out];exact HGQ.out)))
         go_upto_region 14 with fail
         obtain⟨r0,r1,r2,r3,r4,r5,rf⟩:=j8 (R2.out w4 HB4.out);have rf0:=rf 0;have rf1:=rf 1;have rf2:=rf 2;have rf3:=rf 3;have rf4:=rf 4;have rf5:=rf 5;clear rf;obtain⟨s0,s1,s2,sf⟩:=j7 (R3.out w4 HB4.out);have sf0:=sf 0;have sf1:=sf 1;have sf2:=sf 2;clear sf
         go_wp2_with fail
         obtain⟨q2,q3⟩:=jq (R2.out w4 HB4.out) (R3.out w4 HB4.out) (.int .i64 0) (.int .i64 0) (.int .i64 0) (.int .i64 0) (.slice none 0 0) (.int .i64 0) (.slice none 0 0) (.slice none 0 0) (.int .i64 0)
         obtain⟨y0,y1,y2,y3,y4,y5,_⟩:=j8 q2
         obtain⟨x0,x1,x2,_⟩:=j7 q3
         refine bodyPost_ret (v:=.tuple #[.agg #[.int .i64 0,.int .i64 0,.int .i64 0,.int .i64 0,.slice none 0 0,.int .i64 0],.agg #[.slice none 0 0,.slice none 0 0,.int .i64 0],.int .i64 1]) (by simp only [set6,set3]at y0 y1 y2 y3 y4 y5 x0 x1 x2;simp [results,Tryz.results37,go_sem,y0,y1,y2,y3,y4,y5,x0,x1,x2]) rfl ?_
         rw [R.out]
         exact⟨_,_,rfl,⟨_,rfl,BsS.nil0 _ _⟩,⟨_,_,rfl,BsS.nil0 _ _,BsS.nil0 _ _⟩,jk (HB.out.trans (Below.mono HB4.out HB.out.size)) (by omega)⟩
        |true=>
         obtain⟨V,M,C,hsh,hsp,hob⟩:=XE (tg:=151) (lo:=1) (mu:=false) (ts:=[142]) (by decide) (by decide) (by decide) (by decide) HPP.out HAL.out (by rw [HSE.out];exact HGQ.out)
         rw [HSE.out]at hsp
         simp only [Prod.mk.injEq]at hsp
         obtain⟨hsc,rfl,rfl,rfl⟩:=hsp
         have R1:Hid (jr k1 k2 n ⟨m,ins,p1,p2,data,ex⟩=if ¬kC k2 N (xB (m:Int) ins p1 p2) (L.takeN (L.len - 1)).enc=sk then(20,zC,[],[],0)
          else if ¬kD k1 N sc=0 then(kD k1 N sc,zC,[],[],0)
          else(0,⟨(m:Int) - 12,ins,p1,p2,qt k1 N sc,exW M⟩,k1,k2,n+1)):=iH (by rw [hsc];exact R0.out _ hob)
         obtain⟨V2,M2,C2,LL,hus,_,_,heP,haP,hlP,_⟩:=Qv (tg:=151) (lo:=1) (mu:=false) (by decide) (by decide) (by decide) (by decide) (by decide) hob
         have HVM:Hid (sc.length % 16=0):=iH (by
          rw [hsc]
          rcases hsh.v with h|h
          ·rw [h]<;>rfl
          ·have:=qE h.1;rw [List.length_drop];omega)
         have HMM2:Hid ((M= []\/M.length=1\/M.length=2)):=iH (by
          rcases hsh.m with h|h
          ·exact .inl h.1
          ·have:=h.1;exact .inr (by omega))
         have HEP:=iH heP;have HAP:=iH haP;have HLP:=iH hlP
         have HLM:Hid (L.len - 1=mm):=iH (by rw [HMM.out]<;>rfl)
         rw [HLM.out]at R1 HEP HAP HLP
         clear hsh hob hus heP haP hlP R0 hsc
         obtain⟨f0,f1,f2⟩:=CS.out w4 HB4.out
         go_upto_region 16 with (go_at_call 30;refine(HNX.out _ _ w4 (H1.out.lift HB4.out) (H2.out.lift HB4.out)).mono ?_;rintro e wn ⟨x,y,z,rfl,hx,hy,hz,hb⟩;obtain⟨xA,xc,hp⟩:=Bs.formL hx;subst hp;obtain⟨yA,yc,hp⟩:=Bs.formL hy;subst hp;obtain⟨zA,zc,hp⟩:=Bs.formL hz;subst hp;have HX:=iH hx;have HY:=iH hy;have HZ:=iH hz;have HBN2:=iH hb;have HBN:=iH (HB4.out.trans (hb.mono HB4.out.size));obtain⟨u0,u1,u2,uf⟩:=j7 (xP wn);have uf0:=uf 0;have uf1:=uf 1;have uf2:=uf 2;clear uf hx hy hz hb f0 f1 f2)
         clear u0 u1 u2 uf0 uf1 uf2
         obtain⟨wu,hwu⟩:∃wu,wu=wn.alloc (.cells #[.slice xA k1.length xc,.slice yA k2.length yc,.int .i64 (n+1)] 29):=⟨_,rfl⟩
         rw [<-hwu]
         have hbu:Below wn.heap.size wn wu:=by rw [hwu];exact iA
         have hur:wu.heap[wn.heap.size]?=some (.cells #[.slice xA k1.length xc,.slice yA k2.length yc,.int .i64 (n+1)] 29 (0,0)):=by rw [hwu];exact iN
         have hult:=(iG hur)
         have RU:Hid (∀W,Below wu.heap.size wu W->W.heap[wn.heap.size]?=some (.cells #[.slice xA k1.length xc,.slice yA k2.length yc,.int .i64 (n+1)] 29 (0,0))):=iH fun W h=>(h.block _ hult).trans hur
         have HULT:=iH hult
         have HBAU:=iH (HBN.out.trans (hbu.mono HBN.out.size))
         have h4u:=HBN2.out.trans (hbu.mono HBN2.out.size)
         have H4U:=iH h4u
         have SCU:=iH (SC4.out.lift h4u);have SKU:=iH (SK4.out.lift h4u)
         have SDU:=iH (SD4.out.keep (w':=wu) (S':=(·<wu.heap.size)) fun b hs _=>⟨h4u.block b hs,iZ hs h4u.size⟩)
         have HNU:=iH (HN4.out.keep (w':=wu) (S':=(·<wu.heap.size)) fun b hs _=>⟨h4u.block b hs,iZ hs h4u.size⟩)
         have XU:=iH (HX.out.lift hbu);have YU:=iH (HY.out.lift hbu);have ZU:=iH (HZ.out.lift hbu)
         have KU:=iH (H1.out.lift HBAU.out);have MU:=iH (H2.out.lift HBAU.out);have DU:=iH (H3.out.lift HBAU.out)
         clear hwu hbu hur hult h4u
         obtain⟨P,hP⟩:∃P,L.takeN mm=P:=⟨_,rfl⟩
         rw [hP]at R1 HEP HAP HLP
         have HNP:Hid (NsS wu (·<wu.heap.size) (.slice la mm lc) P):=iH (by rw [<-hP];exact HNU.out.cutTo mm (by rw [HMM.out];omega))
         have hpl:P.len=mm:=by rw [<-hP,xU,HMM.out];omega
         obtain⟨H9,hH9⟩:∃H,xB (m:Int) ins p1 p2=H:=⟨_,rfl⟩
         have hlh:H9.length<=100:=by rw [<-hH9,yj];decide
         have HHD:Hid (∀(v:Value) (w:World),Jm w (·<w.heap.size) v ⟨(m:Int),ins,p1,p2,data,ex⟩->Calls Tryz.prog 35 #[v] w fun e w'=>∃v',e=.returned v'/\BsS w' (New w w') v' H9/\Below w.heap.size w w'):=iH (fun v w h=>by have hq:=YE v (m:Int) ins p1 p2 data ex _ w h OCI.out.1 OCI.out.2.1 OCI.out.2.2.1 OCI.out.2.2.2;rw [hH9]at hq;exact hq)
         rw [hH9]at R1
         obtain⟨PE,hPE⟩:∃x,P.enc=x:=⟨_,rfl⟩
         obtain⟨C9,hC9⟩:∃C,kC k2 N H9 PE=C:=⟨_,rfl⟩
         rw [hPE]at R1 HEP HLP
         rw [hC9]at R1
         obtain⟨X5,hX5⟩:∃X,N++H9=X:=⟨_,rfl⟩
         obtain⟨X12,hX12⟩:∃X,X5++PE=X:=⟨_,rfl⟩
         have ln16:=LN.out
         have hlp:=HLP.out
         have l5:X5.length<=200:=by rw [<-hX5,List.length_append];omega
         have l12:X12.length<=20000:=by rw [<-hX12,List.length_append];omega
         have HJ1:Hid (∀(hA:Option Addr) (hc:Nat) w1,Bs w1 w1.heap.size (.slice zA N.length zc) N->Bs w1 w1.heap.size (.slice hA H9.length hc) H9->Calls Tryz.prog 65 #[.slice zA N.length zc,.slice hA H9.length hc] w1 fun e w'=>∃v',e=.returned v'/\Bs w' w'.heap.size v' X5/\Below w1.heap.size w1 w'):=iH (fun hA hc w1 h1 h2=>(zl _ _ N H9 _ _ w1 h1 h2 (by omega)).mono fun e w' ⟨v',he,ho,hb⟩=>⟨v',he,by rw [hX5]at ho;exact OwnB.rd ho (by omega),hb⟩)
         have HJ2:Hid (∀(a4:Option Addr) (c4:Nat) (a6:Option Addr) (c6:Nat) (w1:World),Bs w1 w1.heap.size (.slice a4 X5.length c4) X5->Bs w1 w1.heap.size (.slice a6 PE.length c6) PE->Calls Tryz.prog 65 #[.slice a4 X5.length c4,.slice a6 PE.length c6] w1 fun e w'=>∃v',e=.returned v'/\Bs w' w'.heap.size v' X12/\Below w1.heap.size w1 w'):=iH (fun a4 c4 a6 c6 w1 h1 h2=>(zl _ _ X5 PE _ _ w1 h1 h2 (by omega)).mono fun e w' ⟨v',he,ho,hb⟩=>⟨v',he,by rw [hX12]at ho;exact OwnB.rd ho (by omega),hb⟩)
         have HPL:Hid (∀w1,NsS w1 (·<w1.heap.size) (.slice la mm lc) P->Calls Tryz.prog 46 #[.slice la mm lc] w1 fun e w'=>∃v',e=.returned v'/\Bs w' w'.heap.size v' PE/\Below w1.heap.size w1 w'):=iH (fun w1 h=>by
          have h2:=J1 P _ w1 h HAP.out
          rw [HEP.out]at h2
          exact h2)
         have HCK:Hid (∀(vk vb:Value) (w:World),Bs w w.heap.size vk k2->Bs w w.heap.size vb X12->Calls Tryz.prog 69 #[vk,vb] w fun e w'=>∃v',e=.returned (.tuple #[v',.int .i64 0])/\Bs w' w'.heap.size v' C9/\Below w.heap.size w w'):=iH (fun vk vb w h1 h2=>by rw [<-hC9];unfold kC;rw [<-List.append_assoc,hX5,hX12];exact zQ vk vb k2 X12 LK2.out (by omega) w h1 h2)
         have HML2:=HML.out
         have hcap:mm<=lc/\lc<=9223372036854775807:=by
          exact m34
         have hc1:=hcap.1;have hc2:=hcap.2
         clear hP hpl hH9 hlh hPE hC9 hX5 hX12 ln16 hlp l5 l12 hcap
         have R2X:=R2
         clear R2
         refine jc 19 [some 90,some 91,some 92,some 93,some 94,some 95,some 96,some 97,some 98,some 99,some 100,some 101,some 102,some 103,some 89,some 104,some 105,some 15,some 16] [[],[0],[],[],[3],[2,3,4],[],[],[7],[7,8],[6,7,8,9],[2,3,4,5,6,7,8,9,10],[2,3,4,5,6,7,8,9,10,11],[0,1,2,3,4,5,6,7,8,9,10,11,12],[0,1,2,3,4,5,6,7,8,9,10,11,12,13],[0,1,2,3,4,5,6,7,8,9,10,11,12,13,14],[0,1,2,3,4,5,6,7,8,9,10,11,12,13,14],[0,1,2,3,4,5,6,7,8,9,10,11,12,13,14,15],[0,1,2,3,4,5,6,7,8,9,10,11,12,13,14,15,16,17]]
          (fun _ _ w1=>Below wu.heap.size wu w1) (fun w1 w2=>Below w1.heap.size w1 w2)
          [fun v _=>v 0=.pointer (some ⟨w.heap.size,1,none⟩),
           fun v _=>v 1=.slice A2 k2.length d2,
           fun v _=>v 2=.slice zA N.length zc,
           fun v _=>v 3=.agg #[.int .i64 (m:Int),.int .i64 ins,.int .i64 p1,.int .i64 p2,.slice A3 data.length d3,.int .i64 ex],
           fun v w1=>∃a c,v 4=.slice a (H9).length c/\BsS w1 (New wu w1) (.slice a (H9).length c) (H9),
           fun v w1=>∃a c,v 5=.slice a (X5).length c/\Bs w1 w1.heap.size (.slice a (X5).length c) (X5),
           fun v _=>v 6=.slice la (mm+1) lc,
           fun v _=>v 7=.slice la (mm+1) lc,
           fun v _=>v 8=.int .i64 ((mm:Int)+1),
           fun v _=>v 9=.int .i64 mm,
           fun v _=>v 10=.slice la mm lc,
           fun v w1=>∃a c,v 11=.slice a (PE).length c/\Bs w1 w1.heap.size (.slice a (PE).length c) (PE),
           fun v w1=>∃a c,v 12=.slice a (X12).length c/\Bs w1 w1.heap.size (.slice a (X12).length c) (X12),
           fun v w1=>∃a c,v 13=.tuple #[.slice a (C9).length c,.int .i64 0]/\Bs w1 w1.heap.size (.slice a (C9).length c) (C9),
           fun v w1=>∃a c,v 14=.tuple #[.slice a (C9).length c,.int .i64 0]/\Bs w1 w1.heap.size (.slice a (C9).length c) (C9),
           fun v w1=>∃a c,v 15=.slice a (C9).length c/\Bs w1 w1.heap.size (.slice a (C9).length c) (C9),
           fun v _=>v 16=.int .i64 0,
           fun v w1=>∃a c,v 17=.slice a (C9).length c/\Bs w1 w1.heap.size (.slice a (C9).length c) (C9),
           fun v _=>v 18=.int .i64 0]
          (by kernel_rfl) (by kernel_rfl) (fun _=>iB.drew) ?st16 ?steps16 ?tail16
         case st16=>
          exact(.cons (fun _ _ _ _ _ _ h=>h) (.cons (fun _ _ _ _ _ _ h=>h) (.cons (fun _ _ _ _ _ _ h=>h) (.cons (fun _ _ _ _ _ _ h=>h) (.cons (fun _ _ _ _ _ hr ⟨a,c,e,h⟩=>⟨a,c,e,BsS.keep h fun g hg hl=>⟨hr.block g hl,hg.1,iZ hl hr.size⟩⟩) (.cons (fun _ _ _ _ _ hr ⟨a,c,e,h⟩=>⟨a,c,e,h.lift hr⟩) (.cons (fun _ _ _ _ _ _ h=>h) (.cons (fun _ _ _ _ _ _ h=>h) (.cons (fun _ _ _ _ _ _ h=>h) (.cons (fun _ _ _ _ _ _ h=>h) (.cons (fun _ _ _ _ _ _ h=>h) (.cons (fun _ _ _ _ _ hr ⟨a,c,e,h⟩=>⟨a,c,e,h.lift hr⟩) (.cons (fun _ _ _ _ _ hr ⟨a,c,e,h⟩=>⟨a,c,e,h.lift hr⟩) (.cons (fun _ _ _ _ _ hr ⟨a,c,e,h⟩=>⟨a,c,e,h.lift hr⟩) (.cons (fun _ _ _ _ _ hr ⟨a,c,e,h⟩=>⟨a,c,e,h.lift hr⟩) (.cons (fun _ _ _ _ _ hr ⟨a,c,e,h⟩=>⟨a,c,e,h.lift hr⟩) (.cons (fun _ _ _ _ _ _ h=>h) (.cons (fun _ _ _ _ _ hr ⟨a,c,e,h⟩=>⟨a,c,e,h.lift hr⟩) (.cons (fun _ _ _ _ _ _ h=>h) .nil)))))))))))))))))))
         case steps16=>
          simp only [List.take_succ_cons,List.take_zero]
          refine(.cons ?_ (.cons ?_ (.cons ?_ (.cons ?_ (.cons ?_ (.cons ?_ (.cons ?_ (.cons ?_ (.cons ?_ (.cons ?_ (.cons ?_ (.cons ?_ (.cons ?_ (.cons ?_ (.cons ?_ (.cons ?_ (.cons ?_ (.cons ?_ (.cons ?_ .nil)))))))))))))))))))
          all_goals(intro L v w1 hJ hL hA hF K hK;simp only [jf,Act.put,Nat.zero_add,Nat.reduceAdd,List.setIfInBounds_toArray,List.set_cons_zero,List.set_cons_succ]at hK |-)
          ·exact m6
          ·have e0:v 0=_:=hF 0 (hA 0 (by simp))
           obtain⟨c0,c1,c2⟩:=CS.out _ (HBAU.out.trans (hJ.mono HBAU.out.size))
           simp only [e0]at hK
           exact m6
          ·exact m6
          ·obtain⟨c0,c1,c2,c3,c4,c5⟩:=CC.out _ (HBAU.out.trans (hJ.mono HBAU.out.size))
           exact m6
          ·have e3:v 3=_:=hF 3 (hA 3 (by simp))
           simp only [e3]at hK
           go_simp
           refine(HHD.out (.agg #[.int .i64 (m:Int),.int .i64 ins,.int .i64 p1,.int .i64 p2,.slice A3 data.length d3,.int .i64 ex]) w1 ⟨_,rfl,DU.out.lift hJ⟩).mono ?_
           rintro e w5 ⟨v5,rfl,ho,hb⟩
           have hx:BsS w5 (New wu w5) v5 (H9):=ho.keep fun g hg _=>⟨rfl,Nat.le_trans hJ.size hg.1,hg.2⟩
           exact m7
          ·have e2:v 2=_:=hF 2 (hA 2 (by simp))
           simp only [e2]at hK
           obtain⟨a4,c4,e4,h4⟩:∃a c,v 4=_/\_:=hF 4 (hA 4 (by simp))
           simp only [e4]at hK
           go_simp
           refine(HJ1.out _ _ w1 (ZU.out.lift hJ) (BsS.keep h4 fun g hg _=>⟨rfl,hg.2⟩)).mono ?_
           rintro e w5 ⟨v5,rfl,ho,hb⟩
           have hx:Bs w5 w5.heap.size v5 X5:=ho
           exact m7
          ·exact m6
          ·exact m6
          ·have e7:v 7=_:=hF 7 (hA 7 (by simp))
           simp only [e7]at hK
           exact m6
          ·have e8:v 8=_:=hF 8 (hA 8 (by simp))
           simp only [e8]at hK
           exact m3g
          ·have e6:v 6=_:=hF 6 (hA 6 (by simp))
           have e9:v 9=_:=hF 9 (hA 9 (by simp))
           simp only [e6,e9]at hK
           go_simp
           exact hK _ _ hJ iB rfl
          ·have e10:v 10=_:=hF 10 (hA 10 (by simp))
           simp only [e10]at hK
           go_simp
           refine(HPL.out w1 (HNP.out.keep fun g hg hl=>⟨hJ.block g hg,iZ hg hJ.size⟩)).mono ?_
           rintro e w5 ⟨v5,rfl,ho,hb⟩
           have hx:Bs w5 w5.heap.size v5 (PE):=ho
           exact m7
          ·obtain⟨a5,c5,e5,h5⟩:∃a c,v 5=_/\_:=hF 5 (hA 5 (by simp))
           obtain⟨a11,c11,e11,h11⟩:∃a c,v 11=_/\_:=hF 11 (hA 11 (by simp))
           simp only [e5,e11]at hK
           go_simp
           refine(HJ2.out a5 c5 a11 c11 w1 h5 h11).mono ?_
           rintro e w5 ⟨v5,rfl,ho,hb⟩
           have hx:Bs w5 w5.heap.size v5 (X12):=ho
           exact m7
          ·have e1:v 1=_:=hF 1 (hA 1 (by simp))
           simp only [e1]at hK
           obtain⟨a12,c12,e12,h12⟩:∃a c,v 12=_/\_:=hF 12 (hA 12 (by simp))
           simp only [e12]at hK
           go_simp
           refine(HCK.out _ _ w1 (MU.out.lift hJ) h12).mono ?_
           rintro e w5 ⟨v5,rfl,ho,hb⟩
           have hx:Bs w5 w5.heap.size v5 (C9):=ho
           exact m7
          ·obtain⟨a13,c13,e13,h13⟩:∃a c,v 13=_/\_:=hF 13 (hA 13 (by simp))
           simp only [e13]at hK
           go_simp
           exact hK _ _ hJ iB ⟨_,_,rfl,h13⟩
          ·obtain⟨a14,c14,e14,h14⟩:∃a c,v 14=_/\_:=hF 14 (hA 14 (by simp))
           simp only [e14]at hK
           go_simp
           exact hK _ _ hJ iB ⟨_,_,rfl,h14⟩
          ·obtain⟨a14,c14,e14,h14⟩:∃a c,v 14=_/\_:=hF 14 (hA 14 (by simp))
           simp only [e14]at hK
           go_simp
           exact hK _ _ hJ iB rfl
          ·obtain⟨a15,c15,e15,h15⟩:∃a c,v 15=_/\_:=hF 15 (hA 15 (by simp))
           simp only [e15]at hK
           go_simp
           exact hK _ _ hJ iB ⟨_,_,rfl,h15⟩
          ·have e16:v 16=_:=hF 16 (hA 16 (by simp))
           simp only [e16]at hK
           exact m6
         case tail16=>
          intro v w1 hJ hF
          have e0:v 0=_:=hF 0 (by simp)
          have e1:v 1=_:=hF 1 (by simp)
          have e2:v 2=_:=hF 2 (by simp)
          have e3:v 3=_:=hF 3 (by simp)
          have e6:v 6=_:=hF 6 (by simp)
          have e7:v 7=_:=hF 7 (by simp)
          have e8:v 8=_:=hF 8 (by simp)
          have e9:v 9=_:=hF 9 (by simp)
          have e10:v 10=_:=hF 10 (by simp)
          have e16:v 16=_:=hF 16 (by simp)
          have e18:v 18=_:=hF 18 (by simp)
          obtain⟨a17,c17,e17,h17⟩:∃a c,v 17=_/\_:=hF 17 (by simp)
          simp only [List.drop_succ_cons,List.drop_zero,jf,Act.put,Nat.zero_add,Nat.reduceAdd,List.setIfInBounds_toArray,List.set_cons_zero,List.set_cons_succ]
          simp only [e17,e18]
          have HV5:=iH h17
          obtain⟨w5,rfl⟩:∃w5:World,w5=w1:=⟨_,rfl⟩
          have HBU5:=iH hJ
          have HB5:=iH (HBAU.out.trans (hJ.mono HBAU.out.size))
          obtain⟨qA,hqA⟩:∃vA,vA=a17:=⟨_,rfl⟩
          obtain⟨qc,hqc⟩:∃vc,vc=c17:=⟨_,rfl⟩
          rw [<-hqA,<-hqc]at HV5 |-
          have HSA:=iH (xD _ _ C9 sk _ _ w5 HV5.out (SKU.out.lift hJ))
          clear e0 e1 e2 e3 e6 e7 e8 e9 e10 e16 e17 e18 hqA hqc h17 hJ hF hc1 hc2
          by_cases hcc:C9=sk
          ·rw [decide_eq_true hcc]at HSA
           have R2:Hid (jr k1 k2 n ⟨m,ins,p1,p2,data,ex⟩=if ¬kD k1 N sc=0 then(kD k1 N sc,zC,[],[],0)
            else(0,⟨(m:Int) - 12,ins,p1,p2,qt k1 N sc,exW M⟩,k1,k2,n+1)):=iH (by rw [R1.out];simp only [hcc,not_true,if_false])
           clear hcc R1
           have hm1:=HM.out.1;have hm2:=HM.out.2
           go_upto_region 19 with (go_at_call 73;refine HSA.out.mono ?_;rintro e w6 ⟨rfl,nq,hw6⟩;have hb6:Below w5.heap.size w5 w6:=(by rw [hw6];exact j4 iB _);have HB56:=iH hb6;have HB6:=iH (HB5.out.trans (hb6.mono HB5.out.size));clear hw6 hb6)
           obtain⟨g0,g1,g2,g3,g4,g5⟩:=CC.out w6 HB6.out
           obtain⟨n0,n1,n2,n3,n4,n5,nf⟩:=j8 (x9 w6)
           have nf0:=nf 0;have nf1:=nf 1;have nf2:=nf 2;have nf3:=nf 3;have nf4:=nf 4;have nf5:=nf 5
           clear nf
           have hne:w.heap.size+1<w6.heap.size:=by have:=HZA.out;have:=HB6.out.size;omega
           go_upto_region 21 with fail
           clear g0 g1 g2 g3 g4 g5 n0 n1 n2 n3 n4 n5 nf0 nf1 nf2 nf3 nf4 nf5 hne
           obtain⟨wp,hwp⟩:∃wp,wp=w6.alloc (.cells #[.int .i64 ((m:Int) - 12),.int .i64 ins,.int .i64 p1,.int .i64 p2,.slice A3 data.length d3,.int .i64 (-1)] 32):=⟨_,rfl⟩
           rw [<-hwp]
           have hbp:Below w6.heap.size w6 wp:=by rw [hwp];exact iA
           have hrp:wp.heap[w6.heap.size]?=some (.cells #[.int .i64 ((m:Int) - 12),.int .i64 ins,.int .i64 p1,.int .i64 p2,.slice A3 data.length d3,.int .i64 (-1)] 32 (0,0)):=by rw [hwp];exact iN
           have hplt:=(iG hrp)
           have HUP:=iH (HBU5.out.trans ((HB56.out.trans (hbp.mono HB56.out.size)).mono HBU5.out.size))
           have HBP:=iH (HB6.out.trans (hbp.mono HB6.out.size))
           have H6P:=iH hbp
           obtain⟨D,hD⟩:∃D,qt k1 N sc=D:=⟨_,rfl⟩
           obtain⟨E,hE⟩:∃E,kD k1 N sc=E:=⟨_,rfl⟩
           rw [hD,hE]at R2
           have HDA:Hid (Calls Tryz.prog 74 #[.agg #[.slice A1 k1.length d1,.slice A2 k2.length d2,.int .i64 n],.slice zA N.length zc,.slice cA sc.length cc] wp (zg wp D E)):=iH (by
            rw [<-hD,<-hE]
            exact XN _ _ _ _ n k1 N sc LK1.out LN.out HVM.out wp (KU.out.lift HUP.out) (ZU.out.lift HUP.out) (SCU.out.lift HUP.out))
           have HRP:=iH hrp;have HPL2:=iH hplt
           clear hD hE hwp hbp hrp hplt
           obtain⟨f0,f1,f2⟩:=CS.out wp HBP.out
           go_upto_region 22 with (go_at_call 74;refine HDA.out.mono ?_;rintro e w7 ⟨v7,rfl,hv,hb⟩;obtain⟨vA,vc,hp⟩:=Bs.formL hv;subst hp;have HV7:=iH hv;have HP7:=iH hb;have hr7:=(hb.block _ HPL2.out).trans HRP.out;have HR7:=iH hr7;obtain⟨r0,r1,r2,r3,r4,r5,rf⟩:=j8 hr7;have rf4:=rf 4;clear rf hv hb hr7 f0 f1 f2)
           obtain⟨w8,hw8⟩:∃w8,w8=w7.setCell ⟨w6.heap.size,4,none⟩ (.slice vA D.length vc):=⟨_,rfl⟩
           rw [<-hw8]
           have RP8:Hid (w8.heap[w6.heap.size]?=some (.cells #[.int .i64 ((m:Int) - 12),.int .i64 ins,.int .i64 p1,.int .i64 p2,.slice vA D.length vc,.int .i64 (-1)] 32 (0,0))):=iH (by rw [hw8];exact jg (o:=4) HR7.out)
           have HB68:Hid (Below w6.heap.size w6 w8):=iH (by rw [hw8];exact(H6P.out.trans (HP7.out.mono H6P.out.size)).setCell iL _)
           have HB8:=iH (HB6.out.trans (HB68.out.mono HB6.out.size))
           have HU8:=iH (HBU5.out.trans ((HB56.out.trans (HB68.out.mono HB56.out.size)).mono HBU5.out.size))
           have HD8:Hid (BsS w8 (fun b=>b<w8.heap.size/\b≠w6.heap.size) (.slice vA D.length vc) D):=iH (by rw [hw8];exact BsS.keep (BsS.off HV7.out HR7.out ZB) fun b hs _=>⟨iO hs.2,by simpa using hs.1,hs.2⟩)
           clear hw8 r0 r1 r2 r3 r4 r5 rf4 hm1 hm2
           by_cases hE:E=0
           ·subst hE
            obtain⟨X9,hX9⟩:∃X,exW M=X:=⟨_,rfl⟩
            have R9:Hid (jr k1 k2 n ⟨m,ins,p1,p2,data,ex⟩=(0,⟨(m:Int) - 12,ins,p1,p2,D,X9⟩,k1,k2,n+1)):=iH (by rw [R2.out,<-hX9];exact iF (by simp))
            clear R2
            obtain⟨oM,hoM⟩:∃o,decide (0<dl)=o:=⟨_,rfl⟩
            have HOM:=iH hoM
            go_upto_if 133 with fail
            clear hoM
            go_cut [] from 131 to 154 (fun wx=>wx.heap[w6.heap.size]?=some (.cells #[.int .i64 ((m:Int) - 12),.int .i64 ins,.int .i64 p1,.int .i64 p2,.slice vA D.length vc,.int .i64 X9] 32 (0,0))/\w8.grownBy wx (some w6.heap.size))
            case first=>
             obtain⟨i0,i1,i2,i3,i4,i5,fi⟩:=j8 RP8.out
             have fi5:=fi 5
             clear fi
             by_cases hM0:M= []
             ·obtain rfl:oM=false:=by rw [<-HOM.out,<-HDL.out,hM0]<;>rfl
              have HX:Hid (X9= -1):=iH (by rw [<-hX9,hM0]<;>rfl)
              clear hX9 hM0
              go_wp2_with fail
              go_meet
              exact⟨by rw [HX.out];exact RP8.out,World.grownBy.refl _ _⟩
             ·have hdl1:(qe 151 M).len=1:=by rw [jZ hM0]<;>rfl
              obtain rfl:dl=1:=by rw [<-HDL.out];exact hdl1
              obtain rfl:oM=true:=by rw [<-HOM.out]<;>rfl
              have hlen:M.length=1\/M.length=2:=HMM2.out.resolve_left hM0
              obtain⟨db,dof,rfl,hdb,hat⟩:∃b o,dA=some ⟨b,o,none⟩/\b<wu.heap.size/\NsAt wu (·<wu.heap.size) (qe 151 M) b o:=by
               exact m2c
              rw [jZ hM0]at hat
              obtain⟨_,_,⟨x,q1,hx⟩,_,_⟩:=hat
              obtain⟨mA,mc,rfl⟩:=Bs.formL hx
              have hcap:(1:Nat)<=dc:=by obtain⟨_,_,e,h1,_⟩:=SDU.out;injection e with _ _ e3;subst e3;rw [hdl1]at h1;exact h1
              have q1:=(HU8.out.cell (p:=⟨db,dof+1,none⟩) hdb).trans q1
              have hne8:db≠w6.heap.size:=by have:=HBU5.out.size;have:=HB56.out.size;omega
              have HNB:=iH (Kg M _ _ w8 ((show Bs wu wu.heap.size (.slice mA M.length mc) M from hx).lift HU8.out))
              obtain⟨Z,hZ⟩:∃Z,JZ M=Z:=⟨_,rfl⟩
              have hl7:=YO hlen
              have hnq:xJ M=(Z,0):=by unfold xJ;rw [iF hl7,hZ]
              rw [hnq]at HNB
              have HXZ:Hid (X9=if Z=0 then(if M.length=1 then 256 else 65536)else Z):=iH (by rw [<-hX9];unfold exW;rw [iF hM0,hZ])
              have HLEN:=iH hlen
              obtain⟨l,hl⟩:∃l,M.length=l:=⟨_,rfl⟩
              rw [hl]at q1 HNB HXZ HLEN
              clear hM0 hnq hZ hX9 hlen hl hx hdl1 hdb hl7
              by_cases hz:Z=0
              ·subst hz
               rcases HLEN.out with rfl|rfl
               ·obtain rfl:X9=256:=HXZ.out
                go_wp2_with(go_at_call 75;refine iR HNB.out ?_)
                go_meet
                exact⟨jg (o:=5) (jg (o:=5) RP8.out),⟨rfl,rfl,rfl,by simp,fun b hb hne=>by rw [iO (by intro e;exact hne (congrArg some e)),iO (by intro e;exact hne (congrArg some e))]⟩⟩
               ·obtain rfl:X9=65536:=HXZ.out
                go_wp2_with(go_at_call 75;refine iR HNB.out ?_)
                go_meet
                exact⟨jg (o:=5) (jg (o:=5) (jg (o:=5) RP8.out)),⟨rfl,rfl,rfl,by simp,fun b hb hne=>by rw [iO (by intro e;exact hne (congrArg some e)),iO (by intro e;exact hne (congrArg some e)),iO (by intro e;exact hne (congrArg some e))]⟩⟩
              ·have tz:(Z==0)=false:=by simp [hz]
               have HX:Hid (X9=Z):=iH (by rw [HXZ.out,iF hz])
               go_wp2_with(go_at_call 75;refine iR HNB.out ?_)
               go_meet
               exact⟨by rw [HX.out];exact jg (o:=5) RP8.out,⟨rfl,rfl,rfl,by simp,fun b hb hne=>by rw [iO (by intro e;exact hne (congrArg some e))]⟩⟩
            case rest=>
             obtain⟨wx,rfl⟩:∃wx:World,wx=wc:=⟨_,rfl⟩
             have HRX:=iH hcut.1;have HGX:=iH hcut.2
             clear hcut hX9 HOM
             go_upto_region 30 with fail
             have h6x:Below w6.heap.size w6 wx:=HB68.out.trans (j9 HGX.out HB68.out.size iL)
             have hax:Below wa.heap.size wa wx:=HB6.out.trans (h6x.mono HB6.out.size)
             have hux:Below wu.heap.size wu wx:=HBU5.out.trans ((HB56.out.trans (h6x.mono HB56.out.size)).mono HBU5.out.size)
             obtain⟨wd,hwd⟩:∃wd,wd=wx.drew:=⟨_,rfl⟩
             have HWD:=iH hwd
             have RL4:Hid (wd.heap[w6.heap.size]?=some (.cells #[.int .i64 ((m:Int) - 12),.int .i64 ins,.int .i64 p1,.int .i64 p2,.slice vA D.length vc,.int .i64 X9] 32 (0,0))):=iH (by rw [hwd];exact HRX.out)
             have RU4:Hid (wd.heap[wn.heap.size]?=some (.cells #[.slice xA k1.length xc,.slice yA k2.length yc,.int .i64 (n+1)] 29 (0,0))):=iH (by rw [hwd];exact RU.out wx hux)
             have RR4:Hid (wd.heap[(w.heap.size+1+1)]?=some (.cells #[.int .i64 0,.int .i64 0,.int .i64 0,.int .i64 0,.slice none 0 0,.int .i64 0] 32 (0,0))):=iH (by rw [hwd];exact R2X.out wx hax)
             have RS4:Hid (wd.heap[(w.heap.size+1+1+1)]?=some (.cells #[.slice none 0 0,.slice none 0 0,.int .i64 0] 29 (0,0))):=iH (by rw [hwd];exact R3.out wx hax)
             have HB4:Hid (Below w.heap.size w wd):=iH (by rw [hwd];exact(HB.out.trans (hax.mono HB.out.size)).drew)
             have V4:Hid (Bs wd wd.heap.size (.slice vA D.length vc) D):=iH (by rw [hwd];exact BsS.keep HD8.out fun b hs hl=>⟨HGX.out.block b hl (by intro e;injection e with e;exact hs.2 e),iZ hl HGX.out.size⟩)
             have X4:Hid (Bs wd wd.heap.size (.slice xA k1.length xc) k1):=iH (by rw [hwd];exact XU.out.lift hux.drew)
             have Y4:Hid (Bs wd wd.heap.size (.slice yA k2.length yc) k2):=iH (by rw [hwd];exact YU.out.lift hux.drew)
             have NE2:Hid (w6.heap.size≠(w.heap.size+1+1)):=iH (by have:=HZA.out;have:=HB6.out.size;omega)
             have NE3:Hid (wn.heap.size≠(w.heap.size+1+1)):=iH (by have:=HZA.out;have:=HBN.out.size;omega)
             clear h6x hax hux hwd
             refine jc 3 [some 154,some 155,none] [[],[],[0]]
              (J6 wd (w.heap.size+1+1) 2 (.int .i64 ((m:Int) - 12)) (.int .i64 ins) (.int .i64 p1) (.int .i64 p2) (.slice vA D.length vc) (.int .i64 X9)) (fun _ _=>True)
              [fun v _=>v 0=.agg #[.int .i64 ((m:Int) - 12),.int .i64 ins,.int .i64 p1,.int .i64 p2,.slice vA D.length vc,.int .i64 X9],
               fun v _=>v 1=.agg #[.slice xA k1.length xc,.slice yA k2.length yc,.int .i64 (n+1)],
               fun v w1=>True]
              (by kernel_rfl) (by kernel_rfl) (fun _=>HWD.out.symm.trans (iF (by decide)).symm) ?st30 ?steps30 ?tail30
             case st30=>
              exact m02
             case steps30=>
              exact m0r
             case tail30=>
              intro v w1 hJ hF
              have e0:v 0=_:=hF 0 (by simp)
              have e1:v 1=_:=hF 1 (by simp)
              simp only [List.drop_succ_cons,List.drop_zero,jf,Act.put,Nat.zero_add,Nat.reduceAdd,List.setIfInBounds_toArray,List.set_cons_zero,List.set_cons_succ]
              simp only [e1]
              clear e0 e1 hF
              obtain rfl:=J6.all hJ rfl
              have RS5:Hid ((set6 wd (w.heap.size+1+1) (.int .i64 ((m:Int) - 12)) (.int .i64 ins) (.int .i64 p1) (.int .i64 p2) (.slice vA D.length vc) (.int .i64 X9)).heap[(w.heap.size+1+1+1)]?=some (.cells #[.slice none 0 0,.slice none 0 0,.int .i64 0] 29 (0,0))):=iH ((jQ (by omega)).trans RS4.out)
              obtain⟨s0,s1,s2,sf⟩:=j7 RS5.out
              have sf0:=sf 0;have sf1:=sf 1;have sf2:=sf 2;clear sf
              obtain⟨w5,hw5⟩:∃w5,w5=set6 wd (w.heap.size+1+1) (.int .i64 ((m:Int) - 12)) (.int .i64 ins) (.int .i64 p1) (.int .i64 p2) (.slice vA D.length vc) (.int .i64 X9):=⟨_,rfl⟩
              rw [<-hw5]at s0 s1 s2 sf0 sf1 sf2 |-
              have HW5:=iH hw5
              clear hw5 hJ
              go_wp2_with fail
              have q:=jq (W:=wd) RR4.out RS4.out (.int .i64 ((m:Int) - 12)) (.int .i64 ins) (.int .i64 p1) (.int .i64 p2) (.slice vA D.length vc) (.int .i64 X9) (.slice xA k1.length xc) (.slice yA k2.length yc) (.int .i64 (n+1))
              rw [<-HW5.out]at q
              obtain⟨q2,q3⟩:=q
              obtain⟨y0,y1,y2,y3,y4,y5,_⟩:=j8 q2
              obtain⟨x0,x1,x2,_⟩:=j7 q3
              refine bodyPost_ret (v:=.tuple #[.agg #[.int .i64 ((m:Int) - 12),.int .i64 ins,.int .i64 p1,.int .i64 p2,.slice vA D.length vc,.int .i64 X9],.agg #[.slice xA k1.length xc,.slice yA k2.length yc,.int .i64 (n+1)],.int .i64 0]) (by simp only [set3]at y0 y1 y2 y3 y4 y5 x0 x1 x2;simp [results,Tryz.results37,go_sem,y0,y1,y2,y3,y4,y5,x0,x1,x2]) rfl ?_
              rw [R9.out]
              have hk:=fun(v:Value) (L:List UInt8) (h:Bs wd wd.heap.size v L)=>JA (W:=wd) RR4.out RS4.out (.int .i64 ((m:Int) - 12)) (.int .i64 ins) (.int .i64 p1) (.int .i64 p2) (.slice vA D.length vc) (.int .i64 X9) (.slice xA k1.length xc) (.slice yA k2.length yc) (.int .i64 (n+1)) h
              rw [<-HW5.out]at hk
              have hbw:=jk (p:=(w.heap.size+1+1)) (a:=.int .i64 ((m:Int) - 12)) (b:=.int .i64 ins) (c:=.int .i64 p1) (d:=.int .i64 p2) (e:=.slice vA D.length vc) (f:=.int .i64 X9) (x:=.slice xA k1.length xc) (y:=.slice yA k2.length yc) (z:=.int .i64 (n+1)) HB4.out (by omega)
              exact mB
           ·have tE:(E != 0)=true:=by simpa using hE
            have R9:Hid (jr k1 k2 n ⟨m,ins,p1,p2,data,ex⟩=(E,zC,[],[],0)):=iH (by rw [R2.out];exact iT hE)
            clear hE R2
            have R2:=R2X
            go_upto_region 23 with fail
            obtain⟨r0,r1,r2,r3,r4,r5,rf⟩:=j8 (R2.out w8 HB8.out);have rf0:=rf 0;have rf1:=rf 1;have rf2:=rf 2;have rf3:=rf 3;have rf4:=rf 4;have rf5:=rf 5;clear rf;obtain⟨s0,s1,s2,sf⟩:=j7 (R3.out w8 HB8.out);have sf0:=sf 0;have sf1:=sf 1;have sf2:=sf 2;clear sf
            go_wp2_with fail
            obtain⟨q2,q3⟩:=jq (R2.out w8 HB8.out) (R3.out w8 HB8.out) (.int .i64 0) (.int .i64 0) (.int .i64 0) (.int .i64 0) (.slice none 0 0) (.int .i64 0) (.slice none 0 0) (.slice none 0 0) (.int .i64 0)
            obtain⟨y0,y1,y2,y3,y4,y5,_⟩:=j8 q2
            obtain⟨x0,x1,x2,_⟩:=j7 q3
            refine bodyPost_ret (v:=.tuple #[.agg #[.int .i64 0,.int .i64 0,.int .i64 0,.int .i64 0,.slice none 0 0,.int .i64 0],.agg #[.slice none 0 0,.slice none 0 0,.int .i64 0],.int .i64 E]) (by simp only [set6,set3]at y0 y1 y2 y3 y4 y5 x0 x1 x2;simp [results,Tryz.results37,go_sem,y0,y1,y2,y3,y4,y5,x0,x1,x2]) rfl ?_
            rw [R9.out]
            exact⟨_,_,rfl,⟨_,rfl,BsS.nil0 _ _⟩,⟨_,_,rfl,BsS.nil0 _ _,BsS.nil0 _ _⟩,jk (HB.out.trans (Below.mono HB8.out HB.out.size)) (by omega)⟩
          ·rw [decide_eq_false hcc]at HSA
           have R9:Hid (jr k1 k2 n ⟨m,ins,p1,p2,data,ex⟩=(20,zC,[],[],0)):=iH (by rw [R1.out];simp only [hcc,not_false_iff,if_true])
           clear hcc R1
           have R2:=R2X
           go_upto_region 18 with (go_at_call 73;refine HSA.out.mono ?_;rintro e w6 ⟨rfl,nq,hw6⟩;have HB6:Hid (Below wa.heap.size wa w6):=iH (HB5.out.trans ((by rw [hw6];exact j4 iB _:Below w5.heap.size w5 w6).mono HB5.out.size));clear hw6)
           obtain⟨r0,r1,r2,r3,r4,r5,rf⟩:=j8 (R2.out w6 HB6.out);have rf0:=rf 0;have rf1:=rf 1;have rf2:=rf 2;have rf3:=rf 3;have rf4:=rf 4;have rf5:=rf 5;clear rf;obtain⟨s0,s1,s2,sf⟩:=j7 (R3.out w6 HB6.out);have sf0:=sf 0;have sf1:=sf 1;have sf2:=sf 2;clear sf
           go_wp2_with fail
           obtain⟨q2,q3⟩:=jq (R2.out w6 HB6.out) (R3.out w6 HB6.out) (.int .i64 0) (.int .i64 0) (.int .i64 0) (.int .i64 0) (.slice none 0 0) (.int .i64 0) (.slice none 0 0) (.slice none 0 0) (.int .i64 0)
           obtain⟨y0,y1,y2,y3,y4,y5,_⟩:=j8 q2
           obtain⟨x0,x1,x2,_⟩:=j7 q3
           refine bodyPost_ret (v:=.tuple #[.agg #[.int .i64 0,.int .i64 0,.int .i64 0,.int .i64 0,.slice none 0 0,.int .i64 0],.agg #[.slice none 0 0,.slice none 0 0,.int .i64 0],.int .i64 20]) (by simp only [set6,set3]at y0 y1 y2 y3 y4 y5 x0 x1 x2;simp [results,Tryz.results37,go_sem,y0,y1,y2,y3,y4,y5,x0,x1,x2]) rfl ?_
           rw [R9.out]
           exact⟨_,_,rfl,⟨_,rfl,BsS.nil0 _ _⟩,⟨_,_,rfl,BsS.nil0 _ _,BsS.nil0 _ _⟩,jk (HB.out.trans (Below.mono HB6.out HB.out.size)) (by omega)⟩
    ·have a2:(((m / 4 % 4*4:Nat):Int) != 12)=true:=by simp;omega
     have R:Hid (jr k1 k2 n ⟨m,ins,p1,p2,data,ex⟩=(23,zC,[],[],0)):=iH (by unfold jr;rw [iF (by rw [HVS.out];simp),iF (by rw [HVC.out];simp),iF g3,iT (by simp only;omega)])
     obtain⟨z,hz⟩:∃z:Int,((m / 4 % 4*4:Nat):Int)=z:=⟨_,rfl⟩
     rw [hz]at a1 a2
     clear g1 hm hz g3
     go_enter Tryz.func37,Tryz.ntmps37
     go_upto_region 1 with fail
     rw [<-HWS.out,<-HWC.out,<-HW2.out,<-HW3.out]
     obtain⟨f0,f1,f2⟩:=CS.out wa iB
     go_upto_region 6 with (first
      |(go_at_call 29;have M1:=HBV;go_loud(refine(kt _ _ _ wv (HCV.out wv HBV.out)).mono ?_;rw [HVC.out];rintro e wc ⟨rfl,hb⟩;have hb2:=HBV.out.trans (hb.mono HBV.out.size);have HBC:=iH hb2;clear g0 g1 g2 g3 g4 g5;obtain⟨g0,g1,g2,g3,g4,g5⟩:=CC.out wc hb2;clear f0 f1 f2;obtain⟨f0,f1,f2⟩:=CS.out wc hb2;clear hb hb2))
      |(go_at_call 28;refine(jt _ k1 k2 n _ wa HSV.out).mono ?_;rw [HVS.out];rintro e wv ⟨rfl,hb⟩;have HBV:=iH hb;obtain⟨g0,g1,g2,g3,g4,g5⟩:=CC.out wv hb;clear hb))
     clear f0 f1 f2 g0 g1 g2 g3 g4 g5
     obtain⟨r0,r1,r2,r3,r4,r5,rf⟩:=j8 (R2.out wc HBC.out);have rf0:=rf 0;have rf1:=rf 1;have rf2:=rf 2;have rf3:=rf 3;have rf4:=rf 4;have rf5:=rf 5;clear rf;obtain⟨s0,s1,s2,sf⟩:=j7 (R3.out wc HBC.out);have sf0:=sf 0;have sf1:=sf 1;have sf2:=sf 2;clear sf
     go_wp2_with fail
     obtain⟨q2,q3⟩:=jq (R2.out wc HBC.out) (R3.out wc HBC.out) (.int .i64 0) (.int .i64 0) (.int .i64 0) (.int .i64 0) (.slice none 0 0) (.int .i64 0) (.slice none 0 0) (.slice none 0 0) (.int .i64 0)
     obtain⟨y0,y1,y2,y3,y4,y5,_⟩:=j8 q2
     obtain⟨x0,x1,x2,_⟩:=j7 q3
     refine bodyPost_ret (v:=.tuple #[.agg #[.int .i64 0,.int .i64 0,.int .i64 0,.int .i64 0,.slice none 0 0,.int .i64 0],.agg #[.slice none 0 0,.slice none 0 0,.int .i64 0],.int .i64 23]) (by simp only [set6,set3]at y0 y1 y2 y3 y4 y5 x0 x1 x2;simp [results,Tryz.results37,go_sem,y0,y1,y2,y3,y4,y5,x0,x1,x2]) rfl ?_
     rw [R.out]
     exact⟨_,_,rfl,⟨_,rfl,BsS.nil0 _ _⟩,⟨_,_,rfl,BsS.nil0 _ _,BsS.nil0 _ _⟩,jk (HB.out.trans (Below.mono HBC.out HB.out.size)) (by omega)⟩
  ·have HVC:Hid (vC ⟨cl,ins,p1,p2,data,ex⟩=false):=iH (by simpa using v2)
   have R:Hid (jr k1 k2 n ⟨cl,ins,p1,p2,data,ex⟩=(14,zC,[],[],0)):=iH (by unfold jr;rw [iF (by rw [v1];simp),iT HVC.out])
   clear v1 v2
   go_enter Tryz.func37,Tryz.ntmps37
   go_upto_region 1 with fail
   rw [<-HWS.out,<-HWC.out,<-HW2.out,<-HW3.out]
   obtain⟨f0,f1,f2⟩:=CS.out wa iB
   go_upto_region 2 with (first
    |(go_at_call 29;have M1:=HBV;go_loud(refine(kt _ _ _ wv (HCV.out wv HBV.out)).mono ?_;rw [HVC.out];rintro e wc ⟨rfl,hb⟩;have hb2:=HBV.out.trans (hb.mono HBV.out.size);have HBC:=iH hb2;clear g0 g1 g2 g3 g4 g5;obtain⟨g0,g1,g2,g3,g4,g5⟩:=CC.out wc hb2;clear f0 f1 f2;obtain⟨f0,f1,f2⟩:=CS.out wc hb2;clear hb hb2))
    |(go_at_call 28;refine(jt _ k1 k2 n _ wa HSV.out).mono ?_;rw [HVS.out];rintro e wv ⟨rfl,hb⟩;have HBV:=iH hb;obtain⟨g0,g1,g2,g3,g4,g5⟩:=CC.out wv hb;clear hb))
   clear f0 f1 f2 g0 g1 g2 g3 g4 g5
   obtain⟨r0,r1,r2,r3,r4,r5,rf⟩:=j8 (R2.out wc HBC.out);have rf0:=rf 0;have rf1:=rf 1;have rf2:=rf 2;have rf3:=rf 3;have rf4:=rf 4;have rf5:=rf 5;clear rf;obtain⟨s0,s1,s2,sf⟩:=j7 (R3.out wc HBC.out);have sf0:=sf 0;have sf1:=sf 1;have sf2:=sf 2;clear sf
   go_wp2_with fail
   obtain⟨q2,q3⟩:=jq (R2.out wc HBC.out) (R3.out wc HBC.out) (.int .i64 0) (.int .i64 0) (.int .i64 0) (.int .i64 0) (.slice none 0 0) (.int .i64 0) (.slice none 0 0) (.slice none 0 0) (.int .i64 0)
   obtain⟨y0,y1,y2,y3,y4,y5,_⟩:=j8 q2
   obtain⟨x0,x1,x2,_⟩:=j7 q3
   refine bodyPost_ret (v:=.tuple #[.agg #[.int .i64 0,.int .i64 0,.int .i64 0,.int .i64 0,.slice none 0 0,.int .i64 0],.agg #[.slice none 0 0,.slice none 0 0,.int .i64 0],.int .i64 14]) (by simp only [set6,set3]at y0 y1 y2 y3 y4 y5 x0 x1 x2;simp [results,Tryz.results37,go_sem,y0,y1,y2,y3,y4,y5,x0,x1,x2]) rfl ?_
   exact mr
 ·have HVS:Hid (vS k1 k2 n=false):=iH (by simpa using v1)
  have R:Hid (jr k1 k2 n ⟨cl,ins,p1,p2,data,ex⟩=(14,zC,[],[],0)):=iH (by unfold jr;rw [iT HVS.out])
  clear v1
  go_enter Tryz.func37,Tryz.ntmps37
  go_upto_region 1 with fail
  rw [<-HWS.out,<-HWC.out,<-HW2.out,<-HW3.out]
  obtain⟨f0,f1,f2⟩:=CS.out wa iB
  go_upto_region 2 with (go_at_call 28;refine(jt _ k1 k2 n _ wa HSV.out).mono ?_;rw [HVS.out];rintro e wv ⟨rfl,hb⟩;have HBV:=iH hb;obtain⟨g0,g1,g2,g3,g4,g5⟩:=CC.out wv hb;clear hb)
  clear f0 f1 f2 g0 g1 g2 g3 g4 g5
  obtain⟨r0,r1,r2,r3,r4,r5,rf⟩:=j8 (R2.out wv HBV.out);have rf0:=rf 0;have rf1:=rf 1;have rf2:=rf 2;have rf3:=rf 3;have rf4:=rf 4;have rf5:=rf 5;clear rf;obtain⟨s0,s1,s2,sf⟩:=j7 (R3.out wv HBV.out);have sf0:=sf 0;have sf1:=sf 1;have sf2:=sf 2;clear sf
  go_wp2_with fail
  obtain⟨q2,q3⟩:=jq (R2.out wv HBV.out) (R3.out wv HBV.out) (.int .i64 0) (.int .i64 0) (.int .i64 0) (.int .i64 0) (.slice none 0 0) (.int .i64 0) (.slice none 0 0) (.slice none 0 0) (.int .i64 0)
  obtain⟨y0,y1,y2,y3,y4,y5,_⟩:=j8 q2
  obtain⟨x0,x1,x2,_⟩:=j7 q3
  refine bodyPost_ret (v:=.tuple #[.agg #[.int .i64 0,.int .i64 0,.int .i64 0,.int .i64 0,.slice none 0 0,.int .i64 0],.agg #[.slice none 0 0,.slice none 0 0,.int .i64 0],.int .i64 14]) (by simp only [set6,set3]at y0 y1 y2 y3 y4 y5 x0 x1 x2;simp [results,Tryz.results37,go_sem,y0,y1,y2,y3,y4,y5,x0,x1,x2]) rfl ?_
  exact mV
end Go.Proofs.YtadndhgebgjlaaaGreat
