import Derived.Test.YtadndhgebgjlaaaGreatPBs
import Derived.Test.YtadndhgebgjlaaaGreatPBr
import Derived.Test.YtadndhgebgjlaaaGreatPBo
import Derived.Test.YtadndhgebgjlaaaGreatPBt
set_option linter.all false
set_option maxRecDepth 100000
set_option maxHeartbeats 40000000
namespace Go.Proofs.YtadndhgebgjlaaaGreat
open Go.RowKit Go.Deep
theorem Vd{M:List UInt8}(h:M.length=2){st:Int}(h0:0<=st)(h1:st<=65535):JL M=st↔zu st=M:=by
 obtain⟨a,b,rfl⟩:∃a b,M= [a,b]:=by
  rcases M with _|⟨a,_|⟨b,_|⟨c,M⟩⟩⟩
  ·simp at h
  ·simp at h
  ·exact⟨a,b,rfl⟩
  ·simp at h
 have e2:JL [a,b]=256*(256*0+bv a)+bv b:=rfl
 rw [e2]
 have a0:=jP a;have a1:=jT a;have b0:=jP b;have b1:=jT b
 unfold zu
 constructor
 ·intro e
  have x1:ofI (st / 256)=a:=qV (by rw [kT];omega)
  have x2:ofI st=b:=qV (by rw [kT];omega)
  rw [x1,x2]
 ·intro e
  simp only [List.cons.injEq,and_true]at e
  obtain⟨e1,e2⟩:=e
  rw [<-e1,<-e2,kT,kT]
  omega
theorem Vz(vs vc:Value)(k1 k2:List UInt8)(n:Int)(d:List UInt8)(st:Int)(w:World)(hs:qa w (·<w.heap.size) vs k1 k2 n)(hc:Kr w (·<w.heap.size) vc d st):
 Calls Tryz.prog 42 #[vs,vc] w (Zy (kj k1 k2 n d st) w):=by
 obtain⟨A1,d1,A2,d2,A3,d3,ws,wq,w2,wa,rfl,rfl,R2,R3,CS,CC,RC,HZA,HB,HWS,HWC,HW2,HW3,H1,H2,H3,HSV,HCV⟩:=j5t hs hc
 clear hs hc
 by_cases v1:vS k1 k2 n=true
 ·have HVS:=iH v1
  by_cases v2:vR d st=true
  ·have HVC:=iH v2
   have VS:=iH (of_decide_eq_true v1)
   have VC:=iH (of_decide_eq_true v2)
   clear v1 v2
   by_cases g3:n=1099511627776
   ·have t3:(n==1099511627776)=true:=by simp [g3]
    have R:Hid (kj k1 k2 n d st=(3,[],0,[],[],0)):=iH (by unfold kj;rw [iF (by rw [HVS.out];simp),iF (by rw [HVC.out];simp),iT g3])
    clear g3
    go_enter Tryz.func42,Tryz.ntmps42
    go_upto_region 1 with fail
    rw [<-HWS.out,<-HWC.out,<-HW2.out,<-HW3.out]
    obtain⟨f0,f1,f2⟩:=CS.out wa iB
    go_upto_region 4 with (first
     |(go_at_call 44;have M1:=HBV;go_loud(refine(xg _ d st wv (HCV.out wv HBV.out)).mono ?_;rw [HVC.out];rintro e wc ⟨rfl,hb⟩;have hb2:=HBV.out.trans (hb.mono HBV.out.size);have HBC:=iH hb2;clear g0 g1;obtain⟨g0,g1⟩:=CC.out wc hb2;clear f0 f1 f2;obtain⟨f0,f1,f2⟩:=CS.out wc hb2;clear hb hb2))
     |(go_at_call 28;refine(js _ k1 k2 n _ wa HSV.out).mono ?_;rw [HVS.out];rintro e wv ⟨rfl,hb⟩;have HBV:=iH hb;obtain⟨g0,g1⟩:=CC.out wv hb;clear hb))
    clear f0 f1 f2 g0 g1
    obtain⟨r0,r1,rf⟩:=jd (R2.out wc HBC.out);have rf0:=rf 0;have rf1:=rf 1;clear rf;obtain⟨s0,s1,s2,sf⟩:=j7 (R3.out wc HBC.out);have sf0:=sf 0;have sf1:=sf 1;have sf2:=sf 2;clear sf
    go_wp2_with fail
    obtain⟨q2,q3⟩:=jm (R2.out wc HBC.out) (R3.out wc HBC.out) (.slice none 0 0) (.int .i64 0) (.slice none 0 0) (.slice none 0 0) (.int .i64 0)
    obtain⟨y0,y1,_⟩:=jd q2
    obtain⟨x0,x1,x2,_⟩:=j7 q3
    refine bodyPost_ret (v:=.tuple #[.agg #[.slice none 0 0,.int .i64 0],.agg #[.slice none 0 0,.slice none 0 0,.int .i64 0],.int .i64 3]) (by simp only [qm,set3]at y0 y1 x0 x1 x2;simp [results,Tryz.results42,go_sem,y0,y1,x0,x1,x2]) rfl ?_
    rw [R.out]
    exact⟨_,_,rfl,⟨_,rfl,BsS.nil0 _ _⟩,⟨_,_,rfl,BsS.nil0 _ _,BsS.nil0 _ _⟩,ji (HB.out.trans (Below.mono HBC.out HB.out.size)) (by omega)⟩
   ·have t3:(n==1099511627776)=false:=by simpa using g3
    have LK1:Hid (k1.length=16):=iH VS.out.1
    have LK2:Hid (k2.length=16):=iH VS.out.2.1
    have LD:Hid (d.length<=4096):=iH VC.out.1
    have ST0:Hid (0<=st):=iH VC.out.2.1
    have ST1:Hid (st<=65535):=iH VC.out.2.2
    obtain⟨N,hN⟩:∃N,J3 (n+1)=N:=⟨_,rfl⟩
    have LN:Hid (N.length=16):=iH (by rw [<-hN]<;>rfl)
    have HNX:Hid (∀(va vb:Value) (w:World),Bs w w.heap.size va k1->Bs w w.heap.size vb k2->Calls Tryz.prog 30 #[.agg #[va,vb,.int .i64 n]] w fun e w'=>∃x y z,e=.returned (.tuple #[.agg #[x,y,.int .i64 (n+1)],z])/\Bs w' w'.heap.size x k1/\Bs w' w'.heap.size y k2/\Bs w' w'.heap.size z N/\Below w.heap.size w w'):=iH (fun va vb w h1 h2=>by rw [<-hN];exact yl va vb k1 k2 VS.out.1 VS.out.2.1 n VS.out.2.2.1 (by have:=VS.out.2.2.2;omega) w h1 h2)
    have R0:Hid (∀rr,kU [142,153] (qS 153 2 true) d=rr->kj k1 k2 n d st=j47 k1 k2 N n st rr):=iH (fun rr hrr=>by subst hN;subst hrr;unfold kj;rw [iF (by rw [HVS.out];simp),iF (by rw [HVC.out];simp),iF g3])
    clear hN g3
    go_enter Tryz.func42,Tryz.ntmps42
    go_upto_region 1 with fail
    rw [<-HWS.out,<-HWC.out,<-HW2.out,<-HW3.out]
    obtain⟨f0,f1,f2⟩:=CS.out wa iB
    go_upto_region 5 with (first
     |(go_at_call 44;have M1:=HBV;go_loud(refine(xg _ d st wv (HCV.out wv HBV.out)).mono ?_;rw [HVC.out];rintro e wc ⟨rfl,hb⟩;have hb2:=HBV.out.trans (hb.mono HBV.out.size);have HBC:=iH hb2;clear g0 g1;obtain⟨g0,g1⟩:=CC.out wc hb2;clear f0 f1 f2;obtain⟨f0,f1,f2⟩:=CS.out wc hb2;clear hb hb2))
     |(go_at_call 28;refine(js _ k1 k2 n _ wa HSV.out).mono ?_;rw [HVS.out];rintro e wv ⟨rfl,hb⟩;have HBV:=iH hb;obtain⟨g0,g1⟩:=CC.out wv hb;clear hb))
    clear f0 f1 f2 t3
    have HPA:=iH (KJ d (.slice A3 d.length d3) true wc (H3.out.lift HBC.out))
    cases hpp:jO d true with
    |error er=>
     have R:Hid (kj k1 k2 n d st=(1,[],0,[],[],0)):=iH (R0.out _ (JN hpp))
     have tne:(er != 0)=true:=by simpa using zE hpp
     rw [hpp]at HPA
     clear hpp
     go_upto_region 7 with (go_at_call 45;refine HPA.out.mono ?_;intro e wl h;obtain⟨la,lc,rfl,hb⟩:=h.err;have HBL:=iH (HBC.out.trans (hb.mono HBC.out.size));clear hb h g0 g1)
     obtain⟨r0,r1,rf⟩:=jd (R2.out wl HBL.out);have rf0:=rf 0;have rf1:=rf 1;clear rf;obtain⟨s0,s1,s2,sf⟩:=j7 (R3.out wl HBL.out);have sf0:=sf 0;have sf1:=sf 1;have sf2:=sf 2;clear sf
     go_wp2_with fail
     obtain⟨q2,q3⟩:=jm (R2.out wl HBL.out) (R3.out wl HBL.out) (.slice none 0 0) (.int .i64 0) (.slice none 0 0) (.slice none 0 0) (.int .i64 0)
     obtain⟨y0,y1,_⟩:=jd q2
     obtain⟨x0,x1,x2,_⟩:=j7 q3
     refine bodyPost_ret (v:=.tuple #[.agg #[.slice none 0 0,.int .i64 0],.agg #[.slice none 0 0,.slice none 0 0,.int .i64 0],.int .i64 1]) (by simp only [qm,set3]at y0 y1 x0 x1 x2;simp [results,Tryz.results42,go_sem,y0,y1,x0,x1,x2]) rfl ?_
     rw [R.out]
     exact⟨_,_,rfl,⟨_,rfl,BsS.nil0 _ _⟩,⟨_,_,rfl,BsS.nil0 _ _,BsS.nil0 _ _⟩,ji (HB.out.trans (Below.mono HBL.out HB.out.size)) (by omega)⟩
    |ok L=>
     rw [hpp]at HPA
     have HPP:=iH hpp
     have hll:L.len<=256:=Nat.le_trans (Ns.len_all L) (kR hpp).2.2.1
     clear hpp
     go_upto_region 8 with (go_at_call 45;refine HPA.out.mono ?_;intro e wl h;obtain⟨la,lc,rfl,hn,hb⟩:=h.got;have HNL:=iH (hn.keep (w':=wl) (S':=(·<wl.heap.size)) fun b hs _=>⟨rfl,hs.2⟩);have HBL:=iH (HBC.out.trans (hb.mono HBC.out.size));clear hb hn h g0 g1)
     have HFG:=iH (fun g=>KI L (.slice la L.len lc) (·<wl.heap.size) g wl HNL.out (by omega))
     have hfp:=yG 142 L 0 (by omega)
     have hfp2:=yG 153 L 0 (by omega)
     obtain⟨fi,hfi⟩:∃z,zB L 142 0=z:=⟨_,rfl⟩
     obtain⟨fj,hfj⟩:∃z,zB L 153 0=z:=⟨_,rfl⟩
     rw [hfi]at hfp
     rw [hfj]at hfp2
     have HF1:=iH hfi;have HF2:=iH hfj
     clear hfi hfj
     cases hok:(L.pick 142).isSome with
     |false=>
      rw [hok]at hfp
      have tf:decide (fi<0)=true:=by have:=of_decide_eq_false hfp.symm;exact decide_eq_true (by omega)
      have R:Hid (kj k1 k2 n d st=(16,[],0,[],[],0)):=iH (R0.out _ (z9 HPP.out (by simp [hok])))
      clear hfp hfp2 hok
      go_upto_region 9 with (go_at_call 70;refine(HFG.out _).mono ?_;rintro e w' ⟨rfl,hw'⟩;rw [hw'];clear hw' w';first|rw [HF1.out]|rw [HF2.out])
      obtain⟨r0,r1,rf⟩:=jd (R2.out wl HBL.out);have rf0:=rf 0;have rf1:=rf 1;clear rf;obtain⟨s0,s1,s2,sf⟩:=j7 (R3.out wl HBL.out);have sf0:=sf 0;have sf1:=sf 1;have sf2:=sf 2;clear sf
      go_wp2_with fail
      obtain⟨q2,q3⟩:=jm (R2.out wl HBL.out) (R3.out wl HBL.out) (.slice none 0 0) (.int .i64 0) (.slice none 0 0) (.slice none 0 0) (.int .i64 0)
      obtain⟨y0,y1,_⟩:=jd q2
      obtain⟨x0,x1,x2,_⟩:=j7 q3
      refine bodyPost_ret (v:=.tuple #[.agg #[.slice none 0 0,.int .i64 0],.agg #[.slice none 0 0,.slice none 0 0,.int .i64 0],.int .i64 16]) (by simp only [qm,set3]at y0 y1 x0 x1 x2;simp [results,Tryz.results42,go_sem,y0,y1,x0,x1,x2]) rfl ?_
      rw [R.out]
      exact⟨_,_,rfl,⟨_,rfl,BsS.nil0 _ _⟩,⟨_,_,rfl,BsS.nil0 _ _,BsS.nil0 _ _⟩,ji (HB.out.trans (Below.mono HBL.out HB.out.size)) (by omega)⟩
     |true=>
      rw [hok]at hfp
      have tf:decide (fi<0)=false:=by have:=of_decide_eq_true hfp.symm;exact decide_eq_false (by omega)
      cases hok2:(L.pick 153).isSome with
      |false=>
       rw [hok2]at hfp2
       have tf2:decide (fj<0)=true:=by have:=of_decide_eq_false hfp2.symm;exact decide_eq_true (by omega)
       have R:Hid (kj k1 k2 n d st=(16,[],0,[],[],0)):=iH (R0.out _ (z9 HPP.out (by simp [hok,hok2])))
       clear hfp hfp2 hok hok2
       go_upto_region 9 with (go_at_call 70;refine(HFG.out _).mono ?_;rintro e w' ⟨rfl,hw'⟩;rw [hw'];clear hw' w';first|rw [HF1.out]|rw [HF2.out])
       obtain⟨r0,r1,rf⟩:=jd (R2.out wl HBL.out);have rf0:=rf 0;have rf1:=rf 1;clear rf;obtain⟨s0,s1,s2,sf⟩:=j7 (R3.out wl HBL.out);have sf0:=sf 0;have sf1:=sf 1;have sf2:=sf 2;clear sf
       go_wp2_with fail
       obtain⟨q2,q3⟩:=jm (R2.out wl HBL.out) (R3.out wl HBL.out) (.slice none 0 0) (.int .i64 0) (.slice none 0 0) (.slice none 0 0) (.int .i64 0)
       obtain⟨y0,y1,_⟩:=jd q2
       obtain⟨x0,x1,x2,_⟩:=j7 q3
       refine bodyPost_ret (v:=.tuple #[.agg #[.slice none 0 0,.int .i64 0],.agg #[.slice none 0 0,.slice none 0 0,.int .i64 0],.int .i64 16]) (by simp only [qm,set3]at y0 y1 x0 x1 x2;simp [results,Tryz.results42,go_sem,y0,y1,x0,x1,x2]) rfl ?_
       rw [R.out]
       exact⟨_,_,rfl,⟨_,rfl,BsS.nil0 _ _⟩,⟨_,_,rfl,BsS.nil0 _ _,BsS.nil0 _ _⟩,ji (HB.out.trans (Below.mono HBL.out HB.out.size)) (by omega)⟩
      |true=>
       rw [hok2]at hfp2
       have tf2:decide (fj<0)=false:=by have:=of_decide_eq_true hfp2.symm;exact decide_eq_false (by omega)
       obtain⟨mm,hmm⟩:=Xq hok
       have HAL:Hid (([142,153].all fun t=>(L.pick t).isSome)=true):=iH (by simp [hok,hok2])
       have HSP:=iH (XA L 153 mm hmm (by omega) (.slice la L.len lc) wl HNL.out)
       obtain⟨⟨sc,sm,sk,so⟩,hsp⟩:∃x,jy 153 L=x:=⟨_,rfl⟩
       have HSE:=iH hsp
       have hmid:=XB 153 L
       rw [hsp]at HSP hmid
       simp only at hmid HSP
       have HMI:=iH hmid;have HMM:=iH hmm
       rw [hmm]at HNL HSP HFG |-
       have hmm2:mm<=255:=by omega
       have HML:=iH hmm2
       clear hmm2
       clear hfp hfp2 hok hok2 hsp hmid hmm hll
       go_upto_region 11 with (first
        |(go_at_call 71;refine HSP.out.mono ?_;rintro e w2 ⟨c,d,k,rfl,hc,hd,hk,hb⟩;obtain⟨cA,cc,hp⟩:=Bs.formL hc;subst hp;obtain⟨dA,dc,hp⟩:=hd.form3;subst hp;obtain⟨kA,kc,hp⟩:=Bs.formL hk;subst hp;have SC2:=iH hc;have SD2:=iH hd;have SK2:=iH hk;have HB2L:=iH hb;have HB2:=iH (HBL.out.trans (hb.mono HBL.out.size));clear hc hd hk hb)
        |(go_at_call 70;refine(HFG.out _).mono ?_;rintro e w' ⟨rfl,hw'⟩;rw [hw'];clear hw' w';first|rw [HF1.out]|rw [HF2.out]))
       obtain⟨dl,hdl⟩:∃l,sm.len=l:=⟨_,rfl⟩
       rw [hdl]at SD2 |-
       have HDL:=iH hdl
       clear hdl
       obtain⟨gq,hgq⟩:∃b,(so&&XO 153 2 true sm)=b:=⟨_,rfl⟩
       have HGQ:=iH hgq
       clear hgq tf tf2
       go_cut [75] from 62 to 76 (fun y wx=>y=.bool (!gq)/\Below w2.heap.size w2 wx)
       case first=>
        cases so with
        |false=>
         obtain rfl:gq=false:=by rw [<-HGQ.out]<;>rfl
         go_wp2_with fail
         go_meet
         exact⟨rfl,Below.refl _ _⟩
        |true=>
         have HGQ2:Hid (XO 153 2 true sm=gq):=HGQ
         rcases HMI.out with rfl|⟨t,v,k,rfl⟩
         ·obtain rfl:gq=false:=by rw [<-HGQ2.out]<;>rfl
          obtain rfl:dl=0:=HDL.out.symm
          go_wp2_with fail
          go_meet
          exact⟨rfl,Below.refl _ _⟩
         ·obtain rfl:dl=1:=HDL.out.symm
          obtain⟨db,dof,rfl,hdl,hat⟩:∃b o,dA=some ⟨b,o,none⟩/\b<w2.heap.size/\NsAt w2 (·<wl.heap.size) (.cons t v k .nil) b o:=by
           obtain⟨_,_,e,_,_,_,h4⟩:=SD2.out
           injection e with e1 _ e3
           subst e1 e3
           obtain⟨b,o,h1,_,h2,h3⟩:=h4 (by simp [Ns.len])
           exact⟨b,o,h1,h2,h3⟩
          obtain⟨q0,_,⟨x,q1,hx⟩,⟨kA',kc',q2,_⟩,_⟩:=hat
          obtain⟨xA,xc,rfl⟩:=Bs.formL hx
          have hcap:(1:Nat)<=dc:=by obtain⟨_,_,e,h1,_⟩:=SD2.out;injection e with _ _ e3;subst e3;exact h1
          have QC:Hid (∀W,Below w2.heap.size w2 W->W.cell? ⟨db,dof,none⟩=some (.int .i64 t)/\W.cell? ⟨db,dof+1,none⟩=some (.slice xA v.length xc)/\W.cell? ⟨db,dof+2,none⟩=some (.slice kA' k.len kc')):=iH fun W h=>⟨(h.cell (p:=⟨db,dof,none⟩) hdl).trans q0,(h.cell (p:=⟨db,dof+1,none⟩) hdl).trans q1,(h.cell (p:=⟨db,dof+2,none⟩) hdl).trans q2⟩
          have e2:(decide (t=153)&&(decide (k.len=0)&&(decide ((2:Int)<0)||decide ((v.length:Int)=2))))=kX (t,v,k) 153 2:=yj (t,v,k) 153 2
          have P1:=xe t 153 2 xA kA' v.length xc k.len kc' w2
          rw [e2]at P1
          have HMQ:kX (t,v,k) 153 2=gq:=by
           rw [<-HGQ2.out]
           unfold XO kX
           simp only
           rw [Bool.eq_iff_iff]
           simp only [Bool.and_eq_true,decide_eq_true_eq]
           omega
          rw [HMQ]at P1
          have P1:=iH P1
          clear q0 q1 q2 hx hdl e2 HMQ
          obtain⟨q0,q1,q2⟩:=QC.out w2 iB
          go_wp2_with(go_at_call 72;refine P1.out.mono ?_;rintro e w3 ⟨rfl,hb⟩;have HB3:=iH hb;clear hb q0 q1 q2)
          go_meet
          exact⟨rfl,HB3.out⟩
       case rest=>
        obtain⟨rfl,hbx⟩:=hcut
        obtain⟨w4,rfl⟩:∃w4:World,w4=wc:=⟨_,rfl⟩
        have HB4L:=iH (HB2L.out.trans (hbx.mono HB2L.out.size))
        have HB4:=iH (HB2.out.trans (hbx.mono HB2.out.size))
        have SC4:Hid (Bs w4 w4.heap.size (.slice cA sc.length cc) sc):=iH (BsS.keep SC2.out (w':=w4) (S':=(·<w4.heap.size)) fun b hs hl=>⟨hbx.block b hl,iZ hs HB4L.out.size⟩)
        have SD4:=iH (SD2.out.keep (w':=w4) (S':=(·<w4.heap.size)) fun b hs hl=>⟨hbx.block b hl,iZ hs HB4L.out.size⟩)
        have SK4:Hid (Bs w4 w4.heap.size (.slice kA sk.length kc) sk):=iH (BsS.keep SK2.out (w':=w4) (S':=(·<w4.heap.size)) fun b hs hl=>⟨hbx.block b hl,iZ hs HB4L.out.size⟩)
        have HN4:=iH (HNL.out.keep (w':=w4) (S':=(·<w4.heap.size)) fun b hs _=>⟨HB4L.out.block b hs,iZ hs HB4L.out.size⟩)
        clear hbx
        cases gq with
        |false=>
         have R:Hid (kj k1 k2 n d st=(1,[],0,[],[],0)):=iH (R0.out _ (Y6 (tg:=153) (lo:=2) (mu:=true) (by decide) (by decide) (by decide) (by decide) HPP.out HAL.out (by rw [HSE.out];exact HGQ.out)))
         go_upto_region 12 with fail
         obtain⟨r0,r1,rf⟩:=jd (R2.out w4 HB4.out);have rf0:=rf 0;have rf1:=rf 1;clear rf;obtain⟨s0,s1,s2,sf⟩:=j7 (R3.out w4 HB4.out);have sf0:=sf 0;have sf1:=sf 1;have sf2:=sf 2;clear sf
         go_wp2_with fail
         obtain⟨q2,q3⟩:=jm (R2.out w4 HB4.out) (R3.out w4 HB4.out) (.slice none 0 0) (.int .i64 0) (.slice none 0 0) (.slice none 0 0) (.int .i64 0)
         obtain⟨y0,y1,_⟩:=jd q2
         obtain⟨x0,x1,x2,_⟩:=j7 q3
         refine bodyPost_ret (v:=.tuple #[.agg #[.slice none 0 0,.int .i64 0],.agg #[.slice none 0 0,.slice none 0 0,.int .i64 0],.int .i64 1]) (by simp only [qm,set3]at y0 y1 x0 x1 x2;simp [results,Tryz.results42,go_sem,y0,y1,x0,x1,x2]) rfl ?_
         rw [R.out]
         exact⟨_,_,rfl,⟨_,rfl,BsS.nil0 _ _⟩,⟨_,_,rfl,BsS.nil0 _ _,BsS.nil0 _ _⟩,ji (HB.out.trans (Below.mono HB4.out HB.out.size)) (by omega)⟩
        |true=>
         obtain⟨V,M,C,hsh,hsp,hob⟩:=Xk (tg:=153) (lo:=2) (mu:=true) (ts:=[142,153]) (by decide) (by decide) (by decide) (by decide) HPP.out HAL.out (by rw [HSE.out];exact HGQ.out)
         rw [HSE.out]at hsp
         simp only [Prod.mk.injEq]at hsp
         obtain⟨hsc,rfl,rfl,rfl⟩:=hsp
         have R1:Hid (kj k1 k2 n d st=if ¬kr k2 N [] (L.takeN (L.len - 1)).enc=sk then(20,[],0,[],[],0)
          else if ¬zu st=M then(23,[],0,[],[],0)
          else if ¬kt k1 N sc=0 then(kt k1 N sc,[],0,[],[],0)
          else(0,qk k1 N sc,st,k1,k2,n+1)):=iH (by rw [hsc];exact R0.out _ hob)
         obtain⟨V2,M2,C2,LL,hus,_,_,heP,haP,hlP,_⟩:=Qg (tg:=153) (lo:=2) (mu:=true) (by decide) (by decide) (by decide) (by decide) (by decide) hob
         have HVM:Hid (sc.length % 16=0):=iH (by
          rw [hsc]
          rcases hsh.v with h|h
          ·rw [h]<;>rfl
          ·have:=qv h.1;rw [List.length_drop];omega)
         have HM2:Hid (M.length=2):=iH (by
          rcases hsh.m with h|h
          ·cases h.2
          ·have:=h.1;omega)
         have HEP:=iH heP;have HAP:=iH haP;have HLP:=iH hlP
         have HLM:Hid (L.len - 1=mm):=iH (by rw [HMM.out]<;>rfl)
         rw [HLM.out]at R1 HEP HAP HLP
         clear hsh hob hus heP haP hlP R0 hsc
         obtain⟨f0,f1,f2⟩:=CS.out w4 HB4.out
         go_upto_region 14 with (go_at_call 30;refine(HNX.out _ _ w4 (H1.out.lift HB4.out) (H2.out.lift HB4.out)).mono ?_;rintro e wn ⟨x,y,z,rfl,hx,hy,hz,hb⟩;obtain⟨xA,xc,hp⟩:=Bs.formL hx;subst hp;obtain⟨yA,yc,hp⟩:=Bs.formL hy;subst hp;obtain⟨zA,zc,hp⟩:=Bs.formL hz;subst hp;have HX:=iH hx;have HY:=iH hy;have HZ:=iH hz;have HBN2:=iH hb;have HBN:=iH (HB4.out.trans (hb.mono HB4.out.size));obtain⟨u0,u1,u2,uf⟩:=j7 (xI wn);have uf0:=uf 0;have uf1:=uf 1;have uf2:=uf 2;clear uf hx hy hz hb f0 f1 f2)
         clear u0 u1 u2 uf0 uf1 uf2
         obtain⟨wu,hwu⟩:∃wu,wu=wn.alloc (.cells #[.slice xA k1.length xc,.slice yA k2.length yc,.int .i64 (n+1)] 29):=⟨_,rfl⟩
         rw [<-hwu]
         have hbu:Below wn.heap.size wn wu:=by rw [hwu];exact iA
         have hur:wu.heap[wn.heap.size]?=some (.cells #[.slice xA k1.length xc,.slice yA k2.length yc,.int .i64 (n+1)] 29 (0,0)):=by rw [hwu];exact iN
         have hult:=(iG hur)
         have RU:Hid (∀W,Below wu.heap.size wu W->W.heap[wn.heap.size]?=some (.cells #[.slice xA k1.length xc,.slice yA k2.length yc,.int .i64 (n+1)] 29 (0,0))):=iH fun W h=>(h.block _ hult).trans hur
         have HULT:=iH hult
         have HBAU:=iH (HBN.out.trans (hbu.mono HBN.out.size))
         have h4u:=HBN2.out.trans (hbu.mono HBN2.out.size)
         have H4U:=iH h4u
         have SCU:=iH (SC4.out.lift h4u);have SKU:=iH (SK4.out.lift h4u)
         have SDU:=iH (SD4.out.keep (w':=wu) (S':=(·<wu.heap.size)) fun b hs _=>⟨h4u.block b hs,iZ hs h4u.size⟩)
         have HNU:=iH (HN4.out.keep (w':=wu) (S':=(·<wu.heap.size)) fun b hs _=>⟨h4u.block b hs,iZ hs h4u.size⟩)
         have XU:=iH (HX.out.lift hbu);have YU:=iH (HY.out.lift hbu);have ZU:=iH (HZ.out.lift hbu)
         have KU:=iH (H1.out.lift HBAU.out);have MU:=iH (H2.out.lift HBAU.out);have DU:=iH (H3.out.lift HBAU.out)
         clear hwu hbu hur hult h4u
         obtain⟨P,hP⟩:∃P,L.takeN mm=P:=⟨_,rfl⟩
         rw [hP]at R1 HEP HAP HLP
         have HNP:Hid (NsS wu (·<wu.heap.size) (.slice la mm lc) P):=iH (by rw [<-hP];exact HNU.out.cutTo mm (by rw [HMM.out];omega))
         have hpl:P.len=mm:=by rw [<-hP,xN,HMM.out];omega
         obtain⟨PE,hPE⟩:∃x,P.enc=x:=⟨_,rfl⟩
         obtain⟨C9,hC9⟩:∃C,kr k2 N [] PE=C:=⟨_,rfl⟩
         rw [hPE]at R1 HEP HLP
         rw [hC9]at R1
         obtain⟨X12,hX12⟩:∃X,N++PE=X:=⟨_,rfl⟩
         have ln16:=LN.out
         have hlp:=HLP.out
         have l12:X12.length<=20000:=by rw [<-hX12,List.length_append];omega
         have HJ2:Hid (∀(a6:Option Addr) (c6:Nat) (w1:World),Bs w1 w1.heap.size (.slice zA N.length zc) N->Bs w1 w1.heap.size (.slice a6 PE.length c6) PE->Calls Tryz.prog 65 #[.slice zA N.length zc,.slice a6 PE.length c6] w1 fun e w'=>∃v',e=.returned v'/\Bs w' w'.heap.size v' X12/\Below w1.heap.size w1 w'):=iH (fun a6 c6 w1 h1 h2=>(z6 _ _ N PE _ _ w1 h1 h2 (by omega)).mono fun e w' ⟨v',he,ho,hb⟩=>⟨v',he,by rw [hX12]at ho;exact OwnB.rd ho (by omega),hb⟩)
         have HPL:Hid (∀w1,NsS w1 (·<w1.heap.size) (.slice la mm lc) P->Calls Tryz.prog 46 #[.slice la mm lc] w1 fun e w'=>∃v',e=.returned v'/\Bs w' w'.heap.size v' PE/\Below w1.heap.size w1 w'):=iH (fun w1 h=>by
          have h2:=yO P _ w1 h HAP.out
          rw [HEP.out]at h2
          exact h2)
         have HCK:Hid (∀(vk vb:Value) (w:World),Bs w w.heap.size vk k2->Bs w w.heap.size vb X12->Calls Tryz.prog 69 #[vk,vb] w fun e w'=>∃v',e=.returned (.tuple #[v',.int .i64 0])/\Bs w' w'.heap.size v' C9/\Below w.heap.size w w'):=iH (fun vk vb w h1 h2=>by rw [<-hC9];unfold kr;rw [List.nil_append,hX12];exact zF vk vb k2 X12 LK2.out (by omega) w h1 h2)
         have HML2:=HML.out
         have hcap:mm<=lc/\lc<=9223372036854775807:=by
          obtain⟨_,_,e,h1,h2,_⟩:=HNP.out
          injection e with _ _ e3
          subst e3
          exact⟨by omega,by unfold maxLen at h2;omega⟩
         have hc1:=hcap.1;have hc2:=hcap.2
         clear hP hpl hPE hC9 hX12 ln16 hlp l12 hcap
         refine je 16 [some 84,some 85,some 86,some 87,some 88,some 89,some 90,some 91,some 92,some 93,some 94,some 83,some 95,some 96,some 15,some 16] [[],[0],[],[],[],[4],[4,5],[3,4,5,6],[3,4,5,6,7],[2,3,4,5,6,7,8],[0,1,2,3,4,5,6,7,8,9],[0,1,2,3,4,5,6,7,8,9,10],[0,1,2,3,4,5,6,7,8,9,10,11],[0,1,2,3,4,5,6,7,8,9,10,11],[0,1,2,3,4,5,6,7,8,9,10,11,12],[0,1,2,3,4,5,6,7,8,9,10,11,12,13,14]]
          (fun _ _ w1=>Below wu.heap.size wu w1) (fun w1 w2=>Below w1.heap.size w1 w2)
          [fun v _=>v 0=.pointer (some ⟨w.heap.size,1,none⟩),
           fun v _=>v 1=.slice A2 k2.length d2,
           fun v _=>v 2=.slice zA N.length zc,
           fun v _=>v 3=.slice la (mm+1) lc,
           fun v _=>v 4=.slice la (mm+1) lc,
           fun v _=>v 5=.int .i64 ((mm:Int)+1),
           fun v _=>v 6=.int .i64 mm,
           fun v _=>v 7=.slice la mm lc,
           fun v w1=>∃a c,v 8=.slice a (PE).length c/\Bs w1 w1.heap.size (.slice a (PE).length c) (PE),
           fun v w1=>∃a c,v 9=.slice a (X12).length c/\Bs w1 w1.heap.size (.slice a (X12).length c) (X12),
           fun v w1=>∃a c,v 10=.tuple #[.slice a (C9).length c,.int .i64 0]/\Bs w1 w1.heap.size (.slice a (C9).length c) (C9),
           fun v w1=>∃a c,v 11=.tuple #[.slice a (C9).length c,.int .i64 0]/\Bs w1 w1.heap.size (.slice a (C9).length c) (C9),
           fun v w1=>∃a c,v 12=.slice a (C9).length c/\Bs w1 w1.heap.size (.slice a (C9).length c) (C9),
           fun v _=>v 13=.int .i64 0,
           fun v w1=>∃a c,v 14=.slice a (C9).length c/\Bs w1 w1.heap.size (.slice a (C9).length c) (C9),
           fun v _=>v 15=.int .i64 0]
          (by kernel_rfl) (by kernel_rfl) (fun _=>iB.drew) ?st14 ?steps14 ?tail14
         case st14=>
          exact(.cons (fun _ _ _ _ _ _ h=>h) (.cons (fun _ _ _ _ _ _ h=>h) (.cons (fun _ _ _ _ _ _ h=>h) (.cons (fun _ _ _ _ _ _ h=>h) (.cons (fun _ _ _ _ _ _ h=>h) (.cons (fun _ _ _ _ _ _ h=>h) (.cons (fun _ _ _ _ _ _ h=>h) (.cons (fun _ _ _ _ _ _ h=>h) (.cons (fun _ _ _ _ _ hr ⟨a,c,e,h⟩=>⟨a,c,e,h.lift hr⟩) (.cons (fun _ _ _ _ _ hr ⟨a,c,e,h⟩=>⟨a,c,e,h.lift hr⟩) (.cons (fun _ _ _ _ _ hr ⟨a,c,e,h⟩=>⟨a,c,e,h.lift hr⟩) (.cons (fun _ _ _ _ _ hr ⟨a,c,e,h⟩=>⟨a,c,e,h.lift hr⟩) (.cons (fun _ _ _ _ _ hr ⟨a,c,e,h⟩=>⟨a,c,e,h.lift hr⟩) (.cons (fun _ _ _ _ _ _ h=>h) (.cons (fun _ _ _ _ _ hr ⟨a,c,e,h⟩=>⟨a,c,e,h.lift hr⟩) (.cons (fun _ _ _ _ _ _ h=>h) .nil))))))))))))))))
         case steps14=>
          simp only [iI,iK]
          refine(.cons ?_ (.cons ?_ (.cons ?_ (.cons ?_ (.cons ?_ (.cons ?_ (.cons ?_ (.cons ?_ (.cons ?_ (.cons ?_ (.cons ?_ (.cons ?_ (.cons ?_ (.cons ?_ (.cons ?_ (.cons ?_ .nil))))))))))))))))
          all_goals(intro L v w1 hJ hL hA hF K hK;simp only [jf,Act.put,iM,Nat.reduceAdd,iS,iC,iD]at hK |-)
          ·go_simp
           refine hK _ _ hJ iB ?_
           first|exact rfl|exact j5 _
          ·have e0:v 0=.pointer (some ⟨w.heap.size,1,none⟩):=hF 0 (hA 0 (by simp))
           obtain⟨c0,c1,c2⟩:=CS.out _ (HBAU.out.trans (hJ.mono HBAU.out.size))
           simp only [e0]at hK
           go_simp
           refine hK _ _ hJ iB ?_
           first|exact rfl|exact j5 _
          ·go_simp
           refine hK _ _ hJ iB ?_
           first|exact rfl|exact j5 _
          ·go_simp
           refine hK _ _ hJ iB ?_
           first|exact rfl|exact j5 _
          ·go_simp
           refine hK _ _ hJ iB ?_
           first|exact rfl|exact j5 _
          ·have e4:v 4=.slice la (mm+1) lc:=hF 4 (hA 4 (by simp))
           simp only [e4]at hK
           go_simp
           refine hK _ _ hJ iB ?_
           first|exact rfl|exact j5 _
          ·have e5:v 5=.int .i64 ((mm:Int)+1):=hF 5 (hA 5 (by simp))
           simp only [e5]at hK
           go_simp
           rw [show IntKind.i64.wrap (mm:Int)=mm from IntWalk.i64_in _ (by omega)]
           exact hK _ _ hJ iB rfl
          ·have e3:v 3=.slice la (mm+1) lc:=hF 3 (hA 3 (by simp))
           have e6:v 6=.int .i64 mm:=hF 6 (hA 6 (by simp))
           simp only [e3,e6]at hK
           go_simp
           exact hK _ _ hJ iB rfl
          ·have e7:v 7=.slice la mm lc:=hF 7 (hA 7 (by simp))
           simp only [e7]at hK
           go_simp
           refine(HPL.out w1 (HNP.out.keep fun g hg hl=>⟨hJ.block g hg,iZ hg hJ.size⟩)).mono ?_
           rintro e w5 ⟨v5,rfl,ho,hb⟩
           have hx:Bs w5 w5.heap.size v5 (PE):=ho
           obtain⟨A5,C5,hv5⟩:=Bs.formL hx
           subst hv5
           exact hK _ _ (hJ.trans (hb.mono hJ.size)) hb ⟨_,_,rfl,hx⟩
          ·have e2:v 2=.slice zA N.length zc:=hF 2 (hA 2 (by simp))
           simp only [e2]at hK
           obtain⟨a8,c8,e8,h8⟩:∃a c,v 8=.slice a (PE).length c/\Bs w1 w1.heap.size (.slice a (PE).length c) (PE):=hF 8 (hA 8 (by simp))
           simp only [e8]at hK
           go_simp
           refine(HJ2.out a8 c8 w1 (ZU.out.lift hJ) h8).mono ?_
           rintro e w5 ⟨v5,rfl,ho,hb⟩
           have hx:Bs w5 w5.heap.size v5 (X12):=ho
           obtain⟨A5,C5,hv5⟩:=Bs.formL hx
           subst hv5
           exact hK _ _ (hJ.trans (hb.mono hJ.size)) hb ⟨_,_,rfl,hx⟩
          ·have e1:v 1=.slice A2 k2.length d2:=hF 1 (hA 1 (by simp))
           simp only [e1]at hK
           obtain⟨a9,c9,e9,h9⟩:∃a c,v 9=.slice a (X12).length c/\Bs w1 w1.heap.size (.slice a (X12).length c) (X12):=hF 9 (hA 9 (by simp))
           simp only [e9]at hK
           go_simp
           refine(HCK.out _ _ w1 (MU.out.lift hJ) h9).mono ?_
           rintro e w5 ⟨v5,rfl,ho,hb⟩
           have hx:Bs w5 w5.heap.size v5 (C9):=ho
           obtain⟨A5,C5,hv5⟩:=Bs.formL hx
           subst hv5
           exact hK _ _ (hJ.trans (hb.mono hJ.size)) hb ⟨_,_,rfl,hx⟩
          ·obtain⟨a10,c10,e10,h10⟩:∃a c,v 10=.tuple #[.slice a (C9).length c,.int .i64 0]/\Bs w1 w1.heap.size (.slice a (C9).length c) (C9):=hF 10 (hA 10 (by simp))
           simp only [e10]at hK
           go_simp
           exact hK _ _ hJ iB ⟨_,_,rfl,h10⟩
          ·obtain⟨a11,c11,e11,h11⟩:∃a c,v 11=.tuple #[.slice a (C9).length c,.int .i64 0]/\Bs w1 w1.heap.size (.slice a (C9).length c) (C9):=hF 11 (hA 11 (by simp))
           simp only [e11]at hK
           go_simp
           exact hK _ _ hJ iB ⟨_,_,rfl,h11⟩
          ·obtain⟨a11,c11,e11,h11⟩:∃a c,v 11=.tuple #[.slice a (C9).length c,.int .i64 0]/\Bs w1 w1.heap.size (.slice a (C9).length c) (C9):=hF 11 (hA 11 (by simp))
           simp only [e11]at hK
           go_simp
           exact hK _ _ hJ iB rfl
          ·obtain⟨a12,c12,e12,h12⟩:∃a c,v 12=.slice a (C9).length c/\Bs w1 w1.heap.size (.slice a (C9).length c) (C9):=hF 12 (hA 12 (by simp))
           simp only [e12]at hK
           go_simp
           exact hK _ _ hJ iB ⟨_,_,rfl,h12⟩
          ·have e13:v 13=.int .i64 0:=hF 13 (hA 13 (by simp))
           simp only [e13]at hK
           go_simp
           refine hK _ _ hJ iB ?_
           first|exact rfl|exact j5 _
         case tail14=>
          intro v w1 hJ hF
          have e0:v 0=.pointer (some ⟨w.heap.size,1,none⟩):=hF 0 (by simp)
          have e1:v 1=.slice A2 k2.length d2:=hF 1 (by simp)
          have e2:v 2=.slice zA N.length zc:=hF 2 (by simp)
          have e3:v 3=.slice la (mm+1) lc:=hF 3 (by simp)
          have e4:v 4=.slice la (mm+1) lc:=hF 4 (by simp)
          have e5:v 5=.int .i64 ((mm:Int)+1):=hF 5 (by simp)
          have e6:v 6=.int .i64 mm:=hF 6 (by simp)
          have e7:v 7=.slice la mm lc:=hF 7 (by simp)
          have e13:v 13=.int .i64 0:=hF 13 (by simp)
          have e15:v 15=.int .i64 0:=hF 15 (by simp)
          obtain⟨a14,c14,e14,h14⟩:∃a c,v 14=.slice a (C9).length c/\Bs w1 w1.heap.size (.slice a (C9).length c) (C9):=hF 14 (by simp)
          simp only [iE,iJ,jf,Act.put,iM,Nat.reduceAdd,iS,iC,iD]
          simp only [e14,e15]
          have HV5:=iH h14
          obtain⟨w5,rfl⟩:∃w5:World,w5=w1:=⟨_,rfl⟩
          have HBU5:=iH hJ
          have HB5:=iH (HBAU.out.trans (hJ.mono HBAU.out.size))
          obtain⟨qA,hqA⟩:∃vA,vA=a14:=⟨_,rfl⟩
          obtain⟨qc,hqc⟩:∃vc,vc=c14:=⟨_,rfl⟩
          rw [<-hqA,<-hqc]at HV5 |-
          have HSA:=iH (xu _ _ C9 sk _ _ w5 HV5.out (SKU.out.lift hJ))
          clear e0 e1 e2 e3 e4 e5 e6 e7 e13 e14 e15 hqA hqc h14 hJ hF hc1 hc2
          by_cases hcc:C9=sk
          ·rw [decide_eq_true hcc]at HSA
           have R2Y:Hid (kj k1 k2 n d st=if ¬zu st=M then(23,[],0,[],[],0)
            else if ¬kt k1 N sc=0 then(kt k1 N sc,[],0,[],[],0)
            else(0,qk k1 N sc,st,k1,k2,n+1)):=iH (by rw [R1.out];exact iF (not_not.2 hcc))
           clear hcc R1
           go_upto_region 17 with (go_at_call 73;refine HSA.out.mono ?_;rintro e w6 ⟨rfl,nq,hw6⟩;have hb6:Below w5.heap.size w5 w6:=(by rw [hw6];exact j4 iB _);have HB56:=iH hb6;have HB6:=iH (HB5.out.trans (hb6.mono HB5.out.size));clear hw6 hb6)
           have HU6:=iH (HBU5.out.trans (HB56.out.mono HBU5.out.size))
           have hM0:¬M= []:=fun e=>by have:=HM2.out;rw [e]at this;simp at this
           have hdl1:(q7 153 M).len=1:=by rw [jV hM0]<;>rfl
           obtain rfl:dl=1:=by rw [<-HDL.out];exact hdl1
           obtain⟨db,dof,rfl,hdb,hat⟩:∃b o,dA=some ⟨b,o,none⟩/\b<wu.heap.size/\NsAt wu (·<wu.heap.size) (q7 153 M) b o:=by
            obtain⟨_,_,e,_,_,_,h4⟩:=SDU.out
            injection e with e1 _ e3
            subst e1 e3
            obtain⟨b,o,h1,_,h2,h3⟩:=h4 (by rw [hdl1];decide)
            exact⟨b,o,h1,h2,h3⟩
           rw [jV hM0]at hat
           obtain⟨_,_,⟨x,q1,hx⟩,_,_⟩:=hat
           obtain⟨mA,mc,rfl⟩:=Bs.formL hx
           have hcap:(1:Nat)<=dc:=by obtain⟨_,_,e,h1,_⟩:=SDU.out;injection e with _ _ e3;subst e3;rw [hdl1]at h1;exact h1
           have q1:=(HU6.out.cell (p:=⟨db,dof+1,none⟩) hdb).trans q1
           have HNB:=iH (JZ M _ _ w6 ((show Bs wu wu.heap.size (.slice mA M.length mc) M from hx).lift HU6.out))
           obtain⟨Z,hZ⟩:∃Z,JL M=Z:=⟨_,rfl⟩
           have hl7:=Yf (.inr HM2.out)
           have hnq:xC M=(Z,0):=by unfold xC;rw [iF hl7,hZ]
           rw [hnq]at HNB
           have HZS:Hid (Z=st↔zu st=M):=iH (by rw [<-hZ];exact Vd HM2.out ST0.out ST1.out)
           clear hM0 hnq hZ hx hdl1 hdb hl7
           obtain⟨g0,g1⟩:=CC.out w6 HB6.out
           by_cases hz:Z=st
           ·have R2Z:Hid (kj k1 k2 n d st=if ¬kt k1 N sc=0 then(kt k1 N sc,[],0,[],[],0)else(0,qk k1 N sc,st,k1,k2,n+1)):=iH (by rw [R2Y.out];exact iF (not_not.2 (HZS.out.1 hz)))
            clear R2Y HZS
            subst hz
            obtain⟨n0,n1,nf⟩:=jd (heap_alloc_new w6 (.cells #[.slice none 0 0,.int .i64 0] 44))
            have nf0:=nf 0;have nf1:=nf 1
            clear nf
            go_upto_region 21 with (go_at_call 75;refine HNB.out.mono ?_;rintro e w' ⟨rfl,hw'⟩;rw [hw'];clear hw' w' q1)
            clear g0 g1 n0 n1 nf0 nf1
            obtain⟨st,rfl⟩:∃s,s=Z:=⟨_,rfl⟩
            obtain⟨wp,hwp⟩:∃wp,wp=w6.alloc (.cells #[.slice none 0 0,.int .i64 st] 44):=⟨_,rfl⟩
            rw [<-hwp]
            have hbp:Below w6.heap.size w6 wp:=by rw [hwp];exact iA
            have hrp:wp.heap[w6.heap.size]?=some (.cells #[.slice none 0 0,.int .i64 st] 44 (0,0)):=by rw [hwp];exact iN
            have hplt:=(iG hrp)
            have HUP:=iH (HBU5.out.trans ((HB56.out.trans (hbp.mono HB56.out.size)).mono HBU5.out.size))
            have HBP:=iH (HB6.out.trans (hbp.mono HB6.out.size))
            have H6P:=iH hbp
            obtain⟨b,hD⟩:∃D,qk k1 N sc=D:=⟨_,rfl⟩
            obtain⟨E,hE⟩:∃E,kt k1 N sc=E:=⟨_,rfl⟩
            rw [hD,hE]at R2Z
            have HDA:Hid (Calls Tryz.prog 74 #[.agg #[.slice A1 k1.length d1,.slice A2 k2.length d2,.int .i64 n],.slice zA N.length zc,.slice cA sc.length cc] wp (xW wp b E)):=iH (by
             rw [<-hD,<-hE]
             exact Xt _ _ _ _ n k1 N sc LK1.out LN.out HVM.out wp (KU.out.lift HUP.out) (ZU.out.lift HUP.out) (SCU.out.lift HUP.out))
            have HRP:=iH hrp;have HPL2:=iH hplt
            clear hD hE hwp hbp hrp hplt
            obtain⟨f0,f1,f2⟩:=CS.out wp HBP.out
            go_upto_region 22 with (go_at_call 74;refine HDA.out.mono ?_;rintro e w7 ⟨v7,rfl,hv,hb⟩;obtain⟨vA,vc,hp⟩:=Bs.formL hv;subst hp;have HV7:=iH hv;have HP7:=iH hb;have hr7:=(hb.block _ HPL2.out).trans HRP.out;have HR7:=iH hr7;obtain⟨r0,r1,rf⟩:=jd hr7;have rf0:=rf 0;clear rf hv hb hr7 f0 f1 f2)
            obtain⟨w8,hw8⟩:∃w8,w8=w7.setCell ⟨w6.heap.size,0,none⟩ (.slice vA b.length vc):=⟨_,rfl⟩
            rw [<-hw8]
            have RP8:Hid (w8.heap[w6.heap.size]?=some (.cells #[.slice vA b.length vc,.int .i64 st] 44 (0,0))):=iH (by rw [hw8];exact jg (o:=0) HR7.out)
            have HB68:Hid (Below w6.heap.size w6 w8):=iH (by rw [hw8];exact(H6P.out.trans (HP7.out.mono H6P.out.size)).setCell iL _)
            have HB8:=iH (HB6.out.trans (HB68.out.mono HB6.out.size))
            have HU8:=iH (HBU5.out.trans ((HB56.out.trans (HB68.out.mono HB56.out.size)).mono HBU5.out.size))
            have HD8:Hid (BsS w8 (fun b=>b<w8.heap.size/\b≠w6.heap.size) (.slice vA b.length vc) b):=iH (by rw [hw8];exact BsS.keep (BsS.off HV7.out HR7.out j6m) fun b hs _=>⟨iO hs.2,by simpa using hs.1,hs.2⟩)
            clear hw8 r0 r1 rf0
            by_cases hE:E=0
            ·subst hE
             have R9:Hid (kj k1 k2 n d st=(0,b,st,k1,k2,n+1)):=iH (by rw [R2Z.out];exact iF (by simp))
             clear R2Z
             go_upto_region 24 with fail
             obtain⟨wd,hwd⟩:∃wd,wd=w8.drew:=⟨_,rfl⟩
             have HWD:=iH hwd
             have RL4:Hid (wd.heap[w6.heap.size]?=some (.cells #[.slice vA b.length vc,.int .i64 st] 44 (0,0))):=iH (by rw [hwd];exact RP8.out)
             have RU4:Hid (wd.heap[wn.heap.size]?=some (.cells #[.slice xA k1.length xc,.slice yA k2.length yc,.int .i64 (n+1)] 29 (0,0))):=iH (by rw [hwd];exact RU.out w8 HU8.out)
             have RR4:Hid (wd.heap[(w.heap.size+1+1)]?=some (.cells #[.slice none 0 0,.int .i64 0] 44 (0,0))):=iH (by rw [hwd];exact R2.out w8 HB8.out)
             have RS4:Hid (wd.heap[(w.heap.size+1+1+1)]?=some (.cells #[.slice none 0 0,.slice none 0 0,.int .i64 0] 29 (0,0))):=iH (by rw [hwd];exact R3.out w8 HB8.out)
             have HB4:Hid (Below w.heap.size w wd):=iH (by rw [hwd];exact(HB.out.trans (HB8.out.mono HB.out.size)).drew)
             have V4:Hid (Bs wd wd.heap.size (.slice vA b.length vc) b):=iH (by rw [hwd];exact BsS.keep HD8.out fun b hs hl=>⟨rfl,hs.1⟩)
             have X4:Hid (Bs wd wd.heap.size (.slice xA k1.length xc) k1):=iH (by rw [hwd];exact XU.out.lift HU8.out.drew)
             have Y4:Hid (Bs wd wd.heap.size (.slice yA k2.length yc) k2):=iH (by rw [hwd];exact YU.out.lift HU8.out.drew)
             have NE2:Hid (w6.heap.size≠(w.heap.size+1+1)):=iH (by have:=HZA.out;have:=HB6.out.size;omega)
             have NE3:Hid (wn.heap.size≠(w.heap.size+1+1)):=iH (by have:=HZA.out;have:=HBN.out.size;omega)
             clear hwd
             refine je 3 [some 133,some 134,none] [[],[],[0]]
              (J2 wd (w.heap.size+1+1) 2 (.slice vA b.length vc) (.int .i64 st)) (fun _ _=>True)
              [fun v _=>v 0=.agg #[.slice vA b.length vc,.int .i64 st],
               fun v _=>v 1=.agg #[.slice xA k1.length xc,.slice yA k2.length yc,.int .i64 (n+1)],
               fun v w1=>True]
              (by kernel_rfl) (by kernel_rfl) (fun _=>HWD.out.symm.trans (iF (by decide)).symm) ?st24 ?steps24 ?tail24
             case st24=>
              exact(.cons (fun _ _ _ _ _ _ h=>h) (.cons (fun _ _ _ _ _ _ h=>h) (.cons (fun _ _ _ _ _ _ h=>h) .nil)))
             case steps24=>
              simp only [iI,iK]
              refine(.cons ?_ (.cons ?_ (.cons ?_ .nil)))
              all_goals(intro L v w1 hJ hL hA hF K hK;simp only [jf,Act.put,iM,Nat.reduceAdd,iS,iC,iD]at hK |-)
              ·obtain⟨c0,c1,_⟩:=jd ((J2.row hJ NE2.out).trans RL4.out)
               go_simp
               refine hK _ _ (J2.step hJ 0 (by decide)) trivial ?_
               first|exact rfl|exact j5 _
              ·obtain⟨c0,c1,c2,_⟩:=j7 ((J2.row hJ NE3.out).trans RU4.out)
               go_simp
               refine hK _ _ (J2.step hJ 1 (by decide)) trivial ?_
               first|exact rfl|exact j5 _
              ·have e0:v 0=.agg #[.slice vA b.length vc,.int .i64 st]:=hF 0 (hA 0 (by simp))
               simp only [e0]at hK
               obtain rfl:=J2.old hJ hL
               obtain⟨r0,r1,rf⟩:=jd RR4.out
               have rf0:=rf 0;have rf1:=rf 1;clear rf
               have e0:v 0=.agg #[.slice vA b.length vc,.int .i64 st]:=hF 0 (hA 0 (by simp))
               simp only [e0]at hK |-
               have hJ2:=iH hJ;have hL2:=iH hL
               clear hJ hL hF hA e0
               go_simp
               exact hK undef _ (J2.store hJ2.out hL2.out) trivial trivial
             case tail24=>
              intro v w1 hJ hF
              have e0:v 0=.agg #[.slice vA b.length vc,.int .i64 st]:=hF 0 (by simp)
              have e1:v 1=.agg #[.slice xA k1.length xc,.slice yA k2.length yc,.int .i64 (n+1)]:=hF 1 (by simp)
              simp only [iE,iJ,jf,Act.put,iM,Nat.reduceAdd,iS,iC,iD]
              simp only [e1]
              clear e0 e1 hF
              obtain rfl:=J2.all hJ rfl
              have RS5:Hid ((qm wd (w.heap.size+1+1) (.slice vA b.length vc) (.int .i64 st)).heap[(w.heap.size+1+1+1)]?=some (.cells #[.slice none 0 0,.slice none 0 0,.int .i64 0] 29 (0,0))):=iH ((qe (by omega)).trans RS4.out)
              obtain⟨s0,s1,s2,sf⟩:=j7 RS5.out
              have sf0:=sf 0;have sf1:=sf 1;have sf2:=sf 2;clear sf
              obtain⟨w5,hw5⟩:∃w5,w5=qm wd (w.heap.size+1+1) (.slice vA b.length vc) (.int .i64 st):=⟨_,rfl⟩
              rw [<-hw5]at s0 s1 s2 sf0 sf1 sf2 |-
              have HW5:=iH hw5
              clear hw5 hJ
              go_wp2_with fail
              have q:=jm (W:=wd) RR4.out RS4.out (.slice vA b.length vc) (.int .i64 st) (.slice xA k1.length xc) (.slice yA k2.length yc) (.int .i64 (n+1))
              rw [<-HW5.out]at q
              obtain⟨q2,q3⟩:=q
              obtain⟨y0,y1,_⟩:=jd q2
              obtain⟨x0,x1,x2,_⟩:=j7 q3
              refine bodyPost_ret (v:=.tuple #[.agg #[.slice vA b.length vc,.int .i64 st],.agg #[.slice xA k1.length xc,.slice yA k2.length yc,.int .i64 (n+1)],.int .i64 0]) (by simp only [set3]at y0 y1 x0 x1 x2;simp [results,Tryz.results42,go_sem,y0,y1,x0,x1,x2]) rfl ?_
              rw [R9.out]
              have hk:=fun(v:Value) (L:List UInt8) (h:Bs wd wd.heap.size v L)=>yt (W:=wd) RR4.out RS4.out (.slice vA b.length vc) (.int .i64 st) (.slice xA k1.length xc) (.slice yA k2.length yc) (.int .i64 (n+1)) h
              rw [<-HW5.out]at hk
              have hbw:=ji (p:=(w.heap.size+1+1)) (a:=.slice vA b.length vc) (b:=.int .i64 st) (x:=.slice xA k1.length xc) (y:=.slice yA k2.length yc) (z:=.int .i64 (n+1)) HB4.out (by omega)
              rw [<-HW5.out]at hbw
              exact⟨_,_,rfl,⟨_,rfl,hk _ _ V4.out⟩,⟨_,_,rfl,hk _ _ X4.out,hk _ _ Y4.out⟩,hbw⟩
            ·have tE:(E != 0)=true:=by simpa using hE
             have R9:Hid (kj k1 k2 n d st=(E,[],0,[],[],0)):=iH (by rw [R2Z.out];exact iT hE)
             clear hE R2Z
             go_upto_region 23 with fail
             obtain⟨r0,r1,rf⟩:=jd (R2.out w8 HB8.out);have rf0:=rf 0;have rf1:=rf 1;clear rf;obtain⟨s0,s1,s2,sf⟩:=j7 (R3.out w8 HB8.out);have sf0:=sf 0;have sf1:=sf 1;have sf2:=sf 2;clear sf
             go_wp2_with fail
             obtain⟨q2,q3⟩:=jm (R2.out w8 HB8.out) (R3.out w8 HB8.out) (.slice none 0 0) (.int .i64 0) (.slice none 0 0) (.slice none 0 0) (.int .i64 0)
             obtain⟨y0,y1,_⟩:=jd q2
             obtain⟨x0,x1,x2,_⟩:=j7 q3
             refine bodyPost_ret (v:=.tuple #[.agg #[.slice none 0 0,.int .i64 0],.agg #[.slice none 0 0,.slice none 0 0,.int .i64 0],.int .i64 E]) (by simp only [qm,set3]at y0 y1 x0 x1 x2;simp [results,Tryz.results42,go_sem,y0,y1,x0,x1,x2]) rfl ?_
             rw [R9.out]
             exact⟨_,_,rfl,⟨_,rfl,BsS.nil0 _ _⟩,⟨_,_,rfl,BsS.nil0 _ _,BsS.nil0 _ _⟩,ji (HB.out.trans (Below.mono HB8.out HB.out.size)) (by omega)⟩
           ·have tz:(Z != st)=true:=by simpa using hz
            have R9:Hid (kj k1 k2 n d st=(23,[],0,[],[],0)):=iH (by rw [R2Y.out];exact iT (fun h=>hz (HZS.out.2 h)))
            clear R2Y
            go_upto_region 19 with (go_at_call 75;refine HNB.out.mono ?_;rintro e w' ⟨rfl,hw'⟩;rw [hw'];clear hw' w' q1)
            clear g0 g1
            obtain⟨r0,r1,rf⟩:=jd (R2.out w6 HB6.out);have rf0:=rf 0;have rf1:=rf 1;clear rf;obtain⟨s0,s1,s2,sf⟩:=j7 (R3.out w6 HB6.out);have sf0:=sf 0;have sf1:=sf 1;have sf2:=sf 2;clear sf
            go_wp2_with fail
            obtain⟨q2,q3⟩:=jm (R2.out w6 HB6.out) (R3.out w6 HB6.out) (.slice none 0 0) (.int .i64 0) (.slice none 0 0) (.slice none 0 0) (.int .i64 0)
            obtain⟨y0,y1,_⟩:=jd q2
            obtain⟨x0,x1,x2,_⟩:=j7 q3
            refine bodyPost_ret (v:=.tuple #[.agg #[.slice none 0 0,.int .i64 0],.agg #[.slice none 0 0,.slice none 0 0,.int .i64 0],.int .i64 23]) (by simp only [qm,set3]at y0 y1 x0 x1 x2;simp [results,Tryz.results42,go_sem,y0,y1,x0,x1,x2]) rfl ?_
            rw [R9.out]
            exact⟨_,_,rfl,⟨_,rfl,BsS.nil0 _ _⟩,⟨_,_,rfl,BsS.nil0 _ _,BsS.nil0 _ _⟩,ji (HB.out.trans (Below.mono HB6.out HB.out.size)) (by omega)⟩
          ·rw [decide_eq_false hcc]at HSA
           have R9:Hid (kj k1 k2 n d st=(20,[],0,[],[],0)):=iH (by rw [R1.out];exact iT hcc)
           clear hcc R1
           go_upto_region 16 with (go_at_call 73;refine HSA.out.mono ?_;rintro e w6 ⟨rfl,nq,hw6⟩;have HB6:Hid (Below wa.heap.size wa w6):=iH (HB5.out.trans ((by rw [hw6];exact j4 iB _:Below w5.heap.size w5 w6).mono HB5.out.size));clear hw6)
           obtain⟨r0,r1,rf⟩:=jd (R2.out w6 HB6.out);have rf0:=rf 0;have rf1:=rf 1;clear rf;obtain⟨s0,s1,s2,sf⟩:=j7 (R3.out w6 HB6.out);have sf0:=sf 0;have sf1:=sf 1;have sf2:=sf 2;clear sf
           go_wp2_with fail
           obtain⟨q2,q3⟩:=jm (R2.out w6 HB6.out) (R3.out w6 HB6.out) (.slice none 0 0) (.int .i64 0) (.slice none 0 0) (.slice none 0 0) (.int .i64 0)
           obtain⟨y0,y1,_⟩:=jd q2
           obtain⟨x0,x1,x2,_⟩:=j7 q3
           refine bodyPost_ret (v:=.tuple #[.agg #[.slice none 0 0,.int .i64 0],.agg #[.slice none 0 0,.slice none 0 0,.int .i64 0],.int .i64 20]) (by simp only [qm,set3]at y0 y1 x0 x1 x2;simp [results,Tryz.results42,go_sem,y0,y1,x0,x1,x2]) rfl ?_
           rw [R9.out]
           exact⟨_,_,rfl,⟨_,rfl,BsS.nil0 _ _⟩,⟨_,_,rfl,BsS.nil0 _ _,BsS.nil0 _ _⟩,ji (HB.out.trans (Below.mono HB6.out HB.out.size)) (by omega)⟩
  ·have HVC:Hid (vR d st=false):=iH (by simpa using v2)
   have R:Hid (kj k1 k2 n d st=(14,[],0,[],[],0)):=iH (by unfold kj;rw [iF (by rw [v1];simp),iT HVC.out])
   clear v1 v2
   go_enter Tryz.func42,Tryz.ntmps42
   go_upto_region 1 with fail
   rw [<-HWS.out,<-HWC.out,<-HW2.out,<-HW3.out]
   obtain⟨f0,f1,f2⟩:=CS.out wa iB
   go_upto_region 2 with (first
    |(go_at_call 44;have M1:=HBV;go_loud(refine(xg _ d st wv (HCV.out wv HBV.out)).mono ?_;rw [HVC.out];rintro e wc ⟨rfl,hb⟩;have hb2:=HBV.out.trans (hb.mono HBV.out.size);have HBC:=iH hb2;clear g0 g1;obtain⟨g0,g1⟩:=CC.out wc hb2;clear f0 f1 f2;obtain⟨f0,f1,f2⟩:=CS.out wc hb2;clear hb hb2))
    |(go_at_call 28;refine(js _ k1 k2 n _ wa HSV.out).mono ?_;rw [HVS.out];rintro e wv ⟨rfl,hb⟩;have HBV:=iH hb;obtain⟨g0,g1⟩:=CC.out wv hb;clear hb))
   clear f0 f1 f2 g0 g1
   obtain⟨r0,r1,rf⟩:=jd (R2.out wc HBC.out);have rf0:=rf 0;have rf1:=rf 1;clear rf;obtain⟨s0,s1,s2,sf⟩:=j7 (R3.out wc HBC.out);have sf0:=sf 0;have sf1:=sf 1;have sf2:=sf 2;clear sf
   go_wp2_with fail
   obtain⟨q2,q3⟩:=jm (R2.out wc HBC.out) (R3.out wc HBC.out) (.slice none 0 0) (.int .i64 0) (.slice none 0 0) (.slice none 0 0) (.int .i64 0)
   obtain⟨y0,y1,_⟩:=jd q2
   obtain⟨x0,x1,x2,_⟩:=j7 q3
   refine bodyPost_ret (v:=.tuple #[.agg #[.slice none 0 0,.int .i64 0],.agg #[.slice none 0 0,.slice none 0 0,.int .i64 0],.int .i64 14]) (by simp only [qm,set3]at y0 y1 x0 x1 x2;simp [results,Tryz.results42,go_sem,y0,y1,x0,x1,x2]) rfl ?_
   rw [R.out]
   exact⟨_,_,rfl,⟨_,rfl,BsS.nil0 _ _⟩,⟨_,_,rfl,BsS.nil0 _ _,BsS.nil0 _ _⟩,ji (HB.out.trans (Below.mono HBC.out HB.out.size)) (by omega)⟩
 ·have HVS:Hid (vS k1 k2 n=false):=iH (by simpa using v1)
  have R:Hid (kj k1 k2 n d st=(14,[],0,[],[],0)):=iH (by unfold kj;rw [iT HVS.out])
  clear v1
  go_enter Tryz.func42,Tryz.ntmps42
  go_upto_region 1 with fail
  rw [<-HWS.out,<-HWC.out,<-HW2.out,<-HW3.out]
  obtain⟨f0,f1,f2⟩:=CS.out wa iB
  go_upto_region 2 with (go_at_call 28;refine(js _ k1 k2 n _ wa HSV.out).mono ?_;rw [HVS.out];rintro e wv ⟨rfl,hb⟩;have HBV:=iH hb;obtain⟨g0,g1⟩:=CC.out wv hb;clear hb)
  clear f0 f1 f2 g0 g1
  obtain⟨r0,r1,rf⟩:=jd (R2.out wv HBV.out);have rf0:=rf 0;have rf1:=rf 1;clear rf;obtain⟨s0,s1,s2,sf⟩:=j7 (R3.out wv HBV.out);have sf0:=sf 0;have sf1:=sf 1;have sf2:=sf 2;clear sf
  go_wp2_with fail
  obtain⟨q2,q3⟩:=jm (R2.out wv HBV.out) (R3.out wv HBV.out) (.slice none 0 0) (.int .i64 0) (.slice none 0 0) (.slice none 0 0) (.int .i64 0)
  obtain⟨y0,y1,_⟩:=jd q2
  obtain⟨x0,x1,x2,_⟩:=j7 q3
  refine bodyPost_ret (v:=.tuple #[.agg #[.slice none 0 0,.int .i64 0],.agg #[.slice none 0 0,.slice none 0 0,.int .i64 0],.int .i64 14]) (by simp only [qm,set3]at y0 y1 x0 x1 x2;simp [results,Tryz.results42,go_sem,y0,y1,x0,x1,x2]) rfl ?_
  rw [R.out]
  exact⟨_,_,rfl,⟨_,rfl,BsS.nil0 _ _⟩,⟨_,_,rfl,BsS.nil0 _ _,BsS.nil0 _ _⟩,ji (HB.out.trans (Below.mono HBV.out HB.out.size)) (by omega)⟩
def XN(k N d:List UInt8):List UInt8:=if d= []then []else 1 :: kY k (qK k N) (xP d)
theorem Kv(k N d:List UInt8):j6 k N d=q7 135 (XN k N d):=by
 unfold j6 XN q7
 split
 ·rfl
 ·rw [iF (by simp)]
def exV(ex:Int):List UInt8:=if ex= -1 then []else if 256<ex then zu (ex % 65536)else YV (ex % 256)
theorem ZJ(ex:Int):q8 ex=q7 151 (exV ex):=by
 unfold q8 exV q7
 split
 ·rfl
 ·exact(iF (by split<;>simp [YV,zu])).symm
theorem j5l(k N d:List UInt8):(kY k (qK k N) (xP d)).length=16*((d.length+1+zv d.length) / 16):=yR k _ d
theorem Yx(k N d:List UInt8)(hd:d.length<=4000):XN k N d= []\/(k7 (XN k N d)=true/\(XN k N d).length<=4096):=by
 unfold XN
 split
 ·exact .inl rfl
 ·rename_i h
  right
  have hl:=j5l k N d
  have hp:16<=d.length+1+zv d.length/\(d.length+1+zv d.length) % 16=0/\zv d.length<=15:=by
   have:=qq d;have h2:=ky d;have:=kW d.length;unfold zv at*;omega
  refine⟨?_,by simp;omega⟩
  unfold k7
  simp only [List.length_cons,Bool.and_eq_true,decide_eq_true_eq]
  exact⟨by omega,rfl,by omega⟩
theorem j0u(k N d:List UInt8):qk k N ((XN k N d).drop 1)=d/\kt k N ((XN k N d).drop 1)=0:=by
 unfold XN
 split
 ·rename_i h;subst h;exact⟨rfl,rfl⟩
 ·have hl:=j5l k N d
  have hp:16<=d.length+1+zv d.length/\(d.length+1+zv d.length) % 16=0:=by
   have:=qq d;have h2:=ky d;unfold zv at*;omega
  have hne:¬kY k (qK k N) (xP d)= []:=fun e=>by rw [e]at hl;simp at hl;omega
  have ho:=Vk k (qK k N) (xP d) _ (qq d)
  simp only [iE,iJ]
  unfold qk kt
  rw [iF hne,iF hne,ho]
  exact⟨j08 d,j07 d⟩
theorem j0v(ex:Int)(h:ex= -1\/(1<=ex/\ex<=65536)):(exV ex= []/\ex= -1)\/((1:Int)<=((exV ex).length:Int)/\(exV ex).length<=2/\exV ex≠ []):=by
 unfold exV
 split
 ·rename_i h;exact .inl ⟨rfl,h⟩
 ·right;split<;>simp [YV,zu]
theorem j3m(ex:Int)(h:ex= -1\/(1<=ex/\ex<=65536)):exW (exV ex)=ex:=by
 unfold exV
 by_cases h1:ex= -1
 ·rw [iT h1];unfold exW;rw [iT rfl];exact h1.symm
 ·rw [iF h1]
  have hr:=h.resolve_left h1
  by_cases h2:256<ex
  ·rw [iT h2]
   have e:JL (zu (ex % 65536))=ex % 65536:=(Vd (M:=zu (ex % 65536)) rfl (by omega) (by omega)).2 rfl
   unfold exW
   rw [iF (by simp [zu]),e]
   split
   ·rw [iF (by simp [zu])];omega
   ·omega
  ·rw [iF h2]
   have e:JL (YV (ex % 256))=ex % 256:=by
    show 256*0+bv (ofI (ex % 256))=_
    rw [kT];omega
   unfold exW
   rw [iF (by simp [YV]),e]
   split
   ·rw [iT (by simp [YV])];omega
   ·omega
theorem Xp(L:Ns)(v:List UInt8)(k:Ns):((L.app (.cons 142 v k .nil)).pick 142).isSome=true:=by
 induction L with
 |nil=>rfl
 |cons t x y r _ ih=>
  rw [Ns.app,Ns.pick]
  split
  ·rfl
  ·exact ih
theorem j21(L M:Ns)(g:Int)(h:(M.pick g).isSome=true):((L.app M).pick g).isSome=true:=by
 induction L with
 |nil=>exact h
 |cons t x y r _ ih=>
  rw [Ns.app,Ns.pick]
  split
  ·rfl
  ·exact ih
theorem VJ{tg lo:Int}{mu:Bool}(ht:¬tg=135)(h142:¬tg=142)(hlo:1<=lo)(hv:qP tg=true)(hp:jY tg=false)(k2 N head V M:List UInt8)(hk2:k2.length=16)(hV:V= []\/(k7 V=true/\V.length<=4096))(hM:(M= []/\mu=false)\/(lo<=(M.length:Int)/\M.length<=2/\M≠ []))(ts:List Int)(hts:∀t∈ts,t=142\/(t=tg/\M≠ []))
 (b:List UInt8) (hb:qT k2 N head ((q7 135 V).app (q7 tg M))=.ok b):
 kU ts (qS tg lo mu) b=.ok ([V,M,kr k2 N head ((q7 135 V).app (q7 tg M)).enc],(q7 135 V).app (q7 tg M))/\b.length<=4096:=by
 obtain⟨L,hL⟩:∃L,(q7 135 V).app (q7 tg M)=L:=⟨_,rfl⟩
 have hLc:L.chk 1=0:=by rw [<-hL];exact zg _ _ (by decide) (by decide) _ (by have:=zg tg M hv hp .nil rfl;rwa [Ns.app_nil]at this)
 have hLa:L.all<=2:=by rw [<-hL];have:=ze 135 V (q7 tg M);have h9:=ze tg M .nil;rw [Ns.app_nil]at h9;simp only [Ns.all]at h9;omega
 rw [hL]at hb |-
 obtain⟨C,hC⟩:∃C,kr k2 N head L.enc=C:=⟨_,rfl⟩
 have hLe:=xL hLc (by omega)
 have hlt:¬4096<L.enc.length:=fun h=>by
  unfold qT at hb
  rw [hLe,iT h]at hb
  cases hb
 rw [iF hlt]at hLe
 have hsl:=xh k2 N head hLc (by omega)
 rw [hLe]at hsl
 rw [show bytesOf (.ok L.enc:Except Int (List UInt8))=L.enc from rfl,hC]at hsl
 rw [hsl,yo C hLc (by omega)]at hb
 split at hb
 ·cases hb
 ·rename_i hle
  injection hb with hb
  have hlb:b.length<=4096:=by rw [<-hb];omega
  have hpp:jO b true=.ok (L.app (.cons 142 C .nil .nil)):=by
   rw [<-hb]
   exact QP true _ _ (UH true _ (by omega)) (ZC L C 1 (by omega) hLc) (by rw [Ns.all_snoc];omega) (by omega)
  have hcl:C.length=8:=by
   rw [<-hC];unfold kr;rw [List.length_take]
   have:=zR hk2 (N++(head++L.enc));omega
  have hsh:XQ tg lo mu (L.app (.cons 142 C .nil .nil)) V M C:=⟨by rw [<-hL,Ns.app_assoc],hV,hM,hcl⟩
  obtain⟨n,hf⟩:=KM ht h142 hsh
  have hall:(ts.all fun t=>((L.app (.cons 142 C .nil .nil)).pick t).isSome)=true:=by
   rw [List.all_eq_true]
   intro t htm
   rcases hts t htm with rfl|⟨rfl,hne⟩
   ·exact Xp _ _ _
   ·rw [<-hL,Ns.app_assoc,jV hne]
    exact j21 _ _ _ (by rw [Ns.app,Ns.pick,iT rfl]<;>rfl)
  refine⟨?_,hlb⟩
  rw [Qf hpp hall hf]
  obtain⟨V',M',C',hvs,_,h3⟩:=xY ht h142 hlo hp (Y7 hpp) hf
  simp only [List.cons.injEq,and_true]at hvs
  obtain⟨rfl,rfl,rfl⟩:=hvs
  rw [h3,hL,hC]
theorem Zu{k1 k2:List UInt8}{n:Int}{c:Cm}(h1:vS k1 k2 n=true)(h2:vC c=true)(hg:Jb c.cl=true)(hn:n≠1099511627776)(hd:c.data.length<=4000){b:List UInt8}(hb:qT k2 (J3 (n+1)) (xr (c.cl+12) c.ins c.p1 c.p2) ((j6 k1 (J3 (n+1)) c.data).app (q8 c.ex))=.ok b):
 jq k1 k2 n ⟨c.cl+12,c.ins,c.p1,c.p2,b,65536⟩=(0,c,k1,k2,n+1):=by
 have hv:=of_decide_eq_true h2
 have hs:=of_decide_eq_true h1
 unfold Jb at hg
 rw [Bool.and_eq_true,decide_eq_true_eq,decide_eq_true_eq]at hg
 obtain⟨N,hN⟩:∃N,J3 (n+1)=N:=⟨_,rfl⟩
 rw [hN,Kv,ZJ]at hb
 obtain⟨ho,hlb⟩:=VJ (tg:=151) (lo:=1) (mu:=false) (by decide) (by decide) (by decide) (by decide) (by decide) k2 N _ (XN k1 N c.data) (exV c.ex) hs.2.1 (Yx k1 N c.data hd) ((j0v c.ex hv.2.2.2.2.2.2).imp (fun h=>⟨h.1,rfl⟩) id) [142] (fun t h=>by simp at h;exact .inl h) b hb
 have hvc:vC ⟨c.cl+12,c.ins,c.p1,c.p2,b,65536⟩=true:=decide_eq_true ⟨by simp only;omega,by simp only;omega,hv.2.2.1,hv.2.2.2.1,hv.2.2.2.2.1,hlb,.inr (by simp only;omega)⟩
 unfold jq
 rw [iF (by rw [h1];simp),iF (by rw [hvc];simp),iF hn,iF (by simp only;omega),hN]
 simp only
 rw [ho]
 have e:=j0u k1 N c.data
 show(if ¬kr k2 N (xr (c.cl+12) c.ins c.p1 c.p2) ((q7 135 (XN k1 N c.data)).app (q7 151 (exV c.ex))).enc=kr k2 N (xr (c.cl+12) c.ins c.p1 c.p2) ((q7 135 (XN k1 N c.data)).app (q7 151 (exV c.ex))).enc then _
  else if ¬kt k1 N ((XN k1 N c.data).drop 1)=0 then _ else _)=_
 rw [iF (fun h=>h rfl),iF (fun h=>h e.2)]
 show(0,(⟨c.cl+12 - 12,c.ins,c.p1,c.p2,qk k1 N ((XN k1 N c.data).drop 1),exW (exV c.ex)⟩:Cm),k1,k2,n+1)=_
 rw [e.1,j3m c.ex hv.2.2.2.2.2.2,show c.cl+12 - 12=c.cl by omega]
theorem j28{k2 N head V M:List UInt8}{tg:Int}(hk2:k2.length=16)(hv:qP tg=true)(hp:jY tg=false)(ht:tg<=255)(hV:V.length<=4000)(hM:M.length<=2):
 ∃b,qT k2 N head ((q7 135 V).app (q7 tg M))=.ok b/\b.length=(q7 135 V).enc.length+((q7 tg M).enc.length+10):=by
 obtain⟨L,hL⟩:∃L,(q7 135 V).app (q7 tg M)=L:=⟨_,rfl⟩
 have hLc:L.chk 1=0:=by rw [<-hL];exact zg _ _ (by decide) (by decide) _ (by have:=zg tg M hv hp .nil rfl;rwa [Ns.app_nil]at this)
 have hLa:L.all<=2:=by rw [<-hL];have:=ze 135 V (q7 tg M);have h9:=ze tg M .nil;rw [Ns.app_nil]at h9;simp only [Ns.all]at h9;omega
 have hle:L.enc.length=(q7 135 V).enc.length+(q7 tg M).enc.length:=by rw [<-hL,xq,List.length_append]
 have hl1:(q7 135 V).enc.length<=4+V.length:=by
  unfold q7
  split
  ·simp [Ns.enc]
  ·have:=zi 135 V .nil (by decide) (by decide) (by omega)
   simpa [Ns.enc]using this
 have hl2:(q7 tg M).enc.length<=4+M.length:=by
  unfold q7
  split
  ·simp [Ns.enc]
  ·have:=zi tg M .nil hp ht (by omega)
   simpa [Ns.enc]using this
 rw [hL,xh k2 N head hLc (by omega)]
 have hLe:=xL hLc (by omega)
 rw [iF (by omega)]at hLe
 rw [hLe,show bytesOf (.ok L.enc:Except Int (List UInt8))=L.enc from rfl]
 obtain⟨C,hC⟩:∃C,kr k2 N head L.enc=C:=⟨_,rfl⟩
 have hcl:C.length=8:=by
  rw [<-hC];unfold kr;rw [List.length_take]
  have:=zR hk2 (N++(head++L.enc));omega
 have hce:(Ns.cons 142 C .nil .nil).enc.length=10:=by
  have h1:jY 142=false:=by decide
  have h2:(xk 8).length=1:=rfl
  have h3:(km 142).length=1:=by decide
  simp [Ns.enc,h1,h2,h3,hcl]
 rw [hC,yo C hLc (by omega),xq,iF (by rw [List.length_append,hce];omega)]
 exact⟨_,rfl,by rw [List.length_append,hce,hle];omega⟩
theorem j4j:(q7 151 (exV 8)).enc.length=3:=by decide
theorem XR:∃b:List UInt8,b.length=13/\q6 Z16 Z16 0 ⟨0,176,0,0,[],8⟩=(0,⟨12,176,0,0,b,65536⟩,Z16,Z16,1)/\jq Z16 Z16 0 ⟨12,176,0,0,b,65536⟩=(0,⟨0,176,0,0,[],8⟩,Z16,Z16,1):=by
 have h1:vS Z16 Z16 0=true:=decide_eq_true ⟨qC,qC,by decide,by decide⟩
 have h2:vC ⟨0,176,0,0,[],8⟩=true:=by decide
 have h3:Jb 0=true:=by decide
 obtain⟨b,hb,hl⟩:=j28 (k2:=Z16) (N:=J3 (0+1)) (head:=xr (0+12) 176 0 0) (V:=XN Z16 (J3 (0+1)) []) (M:=exV 8) (tg:=151) qC (by decide) (by decide) (by decide) (by simp [XN]) (by decide)
 rw [<-Kv,<-ZJ]at hb
 refine⟨b,?_,?_,?_⟩
 ·rw [hl,j4j]<;>rfl
 ·unfold q6
  rw [iF (by rw [h1];simp),iF (by rw [h2];simp),iF (by rw [show(⟨0,176,0,0,[],8⟩:Cm).cl=0 from rfl,h3];simp),iF (by decide)]
  simp only
  rw [hb]
  rfl
 ·have:=Zu (c:=⟨0,176,0,0,[],8⟩) h1 h2 h3 (by decide) (by simp) hb
  exact this
def QI(w:World)(q:Nat):Prop:=w.heap[q]?=some (.cells #[.int .i64 0,.int .i64 0,.int .i64 0,.int .i64 0,.slice none 0 0,.int .i64 0] 32 (0,0))
def QH(w:World)(q:Nat):Prop:=w.heap[q]?=some (.cells #[.slice none 0 0,.slice none 0 0,.int .i64 0] 29 (0,0))
theorem j0i{w:World}{q:Nat}(h:QI w q)(g:QH w q):False:=by
 unfold QI at h
 unfold QH at g
 rw [h]at g
 simp at g
structure RZ2 (w0 w1 w2:World):Prop where
 size:w1.heap.size<=w2.heap.size
 at_:∀k,k<w1.heap.size->w2.heap[k]?=w1.heap[k]? \/QI w1 k\/QH w1 k
theorem RZ2.of{w0 w1 w2:World}(h:Below w1.heap.size w1 w2):RZ2 w0 w1 w2:=⟨h.size,fun k hk=>.inl (h.block k hk)⟩
theorem RZ2.refl{w0 w1:World}:RZ2 w0 w1 w1:=⟨Nat.le_refl _,fun _ _=>.inl rfl⟩
theorem RZ2.set3{w0 w1:World}{q:Nat}(hrow:QH w1 q)(a b c:Value):RZ2 w0 w1 (set3 w1 q a b c):=⟨by rw [zl];exact Nat.le_refl _,fun k _=>by
 by_cases h:k=q
 ·subst h;exact .inr (.inr hrow)
 ·exact .inl (jS h)⟩
theorem RZ2.set6{w0 w1:World}{q:Nat}(hrow:QI w1 q)(a b c d e f:Value):RZ2 w0 w1 (set6 w1 q a b c d e f):=⟨by rw [Ka];exact Nat.le_refl _,fun k _=>by
 by_cases h:k=q
 ·subst h;exact .inr (.inl hrow)
 ·exact .inl (kH h)⟩
theorem RZ2.row3{w0 w1 w2:World}(h:RZ2 w0 w1 w2){q:Nat}{a b c:Value}(hr:w1.heap[q]?=some (.cells #[a,b,c] 29 (0,0)))(hn:c≠ .int .i64 0):w2.heap[q]?=some (.cells #[a,b,c] 29 (0,0)):=by
 rcases h.at_ q (iG hr)with e|e|e
 ·rw [e,hr]
 ·unfold QI at e
  rw [hr]at e
  simp at e
 ·unfold QH at e
  rw [hr]at e
  simp at e
  exact absurd e.2.2 hn
theorem RZ2.row6{w0 w1 w2:World}(h:RZ2 w0 w1 w2){q:Nat}{a b c d e f:Value}(hr:w1.heap[q]?=some (.cells #[a,b,c,d,e,f] 32 (0,0)))(hn:b≠ .int .i64 0):w2.heap[q]?=some (.cells #[a,b,c,d,e,f] 32 (0,0)):=by
 rcases h.at_ q (iG hr)with e|e|e
 ·rw [e,hr]
 ·unfold QI at e
  rw [hr]at e
  simp at e
  exact absurd e.2.1 hn
 ·unfold QH at e
  rw [hr]at e
  simp at e
theorem BsS.rz2{w0 w1 w2:World}{v:Value}{l:List UInt8}(h:Bs w1 w1.heap.size v l)(hr:RZ2 w0 w1 w2):Bs w2 w2.heap.size v l:=by
 obtain⟨a,c,hv,h1,h2,h3,h4⟩:=h
 refine⟨a,c,hv,h1,h2,h3,fun h0=> ?_⟩
 obtain⟨b,off,e,hS,hc⟩:=h4 h0
 refine⟨b,off,e,iZ hS hr.size,fun j hj=> ?_⟩
 rcases hr.at_ b hS with hb|hb|hb
 ·rw [World.cell?_of_block (a:=⟨b,off+j,none⟩) hb];exact hc j hj
 ·exfalso
  have hc0:=hc j hj
  rw [cell_of_row _ _ _ _ _ _ hb]at hc0
  exact j4u (A:=none) (n:=0) (k:=0) (off+j) _ hc0
 ·exfalso
  have hc0:=hc j hj
  rw [cell_of_row _ _ _ _ _ _ hb]at hc0
  exact j4t none none 0 0 0 0 0 (off+j) _ hc0
def JZ2(w0:World)(a s c t:Nat)(L:Nat->Bool)(v:Nat->Value)(w1:World):Prop:=
 Below w0.heap.size w0 w1/\(L s=false->L a=true->∃q,v a=.pointer (some ⟨q,0,none⟩)/\w0.heap.size<=q/\q<w1.heap.size/\QI w1 q)/\(L t=false->L c=true->∃q,v c=.pointer (some ⟨q,0,none⟩)/\w0.heap.size<=q/\q<w1.heap.size/\QH w1 q)
section
variable {w0 w1 w2:World} {a s c t:Nat} {L:Nat->Bool} {v:Nat->Value} {y:Value}
theorem JZ2.start:JZ2 w0 a s c t (fun _=>false) v w0.drew:=by
 refine⟨iB.drew,fun _ h=> ?_,fun _ h=> ?_⟩<;>exact absurd h (by simp)
theorem JZ2.step(h:JZ2 w0 a s c t L v w1)(hb:Below w1.heap.size w1 w2)(i:Nat)(ha:i≠a)(hs:i≠s)(hc:i≠c)(ht:i≠t):JZ2 w0 a s c t (jp L i) (jN v i y) w2:=by
 refine⟨h.1.trans (hb.mono h.1.size),fun h1 h2=> ?_,fun h1 h2=> ?_⟩
 ·simp only [jp]at h1 h2
  rw [iF (Ne.symm hs)]at h1
  rw [iF (Ne.symm ha)]at h2
  obtain⟨q,e,hq,hl,hz⟩:=h.2.1 h1 h2
  exact⟨q,by simp only [jN];rw [iF (Ne.symm ha)];exact e,hq,iZ hl hb.size,(hb.block q hl).trans hz⟩
 ·simp only [jp]at h1 h2
  rw [iF (Ne.symm ht)]at h1
  rw [iF (Ne.symm hc)]at h2
  obtain⟨q,e,hq,hl,hz⟩:=h.2.2 h1 h2
  exact⟨q,by simp only [jN];rw [iF (Ne.symm hc)];exact e,hq,iZ hl hb.size,(hb.block q hl).trans hz⟩
theorem JZ2.alloc6(h:JZ2 w0 a s c t L v w1)(_:a≠s)(hc:c≠a)(ht:t≠a):JZ2 w0 a s c t (jp L a) (jN v a (.pointer (some ⟨w1.heap.size,0,none⟩))) (w1.alloc (.cells #[.int .i64 0,.int .i64 0,.int .i64 0,.int .i64 0,.slice none 0 0,.int .i64 0] 32)):=by
 refine⟨h.1.alloc h.1.size _,fun _ _=>⟨w1.heap.size,by simp [jN],h.1.size,by simp,iN⟩,fun h1 h2=> ?_⟩
 simp only [jp]at h1 h2
 rw [iF ht]at h1
 rw [iF hc]at h2
 obtain⟨q,e,hq,hl,hz⟩:=h.2.2 h1 h2
 exact⟨q,by simp only [jN];rw [iF hc];exact e,hq,iZ hl (by simp),(Below.heap_alloc _ _ _ hl).trans hz⟩
theorem JZ2.alloc3(h:JZ2 w0 a s c t L v w1)(_:c≠t)(ha:a≠c)(hs:s≠c):JZ2 w0 a s c t (jp L c) (jN v c (.pointer (some ⟨w1.heap.size,0,none⟩))) (w1.alloc (.cells #[.slice none 0 0,.slice none 0 0,.int .i64 0] 29)):=by
 refine⟨h.1.alloc h.1.size _,fun h1 h2=> ?_,fun _ _=>⟨w1.heap.size,by simp [jN],h.1.size,by simp,iN⟩⟩
 simp only [jp]at h1 h2
 rw [iF hs]at h1
 rw [iF ha]at h2
 obtain⟨q,e,hq,hl,hz⟩:=h.2.1 h1 h2
 exact⟨q,by simp only [jN];rw [iF ha];exact e,hq,iZ hl (by simp),(Below.heap_alloc _ _ _ hl).trans hz⟩
theorem JZ2.store6(h:JZ2 w0 a s c t L v w1){q:Nat}(hq:w0.heap.size<=q)(hrow:QI w1 q)(_:a≠s)(hc:c≠s)(ht:t≠s){b1 b2 b3 b4 b5 b6:Value}:JZ2 w0 a s c t (jp L s) (jN v s y) (set6 w1 q b1 b2 b3 b4 b5 b6):=by
 refine⟨KL h.1 hq,fun h1=>by simp [jp]at h1,fun h1 h2=> ?_⟩
 simp only [jp]at h1 h2
 rw [iF ht]at h1
 rw [iF hc]at h2
 obtain⟨p,e,hp,hl,hz⟩:=h.2.2 h1 h2
 have hne:p≠q:=fun e=>by subst e;exact j0i hrow hz
 exact⟨p,by simp only [jN];rw [iF hc];exact e,hp,by rw [Ka];exact hl,(kH hne).trans hz⟩
theorem JZ2.store3(h:JZ2 w0 a s c t L v w1){q:Nat}(hq:w0.heap.size<=q)(hrow:QH w1 q)(_:c≠t)(ha:a≠t)(hs:s≠t){b1 b2 b3:Value}:JZ2 w0 a s c t (jp L t) (jN v t y) (set3 w1 q b1 b2 b3):=by
 refine⟨kQ h.1 hq,fun h1 h2=> ?_,fun h1=>by simp [jp]at h1⟩
 simp only [jp]at h1 h2
 rw [iF hs]at h1
 rw [iF ha]at h2
 obtain⟨p,e,hp,hl,hz⟩:=h.2.1 h1 h2
 have hne:p≠q:=fun e=>by subst e;exact j0i hz hrow
 exact⟨p,by simp only [jN];rw [iF ha];exact e,hp,by rw [zl];exact hl,(jS hne).trans hz⟩
end
theorem ZQ(w:World):Calls Tryz.prog 24 #[] w fun e w'=>∃X1 x1 X2 x2,e=.returned (.agg #[.slice X1 16 x1,.slice X2 16 x2,.int .i64 0])/\Bs w' w'.heap.size (.slice X1 16 x1) Z16/\Bs w' w'.heap.size (.slice X2 16 x2) Z16/\Below w.heap.size w w':=by
 have hmx:Tryz.prog.follows .mixedOrders=true:=by kernel_rfl
 obtain⟨w0,hw0⟩:∃w0,w0=w.alloc (.cells #[.slice none 0 0,.slice none 0 0,.int .i64 0] 29):=⟨_,rfl⟩
 have hB0:Below w.heap.size w w0:=by rw [hw0];exact iA
 have hh0:w0.heap[w.heap.size]?=some (.cells #[.slice none 0 0,.slice none 0 0,.int .i64 0] 29 (0,0)):=by rw [hw0];exact iN
 have HB:=iH hB0;have HR:=iH hh0;have HLT:=iH (iG hh0);have HW0:=iH hw0
 clear hB0 hh0 hw0
 go_enter Tryz.func24,Tryz.ntmps24
 go_upto_region 1 with fail
 rw [<-HW0.out]
 refine je 3 [some 1,some 2,some 3] [[],[],[0,1]]
  (fun _ _ w1=>Below w0.heap.size w0 w1) (fun w1 w2=>Below w1.heap.size w1 w2)
  [fun v w1=>∃q,v 0=.slice (some ⟨q,0,none⟩) 16 16/\Bs w1 w1.heap.size (.slice (some ⟨q,0,none⟩) 16 16) Z16,
   fun v w1=>∃q,v 1=.slice (some ⟨q,0,none⟩) 16 16/\Bs w1 w1.heap.size (.slice (some ⟨q,0,none⟩) 16 16) Z16,
   fun v w1=>∃q0 q1,v 2=.agg #[.slice (some ⟨q0,0,none⟩) 16 16,.slice (some ⟨q1,0,none⟩) 16 16,.int .i64 0]/\Bs w1 w1.heap.size (.slice (some ⟨q0,0,none⟩) 16 16) Z16/\Bs w1 w1.heap.size (.slice (some ⟨q1,0,none⟩) 16 16) Z16]
  (by kernel_rfl) (by kernel_rfl) (fun _=>iB.drew) ?st ?steps ?tail
 case st=>
  exact(.cons (fun _ _ _ _ _ hr ⟨q,e,h⟩=>⟨q,e,h.lift hr⟩) (.cons (fun _ _ _ _ _ hr ⟨q,e,h⟩=>⟨q,e,h.lift hr⟩) (.cons (fun _ _ _ _ _ hr ⟨q0,q1,e,h,g⟩=>⟨q0,q1,e,h.lift hr,g.lift hr⟩) .nil)))
 case steps=>
  simp only [iI,iK]
  refine(.cons ?_ (.cons ?_ (.cons ?_ .nil)))
  all_goals(intro L v w1 hJ hL hA hF K hK;simp only [jf,Act.put,iM,Nat.reduceAdd,iS,iC,iD]at hK |-)
  ·have Hm:=Kz
   go_simp
   exact hK _ _ (hJ.trans ((jW w1).mono hJ.size)) (jW w1) ⟨_,rfl,BsS.keep (Kh w1) fun g hs _=>⟨rfl,hs.2⟩⟩
  ·have Hm:=Kz
   go_simp
   exact hK _ _ (hJ.trans ((jW w1).mono hJ.size)) (jW w1) ⟨_,rfl,BsS.keep (Kh w1) fun g hs _=>⟨rfl,hs.2⟩⟩
  ·obtain⟨q0,e0,h0⟩:∃q,v 0=.slice (some ⟨q,0,none⟩) 16 16/\Bs w1 w1.heap.size (.slice (some ⟨q,0,none⟩) 16 16) Z16:=hF 0 (hA 0 (by simp))
   obtain⟨q1,e1,h1⟩:∃q,v 1=.slice (some ⟨q,0,none⟩) 16 16/\Bs w1 w1.heap.size (.slice (some ⟨q,0,none⟩) 16 16) Z16:=hF 1 (hA 1 (by simp))
   simp only [e0,e1]at hK
   go_simp
   exact hK _ _ hJ iB ⟨_,_,rfl,h0,h1⟩
 case tail=>
  intro v w1 hJ hF
  obtain⟨q0,q1,e2,h0,h1⟩:∃q0 q1,v 2=.agg #[.slice (some ⟨q0,0,none⟩) 16 16,.slice (some ⟨q1,0,none⟩) 16 16,.int .i64 0]/\Bs w1 w1.heap.size (.slice (some ⟨q0,0,none⟩) 16 16) Z16/\Bs w1 w1.heap.size (.slice (some ⟨q1,0,none⟩) 16 16) Z16:=hF 2 (by simp)
  simp only [iE,iJ,jf,Act.put,iM,Nat.reduceAdd,iS,iC,iD]
  simp only [e2]
  have hr:=(hJ.block w.heap.size HLT.out).trans HR.out
  obtain⟨z0,z1,z2,zf⟩:=j7 hr
  have zf0:=zf 0;have zf1:=zf 1;have zf2:=zf 2
  obtain⟨y0,y1,y2,_⟩:=j7 (qu (.slice (some ⟨q0,0,none⟩) 16 16) (.slice (some ⟨q1,0,none⟩) 16 16) (.int .i64 0) hr)
  have HRR:=iH hr;have H0:=iH h0;have H1:=iH h1;have HJ:=iH hJ
  clear zf hr h0 h1 hJ hF e2
  go_wp2_with fail
  refine bodyPost_ret (v:=.agg #[.slice (some ⟨q0,0,none⟩) 16 16,.slice (some ⟨q1,0,none⟩) 16 16,.int .i64 0]) (by simp only [set3]at y0 y1 y2;simp [results,Tryz.results24,go_sem,y0,y1,y2]) rfl ?_
  refine⟨_,_,_,_,rfl,?_,?_,kQ (HB.out.trans (HJ.out.mono HB.out.size)) iL⟩
  ·exact BsS.keep (BsS.off H0.out HRR.out (j4t none none 0 0 0 0 0)) fun g hg _=>⟨jS hg.2,by simpa [set3]using hg.1⟩
  ·exact BsS.keep (BsS.off H1.out HRR.out (j4t none none 0 0 0 0 0)) fun g hg _=>⟨jS hg.2,by simpa [set3]using hg.1⟩
theorem Yl(w:World):Calls Tryz.prog 8 #[] w fun e w'=>e=.returned (.bool true)/\Below w.heap.size w w':=by
 have hmx:Tryz.prog.follows .mixedOrders=true:=by kernel_rfl
 obtain⟨b,hb,hwr,hun⟩:=XR
 have LD2:Hid (b.length=13):=iH hb
 have LD3:Hid (([]:List UInt8).length=0):=iH rfl
 have HWR:Hid (∀(x y:Value) (w:World),Bs w w.heap.size x Z16->Bs w w.heap.size y Z16->Calls Tryz.prog 23 #[.agg #[x,y,.int .i64 0],.agg #[.int .i64 0,.int .i64 176,.int .i64 0,.int .i64 0,.slice none 0 0,.int .i64 8]] w (yy (0,⟨12,176,0,0,b,65536⟩,Z16,Z16,1) w)):=iH (fun x y w h1 h2=>by rw [<-hwr];exact Xe _ _ Z16 Z16 0 ⟨0,176,0,0,[],8⟩ w ⟨x,y,rfl,h1,h2⟩ ⟨_,rfl,BsS.nil0 _ _⟩)
 have HUN:Hid (∀(x y d:Value) (w:World),Bs w w.heap.size x Z16->Bs w w.heap.size y Z16->Bs w w.heap.size d b->Calls Tryz.prog 25 #[.agg #[x,y,.int .i64 0],.agg #[.int .i64 12,.int .i64 176,.int .i64 0,.int .i64 0,d,.int .i64 65536]] w (yy (0,⟨0,176,0,0,[],8⟩,Z16,Z16,1) w)):=iH (fun x y d w h1 h2 h3=>by rw [<-hun];exact JH _ _ Z16 Z16 0 ⟨12,176,0,0,b,65536⟩ w ⟨x,y,rfl,h1,h2⟩ ⟨d,rfl,h3⟩)
 clear hb hwr hun
 obtain⟨n0,n1,n2,n3,n4,n5,nf⟩:=ja (qW w)
 have nf0:=nf 0;have nf1:=nf 1;have nf2:=nf 2;have nf3:=nf 3;have nf4:=nf 4;have nf5:=nf 5
 clear nf
 go_enter Tryz.func8,Tryz.ntmps8
 go_upto_region 2 with fail
 obtain⟨w1r,hw1⟩:∃w1r,w1r=w.alloc (.cells #[.int .i64 0,.int .i64 176,.int .i64 0,.int .i64 0,.slice none 0 0,.int .i64 8] 32):=⟨_,rfl⟩
 rw [<-hw1]
 have HBW1:Hid (Below w.heap.size w w1r):=iH (by rw [hw1];exact iA)
 have HR1:Hid (w1r.heap[w.heap.size]?=some (.cells #[.int .i64 0,.int .i64 176,.int .i64 0,.int .i64 0,.slice none 0 0,.int .i64 8] 32 (0,0))):=iH (by rw [hw1];exact iN)
 clear hw1 n0 n1 n2 n3 n4 n5 nf0 nf1 nf2 nf3 nf4 nf5
 refine je 12 [some 10,some 11,some 12,some 9,some 13,some 14,some 15,some 2,some 3,none,none,some 4] [[],[],[0,1],[0,1,2],[0,1,2,3],[0,1,2,3],[0,1,2,3],[],[],[0,1,2,3,4,7,8],[0,1,2,3,4,5,7,8,9],[0,1,2,3,4,5,6,7,8,9,10]]
  (JZ2 w1r 7 9 8 10) (RZ2 w1r)
  [fun v w1=>∃X1 x1 X2 x2,v 0=.agg #[.slice X1 16 x1,.slice X2 16 x2,.int .i64 0]/\Bs w1 w1.heap.size (.slice X1 16 x1) Z16/\Bs w1 w1.heap.size (.slice X2 16 x2) Z16,
   fun v _=>v 1=.agg #[.int .i64 0,.int .i64 176,.int .i64 0,.int .i64 0,.slice none 0 0,.int .i64 8],
   fun v w1=>∃dA dc X1 x1 X2 x2,v 2=.tuple #[.agg #[.int .i64 12,.int .i64 176,.int .i64 0,.int .i64 0,.slice dA 13 dc,.int .i64 65536],.agg #[.slice X1 16 x1,.slice X2 16 x2,.int .i64 1],.int .i64 0]/\Bs w1 w1.heap.size (.slice dA 13 dc) b/\Bs w1 w1.heap.size (.slice X1 16 x1) Z16/\Bs w1 w1.heap.size (.slice X2 16 x2) Z16,
   fun v w1=>∃dA dc X1 x1 X2 x2,v 3=.tuple #[.agg #[.int .i64 12,.int .i64 176,.int .i64 0,.int .i64 0,.slice dA 13 dc,.int .i64 65536],.agg #[.slice X1 16 x1,.slice X2 16 x2,.int .i64 1],.int .i64 0]/\Bs w1 w1.heap.size (.slice dA 13 dc) b/\Bs w1 w1.heap.size (.slice X1 16 x1) Z16/\Bs w1 w1.heap.size (.slice X2 16 x2) Z16,
   fun v w1=>∃dA dc,v 4=.agg #[.int .i64 12,.int .i64 176,.int .i64 0,.int .i64 0,.slice dA 13 dc,.int .i64 65536]/\Bs w1 w1.heap.size (.slice dA 13 dc) b,
   fun v w1=>∃X1 x1 X2 x2,v 5=.agg #[.slice X1 16 x1,.slice X2 16 x2,.int .i64 1]/\Bs w1 w1.heap.size (.slice X1 16 x1) Z16/\Bs w1 w1.heap.size (.slice X2 16 x2) Z16,
   fun v _=>v 6=.int .i64 0,
   fun v w1=>True,
   fun v w1=>True,
   fun v w1=>∃q dA dc,v 7=.pointer (some ⟨q,0,none⟩)/\w1r.heap.size<=q/\w1.heap[q]?=some (.cells #[.int .i64 12,.int .i64 176,.int .i64 0,.int .i64 0,.slice dA 13 dc,.int .i64 65536] 32 (0,0))/\Bs w1 w1.heap.size (.slice dA 13 dc) b,
   fun v w1=>∃q X1 x1 X2 x2,v 8=.pointer (some ⟨q,0,none⟩)/\w1r.heap.size<=q/\w1.heap[q]?=some (.cells #[.slice X1 16 x1,.slice X2 16 x2,.int .i64 1] 29 (0,0))/\Bs w1 w1.heap.size (.slice X1 16 x1) Z16/\Bs w1 w1.heap.size (.slice X2 16 x2) Z16,
   fun v _=>v 11=.int .i64 0]
  (by kernel_rfl) (by kernel_rfl) (fun _=>JZ2.start) ?st2 ?steps2 ?tail2
 case st2=>
  exact(.cons (fun _ _ _ _ _ hr ⟨X1,x1,X2,x2,e,h1,h2⟩=>⟨X1,x1,X2,x2,e,h1.rz2 hr,h2.rz2 hr⟩) (.cons (fun _ _ _ _ _ _ h=>h) (.cons (fun _ _ _ _ _ hr ⟨dA,dc,X1,x1,X2,x2,e,h0,h1,h2⟩=>⟨dA,dc,X1,x1,X2,x2,e,h0.rz2 hr,h1.rz2 hr,h2.rz2 hr⟩) (.cons (fun _ _ _ _ _ hr ⟨dA,dc,X1,x1,X2,x2,e,h0,h1,h2⟩=>⟨dA,dc,X1,x1,X2,x2,e,h0.rz2 hr,h1.rz2 hr,h2.rz2 hr⟩) (.cons (fun _ _ _ _ _ hr ⟨dA,dc,e,h⟩=>⟨dA,dc,e,h.rz2 hr⟩) (.cons (fun _ _ _ _ _ hr ⟨X1,x1,X2,x2,e,h1,h2⟩=>⟨X1,x1,X2,x2,e,h1.rz2 hr,h2.rz2 hr⟩) (.cons (fun _ _ _ _ _ _ h=>h) (.cons (fun _ _ _ _ _ _ h=>h) (.cons (fun _ _ _ _ _ _ h=>h) (.cons (fun _ _ _ _ _ hr ⟨q,dA,dc,e,hq,hw,h⟩=>⟨q,dA,dc,e,hq,hr.row6 hw (by simp),h.rz2 hr⟩) (.cons (fun _ _ _ _ _ hr ⟨q,X1,x1,X2,x2,e,hq,hw,h1,h2⟩=>⟨q,X1,x1,X2,x2,e,hq,hr.row3 hw (by simp),h1.rz2 hr,h2.rz2 hr⟩) (.cons (fun _ _ _ _ _ _ h=>h) .nil))))))))))))
 case steps2=>
  simp only [iI,iK]
  refine(.cons ?_ (.cons ?_ (.cons ?_ (.cons ?_ (.cons ?_ (.cons ?_ (.cons ?_ (.cons ?_ (.cons ?_ (.cons ?_ (.cons ?_ (.cons ?_ .nil))))))))))))
  all_goals(intro L v w1 hJ hL hA hF K hK;simp only [jf,Act.put,iM,Nat.reduceAdd,iS,iC,iD]at hK |-)
  ·go_simp
   refine(ZQ w1).mono ?_
   rintro e w5 ⟨X1,x1,X2,x2,rfl,h1,h2,hb⟩
   exact hK _ _ (hJ.step hb 0 (by decide) (by decide) (by decide) (by decide)) (RZ2.of hb) ⟨_,_,_,_,rfl,h1,h2⟩
  ·obtain⟨c0,c1,c2,c3,c4,c5,_⟩:=ja ((hJ.1.block w.heap.size (iG HR1.out)).trans HR1.out)
   go_simp
   refine hK _ _ (hJ.step iB 1 (by decide) (by decide) (by decide) (by decide)) RZ2.refl ?_
   first|exact rfl|exact j5 _
  ·have e1:v 1=.agg #[.int .i64 0,.int .i64 176,.int .i64 0,.int .i64 0,.slice none 0 0,.int .i64 8]:=hF 1 (hA 1 (by simp))
   simp only [e1]at hK
   obtain⟨X1,x1,X2,x2,e0,h1,h2⟩:∃X1 x1 X2 x2,v 0=.agg #[.slice X1 16 x1,.slice X2 16 x2,.int .i64 0]/\Bs w1 w1.heap.size (.slice X1 16 x1) Z16/\Bs w1 w1.heap.size (.slice X2 16 x2) Z16:=hF 0 (hA 0 (by simp))
   simp only [e0]at hK
   go_simp
   refine(HWR.out (.slice X1 16 x1) (.slice X2 16 x2) w1 h1 h2).mono ?_
   rintro e w5 ⟨cv,sv,rfl,⟨dd,rfl,hd⟩,⟨y1,y2,rfl,g1,g2⟩,hb⟩
   obtain⟨dA,dc,hp⟩:∃A c,dd=.slice A 13 c:=(by obtain⟨a,c,e,_⟩:=hd;exact⟨a,c,by rw [e,LD2.out]⟩)
   obtain⟨Y1,c1,hp1⟩:∃A c,y1=.slice A 16 c:=(by obtain⟨a,c,e,_⟩:=g1;exact⟨a,c,by rw [e,qC]⟩)
   obtain⟨Y2,c2,hp2⟩:∃A c,y2=.slice A 16 c:=(by obtain⟨a,c,e,_⟩:=g2;exact⟨a,c,by rw [e,qC]⟩)
   subst hp;subst hp1;subst hp2
   exact hK _ _ (hJ.step hb 2 (by decide) (by decide) (by decide) (by decide)) (RZ2.of hb) ⟨_,_,_,_,_,_,rfl,hd,g1,g2⟩
  ·obtain⟨dA,dc,X1,x1,X2,x2,e2,h0,h1,h2⟩:∃dA dc X1 x1 X2 x2,v 2=.tuple #[.agg #[.int .i64 12,.int .i64 176,.int .i64 0,.int .i64 0,.slice dA 13 dc,.int .i64 65536],.agg #[.slice X1 16 x1,.slice X2 16 x2,.int .i64 1],.int .i64 0]/\Bs w1 w1.heap.size (.slice dA 13 dc) b/\Bs w1 w1.heap.size (.slice X1 16 x1) Z16/\Bs w1 w1.heap.size (.slice X2 16 x2) Z16:=hF 2 (hA 2 (by simp))
   simp only [e2]at hK
   go_simp
   exact hK _ _ (hJ.step iB 3 (by decide) (by decide) (by decide) (by decide)) RZ2.refl ⟨_,_,_,_,_,_,rfl,h0,h1,h2⟩
  ·obtain⟨dA,dc,X1,x1,X2,x2,e3,h0,h1,h2⟩:∃dA dc X1 x1 X2 x2,v 3=.tuple #[.agg #[.int .i64 12,.int .i64 176,.int .i64 0,.int .i64 0,.slice dA 13 dc,.int .i64 65536],.agg #[.slice X1 16 x1,.slice X2 16 x2,.int .i64 1],.int .i64 0]/\Bs w1 w1.heap.size (.slice dA 13 dc) b/\Bs w1 w1.heap.size (.slice X1 16 x1) Z16/\Bs w1 w1.heap.size (.slice X2 16 x2) Z16:=hF 3 (hA 3 (by simp))
   simp only [e3]at hK
   go_simp
   exact hK _ _ (hJ.step iB 4 (by decide) (by decide) (by decide) (by decide)) RZ2.refl ⟨_,_,rfl,h0⟩
  ·obtain⟨dA,dc,X1,x1,X2,x2,e3,h0,h1,h2⟩:∃dA dc X1 x1 X2 x2,v 3=.tuple #[.agg #[.int .i64 12,.int .i64 176,.int .i64 0,.int .i64 0,.slice dA 13 dc,.int .i64 65536],.agg #[.slice X1 16 x1,.slice X2 16 x2,.int .i64 1],.int .i64 0]/\Bs w1 w1.heap.size (.slice dA 13 dc) b/\Bs w1 w1.heap.size (.slice X1 16 x1) Z16/\Bs w1 w1.heap.size (.slice X2 16 x2) Z16:=hF 3 (hA 3 (by simp))
   simp only [e3]at hK
   go_simp
   exact hK _ _ (hJ.step iB 5 (by decide) (by decide) (by decide) (by decide)) RZ2.refl ⟨_,_,_,_,rfl,h1,h2⟩
  ·obtain⟨dA,dc,X1,x1,X2,x2,e3,h0,h1,h2⟩:∃dA dc X1 x1 X2 x2,v 3=.tuple #[.agg #[.int .i64 12,.int .i64 176,.int .i64 0,.int .i64 0,.slice dA 13 dc,.int .i64 65536],.agg #[.slice X1 16 x1,.slice X2 16 x2,.int .i64 1],.int .i64 0]/\Bs w1 w1.heap.size (.slice dA 13 dc) b/\Bs w1 w1.heap.size (.slice X1 16 x1) Z16/\Bs w1 w1.heap.size (.slice X2 16 x2) Z16:=hF 3 (hA 3 (by simp))
   simp only [e3]at hK
   go_simp
   exact hK _ _ (hJ.step iB 6 (by decide) (by decide) (by decide) (by decide)) RZ2.refl rfl
  ·go_simp
   exact hK _ _ (hJ.alloc6 (by decide) (by decide) (by decide)) (RZ2.of (iA)) trivial
  ·go_simp
   exact hK _ _ (hJ.alloc3 (by decide) (by decide) (by decide)) (RZ2.of (iA)) trivial
  ·obtain⟨q,e7,hq0,hq1,hrow⟩:=hJ.2.1 hL (hA 7 (by simp))
   obtain⟨dA,dc,e4,hd⟩:∃dA dc,v 4=.agg #[.int .i64 12,.int .i64 176,.int .i64 0,.int .i64 0,.slice dA 13 dc,.int .i64 65536]/\Bs w1 w1.heap.size (.slice dA 13 dc) b:=hF 4 (hA 4 (by simp))
   simp only [e7,e4]at hK |-
   obtain⟨z0,z1,z2,z3,z4,z5,zf⟩:=ja hrow
   have zf0:=zf 0;have zf1:=zf 1;have zf2:=zf 2;have zf3:=zf 3;have zf4:=zf 4;have zf5:=zf 5
   clear zf
   go_simp
   exact hK undef _ (hJ.store6 hq0 hrow (by decide) (by decide) (by decide)) (RZ2.set6 hrow _ _ _ _ _ _) ⟨q,dA,dc,e7,hq0,Qw _ _ _ _ _ _ hrow,hd.rz2 (RZ2.set6 (w0:=w1r) hrow _ _ _ _ _ _)⟩
  ·obtain⟨q,e8,hq0,hq1,hrow⟩:=hJ.2.2 hL (hA 8 (by simp))
   obtain⟨X1,x1,X2,x2,e5,h1,h2⟩:∃X1 x1 X2 x2,v 5=.agg #[.slice X1 16 x1,.slice X2 16 x2,.int .i64 1]/\Bs w1 w1.heap.size (.slice X1 16 x1) Z16/\Bs w1 w1.heap.size (.slice X2 16 x2) Z16:=hF 5 (hA 5 (by simp))
   simp only [e8,e5]at hK |-
   obtain⟨z0,z1,z2,zf⟩:=j7 hrow
   have zf0:=zf 0;have zf1:=zf 1;have zf2:=zf 2
   clear zf
   go_simp
   exact hK undef _ (hJ.store3 hq0 hrow (by decide) (by decide) (by decide)) (RZ2.set3 hrow _ _ _) ⟨q,X1,x1,X2,x2,e8,hq0,qu _ _ _ hrow,h1.rz2 (RZ2.set3 (w0:=w1r) hrow _ _ _),h2.rz2 (RZ2.set3 (w0:=w1r) hrow _ _ _)⟩
  ·have e6:v 6=.int .i64 0:=hF 6 (hA 6 (by simp))
   simp only [e6]at hK
   go_simp
   refine hK _ _ (hJ.step iB 11 (by decide) (by decide) (by decide) (by decide)) RZ2.refl ?_
   first|exact rfl|exact j5 _
 case tail2=>
  intro v w1 hJ hF
  have e1:v 1=.agg #[.int .i64 0,.int .i64 176,.int .i64 0,.int .i64 0,.slice none 0 0,.int .i64 8]:=hF 1 (by simp)
  have e6:v 6=.int .i64 0:=hF 6 (by simp)
  have e11:v 11=.int .i64 0:=hF 11 (by simp)
  obtain⟨qc2,dA2,dc2,e7,hqc,hrc,hdc⟩:∃q dA dc,v 7=.pointer (some ⟨q,0,none⟩)/\w1r.heap.size<=q/\w1.heap[q]?=some (.cells #[.int .i64 12,.int .i64 176,.int .i64 0,.int .i64 0,.slice dA 13 dc,.int .i64 65536] 32 (0,0))/\Bs w1 w1.heap.size (.slice dA 13 dc) b:=hF 9 (by simp)
  obtain⟨qs2,X1,x1,X2,x2,e8,hqs,hrs,hx1,hx2⟩:∃q X1 x1 X2 x2,v 8=.pointer (some ⟨q,0,none⟩)/\w1r.heap.size<=q/\w1.heap[q]?=some (.cells #[.slice X1 16 x1,.slice X2 16 x2,.int .i64 1] 29 (0,0))/\Bs w1 w1.heap.size (.slice X1 16 x1) Z16/\Bs w1 w1.heap.size (.slice X2 16 x2) Z16:=hF 10 (by simp)
  simp only [iE,iJ,jf,Act.put,iM,Nat.reduceAdd,iS,iC,iD]
  simp only [e7,e8,e11]
  clear e1 e6 e7 e8 e11
  obtain⟨w2r,hw2⟩:∃w2r,w2r=w1:=⟨_,rfl⟩
  rw [<-hw2]at hJ hrc hrs hdc |-
  have HRC2:=iH hrc;have HRS2:=iH hrs;have HD2:=iH hdc
  have HBW2:=iH (HBW1.out.trans (hJ.1.mono HBW1.out.size))
  clear hJ hF hrc hrs hdc hx1 hx2 hqc hqs hw2
  go_upto_region 3 with fail
  refine je 12 [some 17,some 18,some 19,some 16,some 20,some 21,some 22,some 5,some 6,none,none,some 7] [[],[],[0,1],[0,1,2],[0,1,2,3],[0,1,2,3],[0,1,2,3],[],[],[0,1,2,3,4,7,8],[0,1,2,3,4,5,7,8,9],[0,1,2,3,4,5,6,7,8,9,10]]
   (JZ2 w2r 7 9 8 10) (RZ2 w2r)
   [fun v w1=>∃X1 x1 X2 x2,v 0=.agg #[.slice X1 16 x1,.slice X2 16 x2,.int .i64 0]/\Bs w1 w1.heap.size (.slice X1 16 x1) Z16/\Bs w1 w1.heap.size (.slice X2 16 x2) Z16,
    fun v _=>v 1=.agg #[.int .i64 12,.int .i64 176,.int .i64 0,.int .i64 0,.slice dA2 13 dc2,.int .i64 65536],
    fun v w1=>∃dA dc X1 x1 X2 x2,v 2=.tuple #[.agg #[.int .i64 0,.int .i64 176,.int .i64 0,.int .i64 0,.slice dA 0 dc,.int .i64 8],.agg #[.slice X1 16 x1,.slice X2 16 x2,.int .i64 1],.int .i64 0]/\Bs w1 w1.heap.size (.slice dA 0 dc) []/\Bs w1 w1.heap.size (.slice X1 16 x1) Z16/\Bs w1 w1.heap.size (.slice X2 16 x2) Z16,
    fun v w1=>∃dA dc X1 x1 X2 x2,v 3=.tuple #[.agg #[.int .i64 0,.int .i64 176,.int .i64 0,.int .i64 0,.slice dA 0 dc,.int .i64 8],.agg #[.slice X1 16 x1,.slice X2 16 x2,.int .i64 1],.int .i64 0]/\Bs w1 w1.heap.size (.slice dA 0 dc) []/\Bs w1 w1.heap.size (.slice X1 16 x1) Z16/\Bs w1 w1.heap.size (.slice X2 16 x2) Z16,
    fun v w1=>∃dA dc,v 4=.agg #[.int .i64 0,.int .i64 176,.int .i64 0,.int .i64 0,.slice dA 0 dc,.int .i64 8]/\Bs w1 w1.heap.size (.slice dA 0 dc) [],
    fun v w1=>∃X1 x1 X2 x2,v 5=.agg #[.slice X1 16 x1,.slice X2 16 x2,.int .i64 1]/\Bs w1 w1.heap.size (.slice X1 16 x1) Z16/\Bs w1 w1.heap.size (.slice X2 16 x2) Z16,
    fun v _=>v 6=.int .i64 0,
    fun v w1=>True,
    fun v w1=>True,
    fun v w1=>∃q dA dc,v 7=.pointer (some ⟨q,0,none⟩)/\w2r.heap.size<=q/\w1.heap[q]?=some (.cells #[.int .i64 0,.int .i64 176,.int .i64 0,.int .i64 0,.slice dA 0 dc,.int .i64 8] 32 (0,0))/\Bs w1 w1.heap.size (.slice dA 0 dc) [],
    fun v w1=>∃q X1 x1 X2 x2,v 8=.pointer (some ⟨q,0,none⟩)/\w2r.heap.size<=q/\w1.heap[q]?=some (.cells #[.slice X1 16 x1,.slice X2 16 x2,.int .i64 1] 29 (0,0))/\Bs w1 w1.heap.size (.slice X1 16 x1) Z16/\Bs w1 w1.heap.size (.slice X2 16 x2) Z16,
    fun v _=>v 11=.int .i64 0]
   (by kernel_rfl) (by kernel_rfl) (fun _=>JZ2.start) ?st3 ?steps3 ?tail3
  case st3=>
   exact(.cons (fun _ _ _ _ _ hr ⟨X1,x1,X2,x2,e,h1,h2⟩=>⟨X1,x1,X2,x2,e,h1.rz2 hr,h2.rz2 hr⟩) (.cons (fun _ _ _ _ _ _ h=>h) (.cons (fun _ _ _ _ _ hr ⟨dA,dc,X1,x1,X2,x2,e,h0,h1,h2⟩=>⟨dA,dc,X1,x1,X2,x2,e,h0.rz2 hr,h1.rz2 hr,h2.rz2 hr⟩) (.cons (fun _ _ _ _ _ hr ⟨dA,dc,X1,x1,X2,x2,e,h0,h1,h2⟩=>⟨dA,dc,X1,x1,X2,x2,e,h0.rz2 hr,h1.rz2 hr,h2.rz2 hr⟩) (.cons (fun _ _ _ _ _ hr ⟨dA,dc,e,h⟩=>⟨dA,dc,e,h.rz2 hr⟩) (.cons (fun _ _ _ _ _ hr ⟨X1,x1,X2,x2,e,h1,h2⟩=>⟨X1,x1,X2,x2,e,h1.rz2 hr,h2.rz2 hr⟩) (.cons (fun _ _ _ _ _ _ h=>h) (.cons (fun _ _ _ _ _ _ h=>h) (.cons (fun _ _ _ _ _ _ h=>h) (.cons (fun _ _ _ _ _ hr ⟨q,dA,dc,e,hq,hw,h⟩=>⟨q,dA,dc,e,hq,hr.row6 hw (by simp),h.rz2 hr⟩) (.cons (fun _ _ _ _ _ hr ⟨q,X1,x1,X2,x2,e,hq,hw,h1,h2⟩=>⟨q,X1,x1,X2,x2,e,hq,hr.row3 hw (by simp),h1.rz2 hr,h2.rz2 hr⟩) (.cons (fun _ _ _ _ _ _ h=>h) .nil))))))))))))
  case steps3=>
   simp only [iI,iK]
   refine(.cons ?_ (.cons ?_ (.cons ?_ (.cons ?_ (.cons ?_ (.cons ?_ (.cons ?_ (.cons ?_ (.cons ?_ (.cons ?_ (.cons ?_ (.cons ?_ .nil))))))))))))
   all_goals(intro L v w1 hJ hL hA hF K hK;simp only [jf,Act.put,iM,Nat.reduceAdd,iS,iC,iD]at hK |-)
   ·go_simp
    refine(ZQ w1).mono ?_
    rintro e w5 ⟨X1,x1,X2,x2,rfl,h1,h2,hb⟩
    exact hK _ _ (hJ.step hb 0 (by decide) (by decide) (by decide) (by decide)) (RZ2.of hb) ⟨_,_,_,_,rfl,h1,h2⟩
   ·obtain⟨c0,c1,c2,c3,c4,c5,_⟩:=ja ((hJ.1.block qc2 (iG HRC2.out)).trans HRC2.out)
    go_simp
    refine hK _ _ (hJ.step iB 1 (by decide) (by decide) (by decide) (by decide)) RZ2.refl ?_
    first|exact rfl|exact j5 _
   ·have e1:v 1=.agg #[.int .i64 12,.int .i64 176,.int .i64 0,.int .i64 0,.slice dA2 13 dc2,.int .i64 65536]:=hF 1 (hA 1 (by simp))
    simp only [e1]at hK
    obtain⟨X1,x1,X2,x2,e0,h1,h2⟩:∃X1 x1 X2 x2,v 0=.agg #[.slice X1 16 x1,.slice X2 16 x2,.int .i64 0]/\Bs w1 w1.heap.size (.slice X1 16 x1) Z16/\Bs w1 w1.heap.size (.slice X2 16 x2) Z16:=hF 0 (hA 0 (by simp))
    simp only [e0]at hK
    go_simp
    refine(HUN.out (.slice X1 16 x1) (.slice X2 16 x2) (.slice dA2 13 dc2) w1 h1 h2 (HD2.out.lift hJ.1)).mono ?_
    rintro e w5 ⟨cv,sv,rfl,⟨dd,rfl,hd⟩,⟨y1,y2,rfl,g1,g2⟩,hb⟩
    obtain⟨dA,dc,hp⟩:∃A c,dd=.slice A 0 c:=(by obtain⟨a,c,e,_⟩:=hd;exact⟨a,c,by rw [e,LD3.out]⟩)
    obtain⟨Y1,c1,hp1⟩:∃A c,y1=.slice A 16 c:=(by obtain⟨a,c,e,_⟩:=g1;exact⟨a,c,by rw [e,qC]⟩)
    obtain⟨Y2,c2,hp2⟩:∃A c,y2=.slice A 16 c:=(by obtain⟨a,c,e,_⟩:=g2;exact⟨a,c,by rw [e,qC]⟩)
    subst hp;subst hp1;subst hp2
    exact hK _ _ (hJ.step hb 2 (by decide) (by decide) (by decide) (by decide)) (RZ2.of hb) ⟨_,_,_,_,_,_,rfl,hd,g1,g2⟩
   ·obtain⟨dA,dc,X1,x1,X2,x2,e2,h0,h1,h2⟩:∃dA dc X1 x1 X2 x2,v 2=.tuple #[.agg #[.int .i64 0,.int .i64 176,.int .i64 0,.int .i64 0,.slice dA 0 dc,.int .i64 8],.agg #[.slice X1 16 x1,.slice X2 16 x2,.int .i64 1],.int .i64 0]/\Bs w1 w1.heap.size (.slice dA 0 dc) []/\Bs w1 w1.heap.size (.slice X1 16 x1) Z16/\Bs w1 w1.heap.size (.slice X2 16 x2) Z16:=hF 2 (hA 2 (by simp))
    simp only [e2]at hK
    go_simp
    exact hK _ _ (hJ.step iB 3 (by decide) (by decide) (by decide) (by decide)) RZ2.refl ⟨_,_,_,_,_,_,rfl,h0,h1,h2⟩
   ·obtain⟨dA,dc,X1,x1,X2,x2,e3,h0,h1,h2⟩:∃dA dc X1 x1 X2 x2,v 3=.tuple #[.agg #[.int .i64 0,.int .i64 176,.int .i64 0,.int .i64 0,.slice dA 0 dc,.int .i64 8],.agg #[.slice X1 16 x1,.slice X2 16 x2,.int .i64 1],.int .i64 0]/\Bs w1 w1.heap.size (.slice dA 0 dc) []/\Bs w1 w1.heap.size (.slice X1 16 x1) Z16/\Bs w1 w1.heap.size (.slice X2 16 x2) Z16:=hF 3 (hA 3 (by simp))
    simp only [e3]at hK
    go_simp
    exact hK _ _ (hJ.step iB 4 (by decide) (by decide) (by decide) (by decide)) RZ2.refl ⟨_,_,rfl,h0⟩
   ·obtain⟨dA,dc,X1,x1,X2,x2,e3,h0,h1,h2⟩:∃dA dc X1 x1 X2 x2,v 3=.tuple #[.agg #[.int .i64 0,.int .i64 176,.int .i64 0,.int .i64 0,.slice dA 0 dc,.int .i64 8],.agg #[.slice X1 16 x1,.slice X2 16 x2,.int .i64 1],.int .i64 0]/\Bs w1 w1.heap.size (.slice dA 0 dc) []/\Bs w1 w1.heap.size (.slice X1 16 x1) Z16/\Bs w1 w1.heap.size (.slice X2 16 x2) Z16:=hF 3 (hA 3 (by simp))
    simp only [e3]at hK
    go_simp
    exact hK _ _ (hJ.step iB 5 (by decide) (by decide) (by decide) (by decide)) RZ2.refl ⟨_,_,_,_,rfl,h1,h2⟩
   ·obtain⟨dA,dc,X1,x1,X2,x2,e3,h0,h1,h2⟩:∃dA dc X1 x1 X2 x2,v 3=.tuple #[.agg #[.int .i64 0,.int .i64 176,.int .i64 0,.int .i64 0,.slice dA 0 dc,.int .i64 8],.agg #[.slice X1 16 x1,.slice X2 16 x2,.int .i64 1],.int .i64 0]/\Bs w1 w1.heap.size (.slice dA 0 dc) []/\Bs w1 w1.heap.size (.slice X1 16 x1) Z16/\Bs w1 w1.heap.size (.slice X2 16 x2) Z16:=hF 3 (hA 3 (by simp))
    simp only [e3]at hK
    go_simp
    exact hK _ _ (hJ.step iB 6 (by decide) (by decide) (by decide) (by decide)) RZ2.refl rfl
   ·go_simp
    exact hK _ _ (hJ.alloc6 (by decide) (by decide) (by decide)) (RZ2.of (iA)) trivial
   ·go_simp
    exact hK _ _ (hJ.alloc3 (by decide) (by decide) (by decide)) (RZ2.of (iA)) trivial
   ·obtain⟨q,e7,hq0,hq1,hrow⟩:=hJ.2.1 hL (hA 7 (by simp))
    obtain⟨dA,dc,e4,hd⟩:∃dA dc,v 4=.agg #[.int .i64 0,.int .i64 176,.int .i64 0,.int .i64 0,.slice dA 0 dc,.int .i64 8]/\Bs w1 w1.heap.size (.slice dA 0 dc) []:=hF 4 (hA 4 (by simp))
    simp only [e7,e4]at hK |-
    obtain⟨z0,z1,z2,z3,z4,z5,zf⟩:=ja hrow
    have zf0:=zf 0;have zf1:=zf 1;have zf2:=zf 2;have zf3:=zf 3;have zf4:=zf 4;have zf5:=zf 5
    clear zf
    go_simp
    exact hK undef _ (hJ.store6 hq0 hrow (by decide) (by decide) (by decide)) (RZ2.set6 hrow _ _ _ _ _ _) ⟨q,dA,dc,e7,hq0,Qw _ _ _ _ _ _ hrow,hd.rz2 (RZ2.set6 (w0:=w2r) hrow _ _ _ _ _ _)⟩
   ·obtain⟨q,e8,hq0,hq1,hrow⟩:=hJ.2.2 hL (hA 8 (by simp))
    obtain⟨X1,x1,X2,x2,e5,h1,h2⟩:∃X1 x1 X2 x2,v 5=.agg #[.slice X1 16 x1,.slice X2 16 x2,.int .i64 1]/\Bs w1 w1.heap.size (.slice X1 16 x1) Z16/\Bs w1 w1.heap.size (.slice X2 16 x2) Z16:=hF 5 (hA 5 (by simp))
    simp only [e8,e5]at hK |-
    obtain⟨z0,z1,z2,zf⟩:=j7 hrow
    have zf0:=zf 0;have zf1:=zf 1;have zf2:=zf 2
    clear zf
    go_simp
    exact hK undef _ (hJ.store3 hq0 hrow (by decide) (by decide) (by decide)) (RZ2.set3 hrow _ _ _) ⟨q,X1,x1,X2,x2,e8,hq0,qu _ _ _ hrow,h1.rz2 (RZ2.set3 (w0:=w2r) hrow _ _ _),h2.rz2 (RZ2.set3 (w0:=w2r) hrow _ _ _)⟩
   ·have e6:v 6=.int .i64 0:=hF 6 (hA 6 (by simp))
    simp only [e6]at hK
    go_simp
    refine hK _ _ (hJ.step iB 11 (by decide) (by decide) (by decide) (by decide)) RZ2.refl ?_
    first|exact rfl|exact j5 _
  case tail3=>
   intro v w1 hJ hF
   have e1:v 1=.agg #[.int .i64 12,.int .i64 176,.int .i64 0,.int .i64 0,.slice dA2 13 dc2,.int .i64 65536]:=hF 1 (by simp)
   have e6:v 6=.int .i64 0:=hF 6 (by simp)
   have e11:v 11=.int .i64 0:=hF 11 (by simp)
   obtain⟨qc3,dA3,dc3,e7,hqc,hrc,hdc⟩:∃q dA dc,v 7=.pointer (some ⟨q,0,none⟩)/\w2r.heap.size<=q/\w1.heap[q]?=some (.cells #[.int .i64 0,.int .i64 176,.int .i64 0,.int .i64 0,.slice dA 0 dc,.int .i64 8] 32 (0,0))/\Bs w1 w1.heap.size (.slice dA 0 dc) []:=hF 9 (by simp)
   obtain⟨qs3,X1,x1,X2,x2,e8,hqs,hrs,hx1,hx2⟩:∃q X1 x1 X2 x2,v 8=.pointer (some ⟨q,0,none⟩)/\w2r.heap.size<=q/\w1.heap[q]?=some (.cells #[.slice X1 16 x1,.slice X2 16 x2,.int .i64 1] 29 (0,0))/\Bs w1 w1.heap.size (.slice X1 16 x1) Z16/\Bs w1 w1.heap.size (.slice X2 16 x2) Z16:=hF 10 (by simp)
   simp only [iE,iJ,jf,Act.put,iM,Nat.reduceAdd,iS,iC,iD]
   simp only [e7,e8,e11]
   clear e1 e6 e7 e8 e11
   obtain⟨w3r,hw3⟩:∃w3r,w3r=w1:=⟨_,rfl⟩
   rw [<-hw3]at hJ hrc hrs |-
   obtain⟨y0,y1,y2,_⟩:=j7 hrs
   obtain⟨z0,z1,z2,z3,z4,z5,_⟩:=ja hrc
   obtain⟨x0,x1',x2',x3,x4,x5,_⟩:=ja ((hJ.1.block qc2 (iG HRC2.out)).trans HRC2.out)
   obtain⟨u0,u1,u2,_⟩:=j7 ((hJ.1.block qs2 (iG HRS2.out)).trans HRS2.out)
   have HB3:=iH (HBW2.out.trans (hJ.1.mono HBW2.out.size))
   clear hJ hF hrc hrs hdc hx1 hx2 hqc hqs hw3
   go_wp2_with fail
   go_ret
   exact⟨rfl,HB3.out⟩
end Go.Proofs.YtadndhgebgjlaaaGreat
