import Derived.Test.YtadndhgebgjlaaaGreatPBq
import Derived.Test.YtadndhgebgjlaaaGreatPBm
set_option linter.all false
set_option maxRecDepth 100000
set_option maxHeartbeats 8000000
namespace Go.Proofs.YtadndhgebgjlaaaGreat
open Go.RowKit Go.Deep
def j47(k1 k2 N:List UInt8)(n st:Int):Except Int (List (List UInt8)×Ns)->Int×List UInt8×Int×List UInt8×List UInt8×Int
 |.error e=>(e,[],0,[],[],0)
 |.ok (vs,P)=>
  if ¬kr k2 N [] P.enc=gl vs 2 then(20,[],0,[],[],0)
  else if ¬zu st=gl vs 1 then(23,[],0,[],[],0)
  else if ¬kt k1 N ((gl vs 0).drop 1)=0 then(kt k1 N ((gl vs 0).drop 1),[],0,[],[],0)
  else(0,qk k1 N ((gl vs 0).drop 1),st,k1,k2,n+1)
def kj(k1 k2:List UInt8)(n:Int)(d:List UInt8)(st:Int):Int×List UInt8×Int×List UInt8×List UInt8×Int:=
 if vS k1 k2 n=false then(14,[],0,[],[],0)
 else if vR d st=false then(14,[],0,[],[],0)
 else if n=1099511627776 then(3,[],0,[],[],0)
 else j47 k1 k2 (J3 (n+1)) n st (kU [142,153] (qS 153 2 true) d)
theorem j1b(w:World)(g h:Int)(hg:kS g)(hh:kS h)(t:TypeId):IntL (w.alloc (.cells #[.int .i64 g,.int .i64 h] t)) (·<(w.alloc (.cells #[.int .i64 g,.int .i64 h] t)).heap.size) (.slice (some ⟨w.heap.size,0,none⟩) 2 2) [g,h]:=by
 refine⟨_,2,rfl,by simp,by decide,by simp,fun z hz=> ?_,fun _=>⟨w.heap.size,0,rfl,by simp,by simp,fun j hj=> ?_⟩⟩
 ·simp only [List.mem_cons,List.not_mem_nil,or_false]at hz
  rcases hz with rfl|rfl
  ·exact hg
  ·exact hh
 ·have hj:j<2:=hj
  rw [cell_of_row _ _ _ _ _ _ (iN)]
  obtain rfl|rfl:j=0\/j=1:=by omega
  ·rfl
  ·rfl
theorem not_not{p:Prop}:¬¬p↔p:=Classical.not_not
theorem Vb(vs vc:Value)(k1 k2:List UInt8)(n:Int)(d:List UInt8)(st:Int)(w:World)(hs:qa w (·<w.heap.size) vs k1 k2 n)(hc:Kr w (·<w.heap.size) vc d st):
 Calls Tryz.prog 41 #[vs,vc] w (Zy (kj k1 k2 n d st) w):=by
 obtain⟨A1,d1,A2,d2,A3,d3,ws,wq,w2,wa,rfl,rfl,R2,R3,CS,CC,RC,HZA,HB,HWS,HWC,HW2,HW3,H1,H2,H3,HSV,HCV⟩:=j5t hs hc
 clear hs hc
 by_cases v1:vS k1 k2 n=true
 ·have HVS:=iH v1
  by_cases v2:vR d st=true
  ·have HVC:=iH v2
   have VS:=iH (of_decide_eq_true v1)
   have VC:=iH (of_decide_eq_true v2)
   clear v1 v2
   by_cases g3:n=1099511627776
   ·have t3:(n==1099511627776)=true:=by simp [g3]
    have R:Hid (kj k1 k2 n d st=(3,[],0,[],[],0)):=iH (by unfold kj;rw [iF (by rw [HVS.out];simp),iF (by rw [HVC.out];simp),iT g3])
    clear g3
    go_enter Tryz.func41,Tryz.ntmps41
    go_upto_region 1 with fail
    rw [<-HWS.out,<-HWC.out,<-HW2.out,<-HW3.out]
    obtain⟨f0,f1,f2⟩:=CS.out wa iB
    go_wp2_with(first
     |(go_at_call 78;refine(qd 3 wc).mono ?_;rintro e wf ⟨rfl,hb⟩;have HBF:=iH (HBC.out.trans (hb.mono HBC.out.size));obtain⟨r0,r1,rf⟩:=jd (R2.out wf HBF.out);have rf0:=rf 0;have rf1:=rf 1;clear rf;obtain⟨s0,s1,s2,sf⟩:=j7 (R3.out wf HBF.out);have sf0:=sf 0;have sf1:=sf 1;have sf2:=sf 2;clear sf;clear hb)
     |(go_at_call 76;have M1:=HBV;go_loud(refine(x8 _ d st wv (HCV.out wv HBV.out)).mono ?_;rw [HVC.out];rintro e wc ⟨rfl,hb⟩;have hb2:=HBV.out.trans (hb.mono HBV.out.size);have HBC:=iH hb2;clear g0 g1;obtain⟨g0,g1⟩:=CC.out wc hb2;clear f0 f1 f2;obtain⟨f0,f1,f2⟩:=CS.out wc hb2;clear hb hb2))
     |(go_at_call 47;refine(jr _ k1 k2 n _ wa HSV.out).mono ?_;rw [HVS.out];rintro e wv ⟨rfl,hb⟩;have HBV:=iH hb;obtain⟨g0,g1⟩:=CC.out wv hb;clear hb))
    obtain⟨q2,q3⟩:=jm (R2.out wf HBF.out) (R3.out wf HBF.out) (.slice none 0 0) (.int .i64 0) (.slice none 0 0) (.slice none 0 0) (.int .i64 0)
    obtain⟨y0,y1,_⟩:=jd q2
    obtain⟨x0,x1,x2,_⟩:=j7 q3
    refine bodyPost_ret (v:=.tuple #[.agg #[.slice none 0 0,.int .i64 0],.agg #[.slice none 0 0,.slice none 0 0,.int .i64 0],.int .i64 3]) (by simp only [qm,set3]at y0 y1 x0 x1 x2;simp [results,Tryz.results41,go_sem,y0,y1,x0,x1,x2]) rfl ?_
    rw [R.out]
    exact⟨_,_,rfl,⟨_,rfl,BsS.nil0 _ _⟩,⟨_,_,rfl,BsS.nil0 _ _,BsS.nil0 _ _⟩,ji (HB.out.trans (Below.mono HBF.out HB.out.size)) (by omega)⟩
   ·have t3:(n==1099511627776)=false:=by simpa using g3
    have LK1:Hid (k1.length=16):=iH VS.out.1
    have LK2:Hid (k2.length=16):=iH VS.out.2.1
    have LD:Hid (d.length<=4096):=iH VC.out.1
    obtain⟨N,hN⟩:∃N,J3 (n+1)=N:=⟨_,rfl⟩
    have LN:Hid (N.length=16):=iH (by rw [<-hN]<;>rfl)
    have HNX:Hid (∀(va vb:Value) (w:World),Bs w w.heap.size va k1->Bs w w.heap.size vb k2->Calls Tryz.prog 49 #[.agg #[va,vb,.int .i64 n]] w fun e w'=>∃x y z,e=.returned (.agg #[x,y,.int .i64 (n+1),z])/\Bs w' w'.heap.size x k1/\Bs w' w'.heap.size y k2/\Bs w' w'.heap.size z N/\Below w.heap.size w w'):=iH (fun va vb w h1 h2=>by rw [<-hN];exact yd va vb k1 k2 n VS.out.2.2.1 VS.out.2.2.2 w h1 h2)
    obtain⟨rr,hrr⟩:∃r,kU [142,153] (qS 153 2 true) d=r:=⟨_,rfl⟩
    have R:Hid (kj k1 k2 n d st=j47 k1 k2 N n st rr):=iH (by subst hN;subst hrr;unfold kj;rw [iF (by rw [HVS.out];simp),iF (by rw [HVC.out];simp),iF g3])
    have HRR:=iH hrr
    obtain⟨X2,hX2⟩:∃X,zu st=X:=⟨_,rfl⟩
    have HX2:=iH hX2
    have HST:Hid (∀w,Calls Tryz.prog 77 #[.int .i64 st] w fun e w'=>∃A c,e=.returned (.agg #[.int .i64 153,.slice A X2.length c,.slice none 0 0])/\BsS w' (New w w') (.slice A X2.length c) X2/\Below w.heap.size w w'):=iH (fun w=>by rw [<-hX2];exact JG st VC.out.2.1 VC.out.2.2 w)
    clear hN g3 hrr hX2
    go_enter Tryz.func41,Tryz.ntmps41
    go_upto_region 1 with fail
    rw [<-HWS.out,<-HWC.out,<-HW2.out,<-HW3.out]
    obtain⟨f0,f1,f2⟩:=CS.out wa iB
    go_upto_region 7 with (first
     |(go_at_call 76;have M1:=HBV;go_loud(refine(x8 _ d st wv (HCV.out wv HBV.out)).mono ?_;rw [HVC.out];rintro e wc ⟨rfl,hb⟩;have hb2:=HBV.out.trans (hb.mono HBV.out.size);have HBC:=iH hb2;clear g0 g1;obtain⟨g0,g1⟩:=CC.out wc hb2;clear f0 f1 f2;obtain⟨f0,f1,f2⟩:=CS.out wc hb2;clear hb hb2))
     |(go_at_call 47;refine(jr _ k1 k2 n _ wa HSV.out).mono ?_;rw [HVS.out];rintro e wv ⟨rfl,hb⟩;have HBV:=iH hb;obtain⟨g0,g1⟩:=CC.out wv hb;clear hb))
    clear f0 f1 f2 g0 g1 t3
    obtain⟨w8,hw8⟩:∃w8,w8=wc.alloc (.cells #[.int .i64 135,.int .i64 2,.int .i64 4096,.bool false,.int .i64 153,.int .i64 2,.int .i64 2,.bool true,.int .i64 142,.int .i64 8,.int .i64 8,.bool true] 84):=⟨_,rfl⟩
    rw [<-hw8]
    have hb8:Below wc.heap.size wc w8:=by rw [hw8];exact iA
    have hf8:FldAt w8 (qS 153 2 true) wc.heap.size 0:=by
     rw [hw8]
     have k:∀o,(wc.alloc (.cells #[.int .i64 135,.int .i64 2,.int .i64 4096,.bool false,.int .i64 153,.int .i64 2,.int .i64 2,.bool true,.int .i64 142,.int .i64 8,.int .i64 8,.bool true] 84)).cell? ⟨wc.heap.size,o,none⟩=(#[.int .i64 135,.int .i64 2,.int .i64 4096,.bool false,.int .i64 153,.int .i64 2,.int .i64 2,.bool true,.int .i64 142,.int .i64 8,.int .i64 8,.bool true]:Array Value)[o]? :=fun o=>cell_of_row _ _ _ _ _ _ (iN)
     exact⟨k 0,k 1,k 2,k 3,k 4,k 5,k 6,k 7,k 8,k 9,k 10,k 11,trivial⟩
    obtain⟨wi,hwi⟩:∃wi,wi=w8.alloc (.cells #[.int .i64 142,.int .i64 153] 3):=⟨_,rfl⟩
    have hbi:Below w8.heap.size w8 wi:=by rw [hwi];exact iA
    have hpi:IntL wi (·<wi.heap.size) (.slice (some ⟨w8.heap.size,0,none⟩) 2 2) [142,153]:=by rw [hwi];exact j1b w8 142 153 ⟨by decide,by decide⟩ ⟨by decide,by decide⟩ 3
    have hw8z:wc.heap.size<w8.heap.size:=by rw [hw8];simp
    have HB8:=iH (HBC.out.trans (hb8.mono HBC.out.size))
    have HBI:=iH (HB8.out.trans (hbi.mono HB8.out.size))
    have HOB:=J0 d [142,153] (qS 153 2 true) (.slice A3 d.length d3) (.slice (some ⟨w8.heap.size,0,none⟩) 2 2) wc.heap.size 0 3 rfl (fun L vs n R h=>ZK L vs n R h) wi (H3.out.lift HBI.out) hpi (iZ hw8z hbi.size) (hf8.below hbi hw8z) ⟨by decide,by decide⟩
    rw [HRR.out]at HOB
    have HOB:=iH HOB
    have HWI:=iH hwi
    clear hw8 hb8 hf8 hbi hpi hwi hw8z
    obtain⟨g0,g1⟩:=CC.out w8 HB8.out
    cases rr with
    |error er=>
     have R:Hid (kj k1 k2 n d st=(er,[],0,[],[],0)):=R
     have tne:(er != 0)=true:=by simpa using Y3 HRR.out
     go_wp2_with(first
      |(go_at_call 78;refine(qd er wo).mono ?_;rintro e wf ⟨rfl,hb⟩;have HBF:=iH (HBO.out.trans (hb.mono HBO.out.size));obtain⟨r0,r1,rf⟩:=jd (R2.out wf HBF.out);have rf0:=rf 0;have rf1:=rf 1;clear rf;obtain⟨s0,s1,s2,sf⟩:=j7 (R3.out wf HBF.out);have sf0:=sf 0;have sf1:=sf 1;have sf2:=sf 2;clear sf;clear hb)
      |(go_at_call 55;rw [<-HWI.out];refine HOB.out.mono ?_;rintro e wo ⟨rfl,hb⟩;have HBO:=iH (HBI.out.trans (hb.mono HBI.out.size));clear hb g0 g1))
     obtain⟨q2,q3⟩:=jm (R2.out wf HBF.out) (R3.out wf HBF.out) (.slice none 0 0) (.int .i64 0) (.slice none 0 0) (.slice none 0 0) (.int .i64 0)
     obtain⟨y0,y1,_⟩:=jd q2
     obtain⟨x0,x1,x2,_⟩:=j7 q3
     refine bodyPost_ret (v:=.tuple #[.agg #[.slice none 0 0,.int .i64 0],.agg #[.slice none 0 0,.slice none 0 0,.int .i64 0],.int .i64 er]) (by simp only [qm,set3]at y0 y1 x0 x1 x2;simp [results,Tryz.results41,go_sem,y0,y1,x0,x1,x2]) rfl ?_
     rw [R.out]
     exact⟨_,_,rfl,⟨_,rfl,BsS.nil0 _ _⟩,⟨_,_,rfl,BsS.nil0 _ _,BsS.nil0 _ _⟩,ji (HB.out.trans (Below.mono HBF.out HB.out.size)) (by omega)⟩
    |ok vp=>
     obtain⟨us,P⟩:=vp
     obtain⟨V,M,C,LL,hus,hsh,hpp,heP,haP,hlP,hP⟩:=Qg (by decide) (by decide) (by decide) (by decide) (by decide) HRR.out
     subst hus
     have HVV:Hid (V= []\/k7 V=true):=iH (hsh.v.imp id fun h=>h.1)
     have HEP:=iH heP;have HAP:=iH haP;have HLP:=iH hlP
     have R1X:Hid (kj k1 k2 n d st=if ¬kr k2 N [] P.enc=C then(20,[],0,[],[],0)
      else if ¬X2=M then(23,[],0,[],[],0)
      else if ¬kt k1 N (V.drop 1)=0 then(kt k1 N (V.drop 1),[],0,[],[],0)
      else(0,qk k1 N (V.drop 1),st,k1,k2,n+1)):=iH (by rw [<-HX2.out];exact R.out)
     clear hsh hpp heP haP hlP hP R
     go_upto_region 11 with (first
      |(go_at_call 49;refine(HNX.out _ _ wo (H1.out.lift HBO.out) (H2.out.lift HBO.out)).mono ?_;rintro e wn ⟨x,y,z,rfl,hx,hy,hz,hb⟩;obtain⟨xA,xc,hp⟩:=Bs.formL hx;subst hp;obtain⟨yA,yc,hp⟩:=Bs.formL hy;subst hp;obtain⟨zA,zc,hp⟩:=Bs.formL hz;subst hp;have HX:=iH hx;have HY:=iH hy;have HZ:=iH hz;have HBN2:=iH hb;have HBN:=iH (HBO.out.trans (hb.mono HBO.out.size));obtain⟨u0,u1,u2,u3,uf⟩:=kd (xZ wn);have uf0:=uf 0;have uf1:=uf 1;have uf2:=uf 2;have uf3:=uf 3;clear uf hx hy hz hb)
      |(go_at_call 55;rw [<-HWI.out];refine HOB.out.mono ?_;intro e wo h;obtain⟨g,PA,pc,rfl,hvr,hgg,hPn,hb⟩:=h;have HVR:=iH hvr;have HGG:=iH hgg;have HPN:=iH hPn;have HBO:=iH (HBI.out.trans (hb.mono HBI.out.size));clear hb hvr hgg hPn g0 g1;obtain⟨f0,f1,f2⟩:=CS.out wo HBO.out))
     clear u0 u1 u2 u3 uf0 uf1 uf2 uf3 f0 f1 f2
     obtain⟨wu,hwu⟩:∃wu,wu=wn.alloc (.cells #[.slice xA k1.length xc,.slice yA k2.length yc,.int .i64 (n+1),.slice zA N.length zc] 77):=⟨_,rfl⟩
     rw [<-hwu]
     have hbu:Below wn.heap.size wn wu:=by rw [hwu];exact iA
     have hur:wu.heap[wn.heap.size]?=some (.cells #[.slice xA k1.length xc,.slice yA k2.length yc,.int .i64 (n+1),.slice zA N.length zc] 77 (0,0)):=by rw [hwu];exact iN
     have hult:=(iG hur)
     have CU:Hid (∀W,Below wu.heap.size wu W->W.cell? ⟨wn.heap.size,0,none⟩=some (.slice xA k1.length xc)/\W.cell? ⟨wn.heap.size,1,none⟩=some (.slice yA k2.length yc)/\W.cell? ⟨wn.heap.size,2,none⟩=some (.int .i64 (n+1))/\W.cell? ⟨wn.heap.size,3,none⟩=some (.slice zA N.length zc)):=iH fun W h=>(by obtain⟨a,b,c,d,_⟩:=kd ((h.block _ hult).trans hur);exact⟨a,b,c,d⟩)
     have RU:Hid (∀W,Below wu.heap.size wu W->W.heap[wn.heap.size]?=some (.cells #[.slice xA k1.length xc,.slice yA k2.length yc,.int .i64 (n+1),.slice zA N.length zc] 77 (0,0))):=iH fun W h=>(h.block _ hult).trans hur
     have HBAU:=iH (HBN.out.trans (hbu.mono HBN.out.size))
     have hou:=HBN2.out.trans (hbu.mono HBN2.out.size)
     have HVU:=iH (HVR.out.below hou)
     have HPU:=iH (HPN.out.keep (w':=wu) (S':=(·<wu.heap.size)) fun b hs hl=>⟨hou.block b hl,iZ hl hou.size⟩)
     have XU:=iH (HX.out.lift hbu);have YU:=iH (HY.out.lift hbu);have ZU:=iH (HZ.out.lift hbu)
     clear hwu hbu hur hult hou
     obtain⟨C9,hC9⟩:∃C,kr k2 N [] P.enc=C:=⟨_,rfl⟩
     have HCO:Hid (Calls Tryz.prog 56 #[.agg #[.slice xA k1.length xc,.slice yA k2.length yc,.int .i64 (n+1),.slice zA N.length zc],.slice none 0 0,.slice PA P.len pc] wu fun e w'=>∃v',e=.returned (.tuple #[v',.int .i64 0])/\BsS w' (New wu w') v' C9/\Below wu.heap.size wu w'):=iH ((Qc (.slice xA k1.length xc) (.slice yA k2.length yc) (.slice zA N.length zc) (.slice none 0 0) (.slice PA P.len pc) (n+1) k2 N [] P LK2.out LN.out (by simp) HAP.out HLP.out P.enc HEP.out wu YU.out ZU.out (BsS.nil0 _ _) HPU.out).mono fun e w' h=>by obtain⟨A,c,he,hx,hb⟩:=h;rw [hC9]at he hx;exact⟨_,he,hx,hb⟩)
     rw [hC9]at R1X
     clear hC9
     obtain⟨u0,u1,u2,u3⟩:=CU.out wu iB
     go_upto_region 12 with (go_at_call 56;refine HCO.out.mono ?_;rintro e w3 ⟨v3,rfl,hv,hb⟩;obtain⟨kA,kc,hp⟩:=Bs.formL hv;subst hp;have HK3:=iH (BsS.keep hv (w':=w3) (S':=(·<w3.heap.size)) fun g hg _=>⟨rfl,hg.2⟩);have HBU3:=iH hb;have HB3:=iH (HBAU.out.trans (hb.mono HBAU.out.size));have HVR3:=iH (HVU.out.below hb);clear hv hb u0 u1 u2 u3)
     obtain⟨v2A,v2c,z2,hz2⟩:=HVR3.out.cell 2 (by decide)
     rw [show gl [V,M,C] 2=C from rfl]at z2 hz2
     obtain⟨v1A,v1c,z1,hz1⟩:=HVR3.out.cell 1 (by decide)
     rw [show gl [V,M,C] 1=M from rfl]at z1 hz1
     obtain⟨v0A,v0c,z0,hz0⟩:=HVR3.out.cell 0 (by decide)
     rw [show gl [V,M,C] 0=V from rfl]at z0 hz0
     have Z0:=iH z0;have Z1:=iH z1
     have LTG3:=iH HVR3.out.lt
     have HM3:Hid (∀W,Below w3.heap.size w3 W->BsS W (·<g) (.slice v1A M.length v1c) M):=iH (fun W h=>BsS.keep hz1 fun b hs hl=>⟨h.block b hl,hs⟩)
     have HM0:Hid (BsS w3 (·<g) (.slice v0A V.length v0c) V):=iH hz0
     have HEQ:=iH (yz _ _ C9 C _ _ w3 HK3.out hz2)
     clear hz2 hz1 hz0 z0 z1
     by_cases hcc:C9=C
     ·rw [decide_eq_true hcc]at HEQ
      have R2X:Hid (kj k1 k2 n d st=if ¬X2=M then(23,[],0,[],[],0)
       else if ¬kt k1 N (V.drop 1)=0 then(kt k1 N (V.drop 1),[],0,[],[],0)
       else(0,qk k1 N (V.drop 1),st,k1,k2,n+1)):=iH (by rw [R1X.out];exact iF (not_not.2 hcc))
      clear hcc R1X
      obtain⟨oq,hoq⟩:∃o,decide (X2=M)=o:=⟨_,rfl⟩
      have OQ:=iH hoq
      clear hoq
      go_upto_region 14 with (go_at_call 57;refine HEQ.out.mono ?_;rintro e w' ⟨rfl,hw'⟩;rw [hw'];clear hw' w')
      clear z2
      refine je 9 [some 79,some 80,some 81,some 82,some 83,some 84,some 85,some 86,some 87] [[],[0],[0,1],[0,1,2],[],[4],[4,5],[0,1,2,3,4,5,6],[0,1,2,3,4,5,6,7]]
       (fun _ _ w1=>Below w3.heap.size w3 w1) (fun w1 w2=>Below w1.heap.size w1 w2)
       [fun v _=>v 0=.pointer (some ⟨w.heap.size+1,1,none⟩),
        fun v _=>v 1=.int .i64 st,
        fun v w1=>∃a c,v 2=.agg #[.int .i64 153,.slice a X2.length c,.slice none 0 0]/\BsS w1 (New w3 w1) (.slice a X2.length c) X2,
        fun v w1=>∃a c,v 3=.slice a (X2).length c/\BsS w1 (New w3 w1) (.slice a (X2).length c) (X2),
        fun v _=>v 4=.slice (some ⟨g,0,none⟩) 3 3,
        fun v _=>v 5=.pointer (some ⟨g,1,none⟩),
        fun v _=>v 6=.slice v1A M.length v1c,
        fun v w1=>v 7=.bool oq,
        fun v w1=>v 8=.bool (!oq)]
       (by kernel_rfl) (by kernel_rfl) (fun _=>iB.drew) ?st14 ?steps14 ?tail14
      case st14=>
       exact(.cons (fun _ _ _ _ _ _ h=>h) (.cons (fun _ _ _ _ _ _ h=>h) (.cons (fun _ _ _ _ _ hr ⟨a,c,e,h⟩=>⟨a,c,e,BsS.keep h fun g hg hl=>⟨hr.block g hl,hg.1,iZ hl hr.size⟩⟩) (.cons (fun _ _ _ _ _ hr ⟨a,c,e,h⟩=>⟨a,c,e,BsS.keep h fun g hg hl=>⟨hr.block g hl,hg.1,iZ hl hr.size⟩⟩) (.cons (fun _ _ _ _ _ _ h=>h) (.cons (fun _ _ _ _ _ _ h=>h) (.cons (fun _ _ _ _ _ _ h=>h) (.cons (fun _ _ _ _ _ _ h=>h) (.cons (fun _ _ _ _ _ _ h=>h) .nil)))))))))
      case steps14=>
       simp only [iI,iK]
       refine(.cons ?_ (.cons ?_ (.cons ?_ (.cons ?_ (.cons ?_ (.cons ?_ (.cons ?_ (.cons ?_ (.cons ?_ .nil)))))))))
       all_goals(intro L v w1 hJ hL hA hF K hK;simp only [jf,Act.put,iM,Nat.reduceAdd,iS,iC,iD]at hK |-)
       ·go_simp
        refine hK _ _ hJ iB ?_
        first|exact rfl|exact j5 _
       ·have e0:v 0=.pointer (some ⟨w.heap.size+1,1,none⟩):=hF 0 (hA 0 (by simp))
        obtain⟨c0,c1⟩:=CC.out _ (HB3.out.trans (hJ.mono HB3.out.size))
        simp only [e0]at hK
        go_simp
        refine hK _ _ hJ iB ?_
        first|exact rfl|exact j5 _
       ·have e1:v 1=.int .i64 st:=hF 1 (hA 1 (by simp))
        simp only [e1]at hK
        go_simp
        refine(HST.out w1).mono ?_
        rintro e w5 ⟨xA,xc,rfl,hx,hb⟩
        exact hK _ _ (hJ.trans (hb.mono hJ.size)) hb ⟨_,_,rfl,BsS.keep hx fun g hg _=>⟨rfl,Nat.le_trans hJ.size hg.1,hg.2⟩⟩
       ·obtain⟨a2,c2,e2,h2⟩:∃a c,v 2=.agg #[.int .i64 153,.slice a X2.length c,.slice none 0 0]/\BsS w1 (New w3 w1) (.slice a X2.length c) X2:=hF 2 (hA 2 (by simp))
        simp only [e2]at hK
        go_simp
        exact hK _ _ hJ iB ⟨_,_,rfl,h2⟩
       ·go_simp
        refine hK _ _ hJ iB ?_
        first|exact rfl|exact j5 _
       ·have e4:v 4=.slice (some ⟨g,0,none⟩) 3 3:=hF 4 (hA 4 (by simp))
        simp only [e4]at hK
        go_simp
        refine hK _ _ hJ iB ?_
        first|exact rfl|exact j5 _
       ·have e5:v 5=.pointer (some ⟨g,1,none⟩):=hF 5 (hA 5 (by simp))
        have c0:w1.cell? ⟨g,1,none⟩=some (.slice v1A M.length v1c):=(hJ.cell (p:=⟨g,1,none⟩) LTG3.out).trans Z1.out
        simp only [e5]at hK
        go_simp
        refine hK _ _ hJ iB ?_
        first|exact rfl|exact j5 _
       ·have e6:v 6=.slice v1A M.length v1c:=hF 6 (hA 6 (by simp))
        simp only [e6]at hK
        obtain⟨a3,c3,e3,h3⟩:∃a c,v 3=.slice a (X2).length c/\BsS w1 (New w3 w1) (.slice a (X2).length c) (X2):=hF 3 (hA 3 (by simp))
        simp only [e3]at hK
        go_simp
        refine(yz _ _ X2 M _ _ w1 h3 (HM3.out w1 hJ)).mono ?_
        rintro e w5 ⟨rfl,hw5⟩
        rw [OQ.out]
        rw [hw5]
        exact hK _ _ hJ iB rfl
       ·have e7:v 7=.bool oq:=hF 7 (hA 7 (by simp))
        simp only [e7]at hK
        go_simp
        exact hK _ _ hJ iB rfl
      case tail14=>
       intro v w1 hJ hF
       have e0:v 0=.pointer (some ⟨w.heap.size+1,1,none⟩):=hF 0 (by simp)
       have e1:v 1=.int .i64 st:=hF 1 (by simp)
       have e4:v 4=.slice (some ⟨g,0,none⟩) 3 3:=hF 4 (by simp)
       have e5:v 5=.pointer (some ⟨g,1,none⟩):=hF 5 (by simp)
       have e6:v 6=.slice v1A M.length v1c:=hF 6 (by simp)
       have e7:v 7=.bool oq:=hF 7 (by simp)
       have e8:v 8=.bool (!oq):=hF 8 (by simp)
       simp only [iE,iJ,jf,Act.put,iM,Nat.reduceAdd,iS,iC,iD]
       simp only [e7,e8]
       obtain⟨w4,rfl⟩:∃w4:World,w4=w1:=⟨_,rfl⟩
       have H34:=iH hJ
       have HBU4:=iH (HBU3.out.trans (hJ.mono HBU3.out.size))
       have HB4:=iH (HB3.out.trans (hJ.mono HB3.out.size))
       clear e0 e1 e4 e5 e6 e7 e8 hJ hF
       cases oq with
       |true=>
        have R3X:Hid (kj k1 k2 n d st=if ¬kt k1 N (V.drop 1)=0 then(kt k1 N (V.drop 1),[],0,[],[],0)else(0,qk k1 N (V.drop 1),st,k1,k2,n+1)):=iH (by rw [R2X.out];exact iF (not_not.2 (of_decide_eq_true OQ.out)))
        obtain⟨b,hD⟩:∃D,qk k1 N (V.drop 1)=D:=⟨_,rfl⟩
        obtain⟨E,hE⟩:∃E,kt k1 N (V.drop 1)=E:=⟨_,rfl⟩
        rw [hD,hE]at R3X
        have HUO:Hid (∀W,Below w4.heap.size w4 W->Calls Tryz.prog 58 #[.agg #[.slice xA k1.length xc,.slice yA k2.length yc,.int .i64 (n+1),.slice zA N.length zc],.slice v0A V.length v0c] W (xW W b E)):=iH (fun W h=>by
         have h4:=HBU4.out.trans (h.mono HBU4.out.size)
         have h3:=H34.out.trans (h.mono H34.out.size)
         rw [<-hD,<-hE]
         exact XH _ _ _ _ (n+1) k1 N V LK1.out LN.out HVV.out W (XU.out.lift h4) (ZU.out.lift h4) (BsS.keep HM0.out fun b hs hl=>⟨h3.block b hl,iZ hl h3.size⟩))
        clear hD hE
        go_upto_region 16 with fail
        refine je 10 [some 94,some 95,some 96,some 97,some 98,some 93,some 99,some 100,some 15,some 11] [[],[],[1],[1,2],[0,1,2,3],[0,1,2,3,4],[0,1,2,3,4,5],[0,1,2,3,4,5],[0,1,2,3,4,5,6],[0,1,2,3,4,5,6,7,8]]
         (fun _ _ w1=>Below w4.heap.size w4 w1) (fun w1 w2=>Below w1.heap.size w1 w2)
         [fun v _=>v 0=.agg #[.slice xA k1.length xc,.slice yA k2.length yc,.int .i64 (n+1),.slice zA N.length zc],
          fun v _=>v 1=.slice (some ⟨g,0,none⟩) 3 3,
          fun v _=>v 2=.pointer (some ⟨g,0,none⟩),
          fun v _=>v 3=.slice v0A V.length v0c,
          fun v w1=>∃a c,v 4=.tuple #[.slice a (b).length c,.int .i64 E]/\Bs w1 w1.heap.size (.slice a (b).length c) (b),
          fun v w1=>∃a c,v 5=.tuple #[.slice a (b).length c,.int .i64 E]/\Bs w1 w1.heap.size (.slice a (b).length c) (b),
          fun v w1=>∃a c,v 6=.slice a (b).length c/\Bs w1 w1.heap.size (.slice a (b).length c) (b),
          fun v _=>v 7=.int .i64 E,
          fun v w1=>∃a c,v 8=.slice a (b).length c/\Bs w1 w1.heap.size (.slice a (b).length c) (b),
          fun v _=>v 9=.int .i64 E]
         (by kernel_rfl) (by kernel_rfl) (fun _=>iB.drew) ?st16 ?steps16 ?tail16
        case st16=>
         exact(.cons (fun _ _ _ _ _ _ h=>h) (.cons (fun _ _ _ _ _ _ h=>h) (.cons (fun _ _ _ _ _ _ h=>h) (.cons (fun _ _ _ _ _ _ h=>h) (.cons (fun _ _ _ _ _ hr ⟨a,c,e,h⟩=>⟨a,c,e,h.lift hr⟩) (.cons (fun _ _ _ _ _ hr ⟨a,c,e,h⟩=>⟨a,c,e,h.lift hr⟩) (.cons (fun _ _ _ _ _ hr ⟨a,c,e,h⟩=>⟨a,c,e,h.lift hr⟩) (.cons (fun _ _ _ _ _ _ h=>h) (.cons (fun _ _ _ _ _ hr ⟨a,c,e,h⟩=>⟨a,c,e,h.lift hr⟩) (.cons (fun _ _ _ _ _ _ h=>h) .nil))))))))))
        case steps16=>
         simp only [iI,iK]
         refine(.cons ?_ (.cons ?_ (.cons ?_ (.cons ?_ (.cons ?_ (.cons ?_ (.cons ?_ (.cons ?_ (.cons ?_ (.cons ?_ .nil))))))))))
         all_goals(intro L v w1 hJ hL hA hF K hK;simp only [jf,Act.put,iM,Nat.reduceAdd,iS,iC,iD]at hK |-)
         ·obtain⟨c0,c1,c2,c3⟩:=CU.out _ (HBU4.out.trans (hJ.mono HBU4.out.size))
          go_simp
          refine hK _ _ hJ iB ?_
          first|exact rfl|exact j5 _
         ·go_simp
          refine hK _ _ hJ iB ?_
          first|exact rfl|exact j5 _
         ·have e1:v 1=.slice (some ⟨g,0,none⟩) 3 3:=hF 1 (hA 1 (by simp))
          simp only [e1]at hK
          go_simp
          refine hK _ _ hJ iB ?_
          first|exact rfl|exact j5 _
         ·have e2:v 2=.pointer (some ⟨g,0,none⟩):=hF 2 (hA 2 (by simp))
          have c0:w1.cell? ⟨g,0,none⟩=some (.slice v0A V.length v0c):=((H34.out.trans (hJ.mono H34.out.size)).cell (p:=⟨g,0,none⟩) LTG3.out).trans Z0.out
          simp only [e2]at hK
          go_simp
          refine hK _ _ hJ iB ?_
          first|exact rfl|exact j5 _
         ·have e0:v 0=.agg #[.slice xA k1.length xc,.slice yA k2.length yc,.int .i64 (n+1),.slice zA N.length zc]:=hF 0 (hA 0 (by simp))
          have e3:v 3=.slice v0A V.length v0c:=hF 3 (hA 3 (by simp))
          simp only [e0,e3]at hK
          go_simp
          refine(HUO.out w1 hJ).mono ?_
          rintro e w5 ⟨v5,rfl,ho,hb⟩
          have hx:Bs w5 w5.heap.size v5 (b):=ho
          obtain⟨A5,C5,hv5⟩:=Bs.formL hx
          subst hv5
          exact hK _ _ (hJ.trans (hb.mono hJ.size)) hb ⟨_,_,rfl,hx⟩
         ·obtain⟨a4,c4,e4,h4⟩:∃a c,v 4=.tuple #[.slice a (b).length c,.int .i64 E]/\Bs w1 w1.heap.size (.slice a (b).length c) (b):=hF 4 (hA 4 (by simp))
          simp only [e4]at hK
          go_simp
          exact hK _ _ hJ iB ⟨_,_,rfl,h4⟩
         ·obtain⟨a5,c5,e5,h5⟩:∃a c,v 5=.tuple #[.slice a (b).length c,.int .i64 E]/\Bs w1 w1.heap.size (.slice a (b).length c) (b):=hF 5 (hA 5 (by simp))
          simp only [e5]at hK
          go_simp
          exact hK _ _ hJ iB ⟨_,_,rfl,h5⟩
         ·obtain⟨a5,c5,e5,h5⟩:∃a c,v 5=.tuple #[.slice a (b).length c,.int .i64 E]/\Bs w1 w1.heap.size (.slice a (b).length c) (b):=hF 5 (hA 5 (by simp))
          simp only [e5]at hK
          go_simp
          exact hK _ _ hJ iB rfl
         ·obtain⟨a6,c6,e6,h6⟩:∃a c,v 6=.slice a (b).length c/\Bs w1 w1.heap.size (.slice a (b).length c) (b):=hF 6 (hA 6 (by simp))
          simp only [e6]at hK
          go_simp
          exact hK _ _ hJ iB ⟨_,_,rfl,h6⟩
         ·have e7:v 7=.int .i64 E:=hF 7 (hA 7 (by simp))
          simp only [e7]at hK
          go_simp
          refine hK _ _ hJ iB ?_
          first|exact rfl|exact j5 _
        case tail16=>
         intro v w1 hJ hF
         have e0:v 0=.agg #[.slice xA k1.length xc,.slice yA k2.length yc,.int .i64 (n+1),.slice zA N.length zc]:=hF 0 (by simp)
         have e1:v 1=.slice (some ⟨g,0,none⟩) 3 3:=hF 1 (by simp)
         have e2:v 2=.pointer (some ⟨g,0,none⟩):=hF 2 (by simp)
         have e3:v 3=.slice v0A V.length v0c:=hF 3 (by simp)
         have e7:v 7=.int .i64 E:=hF 7 (by simp)
         have e9:v 9=.int .i64 E:=hF 9 (by simp)
         obtain⟨a8,c8,e8,h8⟩:∃a c,v 8=.slice a (b).length c/\Bs w1 w1.heap.size (.slice a (b).length c) (b):=hF 8 (by simp)
         simp only [iE,iJ,jf,Act.put,iM,Nat.reduceAdd,iS,iC,iD]
         simp only [e8,e9]
         have HV3:=iH h8
         obtain⟨w5,rfl⟩:∃w5:World,w5=w1:=⟨_,rfl⟩
         have HBU3:=iH (HBU4.out.trans (hJ.mono HBU4.out.size))
         have HB5:=iH (HB4.out.trans (hJ.mono HB4.out.size))
         obtain⟨vA,hvA⟩:∃vA,vA=a8:=⟨_,rfl⟩
         obtain⟨vc,hvc⟩:∃vc,vc=c8:=⟨_,rfl⟩
         rw [<-hvA,<-hvc]at HV3 |-
         clear hvA hvc h8 hJ hF e0 e1 e2 e3 e7 e8 e9
         by_cases hE:E=0
         ·subst hE
          have R9:Hid (kj k1 k2 n d st=(0,b,st,k1,k2,n+1)):=iH (by rw [R3X.out];exact iF (by simp))
          go_upto_region 19 with fail
          obtain⟨wd,hwd⟩:∃wd,wd=w5.drew:=⟨_,rfl⟩
          have HWD:=iH hwd
          have RC4:Hid (wd.heap[w.heap.size+1]?=some (.cells #[.slice A3 d.length d3,.int .i64 st] 44 (0,0))):=iH (by rw [hwd];exact RC.out w5 HB5.out)
          have RU4:Hid (wd.heap[wn.heap.size]?=some (.cells #[.slice xA k1.length xc,.slice yA k2.length yc,.int .i64 (n+1),.slice zA N.length zc] 77 (0,0))):=iH (by rw [hwd];exact RU.out w5 HBU3.out)
          have RR4:Hid (wd.heap[(w.heap.size+1+1)]?=some (.cells #[.slice none 0 0,.int .i64 0] 44 (0,0))):=iH (by rw [hwd];exact R2.out w5 HB5.out)
          have RS4:Hid (wd.heap[(w.heap.size+1+1+1)]?=some (.cells #[.slice none 0 0,.slice none 0 0,.int .i64 0] 29 (0,0))):=iH (by rw [hwd];exact R3.out w5 HB5.out)
          have HB4:Hid (Below w.heap.size w wd):=iH (by rw [hwd];exact(HB.out.trans (HB5.out.mono HB.out.size)).drew)
          have V4:Hid (Bs wd wd.heap.size (.slice vA b.length vc) b):=iH (by rw [hwd];exact HV3.out)
          have X4:Hid (Bs wd wd.heap.size (.slice xA k1.length xc) k1):=iH (by rw [hwd];exact XU.out.lift HBU3.out.drew)
          have Y4:Hid (Bs wd wd.heap.size (.slice yA k2.length yc) k2):=iH (by rw [hwd];exact YU.out.lift HBU3.out.drew)
          have NE1:Hid (w.heap.size+1≠(w.heap.size+1+1)):=iH (by omega)
          have NE3:Hid (wn.heap.size≠(w.heap.size+1+1)):=iH (by have:=HZA.out;have:=HBN.out.size;omega)
          clear hwd
          refine je 7 [some 109,some 110,some 111,some 112,some 113,some 114,none] [[],[],[1],[0,1,2],[],[4],[0,1,2,3]]
           (J2 wd (w.heap.size+1+1) 6 (.slice vA b.length vc) (.int .i64 st)) (fun _ _=>True)
           [fun v _=>v 0=.slice vA b.length vc,
            fun v _=>v 1=.pointer (some ⟨w.heap.size+1,1,none⟩),
            fun v _=>v 2=.int .i64 st,
            fun v _=>v 3=.agg #[.slice vA b.length vc,.int .i64 st],
            fun v _=>v 4=.pointer (some ⟨wn.heap.size,0,none⟩),
            fun v _=>v 5=.agg #[.slice xA k1.length xc,.slice yA k2.length yc,.int .i64 (n+1)],
            fun v w1=>True]
           (by kernel_rfl) (by kernel_rfl) (fun _=>HWD.out.symm.trans (iF (by decide)).symm) ?st9 ?steps9 ?tail9
          case st9=>
           exact(.cons (fun _ _ _ _ _ _ h=>h) (.cons (fun _ _ _ _ _ _ h=>h) (.cons (fun _ _ _ _ _ _ h=>h) (.cons (fun _ _ _ _ _ _ h=>h) (.cons (fun _ _ _ _ _ _ h=>h) (.cons (fun _ _ _ _ _ _ h=>h) (.cons (fun _ _ _ _ _ _ h=>h) .nil)))))))
          case steps9=>
           simp only [iI,iK]
           refine(.cons ?_ (.cons ?_ (.cons ?_ (.cons ?_ (.cons ?_ (.cons ?_ (.cons ?_ .nil)))))))
           all_goals(intro L v w1 hJ hL hA hF K hK;simp only [jf,Act.put,iM,Nat.reduceAdd,iS,iC,iD]at hK |-)
           ·go_simp
            refine hK _ _ (J2.step hJ 0 (by decide)) trivial ?_
            first|exact rfl|exact j5 _
           ·go_simp
            refine hK _ _ (J2.step hJ 1 (by decide)) trivial ?_
            first|exact rfl|exact j5 _
           ·have e1:v 1=.pointer (some ⟨w.heap.size+1,1,none⟩):=hF 1 (hA 1 (by simp))
            obtain⟨c0,c1,_⟩:=jd ((J2.row hJ NE1.out).trans RC4.out)
            simp only [e1]at hK
            go_simp
            refine hK _ _ (J2.step hJ 2 (by decide)) trivial ?_
            first|exact rfl|exact j5 _
           ·have e0:v 0=.slice vA b.length vc:=hF 0 (hA 0 (by simp))
            have e2:v 2=.int .i64 st:=hF 2 (hA 2 (by simp))
            simp only [e0,e2]at hK
            go_simp
            refine hK _ _ (J2.step hJ 3 (by decide)) trivial ?_
            first|exact rfl|exact j5 _
           ·go_simp
            refine hK _ _ (J2.step hJ 4 (by decide)) trivial ?_
            first|exact rfl|exact j5 _
           ·have e4:v 4=.pointer (some ⟨wn.heap.size,0,none⟩):=hF 4 (hA 4 (by simp))
            obtain⟨c0,c1,c2,c3,_⟩:=kd ((J2.row hJ NE3.out).trans RU4.out)
            simp only [e4]at hK
            go_simp
            refine hK _ _ (J2.step hJ 5 (by decide)) trivial ?_
            first|exact rfl|exact j5 _
           ·have e3:v 3=.agg #[.slice vA b.length vc,.int .i64 st]:=hF 3 (hA 3 (by simp))
            simp only [e3]at hK
            obtain rfl:=J2.old hJ hL
            obtain⟨r0,r1,rf⟩:=jd RR4.out
            have rf0:=rf 0;have rf1:=rf 1;clear rf
            have e3:v 3=.agg #[.slice vA b.length vc,.int .i64 st]:=hF 3 (hA 3 (by simp))
            simp only [e3]at hK |-
            have hJ2:=iH hJ;have hL2:=iH hL
            clear hJ hL hF hA e3
            go_simp
            exact hK undef _ (J2.store hJ2.out hL2.out) trivial trivial
          case tail9=>
           intro v w1 hJ hF
           have e0:v 0=.slice vA b.length vc:=hF 0 (by simp)
           have e1:v 1=.pointer (some ⟨w.heap.size+1,1,none⟩):=hF 1 (by simp)
           have e2:v 2=.int .i64 st:=hF 2 (by simp)
           have e3:v 3=.agg #[.slice vA b.length vc,.int .i64 st]:=hF 3 (by simp)
           have e4:v 4=.pointer (some ⟨wn.heap.size,0,none⟩):=hF 4 (by simp)
           have e5:v 5=.agg #[.slice xA k1.length xc,.slice yA k2.length yc,.int .i64 (n+1)]:=hF 5 (by simp)
           simp only [iE,iJ,jf,Act.put,iM,Nat.reduceAdd,iS,iC,iD]
           simp only [e5]
           clear e0 e1 e2 e3 e4 e5 hF
           obtain rfl:=J2.all hJ rfl
           have RS5:Hid ((qm wd (w.heap.size+1+1) (.slice vA b.length vc) (.int .i64 st)).heap[(w.heap.size+1+1+1)]?=some (.cells #[.slice none 0 0,.slice none 0 0,.int .i64 0] 29 (0,0))):=iH ((qe (by omega)).trans RS4.out)
           obtain⟨s0,s1,s2,sf⟩:=j7 RS5.out
           have sf0:=sf 0;have sf1:=sf 1;have sf2:=sf 2;clear sf
           obtain⟨w5,hw5⟩:∃w5,w5=qm wd (w.heap.size+1+1) (.slice vA b.length vc) (.int .i64 st):=⟨_,rfl⟩
           rw [<-hw5]at s0 s1 s2 sf0 sf1 sf2 |-
           have HW5:=iH hw5
           clear hw5 hJ
           go_wp2_with fail
           have q:=jm (W:=wd) RR4.out RS4.out (.slice vA b.length vc) (.int .i64 st) (.slice xA k1.length xc) (.slice yA k2.length yc) (.int .i64 (n+1))
           rw [<-HW5.out]at q
           obtain⟨q2,q3⟩:=q
           obtain⟨y0,y1,_⟩:=jd q2
           obtain⟨x0,x1,x2,_⟩:=j7 q3
           refine bodyPost_ret (v:=.tuple #[.agg #[.slice vA b.length vc,.int .i64 st],.agg #[.slice xA k1.length xc,.slice yA k2.length yc,.int .i64 (n+1)],.int .i64 0]) (by simp only [set3]at y0 y1 x0 x1 x2;simp [results,Tryz.results41,go_sem,y0,y1,x0,x1,x2]) rfl ?_
           rw [R9.out]
           have hk:=fun(v:Value) (L:List UInt8) (h:Bs wd wd.heap.size v L)=>yt (W:=wd) RR4.out RS4.out (.slice vA b.length vc) (.int .i64 st) (.slice xA k1.length xc) (.slice yA k2.length yc) (.int .i64 (n+1)) h
           rw [<-HW5.out]at hk
           have hbw:=ji (p:=(w.heap.size+1+1)) (a:=.slice vA b.length vc) (b:=.int .i64 st) (x:=.slice xA k1.length xc) (y:=.slice yA k2.length yc) (z:=.int .i64 (n+1)) HB4.out (by omega)
           rw [<-HW5.out]at hbw
           exact⟨_,_,rfl,⟨_,rfl,hk _ _ V4.out⟩,⟨_,_,rfl,hk _ _ X4.out,hk _ _ Y4.out⟩,hbw⟩
         ·have tE:(E != 0)=true:=by simpa using hE
          have R9:Hid (kj k1 k2 n d st=(E,[],0,[],[],0)):=iH (by rw [R3X.out];exact iT hE)
          clear hE
          go_wp2_with(go_at_call 78;refine(qd E w5).mono ?_;rintro e wf ⟨rfl,hb⟩;have HBF:=iH (HB5.out.trans (hb.mono HB5.out.size));obtain⟨r0,r1,rf⟩:=jd (R2.out wf HBF.out);have rf0:=rf 0;have rf1:=rf 1;clear rf;obtain⟨s0,s1,s2,sf⟩:=j7 (R3.out wf HBF.out);have sf0:=sf 0;have sf1:=sf 1;have sf2:=sf 2;clear sf;clear hb)
          obtain⟨q2,q3⟩:=jm (R2.out wf HBF.out) (R3.out wf HBF.out) (.slice none 0 0) (.int .i64 0) (.slice none 0 0) (.slice none 0 0) (.int .i64 0)
          obtain⟨y0,y1,_⟩:=jd q2
          obtain⟨x0,x1,x2,_⟩:=j7 q3
          refine bodyPost_ret (v:=.tuple #[.agg #[.slice none 0 0,.int .i64 0],.agg #[.slice none 0 0,.slice none 0 0,.int .i64 0],.int .i64 E]) (by simp only [qm,set3]at y0 y1 x0 x1 x2;simp [results,Tryz.results41,go_sem,y0,y1,x0,x1,x2]) rfl ?_
          rw [R9.out]
          exact⟨_,_,rfl,⟨_,rfl,BsS.nil0 _ _⟩,⟨_,_,rfl,BsS.nil0 _ _,BsS.nil0 _ _⟩,ji (HB.out.trans (Below.mono HBF.out HB.out.size)) (by omega)⟩
       |false=>
        have R9:Hid (kj k1 k2 n d st=(23,[],0,[],[],0)):=iH (by rw [R2X.out];exact iT (of_decide_eq_false OQ.out))
        go_wp2_with(go_at_call 78;refine(qd 23 w4).mono ?_;rintro e wf ⟨rfl,hb⟩;have HBF:=iH (HB4.out.trans (hb.mono HB4.out.size));obtain⟨r0,r1,rf⟩:=jd (R2.out wf HBF.out);have rf0:=rf 0;have rf1:=rf 1;clear rf;obtain⟨s0,s1,s2,sf⟩:=j7 (R3.out wf HBF.out);have sf0:=sf 0;have sf1:=sf 1;have sf2:=sf 2;clear sf;clear hb)
        obtain⟨q2,q3⟩:=jm (R2.out wf HBF.out) (R3.out wf HBF.out) (.slice none 0 0) (.int .i64 0) (.slice none 0 0) (.slice none 0 0) (.int .i64 0)
        obtain⟨y0,y1,_⟩:=jd q2
        obtain⟨x0,x1,x2,_⟩:=j7 q3
        refine bodyPost_ret (v:=.tuple #[.agg #[.slice none 0 0,.int .i64 0],.agg #[.slice none 0 0,.slice none 0 0,.int .i64 0],.int .i64 23]) (by simp only [qm,set3]at y0 y1 x0 x1 x2;simp [results,Tryz.results41,go_sem,y0,y1,x0,x1,x2]) rfl ?_
        rw [R9.out]
        exact⟨_,_,rfl,⟨_,rfl,BsS.nil0 _ _⟩,⟨_,_,rfl,BsS.nil0 _ _,BsS.nil0 _ _⟩,ji (HB.out.trans (Below.mono HBF.out HB.out.size)) (by omega)⟩
     ·rw [decide_eq_false hcc]at HEQ
      have R9:Hid (kj k1 k2 n d st=(20,[],0,[],[],0)):=iH (by rw [R1X.out];exact iT hcc)
      clear hcc R1X
      go_wp2_with(first
       |(go_at_call 78;refine(qd 20 w3).mono ?_;rintro e wf ⟨rfl,hb⟩;have HBF:=iH (HB3.out.trans (hb.mono HB3.out.size));obtain⟨r0,r1,rf⟩:=jd (R2.out wf HBF.out);have rf0:=rf 0;have rf1:=rf 1;clear rf;obtain⟨s0,s1,s2,sf⟩:=j7 (R3.out wf HBF.out);have sf0:=sf 0;have sf1:=sf 1;have sf2:=sf 2;clear sf;clear hb)
       |(go_at_call 57;refine HEQ.out.mono ?_;rintro e w' ⟨rfl,hw'⟩;rw [hw'];clear hw' w' z2))
      obtain⟨q2,q3⟩:=jm (R2.out wf HBF.out) (R3.out wf HBF.out) (.slice none 0 0) (.int .i64 0) (.slice none 0 0) (.slice none 0 0) (.int .i64 0)
      obtain⟨y0,y1,_⟩:=jd q2
      obtain⟨x0,x1,x2,_⟩:=j7 q3
      refine bodyPost_ret (v:=.tuple #[.agg #[.slice none 0 0,.int .i64 0],.agg #[.slice none 0 0,.slice none 0 0,.int .i64 0],.int .i64 20]) (by simp only [qm,set3]at y0 y1 x0 x1 x2;simp [results,Tryz.results41,go_sem,y0,y1,x0,x1,x2]) rfl ?_
      rw [R9.out]
      exact⟨_,_,rfl,⟨_,rfl,BsS.nil0 _ _⟩,⟨_,_,rfl,BsS.nil0 _ _,BsS.nil0 _ _⟩,ji (HB.out.trans (Below.mono HBF.out HB.out.size)) (by omega)⟩
  ·have HVC:Hid (vR d st=false):=iH (by simpa using v2)
   have R:Hid (kj k1 k2 n d st=(14,[],0,[],[],0)):=iH (by unfold kj;rw [iF (by rw [v1];simp),iT HVC.out])
   clear v1 v2
   go_enter Tryz.func41,Tryz.ntmps41
   go_upto_region 1 with fail
   rw [<-HWS.out,<-HWC.out,<-HW2.out,<-HW3.out]
   obtain⟨f0,f1,f2⟩:=CS.out wa iB
   go_wp2_with(first
    |(go_at_call 78;refine(qd 14 wc).mono ?_;rintro e wf ⟨rfl,hb⟩;have HBF:=iH (HBC.out.trans (hb.mono HBC.out.size));obtain⟨r0,r1,rf⟩:=jd (R2.out wf HBF.out);have rf0:=rf 0;have rf1:=rf 1;clear rf;obtain⟨s0,s1,s2,sf⟩:=j7 (R3.out wf HBF.out);have sf0:=sf 0;have sf1:=sf 1;have sf2:=sf 2;clear sf;clear hb)
    |(go_at_call 76;have M1:=HBV;go_loud(refine(x8 _ d st wv (HCV.out wv HBV.out)).mono ?_;rw [HVC.out];rintro e wc ⟨rfl,hb⟩;have hb2:=HBV.out.trans (hb.mono HBV.out.size);have HBC:=iH hb2;clear g0 g1;obtain⟨g0,g1⟩:=CC.out wc hb2;clear f0 f1 f2;obtain⟨f0,f1,f2⟩:=CS.out wc hb2;clear hb hb2))
    |(go_at_call 47;refine(jr _ k1 k2 n _ wa HSV.out).mono ?_;rw [HVS.out];rintro e wv ⟨rfl,hb⟩;have HBV:=iH hb;obtain⟨g0,g1⟩:=CC.out wv hb;clear hb))
   obtain⟨q2,q3⟩:=jm (R2.out wf HBF.out) (R3.out wf HBF.out) (.slice none 0 0) (.int .i64 0) (.slice none 0 0) (.slice none 0 0) (.int .i64 0)
   obtain⟨y0,y1,_⟩:=jd q2
   obtain⟨x0,x1,x2,_⟩:=j7 q3
   refine bodyPost_ret (v:=.tuple #[.agg #[.slice none 0 0,.int .i64 0],.agg #[.slice none 0 0,.slice none 0 0,.int .i64 0],.int .i64 14]) (by simp only [qm,set3]at y0 y1 x0 x1 x2;simp [results,Tryz.results41,go_sem,y0,y1,x0,x1,x2]) rfl ?_
   rw [R.out]
   exact⟨_,_,rfl,⟨_,rfl,BsS.nil0 _ _⟩,⟨_,_,rfl,BsS.nil0 _ _,BsS.nil0 _ _⟩,ji (HB.out.trans (Below.mono HBF.out HB.out.size)) (by omega)⟩
 ·have HVS:Hid (vS k1 k2 n=false):=iH (by simpa using v1)
  have R:Hid (kj k1 k2 n d st=(14,[],0,[],[],0)):=iH (by unfold kj;rw [iT HVS.out])
  clear v1
  go_enter Tryz.func41,Tryz.ntmps41
  go_upto_region 1 with fail
  rw [<-HWS.out,<-HWC.out,<-HW2.out,<-HW3.out]
  obtain⟨f0,f1,f2⟩:=CS.out wa iB
  go_wp2_with(first
   |(go_at_call 78;refine(qd 14 wv).mono ?_;rintro e wf ⟨rfl,hb⟩;have HBF:=iH (HBV.out.trans (hb.mono HBV.out.size));obtain⟨r0,r1,rf⟩:=jd (R2.out wf HBF.out);have rf0:=rf 0;have rf1:=rf 1;clear rf;obtain⟨s0,s1,s2,sf⟩:=j7 (R3.out wf HBF.out);have sf0:=sf 0;have sf1:=sf 1;have sf2:=sf 2;clear sf;clear hb)
   |(go_at_call 47;refine(jr _ k1 k2 n _ wa HSV.out).mono ?_;rw [HVS.out];rintro e wv ⟨rfl,hb⟩;have HBV:=iH hb;obtain⟨g0,g1⟩:=CC.out wv hb;clear hb))
  obtain⟨q2,q3⟩:=jm (R2.out wf HBF.out) (R3.out wf HBF.out) (.slice none 0 0) (.int .i64 0) (.slice none 0 0) (.slice none 0 0) (.int .i64 0)
  obtain⟨y0,y1,_⟩:=jd q2
  obtain⟨x0,x1,x2,_⟩:=j7 q3
  refine bodyPost_ret (v:=.tuple #[.agg #[.slice none 0 0,.int .i64 0],.agg #[.slice none 0 0,.slice none 0 0,.int .i64 0],.int .i64 14]) (by simp only [qm,set3]at y0 y1 x0 x1 x2;simp [results,Tryz.results41,go_sem,y0,y1,x0,x1,x2]) rfl ?_
  rw [R.out]
  exact⟨_,_,rfl,⟨_,rfl,BsS.nil0 _ _⟩,⟨_,_,rfl,BsS.nil0 _ _,BsS.nil0 _ _⟩,ji (HB.out.trans (Below.mono HBF.out HB.out.size)) (by omega)⟩
end Go.Proofs.YtadndhgebgjlaaaGreat
