/- messaging.Open; The reference's Open; awake of layer 6; the walks of ModesPads, ModesSeals, ModesSealsMade. Printed by gen/law6a.py; Plain: what was secured ... -/
import Derived.Test.YtadndhgebgjlaaaGreatPBv
import Derived.Test.YtadndhgebgjlaaaGreatPBw
set_option linter.all false
set_option maxRecDepth 100000
set_option maxHeartbeats 40000000
namespace Go.Proofs.YtadndhgebgjlaaaGreat
open Go.RowKit Go.Deep
theorem me{P:Prop}(h:P:=by
 exact⟨_,_,rfl,⟨_,rfl,BsS.nil0 _ _⟩,⟨_,_,rfl,BsS.nil0 _ _,BsS.nil0 _ _⟩,jj (HB.out.trans (Below.mono HBF.out HB.out.size)) (by omega)⟩):P:=h
theorem m27{P:Prop}(h:P:=by
 rw [R9.out]
 exact⟨_,_,rfl,⟨_,rfl,BsS.nil0 _ _⟩,⟨_,_,rfl,BsS.nil0 _ _,BsS.nil0 _ _⟩,jj (HB.out.trans (Below.mono HB6.out HB.out.size)) (by omega)⟩):P:=h
theorem m3w{P:Prop}(h:P:=by
 rw [<-hC];unfold kC;rw [List.length_take]
 have:=y7 hk2 (N++(head++L.enc));omega):P:=h
def j5q(k1 k2 N:List UInt8)(n st:Int):Except Int (List (List UInt8)×Ns)->Int×List UInt8×Int×List UInt8×List UInt8×Int
 |.error e=>(e,[],0,[],[],0)
 |.ok (vs,P)=>
  if ¬kC k2 N [] P.enc=gl vs 2 then(20,[],0,[],[],0)
  else if ¬zI st=gl vs 1 then(23,[],0,[],[],0)
  else if ¬kD k1 N ((gl vs 0).drop 1)=0 then(kD k1 N ((gl vs 0).drop 1),[],0,[],[],0)
  else(0,qt k1 N ((gl vs 0).drop 1),st,k1,k2,n+1)
def ky(k1 k2:List UInt8)(n:Int)(d:List UInt8)(st:Int):Int×List UInt8×Int×List UInt8×List UInt8×Int:=
 if vS k1 k2 n=false then(14,[],0,[],[],0)
 else if vR d st=false then(14,[],0,[],[],0)
 else if n=1099511627776 then(3,[],0,[],[],0)
 else j5q k1 k2 (Jh (n+1)) n st (kZ [142,153] (qZ 153 2 true) d)
theorem j2e(w:World)(g h:Int)(hg:kB g)(hh:kB h)(t:TypeId):IntL (w.alloc (.cells #[.int .i64 g,.int .i64 h] t)) (·<(w.alloc (.cells #[.int .i64 g,.int .i64 h] t)).heap.size) (.slice (some ⟨w.heap.size,0,none⟩) 2 2) [g,h]:=by
 refine⟨_,2,rfl,by simp,by decide,by simp,fun z hz=> ?_,fun _=>⟨w.heap.size,0,rfl,by simp,by simp,fun j hj=> ?_⟩⟩
 ·simp only [List.mem_cons,List.not_mem_nil,or_false]at hz
  rcases hz with rfl|rfl
  ·exact hg
  ·exact hh
 ·have hj:j<2:=hj
  rw [cell_of_row _ _ _ _ _ _ (iN)]
  obtain rfl|rfl:j=0\/j=1:=by omega
  ·rfl
  ·rfl
theorem not_not{p:Prop}:¬¬p↔p:=Classical.not_not
theorem VT(vs vc:Value)(k1 k2:List UInt8)(n:Int)(d:List UInt8)(st:Int)(w:World)(hs:qs w (·<w.heap.size) vs k1 k2 n)(hc:QU w (·<w.heap.size) vc d st):
 Calls Tryz.prog 41 #[vs,vc] w (Y8 (ky k1 k2 n d st) w):=by
 obtain⟨A1,d1,A2,d2,A3,d3,ws,wq,w2,wa,rfl,rfl,R2,R3,CS,CC,RC,HZA,HB,HWS,HWC,HW2,HW3,H1,H2,H3,HSV,HCV⟩:=j7b hs hc
 clear hs hc
 by_cases v1:vS k1 k2 n=true
 ·have HVS:=iH v1
  by_cases v2:vR d st=true
  ·have HVC:=iH v2
   have VS:=iH (of_decide_eq_true v1)
   have VC:=iH (of_decide_eq_true v2)
   clear v1 v2
   by_cases g3:n=1099511627776
   ·have t3:(n==1099511627776)=true:=by simp [g3]
    have R:Hid (ky k1 k2 n d st=(3,[],0,[],[],0)):=iH (by unfold ky;rw [iF (by rw [HVS.out];simp),iF (by rw [HVC.out];simp),iT g3])
    clear g3
    go_enter Tryz.func41,Tryz.ntmps41
    go_upto_region 1 with fail
    rw [<-HWS.out,<-HWC.out,<-HW2.out,<-HW3.out]
    obtain⟨f0,f1,f2⟩:=CS.out wa iB
    go_wp2_with(first
     |(go_at_call 78;refine(qi 3 wc).mono ?_;rintro e wf ⟨rfl,hb⟩;have HBF:=iH (HBC.out.trans (hb.mono HBC.out.size));obtain⟨r0,r1,rf⟩:=jd (R2.out wf HBF.out);have rf0:=rf 0;have rf1:=rf 1;clear rf;obtain⟨s0,s1,s2,sf⟩:=j7 (R3.out wf HBF.out);have sf0:=sf 0;have sf1:=sf 1;have sf2:=sf 2;clear sf;clear hb)
     |(go_at_call 76;have M1:=HBV;go_loud(refine(xj _ d st wv (HCV.out wv HBV.out)).mono ?_;rw [HVC.out];rintro e wc ⟨rfl,hb⟩;have hb2:=HBV.out.trans (hb.mono HBV.out.size);have HBC:=iH hb2;clear g0 g1;obtain⟨g0,g1⟩:=CC.out wc hb2;clear f0 f1 f2;obtain⟨f0,f1,f2⟩:=CS.out wc hb2;clear hb hb2))
     |(go_at_call 47;refine(js _ k1 k2 n _ wa HSV.out).mono ?_;rw [HVS.out];rintro e wv ⟨rfl,hb⟩;have HBV:=iH hb;obtain⟨g0,g1⟩:=CC.out wv hb;clear hb))
    obtain⟨q2,q3⟩:=jo (R2.out wf HBF.out) (R3.out wf HBF.out) (.slice none 0 0) (.int .i64 0) (.slice none 0 0) (.slice none 0 0) (.int .i64 0)
    obtain⟨y0,y1,_⟩:=jd q2
    obtain⟨x0,x1,x2,_⟩:=j7 q3
    refine bodyPost_ret (v:=.tuple #[.agg #[.slice none 0 0,.int .i64 0],.agg #[.slice none 0 0,.slice none 0 0,.int .i64 0],.int .i64 3]) (by simp only [qm,set3]at y0 y1 x0 x1 x2;simp [results,Tryz.results41,go_sem,y0,y1,x0,x1,x2]) rfl ?_
    rw [R.out]
    exact me
   ·have t3:(n==1099511627776)=false:=by simpa using g3
    have LK1:Hid (k1.length=16):=iH VS.out.1
    have LK2:Hid (k2.length=16):=iH VS.out.2.1
    have LD:Hid (d.length<=4096):=iH VC.out.1
    obtain⟨N,hN⟩:∃N,Jh (n+1)=N:=⟨_,rfl⟩
    have LN:Hid (N.length=16):=iH (by rw [<-hN]<;>rfl)
    have HNX:Hid (∀(va vb:Value) (w:World),Bs w w.heap.size va k1->Bs w w.heap.size vb k2->Calls Tryz.prog 49 #[.agg #[va,vb,.int .i64 n]] w fun e w'=>∃x y z,e=.returned (.agg #[x,y,.int .i64 (n+1),z])/\Bs w' w'.heap.size x k1/\Bs w' w'.heap.size y k2/\Bs w' w'.heap.size z N/\Below w.heap.size w w'):=iH (fun va vb w h1 h2=>by rw [<-hN];exact yo va vb k1 k2 n VS.out.2.2.1 VS.out.2.2.2 w h1 h2)
    obtain⟨rr,hrr⟩:∃r,kZ [142,153] (qZ 153 2 true) d=r:=⟨_,rfl⟩
    have R:Hid (ky k1 k2 n d st=j5q k1 k2 N n st rr):=iH (by subst hN;subst hrr;unfold ky;rw [iF (by rw [HVS.out];simp),iF (by rw [HVC.out];simp),iF g3])
    have HRR:=iH hrr
    obtain⟨X2,hX2⟩:∃X,zI st=X:=⟨_,rfl⟩
    have HX2:=iH hX2
    have HST:Hid (∀w,Calls Tryz.prog 77 #[.int .i64 st] w fun e w'=>∃A c,e=.returned (.agg #[.int .i64 153,.slice A X2.length c,.slice none 0 0])/\BsS w' (New w w') (.slice A X2.length c) X2/\Below w.heap.size w w'):=iH (fun w=>by rw [<-hX2];exact JT st VC.out.2.1 VC.out.2.2 w)
    clear hN g3 hrr hX2
    go_enter Tryz.func41,Tryz.ntmps41
    go_upto_region 1 with fail
    rw [<-HWS.out,<-HWC.out,<-HW2.out,<-HW3.out]
    obtain⟨f0,f1,f2⟩:=CS.out wa iB
    go_upto_region 7 with (first
     |(go_at_call 76;have M1:=HBV;go_loud(refine(xj _ d st wv (HCV.out wv HBV.out)).mono ?_;rw [HVC.out];rintro e wc ⟨rfl,hb⟩;have hb2:=HBV.out.trans (hb.mono HBV.out.size);have HBC:=iH hb2;clear g0 g1;obtain⟨g0,g1⟩:=CC.out wc hb2;clear f0 f1 f2;obtain⟨f0,f1,f2⟩:=CS.out wc hb2;clear hb hb2))
     |(go_at_call 47;refine(js _ k1 k2 n _ wa HSV.out).mono ?_;rw [HVS.out];rintro e wv ⟨rfl,hb⟩;have HBV:=iH hb;obtain⟨g0,g1⟩:=CC.out wv hb;clear hb))
    clear f0 f1 f2 g0 g1 t3
    obtain⟨w8,hw8⟩:∃w8,w8=wc.alloc (.cells #[.int .i64 135,.int .i64 2,.int .i64 4096,.bool false,.int .i64 153,.int .i64 2,.int .i64 2,.bool true,.int .i64 142,.int .i64 8,.int .i64 8,.bool true] 84):=⟨_,rfl⟩
    rw [<-hw8]
    have hb8:Below wc.heap.size wc w8:=by rw [hw8];exact iA
    have hf8:FldAt w8 (qZ 153 2 true) wc.heap.size 0:=by
     rw [hw8]
     have k:∀o,(wc.alloc (.cells #[.int .i64 135,.int .i64 2,.int .i64 4096,.bool false,.int .i64 153,.int .i64 2,.int .i64 2,.bool true,.int .i64 142,.int .i64 8,.int .i64 8,.bool true] 84)).cell? ⟨wc.heap.size,o,none⟩=(#[.int .i64 135,.int .i64 2,.int .i64 4096,.bool false,.int .i64 153,.int .i64 2,.int .i64 2,.bool true,.int .i64 142,.int .i64 8,.int .i64 8,.bool true]:Array Value)[o]? :=fun o=>cell_of_row _ _ _ _ _ _ (iN)
     exact⟨k 0,k 1,k 2,k 3,k 4,k 5,k 6,k 7,k 8,k 9,k 10,k 11,trivial⟩
    obtain⟨wi,hwi⟩:∃wi,wi=w8.alloc (.cells #[.int .i64 142,.int .i64 153] 3):=⟨_,rfl⟩
    have hbi:Below w8.heap.size w8 wi:=by rw [hwi];exact iA
    have hpi:IntL wi (·<wi.heap.size) (.slice (some ⟨w8.heap.size,0,none⟩) 2 2) [142,153]:=by rw [hwi];exact j2e w8 142 153 ⟨by decide,by decide⟩ ⟨by decide,by decide⟩ 3
    have hw8z:wc.heap.size<w8.heap.size:=by rw [hw8];simp
    have HB8:=iH (HBC.out.trans (hb8.mono HBC.out.size))
    have HBI:=iH (HB8.out.trans (hbi.mono HB8.out.size))
    have HOB:=Jf d [142,153] (qZ 153 2 true) (.slice A3 d.length d3) (.slice (some ⟨w8.heap.size,0,none⟩) 2 2) wc.heap.size 0 3 rfl (fun L vs n R h=>Yk L vs n R h) wi (H3.out.lift HBI.out) hpi (iZ hw8z hbi.size) (hf8.below hbi hw8z) ⟨by decide,by decide⟩
    rw [HRR.out]at HOB
    have HOB:=iH HOB
    have HWI:=iH hwi
    clear hw8 hb8 hf8 hbi hpi hwi hw8z
    obtain⟨g0,g1⟩:=CC.out w8 HB8.out
    cases rr with
    |error er=>
     have R:Hid (ky k1 k2 n d st=(er,[],0,[],[],0)):=R
     have tne:(er != 0)=true:=by simpa using Yx HRR.out
     go_wp2_with(first
      |(go_at_call 78;refine(qi er wo).mono ?_;rintro e wf ⟨rfl,hb⟩;have HBF:=iH (HBO.out.trans (hb.mono HBO.out.size));obtain⟨r0,r1,rf⟩:=jd (R2.out wf HBF.out);have rf0:=rf 0;have rf1:=rf 1;clear rf;obtain⟨s0,s1,s2,sf⟩:=j7 (R3.out wf HBF.out);have sf0:=sf 0;have sf1:=sf 1;have sf2:=sf 2;clear sf;clear hb)
      |(go_at_call 55;rw [<-HWI.out];refine HOB.out.mono ?_;rintro e wo ⟨rfl,hb⟩;have HBO:=iH (HBI.out.trans (hb.mono HBI.out.size));clear hb g0 g1))
     obtain⟨q2,q3⟩:=jo (R2.out wf HBF.out) (R3.out wf HBF.out) (.slice none 0 0) (.int .i64 0) (.slice none 0 0) (.slice none 0 0) (.int .i64 0)
     obtain⟨y0,y1,_⟩:=jd q2
     obtain⟨x0,x1,x2,_⟩:=j7 q3
     refine bodyPost_ret (v:=.tuple #[.agg #[.slice none 0 0,.int .i64 0],.agg #[.slice none 0 0,.slice none 0 0,.int .i64 0],.int .i64 er]) (by simp only [qm,set3]at y0 y1 x0 x1 x2;simp [results,Tryz.results41,go_sem,y0,y1,x0,x1,x2]) rfl ?_
     rw [R.out]
     exact me
    |ok vp=>
     obtain⟨us,P⟩:=vp
     obtain⟨V,M,C,LL,hus,hsh,hpp,heP,haP,hlP,hP⟩:=Qv (by decide) (by decide) (by decide) (by decide) (by decide) HRR.out
     subst hus
     have HVV:Hid (V= []\/kf V=true):=iH (hsh.v.imp id fun h=>h.1)
     have HEP:=iH heP;have HAP:=iH haP;have HLP:=iH hlP
     have R1X:Hid (ky k1 k2 n d st=if ¬kC k2 N [] P.enc=C then(20,[],0,[],[],0)
      else if ¬X2=M then(23,[],0,[],[],0)
      else if ¬kD k1 N (V.drop 1)=0 then(kD k1 N (V.drop 1),[],0,[],[],0)
      else(0,qt k1 N (V.drop 1),st,k1,k2,n+1)):=iH (by rw [<-HX2.out];exact R.out)
     clear hsh hpp heP haP hlP hP R
     go_upto_region 11 with (first
      |(go_at_call 49;refine(HNX.out _ _ wo (H1.out.lift HBO.out) (H2.out.lift HBO.out)).mono ?_;rintro e wn ⟨x,y,z,rfl,hx,hy,hz,hb⟩;obtain⟨xA,xc,hp⟩:=Bs.formL hx;subst hp;obtain⟨yA,yc,hp⟩:=Bs.formL hy;subst hp;obtain⟨zA,zc,hp⟩:=Bs.formL hz;subst hp;have HX:=iH hx;have HY:=iH hy;have HZ:=iH hz;have HBN2:=iH hb;have HBN:=iH (HBO.out.trans (hb.mono HBO.out.size));obtain⟨u0,u1,u2,u3,uf⟩:=ki (zj wn);have uf0:=uf 0;have uf1:=uf 1;have uf2:=uf 2;have uf3:=uf 3;clear uf hx hy hz hb)
      |(go_at_call 55;rw [<-HWI.out];refine HOB.out.mono ?_;intro e wo h;obtain⟨g,PA,pc,rfl,hvr,hgg,hPn,hb⟩:=h;have HVR:=iH hvr;have HGG:=iH hgg;have HPN:=iH hPn;have HBO:=iH (HBI.out.trans (hb.mono HBI.out.size));clear hb hvr hgg hPn g0 g1;obtain⟨f0,f1,f2⟩:=CS.out wo HBO.out))
     clear u0 u1 u2 u3 uf0 uf1 uf2 uf3 f0 f1 f2
     obtain⟨wu,hwu⟩:∃wu,wu=wn.alloc (.cells #[.slice xA k1.length xc,.slice yA k2.length yc,.int .i64 (n+1),.slice zA N.length zc] 77):=⟨_,rfl⟩
     rw [<-hwu]
     have hbu:Below wn.heap.size wn wu:=by rw [hwu];exact iA
     have hur:wu.heap[wn.heap.size]?=some (.cells #[.slice xA k1.length xc,.slice yA k2.length yc,.int .i64 (n+1),.slice zA N.length zc] 77 (0,0)):=by rw [hwu];exact iN
     have hult:=(iG hur)
     have CU:Hid (∀W,Below wu.heap.size wu W->W.cell? ⟨wn.heap.size,0,none⟩=some (.slice xA k1.length xc)/\W.cell? ⟨wn.heap.size,1,none⟩=some (.slice yA k2.length yc)/\W.cell? ⟨wn.heap.size,2,none⟩=some (.int .i64 (n+1))/\W.cell? ⟨wn.heap.size,3,none⟩=some (.slice zA N.length zc)):=iH fun W h=>(by obtain⟨a,b,c,d,_⟩:=ki ((h.block _ hult).trans hur);exact⟨a,b,c,d⟩)
     have RU:Hid (∀W,Below wu.heap.size wu W->W.heap[wn.heap.size]?=some (.cells #[.slice xA k1.length xc,.slice yA k2.length yc,.int .i64 (n+1),.slice zA N.length zc] 77 (0,0))):=iH fun W h=>(h.block _ hult).trans hur
     have HBAU:=iH (HBN.out.trans (hbu.mono HBN.out.size))
     have hou:=HBN2.out.trans (hbu.mono HBN2.out.size)
     have HVU:=iH (HVR.out.below hou)
     have HPU:=iH (HPN.out.keep (w':=wu) (S':=(·<wu.heap.size)) fun b hs hl=>⟨hou.block b hl,iZ hl hou.size⟩)
     have XU:=iH (HX.out.lift hbu);have YU:=iH (HY.out.lift hbu);have ZU:=iH (HZ.out.lift hbu)
     clear hwu hbu hur hult hou
     obtain⟨C9,hC9⟩:∃C,kC k2 N [] P.enc=C:=⟨_,rfl⟩
     have HCO:Hid (Calls Tryz.prog 56 #[.agg #[.slice xA k1.length xc,.slice yA k2.length yc,.int .i64 (n+1),.slice zA N.length zc],.slice none 0 0,.slice PA P.len pc] wu fun e w'=>∃v',e=.returned (.tuple #[v',.int .i64 0])/\BsS w' (New wu w') v' C9/\Below wu.heap.size wu w'):=iH ((Qr (.slice xA k1.length xc) (.slice yA k2.length yc) (.slice zA N.length zc) (.slice none 0 0) (.slice PA P.len pc) (n+1) k2 N [] P LK2.out LN.out (by simp) HAP.out HLP.out P.enc HEP.out wu YU.out ZU.out (BsS.nil0 _ _) HPU.out).mono fun e w' h=>by obtain⟨A,c,he,hx,hb⟩:=h;rw [hC9]at he hx;exact⟨_,he,hx,hb⟩)
     rw [hC9]at R1X
     clear hC9
     obtain⟨u0,u1,u2,u3⟩:=CU.out wu iB
     go_upto_region 12 with (go_at_call 56;refine HCO.out.mono ?_;rintro e w3 ⟨v3,rfl,hv,hb⟩;obtain⟨kA,kc,hp⟩:=Bs.formL hv;subst hp;have HK3:=iH (BsS.keep hv (w':=w3) (S':=(·<w3.heap.size)) fun g hg _=>⟨rfl,hg.2⟩);have HBU3:=iH hb;have HB3:=iH (HBAU.out.trans (hb.mono HBAU.out.size));have HVR3:=iH (HVU.out.below hb);clear hv hb u0 u1 u2 u3)
     obtain⟨v2A,v2c,z2,hz2⟩:=HVR3.out.cell 2 (by decide)
     rw [show gl [V,M,C] 2=C from rfl]at z2 hz2
     obtain⟨v1A,v1c,z1,hz1⟩:=HVR3.out.cell 1 (by decide)
     rw [show gl [V,M,C] 1=M from rfl]at z1 hz1
     obtain⟨v0A,v0c,z0,hz0⟩:=HVR3.out.cell 0 (by decide)
     rw [show gl [V,M,C] 0=V from rfl]at z0 hz0
     have Z0:=iH z0;have Z1:=iH z1
     have LTG3:=iH HVR3.out.lt
     have HM3:Hid (∀W,Below w3.heap.size w3 W->BsS W (·<g) (.slice v1A M.length v1c) M):=iH (fun W h=>BsS.keep hz1 fun b hs hl=>⟨h.block b hl,hs⟩)
     have HM0:Hid (BsS w3 (·<g) (.slice v0A V.length v0c) V):=iH hz0
     have HEQ:=iH (yO _ _ C9 C _ _ w3 HK3.out hz2)
     clear hz2 hz1 hz0 z0 z1
     by_cases hcc:C9=C
     ·rw [decide_eq_true hcc]at HEQ
      have R2X:Hid (ky k1 k2 n d st=if ¬X2=M then(23,[],0,[],[],0)
       else if ¬kD k1 N (V.drop 1)=0 then(kD k1 N (V.drop 1),[],0,[],[],0)
       else(0,qt k1 N (V.drop 1),st,k1,k2,n+1)):=iH (by rw [R1X.out];exact iF (not_not.2 hcc))
      clear hcc R1X
      obtain⟨oq,hoq⟩:∃o,decide (X2=M)=o:=⟨_,rfl⟩
      have OQ:=iH hoq
      clear hoq
      go_upto_region 14 with (go_at_call 57;refine iR HEQ.out ?_)
      clear z2
      refine jc 9 [some 79,some 80,some 81,some 82,some 83,some 84,some 85,some 86,some 87] [[],[0],[0,1],[0,1,2],[],[4],[4,5],[0,1,2,3,4,5,6],[0,1,2,3,4,5,6,7]]
       (fun _ _ w1=>Below w3.heap.size w3 w1) (fun w1 w2=>Below w1.heap.size w1 w2)
       [fun v _=>v 0=.pointer (some ⟨w.heap.size+1,1,none⟩),
        fun v _=>v 1=.int .i64 st,
        fun v w1=>∃a c,v 2=.agg #[.int .i64 153,.slice a X2.length c,.slice none 0 0]/\BsS w1 (New w3 w1) (.slice a X2.length c) X2,
        fun v w1=>∃a c,v 3=.slice a (X2).length c/\BsS w1 (New w3 w1) (.slice a (X2).length c) (X2),
        fun v _=>v 4=.slice (some ⟨g,0,none⟩) 3 3,
        fun v _=>v 5=.pointer (some ⟨g,1,none⟩),
        fun v _=>v 6=.slice v1A M.length v1c,
        fun v w1=>v 7=.bool oq,
        fun v w1=>v 8=.bool (!oq)]
       (by kernel_rfl) (by kernel_rfl) (fun _=>iB.drew) ?st14 ?steps14 ?tail14
      case st14=>
       exact(.cons (fun _ _ _ _ _ _ h=>h) (.cons (fun _ _ _ _ _ _ h=>h) (.cons (fun _ _ _ _ _ hr ⟨a,c,e,h⟩=>⟨a,c,e,BsS.keep h fun g hg hl=>⟨hr.block g hl,hg.1,iZ hl hr.size⟩⟩) (.cons (fun _ _ _ _ _ hr ⟨a,c,e,h⟩=>⟨a,c,e,BsS.keep h fun g hg hl=>⟨hr.block g hl,hg.1,iZ hl hr.size⟩⟩) (.cons (fun _ _ _ _ _ _ h=>h) (.cons (fun _ _ _ _ _ _ h=>h) (.cons (fun _ _ _ _ _ _ h=>h) (.cons (fun _ _ _ _ _ _ h=>h) (.cons (fun _ _ _ _ _ _ h=>h) .nil)))))))))
      case steps14=>
       simp only [List.take_succ_cons,List.take_zero]
       refine(.cons ?_ (.cons ?_ (.cons ?_ (.cons ?_ (.cons ?_ (.cons ?_ (.cons ?_ (.cons ?_ (.cons ?_ .nil)))))))))
       all_goals(intro L v w1 hJ hL hA hF K hK;simp only [jf,Act.put,Nat.zero_add,Nat.reduceAdd,List.setIfInBounds_toArray,List.set_cons_zero,List.set_cons_succ]at hK |-)
       ·exact m6
       ·have e0:v 0=_:=hF 0 (hA 0 (by simp))
        obtain⟨c0,c1⟩:=CC.out _ (HB3.out.trans (hJ.mono HB3.out.size))
        simp only [e0]at hK
        exact m6
       ·have e1:v 1=_:=hF 1 (hA 1 (by simp))
        simp only [e1]at hK
        go_simp
        refine(HST.out w1).mono ?_
        rintro e w5 ⟨xA,xc,rfl,hx,hb⟩
        exact hK _ _ (hJ.trans (hb.mono hJ.size)) hb ⟨_,_,rfl,BsS.keep hx fun g hg _=>⟨rfl,Nat.le_trans hJ.size hg.1,hg.2⟩⟩
       ·obtain⟨a2,c2,e2,h2⟩:∃a c,v 2=_/\_:=hF 2 (hA 2 (by simp))
        simp only [e2]at hK
        go_simp
        exact hK _ _ hJ iB ⟨_,_,rfl,h2⟩
       ·exact m6
       ·have e4:v 4=_:=hF 4 (hA 4 (by simp))
        simp only [e4]at hK
        exact m6
       ·have e5:v 5=_:=hF 5 (hA 5 (by simp))
        have c0:w1.cell? ⟨g,1,none⟩=some (.slice v1A M.length v1c):=(hJ.cell (p:=⟨g,1,none⟩) LTG3.out).trans Z1.out
        simp only [e5]at hK
        exact m6
       ·have e6:v 6=_:=hF 6 (hA 6 (by simp))
        simp only [e6]at hK
        obtain⟨a3,c3,e3,h3⟩:∃a c,v 3=_/\_:=hF 3 (hA 3 (by simp))
        simp only [e3]at hK
        go_simp
        refine(yO _ _ X2 M _ _ w1 h3 (HM3.out w1 hJ)).mono ?_
        rintro e w5 ⟨rfl,hw5⟩
        rw [OQ.out]
        rw [hw5]
        exact hK _ _ hJ iB rfl
       ·have e7:v 7=_:=hF 7 (hA 7 (by simp))
        simp only [e7]at hK
        go_simp
        exact hK _ _ hJ iB rfl
      case tail14=>
       intro v w1 hJ hF
       have e0:v 0=_:=hF 0 (by simp)
       have e1:v 1=_:=hF 1 (by simp)
       have e4:v 4=_:=hF 4 (by simp)
       have e5:v 5=_:=hF 5 (by simp)
       have e6:v 6=_:=hF 6 (by simp)
       have e7:v 7=_:=hF 7 (by simp)
       have e8:v 8=_:=hF 8 (by simp)
       simp only [List.drop_succ_cons,List.drop_zero,jf,Act.put,Nat.zero_add,Nat.reduceAdd,List.setIfInBounds_toArray,List.set_cons_zero,List.set_cons_succ]
       simp only [e7,e8]
       obtain⟨w4,rfl⟩:∃w4:World,w4=w1:=⟨_,rfl⟩
       have H34:=iH hJ
       have HBU4:=iH (HBU3.out.trans (hJ.mono HBU3.out.size))
       have HB4:=iH (HB3.out.trans (hJ.mono HB3.out.size))
       clear e0 e1 e4 e5 e6 e7 e8 hJ hF
       cases oq with
       |true=>
        have R3X:Hid (ky k1 k2 n d st=if ¬kD k1 N (V.drop 1)=0 then(kD k1 N (V.drop 1),[],0,[],[],0)else(0,qt k1 N (V.drop 1),st,k1,k2,n+1)):=iH (by rw [R2X.out];exact iF (not_not.2 (of_decide_eq_true OQ.out)))
        obtain⟨b,hD⟩:∃D,qt k1 N (V.drop 1)=D:=⟨_,rfl⟩
        obtain⟨E,hE⟩:∃E,kD k1 N (V.drop 1)=E:=⟨_,rfl⟩
        rw [hD,hE]at R3X
        have HUO:Hid (∀W,Below w4.heap.size w4 W->Calls Tryz.prog 58 #[.agg #[.slice xA k1.length xc,.slice yA k2.length yc,.int .i64 (n+1),.slice zA N.length zc],.slice v0A V.length v0c] W (zg W b E)):=iH (fun W h=>by
         have h4:=HBU4.out.trans (h.mono HBU4.out.size)
         have h3:=H34.out.trans (h.mono H34.out.size)
         rw [<-hD,<-hE]
         exact Z6 _ _ _ _ (n+1) k1 N V LK1.out LN.out HVV.out W (XU.out.lift h4) (ZU.out.lift h4) (BsS.keep HM0.out fun b hs hl=>⟨h3.block b hl,iZ hl h3.size⟩))
        clear hD hE
        go_upto_region 16 with fail
        refine jc 10 [some 94,some 95,some 96,some 97,some 98,some 93,some 99,some 100,some 15,some 11] [[],[],[1],[1,2],[0,1,2,3],[0,1,2,3,4],[0,1,2,3,4,5],[0,1,2,3,4,5],[0,1,2,3,4,5,6],[0,1,2,3,4,5,6,7,8]]
         (fun _ _ w1=>Below w4.heap.size w4 w1) (fun w1 w2=>Below w1.heap.size w1 w2)
         [fun v _=>v 0=.agg #[.slice xA k1.length xc,.slice yA k2.length yc,.int .i64 (n+1),.slice zA N.length zc],
          fun v _=>v 1=.slice (some ⟨g,0,none⟩) 3 3,
          fun v _=>v 2=.pointer (some ⟨g,0,none⟩),
          fun v _=>v 3=.slice v0A V.length v0c,
          fun v w1=>∃a c,v 4=.tuple #[.slice a (b).length c,.int .i64 E]/\Bs w1 w1.heap.size (.slice a (b).length c) (b),
          fun v w1=>∃a c,v 5=.tuple #[.slice a (b).length c,.int .i64 E]/\Bs w1 w1.heap.size (.slice a (b).length c) (b),
          fun v w1=>∃a c,v 6=.slice a (b).length c/\Bs w1 w1.heap.size (.slice a (b).length c) (b),
          fun v _=>v 7=.int .i64 E,
          fun v w1=>∃a c,v 8=.slice a (b).length c/\Bs w1 w1.heap.size (.slice a (b).length c) (b),
          fun v _=>v 9=.int .i64 E]
         (by kernel_rfl) (by kernel_rfl) (fun _=>iB.drew) ?st16 ?steps16 ?tail16
        case st16=>
         exact(.cons (fun _ _ _ _ _ _ h=>h) (.cons (fun _ _ _ _ _ _ h=>h) (.cons (fun _ _ _ _ _ _ h=>h) (.cons (fun _ _ _ _ _ _ h=>h) (.cons (fun _ _ _ _ _ hr ⟨a,c,e,h⟩=>⟨a,c,e,h.lift hr⟩) (.cons (fun _ _ _ _ _ hr ⟨a,c,e,h⟩=>⟨a,c,e,h.lift hr⟩) (.cons (fun _ _ _ _ _ hr ⟨a,c,e,h⟩=>⟨a,c,e,h.lift hr⟩) (.cons (fun _ _ _ _ _ _ h=>h) (.cons (fun _ _ _ _ _ hr ⟨a,c,e,h⟩=>⟨a,c,e,h.lift hr⟩) (.cons (fun _ _ _ _ _ _ h=>h) .nil))))))))))
        case steps16=>
         simp only [List.take_succ_cons,List.take_zero]
         refine(.cons ?_ (.cons ?_ (.cons ?_ (.cons ?_ (.cons ?_ (.cons ?_ (.cons ?_ (.cons ?_ (.cons ?_ (.cons ?_ .nil))))))))))
         all_goals(intro L v w1 hJ hL hA hF K hK;simp only [jf,Act.put,Nat.zero_add,Nat.reduceAdd,List.setIfInBounds_toArray,List.set_cons_zero,List.set_cons_succ]at hK |-)
         ·obtain⟨c0,c1,c2,c3⟩:=CU.out _ (HBU4.out.trans (hJ.mono HBU4.out.size))
          exact m6
         ·exact m6
         ·have e1:v 1=_:=hF 1 (hA 1 (by simp))
          simp only [e1]at hK
          exact m6
         ·have e2:v 2=_:=hF 2 (hA 2 (by simp))
          have c0:w1.cell? ⟨g,0,none⟩=some (.slice v0A V.length v0c):=((H34.out.trans (hJ.mono H34.out.size)).cell (p:=⟨g,0,none⟩) LTG3.out).trans Z0.out
          simp only [e2]at hK
          exact m6
         ·have e0:v 0=_:=hF 0 (hA 0 (by simp))
          have e3:v 3=_:=hF 3 (hA 3 (by simp))
          simp only [e0,e3]at hK
          go_simp
          refine(HUO.out w1 hJ).mono ?_
          rintro e w5 ⟨v5,rfl,ho,hb⟩
          have hx:Bs w5 w5.heap.size v5 (b):=ho
          exact m7
         ·exact m2v
         ·exact m2w
         ·exact m3a
         ·exact mE
         ·have e7:v 7=_:=hF 7 (hA 7 (by simp))
          simp only [e7]at hK
          exact m6
        case tail16=>
         intro v w1 hJ hF
         have e0:v 0=_:=hF 0 (by simp)
         have e1:v 1=_:=hF 1 (by simp)
         have e2:v 2=_:=hF 2 (by simp)
         have e3:v 3=_:=hF 3 (by simp)
         have e7:v 7=_:=hF 7 (by simp)
         have e9:v 9=_:=hF 9 (by simp)
         obtain⟨a8,c8,e8,h8⟩:∃a c,v 8=_/\_:=hF 8 (by simp)
         simp only [List.drop_succ_cons,List.drop_zero,jf,Act.put,Nat.zero_add,Nat.reduceAdd,List.setIfInBounds_toArray,List.set_cons_zero,List.set_cons_succ]
         simp only [e8,e9]
         have HV3:=iH h8
         obtain⟨w5,rfl⟩:∃w5:World,w5=w1:=⟨_,rfl⟩
         have HBU3:=iH (HBU4.out.trans (hJ.mono HBU4.out.size))
         have HB5:=iH (HB4.out.trans (hJ.mono HB4.out.size))
         obtain⟨vA,hvA⟩:∃vA,vA=a8:=⟨_,rfl⟩
         obtain⟨vc,hvc⟩:∃vc,vc=c8:=⟨_,rfl⟩
         rw [<-hvA,<-hvc]at HV3 |-
         clear hvA hvc h8 hJ hF e0 e1 e2 e3 e7 e8 e9
         by_cases hE:E=0
         ·subst hE
          have R9:Hid (ky k1 k2 n d st=(0,b,st,k1,k2,n+1)):=iH (by rw [R3X.out];exact iF (by simp))
          go_upto_region 19 with fail
          obtain⟨wd,hwd⟩:∃wd,wd=w5.drew:=⟨_,rfl⟩
          have HWD:=iH hwd
          have RC4:Hid (wd.heap[w.heap.size+1]?=some (.cells #[.slice A3 d.length d3,.int .i64 st] 44 (0,0))):=iH (by rw [hwd];exact RC.out w5 HB5.out)
          have RU4:Hid (wd.heap[wn.heap.size]?=some (.cells #[.slice xA k1.length xc,.slice yA k2.length yc,.int .i64 (n+1),.slice zA N.length zc] 77 (0,0))):=iH (by rw [hwd];exact RU.out w5 HBU3.out)
          have RR4:Hid (wd.heap[(w.heap.size+1+1)]?=some (.cells #[.slice none 0 0,.int .i64 0] 44 (0,0))):=iH (by rw [hwd];exact R2.out w5 HB5.out)
          have RS4:Hid (wd.heap[(w.heap.size+1+1+1)]?=some (.cells #[.slice none 0 0,.slice none 0 0,.int .i64 0] 29 (0,0))):=iH (by rw [hwd];exact R3.out w5 HB5.out)
          have HB4:Hid (Below w.heap.size w wd):=iH (by rw [hwd];exact(HB.out.trans (HB5.out.mono HB.out.size)).drew)
          have V4:Hid (Bs wd wd.heap.size (.slice vA b.length vc) b):=iH (by rw [hwd];exact HV3.out)
          have X4:Hid (Bs wd wd.heap.size (.slice xA k1.length xc) k1):=iH (by rw [hwd];exact XU.out.lift HBU3.out.drew)
          have Y4:Hid (Bs wd wd.heap.size (.slice yA k2.length yc) k2):=iH (by rw [hwd];exact YU.out.lift HBU3.out.drew)
          have NE1:Hid (w.heap.size+1≠(w.heap.size+1+1)):=iH (by omega)
          have NE3:Hid (wn.heap.size≠(w.heap.size+1+1)):=iH (by have:=HZA.out;have:=HBN.out.size;omega)
          clear hwd
          refine jc 7 [some 109,some 110,some 111,some 112,some 113,some 114,none] [[],[],[1],[0,1,2],[],[4],[0,1,2,3]]
           (J2 wd (w.heap.size+1+1) 6 (.slice vA b.length vc) (.int .i64 st)) (fun _ _=>True)
           [fun v _=>v 0=.slice vA b.length vc,
            fun v _=>v 1=.pointer (some ⟨w.heap.size+1,1,none⟩),
            fun v _=>v 2=.int .i64 st,
            fun v _=>v 3=.agg #[.slice vA b.length vc,.int .i64 st],
            fun v _=>v 4=.pointer (some ⟨wn.heap.size,0,none⟩),
            fun v _=>v 5=.agg #[.slice xA k1.length xc,.slice yA k2.length yc,.int .i64 (n+1)],
            fun v w1=>True]
           (by kernel_rfl) (by kernel_rfl) (fun _=>HWD.out.symm.trans (iF (by decide)).symm) ?st9 ?steps9 ?tail9
          case st9=>
           exact m1r
          case steps9=>
           exact m0i
          case tail9=>
           intro v w1 hJ hF
           have e0:v 0=_:=hF 0 (by simp)
           have e1:v 1=_:=hF 1 (by simp)
           have e2:v 2=_:=hF 2 (by simp)
           have e3:v 3=_:=hF 3 (by simp)
           have e4:v 4=_:=hF 4 (by simp)
           have e5:v 5=_:=hF 5 (by simp)
           simp only [List.drop_succ_cons,List.drop_zero,jf,Act.put,Nat.zero_add,Nat.reduceAdd,List.setIfInBounds_toArray,List.set_cons_zero,List.set_cons_succ]
           simp only [e5]
           clear e0 e1 e2 e3 e4 e5 hF
           obtain rfl:=J2.all hJ rfl
           have RS5:Hid ((qm wd (w.heap.size+1+1) (.slice vA b.length vc) (.int .i64 st)).heap[(w.heap.size+1+1+1)]?=some (.cells #[.slice none 0 0,.slice none 0 0,.int .i64 0] 29 (0,0))):=iH ((kz (by omega)).trans RS4.out)
           obtain⟨s0,s1,s2,sf⟩:=j7 RS5.out
           have sf0:=sf 0;have sf1:=sf 1;have sf2:=sf 2;clear sf
           obtain⟨w5,hw5⟩:∃w5,w5=qm wd (w.heap.size+1+1) (.slice vA b.length vc) (.int .i64 st):=⟨_,rfl⟩
           rw [<-hw5]at s0 s1 s2 sf0 sf1 sf2 |-
           have HW5:=iH hw5
           clear hw5 hJ
           go_wp2_with fail
           have q:=jo (W:=wd) RR4.out RS4.out (.slice vA b.length vc) (.int .i64 st) (.slice xA k1.length xc) (.slice yA k2.length yc) (.int .i64 (n+1))
           rw [<-HW5.out]at q
           obtain⟨q2,q3⟩:=q
           obtain⟨y0,y1,_⟩:=jd q2
           obtain⟨x0,x1,x2,_⟩:=j7 q3
           refine bodyPost_ret (v:=.tuple #[.agg #[.slice vA b.length vc,.int .i64 st],.agg #[.slice xA k1.length xc,.slice yA k2.length yc,.int .i64 (n+1)],.int .i64 0]) (by simp only [set3]at y0 y1 x0 x1 x2;simp [results,Tryz.results41,go_sem,y0,y1,x0,x1,x2]) rfl ?_
           exact mz
         ·have tE:(E != 0)=true:=by simpa using hE
          have R9:Hid (ky k1 k2 n d st=(E,[],0,[],[],0)):=iH (by rw [R3X.out];exact iT hE)
          clear hE
          go_wp2_with(go_at_call 78;refine(qi E w5).mono ?_;rintro e wf ⟨rfl,hb⟩;have HBF:=iH (HB5.out.trans (hb.mono HB5.out.size));obtain⟨r0,r1,rf⟩:=jd (R2.out wf HBF.out);have rf0:=rf 0;have rf1:=rf 1;clear rf;obtain⟨s0,s1,s2,sf⟩:=j7 (R3.out wf HBF.out);have sf0:=sf 0;have sf1:=sf 1;have sf2:=sf 2;clear sf;clear hb)
          obtain⟨q2,q3⟩:=jo (R2.out wf HBF.out) (R3.out wf HBF.out) (.slice none 0 0) (.int .i64 0) (.slice none 0 0) (.slice none 0 0) (.int .i64 0)
          obtain⟨y0,y1,_⟩:=jd q2
          obtain⟨x0,x1,x2,_⟩:=j7 q3
          refine bodyPost_ret (v:=.tuple #[.agg #[.slice none 0 0,.int .i64 0],.agg #[.slice none 0 0,.slice none 0 0,.int .i64 0],.int .i64 E]) (by simp only [qm,set3]at y0 y1 x0 x1 x2;simp [results,Tryz.results41,go_sem,y0,y1,x0,x1,x2]) rfl ?_
          rw [R9.out]
          exact me
       |false=>
        have R9:Hid (ky k1 k2 n d st=(23,[],0,[],[],0)):=iH (by rw [R2X.out];exact iT (of_decide_eq_false OQ.out))
        go_wp2_with(go_at_call 78;refine(qi 23 w4).mono ?_;rintro e wf ⟨rfl,hb⟩;have HBF:=iH (HB4.out.trans (hb.mono HB4.out.size));obtain⟨r0,r1,rf⟩:=jd (R2.out wf HBF.out);have rf0:=rf 0;have rf1:=rf 1;clear rf;obtain⟨s0,s1,s2,sf⟩:=j7 (R3.out wf HBF.out);have sf0:=sf 0;have sf1:=sf 1;have sf2:=sf 2;clear sf;clear hb)
        obtain⟨q2,q3⟩:=jo (R2.out wf HBF.out) (R3.out wf HBF.out) (.slice none 0 0) (.int .i64 0) (.slice none 0 0) (.slice none 0 0) (.int .i64 0)
        obtain⟨y0,y1,_⟩:=jd q2
        obtain⟨x0,x1,x2,_⟩:=j7 q3
        refine bodyPost_ret (v:=.tuple #[.agg #[.slice none 0 0,.int .i64 0],.agg #[.slice none 0 0,.slice none 0 0,.int .i64 0],.int .i64 23]) (by simp only [qm,set3]at y0 y1 x0 x1 x2;simp [results,Tryz.results41,go_sem,y0,y1,x0,x1,x2]) rfl ?_
        rw [R9.out]
        exact me
     ·rw [decide_eq_false hcc]at HEQ
      have R9:Hid (ky k1 k2 n d st=(20,[],0,[],[],0)):=iH (by rw [R1X.out];exact iT hcc)
      clear hcc R1X
      go_wp2_with(first
       |(go_at_call 78;refine(qi 20 w3).mono ?_;rintro e wf ⟨rfl,hb⟩;have HBF:=iH (HB3.out.trans (hb.mono HB3.out.size));obtain⟨r0,r1,rf⟩:=jd (R2.out wf HBF.out);have rf0:=rf 0;have rf1:=rf 1;clear rf;obtain⟨s0,s1,s2,sf⟩:=j7 (R3.out wf HBF.out);have sf0:=sf 0;have sf1:=sf 1;have sf2:=sf 2;clear sf;clear hb)
       |(go_at_call 57;refine iR HEQ.out ?_;clear z2))
      obtain⟨q2,q3⟩:=jo (R2.out wf HBF.out) (R3.out wf HBF.out) (.slice none 0 0) (.int .i64 0) (.slice none 0 0) (.slice none 0 0) (.int .i64 0)
      obtain⟨y0,y1,_⟩:=jd q2
      obtain⟨x0,x1,x2,_⟩:=j7 q3
      refine bodyPost_ret (v:=.tuple #[.agg #[.slice none 0 0,.int .i64 0],.agg #[.slice none 0 0,.slice none 0 0,.int .i64 0],.int .i64 20]) (by simp only [qm,set3]at y0 y1 x0 x1 x2;simp [results,Tryz.results41,go_sem,y0,y1,x0,x1,x2]) rfl ?_
      rw [R9.out]
      exact me
  ·have HVC:Hid (vR d st=false):=iH (by simpa using v2)
   have R:Hid (ky k1 k2 n d st=(14,[],0,[],[],0)):=iH (by unfold ky;rw [iF (by rw [v1];simp),iT HVC.out])
   clear v1 v2
   go_enter Tryz.func41,Tryz.ntmps41
   go_upto_region 1 with fail
   rw [<-HWS.out,<-HWC.out,<-HW2.out,<-HW3.out]
   obtain⟨f0,f1,f2⟩:=CS.out wa iB
   go_wp2_with(first
    |(go_at_call 78;refine(qi 14 wc).mono ?_;rintro e wf ⟨rfl,hb⟩;have HBF:=iH (HBC.out.trans (hb.mono HBC.out.size));obtain⟨r0,r1,rf⟩:=jd (R2.out wf HBF.out);have rf0:=rf 0;have rf1:=rf 1;clear rf;obtain⟨s0,s1,s2,sf⟩:=j7 (R3.out wf HBF.out);have sf0:=sf 0;have sf1:=sf 1;have sf2:=sf 2;clear sf;clear hb)
    |(go_at_call 76;have M1:=HBV;go_loud(refine(xj _ d st wv (HCV.out wv HBV.out)).mono ?_;rw [HVC.out];rintro e wc ⟨rfl,hb⟩;have hb2:=HBV.out.trans (hb.mono HBV.out.size);have HBC:=iH hb2;clear g0 g1;obtain⟨g0,g1⟩:=CC.out wc hb2;clear f0 f1 f2;obtain⟨f0,f1,f2⟩:=CS.out wc hb2;clear hb hb2))
    |(go_at_call 47;refine(js _ k1 k2 n _ wa HSV.out).mono ?_;rw [HVS.out];rintro e wv ⟨rfl,hb⟩;have HBV:=iH hb;obtain⟨g0,g1⟩:=CC.out wv hb;clear hb))
   obtain⟨q2,q3⟩:=jo (R2.out wf HBF.out) (R3.out wf HBF.out) (.slice none 0 0) (.int .i64 0) (.slice none 0 0) (.slice none 0 0) (.int .i64 0)
   obtain⟨y0,y1,_⟩:=jd q2
   obtain⟨x0,x1,x2,_⟩:=j7 q3
   refine bodyPost_ret (v:=.tuple #[.agg #[.slice none 0 0,.int .i64 0],.agg #[.slice none 0 0,.slice none 0 0,.int .i64 0],.int .i64 14]) (by simp only [qm,set3]at y0 y1 x0 x1 x2;simp [results,Tryz.results41,go_sem,y0,y1,x0,x1,x2]) rfl ?_
   rw [R.out]
   exact me
 ·have HVS:Hid (vS k1 k2 n=false):=iH (by simpa using v1)
  have R:Hid (ky k1 k2 n d st=(14,[],0,[],[],0)):=iH (by unfold ky;rw [iT HVS.out])
  clear v1
  go_enter Tryz.func41,Tryz.ntmps41
  go_upto_region 1 with fail
  rw [<-HWS.out,<-HWC.out,<-HW2.out,<-HW3.out]
  obtain⟨f0,f1,f2⟩:=CS.out wa iB
  go_wp2_with(first
   |(go_at_call 78;refine(qi 14 wv).mono ?_;rintro e wf ⟨rfl,hb⟩;have HBF:=iH (HBV.out.trans (hb.mono HBV.out.size));obtain⟨r0,r1,rf⟩:=jd (R2.out wf HBF.out);have rf0:=rf 0;have rf1:=rf 1;clear rf;obtain⟨s0,s1,s2,sf⟩:=j7 (R3.out wf HBF.out);have sf0:=sf 0;have sf1:=sf 1;have sf2:=sf 2;clear sf;clear hb)
   |(go_at_call 47;refine(js _ k1 k2 n _ wa HSV.out).mono ?_;rw [HVS.out];rintro e wv ⟨rfl,hb⟩;have HBV:=iH hb;obtain⟨g0,g1⟩:=CC.out wv hb;clear hb))
  obtain⟨q2,q3⟩:=jo (R2.out wf HBF.out) (R3.out wf HBF.out) (.slice none 0 0) (.int .i64 0) (.slice none 0 0) (.slice none 0 0) (.int .i64 0)
  obtain⟨y0,y1,_⟩:=jd q2
  obtain⟨x0,x1,x2,_⟩:=j7 q3
  refine bodyPost_ret (v:=.tuple #[.agg #[.slice none 0 0,.int .i64 0],.agg #[.slice none 0 0,.slice none 0 0,.int .i64 0],.int .i64 14]) (by simp only [qm,set3]at y0 y1 x0 x1 x2;simp [results,Tryz.results41,go_sem,y0,y1,x0,x1,x2]) rfl ?_
  rw [R.out]
  exact me
theorem VX{M:List UInt8}(h:M.length=2){st:Int}(h0:0<=st)(h1:st<=65535):JZ M=st↔zI st=M:=by
 obtain⟨a,b,rfl⟩:∃a b,M= [a,b]:=by
  rcases M with _|⟨a,_|⟨b,_|⟨c,M⟩⟩⟩
  ·simp at h
  ·simp at h
  ·exact⟨a,b,rfl⟩
  ·simp at h
 have e2:JZ [a,b]=256*(256*0+bv a)+bv b:=rfl
 rw [e2]
 have a0:=jU a;have a1:=jX a;have b0:=jU b;have b1:=jX b
 unfold zI
 constructor
 ·intro e
  have x1:ofI (st / 256)=a:=x8 (by rw [kY];omega)
  have x2:ofI st=b:=x8 (by rw [kY];omega)
  rw [x1,x2]
 ·intro e
  simp only [List.cons.injEq,and_true]at e
  obtain⟨e1,e2⟩:=e
  rw [<-e1,<-e2,kY,kY]
  omega
theorem j0k(vs vc:Value)(k1 k2:List UInt8)(n:Int)(d:List UInt8)(st:Int)(w:World)(hs:qs w (·<w.heap.size) vs k1 k2 n)(hc:QU w (·<w.heap.size) vc d st):
 Calls Tryz.prog 42 #[vs,vc] w (Y8 (ky k1 k2 n d st) w):=by
 obtain⟨A1,d1,A2,d2,A3,d3,ws,wq,w2,wa,rfl,rfl,R2,R3,CS,CC,RC,HZA,HB,HWS,HWC,HW2,HW3,H1,H2,H3,HSV,HCV⟩:=j7b hs hc
 clear hs hc
 by_cases v1:vS k1 k2 n=true
 ·have HVS:=iH v1
  by_cases v2:vR d st=true
  ·have HVC:=iH v2
   have VS:=iH (of_decide_eq_true v1)
   have VC:=iH (of_decide_eq_true v2)
   clear v1 v2
   by_cases g3:n=1099511627776
   ·have t3:(n==1099511627776)=true:=by simp [g3]
    have R:Hid (ky k1 k2 n d st=(3,[],0,[],[],0)):=iH (by unfold ky;rw [iF (by rw [HVS.out];simp),iF (by rw [HVC.out];simp),iT g3])
    clear g3
    go_enter Tryz.func42,Tryz.ntmps42
    go_upto_region 1 with fail
    rw [<-HWS.out,<-HWC.out,<-HW2.out,<-HW3.out]
    obtain⟨f0,f1,f2⟩:=CS.out wa iB
    go_upto_region 4 with (first
     |(go_at_call 44;have M1:=HBV;go_loud(refine(xp _ d st wv (HCV.out wv HBV.out)).mono ?_;rw [HVC.out];rintro e wc ⟨rfl,hb⟩;have hb2:=HBV.out.trans (hb.mono HBV.out.size);have HBC:=iH hb2;clear g0 g1;obtain⟨g0,g1⟩:=CC.out wc hb2;clear f0 f1 f2;obtain⟨f0,f1,f2⟩:=CS.out wc hb2;clear hb hb2))
     |(go_at_call 28;refine(jt _ k1 k2 n _ wa HSV.out).mono ?_;rw [HVS.out];rintro e wv ⟨rfl,hb⟩;have HBV:=iH hb;obtain⟨g0,g1⟩:=CC.out wv hb;clear hb))
    clear f0 f1 f2 g0 g1
    obtain⟨r0,r1,rf⟩:=jd (R2.out wc HBC.out);have rf0:=rf 0;have rf1:=rf 1;clear rf;obtain⟨s0,s1,s2,sf⟩:=j7 (R3.out wc HBC.out);have sf0:=sf 0;have sf1:=sf 1;have sf2:=sf 2;clear sf
    go_wp2_with fail
    obtain⟨q2,q3⟩:=jo (R2.out wc HBC.out) (R3.out wc HBC.out) (.slice none 0 0) (.int .i64 0) (.slice none 0 0) (.slice none 0 0) (.int .i64 0)
    obtain⟨y0,y1,_⟩:=jd q2
    obtain⟨x0,x1,x2,_⟩:=j7 q3
    refine bodyPost_ret (v:=.tuple #[.agg #[.slice none 0 0,.int .i64 0],.agg #[.slice none 0 0,.slice none 0 0,.int .i64 0],.int .i64 3]) (by simp only [qm,set3]at y0 y1 x0 x1 x2;simp [results,Tryz.results42,go_sem,y0,y1,x0,x1,x2]) rfl ?_
    exact mp
   ·have t3:(n==1099511627776)=false:=by simpa using g3
    have LK1:Hid (k1.length=16):=iH VS.out.1
    have LK2:Hid (k2.length=16):=iH VS.out.2.1
    have LD:Hid (d.length<=4096):=iH VC.out.1
    have ST0:Hid (0<=st):=iH VC.out.2.1
    have ST1:Hid (st<=65535):=iH VC.out.2.2
    obtain⟨N,hN⟩:∃N,Jh (n+1)=N:=⟨_,rfl⟩
    have LN:Hid (N.length=16):=iH (by rw [<-hN]<;>rfl)
    have HNX:Hid (∀(va vb:Value) (w:World),Bs w w.heap.size va k1->Bs w w.heap.size vb k2->Calls Tryz.prog 30 #[.agg #[va,vb,.int .i64 n]] w fun e w'=>∃x y z,e=.returned (.tuple #[.agg #[x,y,.int .i64 (n+1)],z])/\Bs w' w'.heap.size x k1/\Bs w' w'.heap.size y k2/\Bs w' w'.heap.size z N/\Below w.heap.size w w'):=iH (fun va vb w h1 h2=>by rw [<-hN];exact yx va vb k1 k2 VS.out.1 VS.out.2.1 n VS.out.2.2.1 (by have:=VS.out.2.2.2;omega) w h1 h2)
    have R0:Hid (∀rr,kZ [142,153] (qZ 153 2 true) d=rr->ky k1 k2 n d st=j5q k1 k2 N n st rr):=iH (fun rr hrr=>by subst hN;subst hrr;unfold ky;rw [iF (by rw [HVS.out];simp),iF (by rw [HVC.out];simp),iF g3])
    clear hN g3
    go_enter Tryz.func42,Tryz.ntmps42
    go_upto_region 1 with fail
    rw [<-HWS.out,<-HWC.out,<-HW2.out,<-HW3.out]
    obtain⟨f0,f1,f2⟩:=CS.out wa iB
    go_upto_region 5 with (first
     |(go_at_call 44;have M1:=HBV;go_loud(refine(xp _ d st wv (HCV.out wv HBV.out)).mono ?_;rw [HVC.out];rintro e wc ⟨rfl,hb⟩;have hb2:=HBV.out.trans (hb.mono HBV.out.size);have HBC:=iH hb2;clear g0 g1;obtain⟨g0,g1⟩:=CC.out wc hb2;clear f0 f1 f2;obtain⟨f0,f1,f2⟩:=CS.out wc hb2;clear hb hb2))
     |(go_at_call 28;refine(jt _ k1 k2 n _ wa HSV.out).mono ?_;rw [HVS.out];rintro e wv ⟨rfl,hb⟩;have HBV:=iH hb;obtain⟨g0,g1⟩:=CC.out wv hb;clear hb))
    clear f0 f1 f2 t3
    have HPA:=iH (KX d (.slice A3 d.length d3) true wc (H3.out.lift HBC.out))
    cases hpp:jK d true with
    |error er=>
     have R:Hid (ky k1 k2 n d st=(1,[],0,[],[],0)):=iH (R0.out _ (K3 hpp))
     have tne:(er != 0)=true:=by simpa using zP hpp
     rw [hpp]at HPA
     clear hpp
     go_upto_region 7 with (go_at_call 45;refine HPA.out.mono ?_;intro e wl h;obtain⟨la,lc,rfl,hb⟩:=h.err;have HBL:=iH (HBC.out.trans (hb.mono HBC.out.size));clear hb h g0 g1)
     obtain⟨r0,r1,rf⟩:=jd (R2.out wl HBL.out);have rf0:=rf 0;have rf1:=rf 1;clear rf;obtain⟨s0,s1,s2,sf⟩:=j7 (R3.out wl HBL.out);have sf0:=sf 0;have sf1:=sf 1;have sf2:=sf 2;clear sf
     go_wp2_with fail
     obtain⟨q2,q3⟩:=jo (R2.out wl HBL.out) (R3.out wl HBL.out) (.slice none 0 0) (.int .i64 0) (.slice none 0 0) (.slice none 0 0) (.int .i64 0)
     obtain⟨y0,y1,_⟩:=jd q2
     obtain⟨x0,x1,x2,_⟩:=j7 q3
     refine bodyPost_ret (v:=.tuple #[.agg #[.slice none 0 0,.int .i64 0],.agg #[.slice none 0 0,.slice none 0 0,.int .i64 0],.int .i64 1]) (by simp only [qm,set3]at y0 y1 x0 x1 x2;simp [results,Tryz.results42,go_sem,y0,y1,x0,x1,x2]) rfl ?_
     rw [R.out]
     exact⟨_,_,rfl,⟨_,rfl,BsS.nil0 _ _⟩,⟨_,_,rfl,BsS.nil0 _ _,BsS.nil0 _ _⟩,jj (HB.out.trans (Below.mono HBL.out HB.out.size)) (by omega)⟩
    |ok L=>
     rw [hpp]at HPA
     have HPP:=iH hpp
     have hll:L.len<=256:=Nat.le_trans (Ns.len_all L) (kX hpp).2.2.1
     clear hpp
     go_upto_region 8 with (go_at_call 45;refine HPA.out.mono ?_;intro e wl h;obtain⟨la,lc,rfl,hn,hb⟩:=h.got;have HNL:=iH (hn.keep (w':=wl) (S':=(·<wl.heap.size)) fun b hs _=>⟨rfl,hs.2⟩);have HBL:=iH (HBC.out.trans (hb.mono HBC.out.size));clear hb hn h g0 g1)
     have HFG:=iH (fun g=>KW L (.slice la L.len lc) (·<wl.heap.size) g wl HNL.out (by omega))
     have hfp:=yT 142 L 0 (by omega)
     have hfp2:=yT 153 L 0 (by omega)
     obtain⟨fi,hfi⟩:∃z,zN L 142 0=z:=⟨_,rfl⟩
     obtain⟨fj,hfj⟩:∃z,zN L 153 0=z:=⟨_,rfl⟩
     rw [hfi]at hfp
     rw [hfj]at hfp2
     have HF1:=iH hfi;have HF2:=iH hfj
     clear hfi hfj
     cases hok:(L.pick 142).isSome with
     |false=>
      rw [hok]at hfp
      have tf:decide (fi<0)=true:=by have:=of_decide_eq_false hfp.symm;exact decide_eq_true (by omega)
      have R:Hid (ky k1 k2 n d st=(16,[],0,[],[],0)):=iH (R0.out _ (zr HPP.out (by simp [hok])))
      clear hfp hfp2 hok
      go_upto_region 9 with (go_at_call 70;refine iR (HFG.out _) ?_;first|rw [HF1.out]|rw [HF2.out])
      obtain⟨r0,r1,rf⟩:=jd (R2.out wl HBL.out);have rf0:=rf 0;have rf1:=rf 1;clear rf;obtain⟨s0,s1,s2,sf⟩:=j7 (R3.out wl HBL.out);have sf0:=sf 0;have sf1:=sf 1;have sf2:=sf 2;clear sf
      go_wp2_with fail
      obtain⟨q2,q3⟩:=jo (R2.out wl HBL.out) (R3.out wl HBL.out) (.slice none 0 0) (.int .i64 0) (.slice none 0 0) (.slice none 0 0) (.int .i64 0)
      obtain⟨y0,y1,_⟩:=jd q2
      obtain⟨x0,x1,x2,_⟩:=j7 q3
      refine bodyPost_ret (v:=.tuple #[.agg #[.slice none 0 0,.int .i64 0],.agg #[.slice none 0 0,.slice none 0 0,.int .i64 0],.int .i64 16]) (by simp only [qm,set3]at y0 y1 x0 x1 x2;simp [results,Tryz.results42,go_sem,y0,y1,x0,x1,x2]) rfl ?_
      rw [R.out]
      exact⟨_,_,rfl,⟨_,rfl,BsS.nil0 _ _⟩,⟨_,_,rfl,BsS.nil0 _ _,BsS.nil0 _ _⟩,jj (HB.out.trans (Below.mono HBL.out HB.out.size)) (by omega)⟩
     |true=>
      rw [hok]at hfp
      have tf:decide (fi<0)=false:=by have:=of_decide_eq_true hfp.symm;exact decide_eq_false (by omega)
      cases hok2:(L.pick 153).isSome with
      |false=>
       rw [hok2]at hfp2
       have tf2:decide (fj<0)=true:=by have:=of_decide_eq_false hfp2.symm;exact decide_eq_true (by omega)
       have R:Hid (ky k1 k2 n d st=(16,[],0,[],[],0)):=iH (R0.out _ (zr HPP.out (by simp [hok,hok2])))
       clear hfp hfp2 hok hok2
       go_upto_region 9 with (go_at_call 70;refine iR (HFG.out _) ?_;first|rw [HF1.out]|rw [HF2.out])
       obtain⟨r0,r1,rf⟩:=jd (R2.out wl HBL.out);have rf0:=rf 0;have rf1:=rf 1;clear rf;obtain⟨s0,s1,s2,sf⟩:=j7 (R3.out wl HBL.out);have sf0:=sf 0;have sf1:=sf 1;have sf2:=sf 2;clear sf
       go_wp2_with fail
       obtain⟨q2,q3⟩:=jo (R2.out wl HBL.out) (R3.out wl HBL.out) (.slice none 0 0) (.int .i64 0) (.slice none 0 0) (.slice none 0 0) (.int .i64 0)
       obtain⟨y0,y1,_⟩:=jd q2
       obtain⟨x0,x1,x2,_⟩:=j7 q3
       refine bodyPost_ret (v:=.tuple #[.agg #[.slice none 0 0,.int .i64 0],.agg #[.slice none 0 0,.slice none 0 0,.int .i64 0],.int .i64 16]) (by simp only [qm,set3]at y0 y1 x0 x1 x2;simp [results,Tryz.results42,go_sem,y0,y1,x0,x1,x2]) rfl ?_
       rw [R.out]
       exact⟨_,_,rfl,⟨_,rfl,BsS.nil0 _ _⟩,⟨_,_,rfl,BsS.nil0 _ _,BsS.nil0 _ _⟩,jj (HB.out.trans (Below.mono HBL.out HB.out.size)) (by omega)⟩
      |true=>
       rw [hok2]at hfp2
       have tf2:decide (fj<0)=false:=by have:=of_decide_eq_true hfp2.symm;exact decide_eq_false (by omega)
       obtain⟨mm,hmm⟩:=XK hok
       have HAL:Hid (([142,153].all fun t=>(L.pick t).isSome)=true):=iH (by simp [hok,hok2])
       have HSP:=iH (XY L 153 mm hmm (by omega) (.slice la L.len lc) wl HNL.out)
       obtain⟨⟨sc,sm,sk,so⟩,hsp⟩:∃x,jB 153 L=x:=⟨_,rfl⟩
       have HSE:=iH hsp
       have hmid:=XZ 153 L
       rw [hsp]at HSP hmid
       simp only at hmid HSP
       have HMI:=iH hmid;have HMM:=iH hmm
       rw [hmm]at HNL HSP HFG |-
       have hmm2:mm<=255:=by omega
       have HML:=iH hmm2
       clear hmm2
       clear hfp hfp2 hok hok2 hsp hmid hmm hll
       go_upto_region 11 with (first
        |(go_at_call 71;refine HSP.out.mono ?_;rintro e w2 ⟨c,d,k,rfl,hc,hd,hk,hb⟩;obtain⟨cA,cc,hp⟩:=Bs.formL hc;subst hp;obtain⟨dA,dc,hp⟩:=hd.form3;subst hp;obtain⟨kA,kc,hp⟩:=Bs.formL hk;subst hp;have SC2:=iH hc;have SD2:=iH hd;have SK2:=iH hk;have HB2L:=iH hb;have HB2:=iH (HBL.out.trans (hb.mono HBL.out.size));clear hc hd hk hb)
        |(go_at_call 70;refine iR (HFG.out _) ?_;first|rw [HF1.out]|rw [HF2.out]))
       obtain⟨dl,hdl⟩:∃l,sm.len=l:=⟨_,rfl⟩
       rw [hdl]at SD2 |-
       have HDL:=iH hdl
       clear hdl
       obtain⟨gq,hgq⟩:∃b,(so&&Ze 153 2 true sm)=b:=⟨_,rfl⟩
       have HGQ:=iH hgq
       clear hgq tf tf2
       go_cut [75] from 62 to 76 (fun y wx=>y=.bool (!gq)/\Below w2.heap.size w2 wx)
       case first=>
        cases so with
        |false=>
         obtain rfl:gq=false:=by rw [<-HGQ.out]<;>rfl
         exact mI
        |true=>
         have HGQ2:Hid (Ze 153 2 true sm=gq):=HGQ
         rcases HMI.out with rfl|⟨t,v,k,rfl⟩
         ·obtain rfl:gq=false:=by rw [<-HGQ2.out]<;>rfl
          obtain rfl:dl=0:=HDL.out.symm
          exact mI
         ·obtain rfl:dl=1:=HDL.out.symm
          obtain⟨db,dof,rfl,hdl,hat⟩:∃b o,dA=some ⟨b,o,none⟩/\b<w2.heap.size/\NsAt w2 (·<wl.heap.size) (.cons t v k .nil) b o:=by
           exact m2g
          obtain⟨q0,_,⟨x,q1,hx⟩,⟨kA',kc',q2,_⟩,_⟩:=hat
          obtain⟨xA,xc,rfl⟩:=Bs.formL hx
          have hcap:(1:Nat)<=dc:=by obtain⟨_,_,e,h1,_⟩:=SD2.out;injection e with _ _ e3;subst e3;exact h1
          have QC:Hid (∀W,Below w2.heap.size w2 W->W.cell? ⟨db,dof,none⟩=some (.int .i64 t)/\W.cell? ⟨db,dof+1,none⟩=some (.slice xA v.length xc)/\W.cell? ⟨db,dof+2,none⟩=some (.slice kA' k.len kc')):=iH fun W h=>⟨(h.cell (p:=⟨db,dof,none⟩) hdl).trans q0,(h.cell (p:=⟨db,dof+1,none⟩) hdl).trans q1,(h.cell (p:=⟨db,dof+2,none⟩) hdl).trans q2⟩
          have e2:(decide (t=153)&&(decide (k.len=0)&&(decide ((2:Int)<0)||decide ((v.length:Int)=2))))=q8 (t,v,k) 153 2:=yu (t,v,k) 153 2
          have P1:=xn t 153 2 xA kA' v.length xc k.len kc' w2
          rw [e2]at P1
          have HMQ:q8 (t,v,k) 153 2=gq:=by
           rw [<-HGQ2.out]
           unfold Ze q8
           simp only
           rw [Bool.eq_iff_iff]
           simp only [Bool.and_eq_true,decide_eq_true_eq]
           omega
          rw [HMQ]at P1
          have P1:=iH P1
          clear q0 q1 q2 hx hdl e2 HMQ
          obtain⟨q0,q1,q2⟩:=QC.out w2 iB
          go_wp2_with(go_at_call 72;refine P1.out.mono ?_;rintro e w3 ⟨rfl,hb⟩;have HB3:=iH hb;clear hb q0 q1 q2)
          go_meet
          exact⟨rfl,HB3.out⟩
       case rest=>
        obtain⟨rfl,hbx⟩:=hcut
        obtain⟨w4,rfl⟩:∃w4:World,w4=wc:=⟨_,rfl⟩
        have HB4L:=iH (HB2L.out.trans (hbx.mono HB2L.out.size))
        have HB4:=iH (HB2.out.trans (hbx.mono HB2.out.size))
        have SC4:Hid (Bs w4 w4.heap.size (.slice cA sc.length cc) sc):=iH (BsS.keep SC2.out (w':=w4) (S':=(·<w4.heap.size)) fun b hs hl=>⟨hbx.block b hl,iZ hs HB4L.out.size⟩)
        have SD4:=iH (SD2.out.keep (w':=w4) (S':=(·<w4.heap.size)) fun b hs hl=>⟨hbx.block b hl,iZ hs HB4L.out.size⟩)
        have SK4:Hid (Bs w4 w4.heap.size (.slice kA sk.length kc) sk):=iH (BsS.keep SK2.out (w':=w4) (S':=(·<w4.heap.size)) fun b hs hl=>⟨hbx.block b hl,iZ hs HB4L.out.size⟩)
        have HN4:=iH (HNL.out.keep (w':=w4) (S':=(·<w4.heap.size)) fun b hs _=>⟨HB4L.out.block b hs,iZ hs HB4L.out.size⟩)
        clear hbx
        cases gq with
        |false=>
         have R:Hid (ky k1 k2 n d st=(1,[],0,[],[],0)):=iH (R0.out _ (Yy (tg:=153) (lo:=2) (mu:=true) (by decide) (by decide) (by decide) (by decide) HPP.out HAL.out (by rw [HSE.out];exact HGQ.out)))
         go_upto_region 12 with fail
         obtain⟨r0,r1,rf⟩:=jd (R2.out w4 HB4.out);have rf0:=rf 0;have rf1:=rf 1;clear rf;obtain⟨s0,s1,s2,sf⟩:=j7 (R3.out w4 HB4.out);have sf0:=sf 0;have sf1:=sf 1;have sf2:=sf 2;clear sf
         go_wp2_with fail
         obtain⟨q2,q3⟩:=jo (R2.out w4 HB4.out) (R3.out w4 HB4.out) (.slice none 0 0) (.int .i64 0) (.slice none 0 0) (.slice none 0 0) (.int .i64 0)
         obtain⟨y0,y1,_⟩:=jd q2
         obtain⟨x0,x1,x2,_⟩:=j7 q3
         refine bodyPost_ret (v:=.tuple #[.agg #[.slice none 0 0,.int .i64 0],.agg #[.slice none 0 0,.slice none 0 0,.int .i64 0],.int .i64 1]) (by simp only [qm,set3]at y0 y1 x0 x1 x2;simp [results,Tryz.results42,go_sem,y0,y1,x0,x1,x2]) rfl ?_
         rw [R.out]
         exact⟨_,_,rfl,⟨_,rfl,BsS.nil0 _ _⟩,⟨_,_,rfl,BsS.nil0 _ _,BsS.nil0 _ _⟩,jj (HB.out.trans (Below.mono HB4.out HB.out.size)) (by omega)⟩
        |true=>
         obtain⟨V,M,C,hsh,hsp,hob⟩:=XE (tg:=153) (lo:=2) (mu:=true) (ts:=[142,153]) (by decide) (by decide) (by decide) (by decide) HPP.out HAL.out (by rw [HSE.out];exact HGQ.out)
         rw [HSE.out]at hsp
         simp only [Prod.mk.injEq]at hsp
         obtain⟨hsc,rfl,rfl,rfl⟩:=hsp
         have R1:Hid (ky k1 k2 n d st=if ¬kC k2 N [] (L.takeN (L.len - 1)).enc=sk then(20,[],0,[],[],0)
          else if ¬zI st=M then(23,[],0,[],[],0)
          else if ¬kD k1 N sc=0 then(kD k1 N sc,[],0,[],[],0)
          else(0,qt k1 N sc,st,k1,k2,n+1)):=iH (by rw [hsc];exact R0.out _ hob)
         obtain⟨V2,M2,C2,LL,hus,_,_,heP,haP,hlP,_⟩:=Qv (tg:=153) (lo:=2) (mu:=true) (by decide) (by decide) (by decide) (by decide) (by decide) hob
         have HVM:Hid (sc.length % 16=0):=iH (by
          rw [hsc]
          rcases hsh.v with h|h
          ·rw [h]<;>rfl
          ·have:=qE h.1;rw [List.length_drop];omega)
         have HM2:Hid (M.length=2):=iH (by
          rcases hsh.m with h|h
          ·cases h.2
          ·have:=h.1;omega)
         have HEP:=iH heP;have HAP:=iH haP;have HLP:=iH hlP
         have HLM:Hid (L.len - 1=mm):=iH (by rw [HMM.out]<;>rfl)
         rw [HLM.out]at R1 HEP HAP HLP
         clear hsh hob hus heP haP hlP R0 hsc
         obtain⟨f0,f1,f2⟩:=CS.out w4 HB4.out
         go_upto_region 14 with (go_at_call 30;refine(HNX.out _ _ w4 (H1.out.lift HB4.out) (H2.out.lift HB4.out)).mono ?_;rintro e wn ⟨x,y,z,rfl,hx,hy,hz,hb⟩;obtain⟨xA,xc,hp⟩:=Bs.formL hx;subst hp;obtain⟨yA,yc,hp⟩:=Bs.formL hy;subst hp;obtain⟨zA,zc,hp⟩:=Bs.formL hz;subst hp;have HX:=iH hx;have HY:=iH hy;have HZ:=iH hz;have HBN2:=iH hb;have HBN:=iH (HB4.out.trans (hb.mono HB4.out.size));obtain⟨u0,u1,u2,uf⟩:=j7 (xP wn);have uf0:=uf 0;have uf1:=uf 1;have uf2:=uf 2;clear uf hx hy hz hb f0 f1 f2)
         clear u0 u1 u2 uf0 uf1 uf2
         obtain⟨wu,hwu⟩:∃wu,wu=wn.alloc (.cells #[.slice xA k1.length xc,.slice yA k2.length yc,.int .i64 (n+1)] 29):=⟨_,rfl⟩
         rw [<-hwu]
         have hbu:Below wn.heap.size wn wu:=by rw [hwu];exact iA
         have hur:wu.heap[wn.heap.size]?=some (.cells #[.slice xA k1.length xc,.slice yA k2.length yc,.int .i64 (n+1)] 29 (0,0)):=by rw [hwu];exact iN
         have hult:=(iG hur)
         have RU:Hid (∀W,Below wu.heap.size wu W->W.heap[wn.heap.size]?=some (.cells #[.slice xA k1.length xc,.slice yA k2.length yc,.int .i64 (n+1)] 29 (0,0))):=iH fun W h=>(h.block _ hult).trans hur
         have HULT:=iH hult
         have HBAU:=iH (HBN.out.trans (hbu.mono HBN.out.size))
         have h4u:=HBN2.out.trans (hbu.mono HBN2.out.size)
         have H4U:=iH h4u
         have SCU:=iH (SC4.out.lift h4u);have SKU:=iH (SK4.out.lift h4u)
         have SDU:=iH (SD4.out.keep (w':=wu) (S':=(·<wu.heap.size)) fun b hs _=>⟨h4u.block b hs,iZ hs h4u.size⟩)
         have HNU:=iH (HN4.out.keep (w':=wu) (S':=(·<wu.heap.size)) fun b hs _=>⟨h4u.block b hs,iZ hs h4u.size⟩)
         have XU:=iH (HX.out.lift hbu);have YU:=iH (HY.out.lift hbu);have ZU:=iH (HZ.out.lift hbu)
         have KU:=iH (H1.out.lift HBAU.out);have MU:=iH (H2.out.lift HBAU.out);have DU:=iH (H3.out.lift HBAU.out)
         clear hwu hbu hur hult h4u
         obtain⟨P,hP⟩:∃P,L.takeN mm=P:=⟨_,rfl⟩
         rw [hP]at R1 HEP HAP HLP
         have HNP:Hid (NsS wu (·<wu.heap.size) (.slice la mm lc) P):=iH (by rw [<-hP];exact HNU.out.cutTo mm (by rw [HMM.out];omega))
         have hpl:P.len=mm:=by rw [<-hP,xU,HMM.out];omega
         obtain⟨PE,hPE⟩:∃x,P.enc=x:=⟨_,rfl⟩
         obtain⟨C9,hC9⟩:∃C,kC k2 N [] PE=C:=⟨_,rfl⟩
         rw [hPE]at R1 HEP HLP
         rw [hC9]at R1
         obtain⟨X12,hX12⟩:∃X,N++PE=X:=⟨_,rfl⟩
         have ln16:=LN.out
         have hlp:=HLP.out
         have l12:X12.length<=20000:=by rw [<-hX12,List.length_append];omega
         have HJ2:Hid (∀(a6:Option Addr) (c6:Nat) (w1:World),Bs w1 w1.heap.size (.slice zA N.length zc) N->Bs w1 w1.heap.size (.slice a6 PE.length c6) PE->Calls Tryz.prog 65 #[.slice zA N.length zc,.slice a6 PE.length c6] w1 fun e w'=>∃v',e=.returned v'/\Bs w' w'.heap.size v' X12/\Below w1.heap.size w1 w'):=iH (fun a6 c6 w1 h1 h2=>(zl _ _ N PE _ _ w1 h1 h2 (by omega)).mono fun e w' ⟨v',he,ho,hb⟩=>⟨v',he,by rw [hX12]at ho;exact OwnB.rd ho (by omega),hb⟩)
         have HPL:Hid (∀w1,NsS w1 (·<w1.heap.size) (.slice la mm lc) P->Calls Tryz.prog 46 #[.slice la mm lc] w1 fun e w'=>∃v',e=.returned v'/\Bs w' w'.heap.size v' PE/\Below w1.heap.size w1 w'):=iH (fun w1 h=>by
          have h2:=J1 P _ w1 h HAP.out
          rw [HEP.out]at h2
          exact h2)
         have HCK:Hid (∀(vk vb:Value) (w:World),Bs w w.heap.size vk k2->Bs w w.heap.size vb X12->Calls Tryz.prog 69 #[vk,vb] w fun e w'=>∃v',e=.returned (.tuple #[v',.int .i64 0])/\Bs w' w'.heap.size v' C9/\Below w.heap.size w w'):=iH (fun vk vb w h1 h2=>by rw [<-hC9];unfold kC;rw [List.nil_append,hX12];exact zQ vk vb k2 X12 LK2.out (by omega) w h1 h2)
         have HML2:=HML.out
         have hcap:mm<=lc/\lc<=9223372036854775807:=by
          exact m34
         have hc1:=hcap.1;have hc2:=hcap.2
         clear hP hpl hPE hC9 hX12 ln16 hlp l12 hcap
         refine jc 16 [some 84,some 85,some 86,some 87,some 88,some 89,some 90,some 91,some 92,some 93,some 94,some 83,some 95,some 96,some 15,some 16] [[],[0],[],[],[],[4],[4,5],[3,4,5,6],[3,4,5,6,7],[2,3,4,5,6,7,8],[0,1,2,3,4,5,6,7,8,9],[0,1,2,3,4,5,6,7,8,9,10],[0,1,2,3,4,5,6,7,8,9,10,11],[0,1,2,3,4,5,6,7,8,9,10,11],[0,1,2,3,4,5,6,7,8,9,10,11,12],[0,1,2,3,4,5,6,7,8,9,10,11,12,13,14]]
          (fun _ _ w1=>Below wu.heap.size wu w1) (fun w1 w2=>Below w1.heap.size w1 w2)
          [fun v _=>v 0=.pointer (some ⟨w.heap.size,1,none⟩),
           fun v _=>v 1=.slice A2 k2.length d2,
           fun v _=>v 2=.slice zA N.length zc,
           fun v _=>v 3=.slice la (mm+1) lc,
           fun v _=>v 4=.slice la (mm+1) lc,
           fun v _=>v 5=.int .i64 ((mm:Int)+1),
           fun v _=>v 6=.int .i64 mm,
           fun v _=>v 7=.slice la mm lc,
           fun v w1=>∃a c,v 8=.slice a (PE).length c/\Bs w1 w1.heap.size (.slice a (PE).length c) (PE),
           fun v w1=>∃a c,v 9=.slice a (X12).length c/\Bs w1 w1.heap.size (.slice a (X12).length c) (X12),
           fun v w1=>∃a c,v 10=.tuple #[.slice a (C9).length c,.int .i64 0]/\Bs w1 w1.heap.size (.slice a (C9).length c) (C9),
           fun v w1=>∃a c,v 11=.tuple #[.slice a (C9).length c,.int .i64 0]/\Bs w1 w1.heap.size (.slice a (C9).length c) (C9),
           fun v w1=>∃a c,v 12=.slice a (C9).length c/\Bs w1 w1.heap.size (.slice a (C9).length c) (C9),
           fun v _=>v 13=.int .i64 0,
           fun v w1=>∃a c,v 14=.slice a (C9).length c/\Bs w1 w1.heap.size (.slice a (C9).length c) (C9),
           fun v _=>v 15=.int .i64 0]
          (by kernel_rfl) (by kernel_rfl) (fun _=>iB.drew) ?st14 ?steps14 ?tail14
         case st14=>
          exact(.cons (fun _ _ _ _ _ _ h=>h) (.cons (fun _ _ _ _ _ _ h=>h) (.cons (fun _ _ _ _ _ _ h=>h) (.cons (fun _ _ _ _ _ _ h=>h) (.cons (fun _ _ _ _ _ _ h=>h) (.cons (fun _ _ _ _ _ _ h=>h) (.cons (fun _ _ _ _ _ _ h=>h) (.cons (fun _ _ _ _ _ _ h=>h) (.cons (fun _ _ _ _ _ hr ⟨a,c,e,h⟩=>⟨a,c,e,h.lift hr⟩) (.cons (fun _ _ _ _ _ hr ⟨a,c,e,h⟩=>⟨a,c,e,h.lift hr⟩) (.cons (fun _ _ _ _ _ hr ⟨a,c,e,h⟩=>⟨a,c,e,h.lift hr⟩) (.cons (fun _ _ _ _ _ hr ⟨a,c,e,h⟩=>⟨a,c,e,h.lift hr⟩) (.cons (fun _ _ _ _ _ hr ⟨a,c,e,h⟩=>⟨a,c,e,h.lift hr⟩) (.cons (fun _ _ _ _ _ _ h=>h) (.cons (fun _ _ _ _ _ hr ⟨a,c,e,h⟩=>⟨a,c,e,h.lift hr⟩) (.cons (fun _ _ _ _ _ _ h=>h) .nil))))))))))))))))
         case steps14=>
          simp only [List.take_succ_cons,List.take_zero]
          refine(.cons ?_ (.cons ?_ (.cons ?_ (.cons ?_ (.cons ?_ (.cons ?_ (.cons ?_ (.cons ?_ (.cons ?_ (.cons ?_ (.cons ?_ (.cons ?_ (.cons ?_ (.cons ?_ (.cons ?_ (.cons ?_ .nil))))))))))))))))
          all_goals(intro L v w1 hJ hL hA hF K hK;simp only [jf,Act.put,Nat.zero_add,Nat.reduceAdd,List.setIfInBounds_toArray,List.set_cons_zero,List.set_cons_succ]at hK |-)
          ·exact m6
          ·have e0:v 0=_:=hF 0 (hA 0 (by simp))
           obtain⟨c0,c1,c2⟩:=CS.out _ (HBAU.out.trans (hJ.mono HBAU.out.size))
           simp only [e0]at hK
           exact m6
          ·exact m6
          ·exact m6
          ·exact m6
          ·have e4:v 4=_:=hF 4 (hA 4 (by simp))
           simp only [e4]at hK
           exact m6
          ·have e5:v 5=_:=hF 5 (hA 5 (by simp))
           simp only [e5]at hK
           exact m3g
          ·have e3:v 3=_:=hF 3 (hA 3 (by simp))
           have e6:v 6=_:=hF 6 (hA 6 (by simp))
           simp only [e3,e6]at hK
           go_simp
           exact hK _ _ hJ iB rfl
          ·have e7:v 7=_:=hF 7 (hA 7 (by simp))
           simp only [e7]at hK
           go_simp
           refine(HPL.out w1 (HNP.out.keep fun g hg hl=>⟨hJ.block g hg,iZ hg hJ.size⟩)).mono ?_
           rintro e w5 ⟨v5,rfl,ho,hb⟩
           have hx:Bs w5 w5.heap.size v5 (PE):=ho
           exact m7
          ·have e2:v 2=_:=hF 2 (hA 2 (by simp))
           simp only [e2]at hK
           obtain⟨a8,c8,e8,h8⟩:∃a c,v 8=_/\_:=hF 8 (hA 8 (by simp))
           simp only [e8]at hK
           go_simp
           refine(HJ2.out a8 c8 w1 (ZU.out.lift hJ) h8).mono ?_
           rintro e w5 ⟨v5,rfl,ho,hb⟩
           have hx:Bs w5 w5.heap.size v5 (X12):=ho
           exact m7
          ·have e1:v 1=_:=hF 1 (hA 1 (by simp))
           simp only [e1]at hK
           obtain⟨a9,c9,e9,h9⟩:∃a c,v 9=_/\_:=hF 9 (hA 9 (by simp))
           simp only [e9]at hK
           go_simp
           refine(HCK.out _ _ w1 (MU.out.lift hJ) h9).mono ?_
           rintro e w5 ⟨v5,rfl,ho,hb⟩
           have hx:Bs w5 w5.heap.size v5 (C9):=ho
           exact m7
          ·exact mY
          ·obtain⟨a11,c11,e11,h11⟩:∃a c,v 11=_/\_:=hF 11 (hA 11 (by simp))
           simp only [e11]at hK
           go_simp
           exact hK _ _ hJ iB ⟨_,_,rfl,h11⟩
          ·obtain⟨a11,c11,e11,h11⟩:∃a c,v 11=_/\_:=hF 11 (hA 11 (by simp))
           simp only [e11]at hK
           go_simp
           exact hK _ _ hJ iB rfl
          ·obtain⟨a12,c12,e12,h12⟩:∃a c,v 12=_/\_:=hF 12 (hA 12 (by simp))
           simp only [e12]at hK
           go_simp
           exact hK _ _ hJ iB ⟨_,_,rfl,h12⟩
          ·have e13:v 13=_:=hF 13 (hA 13 (by simp))
           simp only [e13]at hK
           exact m6
         case tail14=>
          intro v w1 hJ hF
          have e0:v 0=_:=hF 0 (by simp)
          have e1:v 1=_:=hF 1 (by simp)
          have e2:v 2=_:=hF 2 (by simp)
          have e3:v 3=_:=hF 3 (by simp)
          have e4:v 4=_:=hF 4 (by simp)
          have e5:v 5=_:=hF 5 (by simp)
          have e6:v 6=_:=hF 6 (by simp)
          have e7:v 7=_:=hF 7 (by simp)
          have e13:v 13=_:=hF 13 (by simp)
          have e15:v 15=_:=hF 15 (by simp)
          obtain⟨a14,c14,e14,h14⟩:∃a c,v 14=_/\_:=hF 14 (by simp)
          simp only [List.drop_succ_cons,List.drop_zero,jf,Act.put,Nat.zero_add,Nat.reduceAdd,List.setIfInBounds_toArray,List.set_cons_zero,List.set_cons_succ]
          simp only [e14,e15]
          have HV5:=iH h14
          obtain⟨w5,rfl⟩:∃w5:World,w5=w1:=⟨_,rfl⟩
          have HBU5:=iH hJ
          have HB5:=iH (HBAU.out.trans (hJ.mono HBAU.out.size))
          obtain⟨qA,hqA⟩:∃vA,vA=a14:=⟨_,rfl⟩
          obtain⟨qc,hqc⟩:∃vc,vc=c14:=⟨_,rfl⟩
          rw [<-hqA,<-hqc]at HV5 |-
          have HSA:=iH (xD _ _ C9 sk _ _ w5 HV5.out (SKU.out.lift hJ))
          clear e0 e1 e2 e3 e4 e5 e6 e7 e13 e14 e15 hqA hqc h14 hJ hF hc1 hc2
          by_cases hcc:C9=sk
          ·rw [decide_eq_true hcc]at HSA
           have R2Y:Hid (ky k1 k2 n d st=if ¬zI st=M then(23,[],0,[],[],0)
            else if ¬kD k1 N sc=0 then(kD k1 N sc,[],0,[],[],0)
            else(0,qt k1 N sc,st,k1,k2,n+1)):=iH (by rw [R1.out];exact iF (not_not.2 hcc))
           clear hcc R1
           go_upto_region 17 with (go_at_call 73;refine HSA.out.mono ?_;rintro e w6 ⟨rfl,nq,hw6⟩;have hb6:Below w5.heap.size w5 w6:=(by rw [hw6];exact j4 iB _);have HB56:=iH hb6;have HB6:=iH (HB5.out.trans (hb6.mono HB5.out.size));clear hw6 hb6)
           have HU6:=iH (HBU5.out.trans (HB56.out.mono HBU5.out.size))
           have hM0:¬M= []:=fun e=>by have:=HM2.out;rw [e]at this;simp at this
           have hdl1:(qe 153 M).len=1:=by rw [jZ hM0]<;>rfl
           obtain rfl:dl=1:=by rw [<-HDL.out];exact hdl1
           obtain⟨db,dof,rfl,hdb,hat⟩:∃b o,dA=some ⟨b,o,none⟩/\b<wu.heap.size/\NsAt wu (·<wu.heap.size) (qe 153 M) b o:=by
            exact m2c
           rw [jZ hM0]at hat
           obtain⟨_,_,⟨x,q1,hx⟩,_,_⟩:=hat
           obtain⟨mA,mc,rfl⟩:=Bs.formL hx
           have hcap:(1:Nat)<=dc:=by obtain⟨_,_,e,h1,_⟩:=SDU.out;injection e with _ _ e3;subst e3;rw [hdl1]at h1;exact h1
           have q1:=(HU6.out.cell (p:=⟨db,dof+1,none⟩) hdb).trans q1
           have HNB:=iH (Kg M _ _ w6 ((show Bs wu wu.heap.size (.slice mA M.length mc) M from hx).lift HU6.out))
           obtain⟨Z,hZ⟩:∃Z,JZ M=Z:=⟨_,rfl⟩
           have hl7:=YO (.inr HM2.out)
           have hnq:xJ M=(Z,0):=by unfold xJ;rw [iF hl7,hZ]
           rw [hnq]at HNB
           have HZS:Hid (Z=st↔zI st=M):=iH (by rw [<-hZ];exact VX HM2.out ST0.out ST1.out)
           clear hM0 hnq hZ hx hdl1 hdb hl7
           obtain⟨g0,g1⟩:=CC.out w6 HB6.out
           by_cases hz:Z=st
           ·have R2Z:Hid (ky k1 k2 n d st=if ¬kD k1 N sc=0 then(kD k1 N sc,[],0,[],[],0)else(0,qt k1 N sc,st,k1,k2,n+1)):=iH (by rw [R2Y.out];exact iF (not_not.2 (HZS.out.1 hz)))
            clear R2Y HZS
            subst hz
            obtain⟨n0,n1,nf⟩:=jd (heap_alloc_new w6 (.cells #[.slice none 0 0,.int .i64 0] 44))
            have nf0:=nf 0;have nf1:=nf 1
            clear nf
            go_upto_region 21 with (go_at_call 75;refine iR HNB.out ?_;clear q1)
            clear g0 g1 n0 n1 nf0 nf1
            obtain⟨st,rfl⟩:∃s,s=Z:=⟨_,rfl⟩
            obtain⟨wp,hwp⟩:∃wp,wp=w6.alloc (.cells #[.slice none 0 0,.int .i64 st] 44):=⟨_,rfl⟩
            rw [<-hwp]
            have hbp:Below w6.heap.size w6 wp:=by rw [hwp];exact iA
            have hrp:wp.heap[w6.heap.size]?=some (.cells #[.slice none 0 0,.int .i64 st] 44 (0,0)):=by rw [hwp];exact iN
            have hplt:=(iG hrp)
            have HUP:=iH (HBU5.out.trans ((HB56.out.trans (hbp.mono HB56.out.size)).mono HBU5.out.size))
            have HBP:=iH (HB6.out.trans (hbp.mono HB6.out.size))
            have H6P:=iH hbp
            obtain⟨b,hD⟩:∃D,qt k1 N sc=D:=⟨_,rfl⟩
            obtain⟨E,hE⟩:∃E,kD k1 N sc=E:=⟨_,rfl⟩
            rw [hD,hE]at R2Z
            have HDA:Hid (Calls Tryz.prog 74 #[.agg #[.slice A1 k1.length d1,.slice A2 k2.length d2,.int .i64 n],.slice zA N.length zc,.slice cA sc.length cc] wp (zg wp b E)):=iH (by
             rw [<-hD,<-hE]
             exact XN _ _ _ _ n k1 N sc LK1.out LN.out HVM.out wp (KU.out.lift HUP.out) (ZU.out.lift HUP.out) (SCU.out.lift HUP.out))
            have HRP:=iH hrp;have HPL2:=iH hplt
            clear hD hE hwp hbp hrp hplt
            obtain⟨f0,f1,f2⟩:=CS.out wp HBP.out
            go_upto_region 22 with (go_at_call 74;refine HDA.out.mono ?_;rintro e w7 ⟨v7,rfl,hv,hb⟩;obtain⟨vA,vc,hp⟩:=Bs.formL hv;subst hp;have HV7:=iH hv;have HP7:=iH hb;have hr7:=(hb.block _ HPL2.out).trans HRP.out;have HR7:=iH hr7;obtain⟨r0,r1,rf⟩:=jd hr7;have rf0:=rf 0;clear rf hv hb hr7 f0 f1 f2)
            obtain⟨w8,hw8⟩:∃w8,w8=w7.setCell ⟨w6.heap.size,0,none⟩ (.slice vA b.length vc):=⟨_,rfl⟩
            rw [<-hw8]
            have RP8:Hid (w8.heap[w6.heap.size]?=some (.cells #[.slice vA b.length vc,.int .i64 st] 44 (0,0))):=iH (by rw [hw8];exact jg (o:=0) HR7.out)
            have HB68:Hid (Below w6.heap.size w6 w8):=iH (by rw [hw8];exact(H6P.out.trans (HP7.out.mono H6P.out.size)).setCell iL _)
            have HB8:=iH (HB6.out.trans (HB68.out.mono HB6.out.size))
            have HU8:=iH (HBU5.out.trans ((HB56.out.trans (HB68.out.mono HB56.out.size)).mono HBU5.out.size))
            have HD8:Hid (BsS w8 (fun b=>b<w8.heap.size/\b≠w6.heap.size) (.slice vA b.length vc) b):=iH (by rw [hw8];exact BsS.keep (BsS.off HV7.out HR7.out j88) fun b hs _=>⟨iO hs.2,by simpa using hs.1,hs.2⟩)
            clear hw8 r0 r1 rf0
            by_cases hE:E=0
            ·subst hE
             have R9:Hid (ky k1 k2 n d st=(0,b,st,k1,k2,n+1)):=iH (by rw [R2Z.out];exact iF (by simp))
             clear R2Z
             go_upto_region 24 with fail
             obtain⟨wd,hwd⟩:∃wd,wd=w8.drew:=⟨_,rfl⟩
             have HWD:=iH hwd
             have RL4:Hid (wd.heap[w6.heap.size]?=some (.cells #[.slice vA b.length vc,.int .i64 st] 44 (0,0))):=iH (by rw [hwd];exact RP8.out)
             have RU4:Hid (wd.heap[wn.heap.size]?=some (.cells #[.slice xA k1.length xc,.slice yA k2.length yc,.int .i64 (n+1)] 29 (0,0))):=iH (by rw [hwd];exact RU.out w8 HU8.out)
             have RR4:Hid (wd.heap[(w.heap.size+1+1)]?=some (.cells #[.slice none 0 0,.int .i64 0] 44 (0,0))):=iH (by rw [hwd];exact R2.out w8 HB8.out)
             have RS4:Hid (wd.heap[(w.heap.size+1+1+1)]?=some (.cells #[.slice none 0 0,.slice none 0 0,.int .i64 0] 29 (0,0))):=iH (by rw [hwd];exact R3.out w8 HB8.out)
             have HB4:Hid (Below w.heap.size w wd):=iH (by rw [hwd];exact(HB.out.trans (HB8.out.mono HB.out.size)).drew)
             have V4:Hid (Bs wd wd.heap.size (.slice vA b.length vc) b):=iH (by rw [hwd];exact BsS.keep HD8.out fun b hs hl=>⟨rfl,hs.1⟩)
             have X4:Hid (Bs wd wd.heap.size (.slice xA k1.length xc) k1):=iH (by rw [hwd];exact XU.out.lift HU8.out.drew)
             have Y4:Hid (Bs wd wd.heap.size (.slice yA k2.length yc) k2):=iH (by rw [hwd];exact YU.out.lift HU8.out.drew)
             have NE2:Hid (w6.heap.size≠(w.heap.size+1+1)):=iH (by have:=HZA.out;have:=HB6.out.size;omega)
             have NE3:Hid (wn.heap.size≠(w.heap.size+1+1)):=iH (by have:=HZA.out;have:=HBN.out.size;omega)
             clear hwd
             refine jc 3 [some 133,some 134,none] [[],[],[0]]
              (J2 wd (w.heap.size+1+1) 2 (.slice vA b.length vc) (.int .i64 st)) (fun _ _=>True)
              [fun v _=>v 0=.agg #[.slice vA b.length vc,.int .i64 st],
               fun v _=>v 1=.agg #[.slice xA k1.length xc,.slice yA k2.length yc,.int .i64 (n+1)],
               fun v w1=>True]
              (by kernel_rfl) (by kernel_rfl) (fun _=>HWD.out.symm.trans (iF (by decide)).symm) ?st24 ?steps24 ?tail24
             case st24=>
              exact m02
             case steps24=>
              simp only [List.take_succ_cons,List.take_zero]
              refine(.cons ?_ (.cons ?_ (.cons ?_ .nil)))
              all_goals(intro L v w1 hJ hL hA hF K hK;simp only [jf,Act.put,Nat.zero_add,Nat.reduceAdd,List.setIfInBounds_toArray,List.set_cons_zero,List.set_cons_succ]at hK |-)
              ·obtain⟨c0,c1,_⟩:=jd ((J2.row hJ NE2.out).trans RL4.out)
               exact m1n
              ·obtain⟨c0,c1,c2,_⟩:=j7 ((J2.row hJ NE3.out).trans RU4.out)
               exact m1o
              ·have e0:v 0=_:=hF 0 (hA 0 (by simp))
               simp only [e0]at hK
               obtain rfl:=J2.old hJ hL
               obtain⟨r0,r1,rf⟩:=jd RR4.out
               have rf0:=rf 0;have rf1:=rf 1;clear rf
               have e0:v 0=_:=hF 0 (hA 0 (by simp))
               simp only [e0]at hK |-
               have hJ2:=iH hJ;have hL2:=iH hL
               clear hJ hL hF hA e0
               exact m20
             case tail24=>
              intro v w1 hJ hF
              have e0:v 0=_:=hF 0 (by simp)
              have e1:v 1=_:=hF 1 (by simp)
              simp only [List.drop_succ_cons,List.drop_zero,jf,Act.put,Nat.zero_add,Nat.reduceAdd,List.setIfInBounds_toArray,List.set_cons_zero,List.set_cons_succ]
              simp only [e1]
              clear e0 e1 hF
              obtain rfl:=J2.all hJ rfl
              have RS5:Hid ((qm wd (w.heap.size+1+1) (.slice vA b.length vc) (.int .i64 st)).heap[(w.heap.size+1+1+1)]?=some (.cells #[.slice none 0 0,.slice none 0 0,.int .i64 0] 29 (0,0))):=iH ((kz (by omega)).trans RS4.out)
              obtain⟨s0,s1,s2,sf⟩:=j7 RS5.out
              have sf0:=sf 0;have sf1:=sf 1;have sf2:=sf 2;clear sf
              obtain⟨w5,hw5⟩:∃w5,w5=qm wd (w.heap.size+1+1) (.slice vA b.length vc) (.int .i64 st):=⟨_,rfl⟩
              rw [<-hw5]at s0 s1 s2 sf0 sf1 sf2 |-
              have HW5:=iH hw5
              clear hw5 hJ
              go_wp2_with fail
              have q:=jo (W:=wd) RR4.out RS4.out (.slice vA b.length vc) (.int .i64 st) (.slice xA k1.length xc) (.slice yA k2.length yc) (.int .i64 (n+1))
              rw [<-HW5.out]at q
              obtain⟨q2,q3⟩:=q
              obtain⟨y0,y1,_⟩:=jd q2
              obtain⟨x0,x1,x2,_⟩:=j7 q3
              refine bodyPost_ret (v:=.tuple #[.agg #[.slice vA b.length vc,.int .i64 st],.agg #[.slice xA k1.length xc,.slice yA k2.length yc,.int .i64 (n+1)],.int .i64 0]) (by simp only [set3]at y0 y1 x0 x1 x2;simp [results,Tryz.results42,go_sem,y0,y1,x0,x1,x2]) rfl ?_
              exact mz
            ·have tE:(E != 0)=true:=by simpa using hE
             have R9:Hid (ky k1 k2 n d st=(E,[],0,[],[],0)):=iH (by rw [R2Z.out];exact iT hE)
             clear hE R2Z
             go_upto_region 23 with fail
             obtain⟨r0,r1,rf⟩:=jd (R2.out w8 HB8.out);have rf0:=rf 0;have rf1:=rf 1;clear rf;obtain⟨s0,s1,s2,sf⟩:=j7 (R3.out w8 HB8.out);have sf0:=sf 0;have sf1:=sf 1;have sf2:=sf 2;clear sf
             go_wp2_with fail
             obtain⟨q2,q3⟩:=jo (R2.out w8 HB8.out) (R3.out w8 HB8.out) (.slice none 0 0) (.int .i64 0) (.slice none 0 0) (.slice none 0 0) (.int .i64 0)
             obtain⟨y0,y1,_⟩:=jd q2
             obtain⟨x0,x1,x2,_⟩:=j7 q3
             refine bodyPost_ret (v:=.tuple #[.agg #[.slice none 0 0,.int .i64 0],.agg #[.slice none 0 0,.slice none 0 0,.int .i64 0],.int .i64 E]) (by simp only [qm,set3]at y0 y1 x0 x1 x2;simp [results,Tryz.results42,go_sem,y0,y1,x0,x1,x2]) rfl ?_
             rw [R9.out]
             exact⟨_,_,rfl,⟨_,rfl,BsS.nil0 _ _⟩,⟨_,_,rfl,BsS.nil0 _ _,BsS.nil0 _ _⟩,jj (HB.out.trans (Below.mono HB8.out HB.out.size)) (by omega)⟩
           ·have tz:(Z != st)=true:=by simpa using hz
            have R9:Hid (ky k1 k2 n d st=(23,[],0,[],[],0)):=iH (by rw [R2Y.out];exact iT (fun h=>hz (HZS.out.2 h)))
            clear R2Y
            go_upto_region 19 with (go_at_call 75;refine iR HNB.out ?_;clear q1)
            clear g0 g1
            obtain⟨r0,r1,rf⟩:=jd (R2.out w6 HB6.out);have rf0:=rf 0;have rf1:=rf 1;clear rf;obtain⟨s0,s1,s2,sf⟩:=j7 (R3.out w6 HB6.out);have sf0:=sf 0;have sf1:=sf 1;have sf2:=sf 2;clear sf
            go_wp2_with fail
            obtain⟨q2,q3⟩:=jo (R2.out w6 HB6.out) (R3.out w6 HB6.out) (.slice none 0 0) (.int .i64 0) (.slice none 0 0) (.slice none 0 0) (.int .i64 0)
            obtain⟨y0,y1,_⟩:=jd q2
            obtain⟨x0,x1,x2,_⟩:=j7 q3
            refine bodyPost_ret (v:=.tuple #[.agg #[.slice none 0 0,.int .i64 0],.agg #[.slice none 0 0,.slice none 0 0,.int .i64 0],.int .i64 23]) (by simp only [qm,set3]at y0 y1 x0 x1 x2;simp [results,Tryz.results42,go_sem,y0,y1,x0,x1,x2]) rfl ?_
            exact m27
          ·rw [decide_eq_false hcc]at HSA
           have R9:Hid (ky k1 k2 n d st=(20,[],0,[],[],0)):=iH (by rw [R1.out];exact iT hcc)
           clear hcc R1
           go_upto_region 16 with (go_at_call 73;refine HSA.out.mono ?_;rintro e w6 ⟨rfl,nq,hw6⟩;have HB6:Hid (Below wa.heap.size wa w6):=iH (HB5.out.trans ((by rw [hw6];exact j4 iB _:Below w5.heap.size w5 w6).mono HB5.out.size));clear hw6)
           obtain⟨r0,r1,rf⟩:=jd (R2.out w6 HB6.out);have rf0:=rf 0;have rf1:=rf 1;clear rf;obtain⟨s0,s1,s2,sf⟩:=j7 (R3.out w6 HB6.out);have sf0:=sf 0;have sf1:=sf 1;have sf2:=sf 2;clear sf
           go_wp2_with fail
           obtain⟨q2,q3⟩:=jo (R2.out w6 HB6.out) (R3.out w6 HB6.out) (.slice none 0 0) (.int .i64 0) (.slice none 0 0) (.slice none 0 0) (.int .i64 0)
           obtain⟨y0,y1,_⟩:=jd q2
           obtain⟨x0,x1,x2,_⟩:=j7 q3
           refine bodyPost_ret (v:=.tuple #[.agg #[.slice none 0 0,.int .i64 0],.agg #[.slice none 0 0,.slice none 0 0,.int .i64 0],.int .i64 20]) (by simp only [qm,set3]at y0 y1 x0 x1 x2;simp [results,Tryz.results42,go_sem,y0,y1,x0,x1,x2]) rfl ?_
           exact m27
  ·have HVC:Hid (vR d st=false):=iH (by simpa using v2)
   have R:Hid (ky k1 k2 n d st=(14,[],0,[],[],0)):=iH (by unfold ky;rw [iF (by rw [v1];simp),iT HVC.out])
   clear v1 v2
   go_enter Tryz.func42,Tryz.ntmps42
   go_upto_region 1 with fail
   rw [<-HWS.out,<-HWC.out,<-HW2.out,<-HW3.out]
   obtain⟨f0,f1,f2⟩:=CS.out wa iB
   go_upto_region 2 with (first
    |(go_at_call 44;have M1:=HBV;go_loud(refine(xp _ d st wv (HCV.out wv HBV.out)).mono ?_;rw [HVC.out];rintro e wc ⟨rfl,hb⟩;have hb2:=HBV.out.trans (hb.mono HBV.out.size);have HBC:=iH hb2;clear g0 g1;obtain⟨g0,g1⟩:=CC.out wc hb2;clear f0 f1 f2;obtain⟨f0,f1,f2⟩:=CS.out wc hb2;clear hb hb2))
    |(go_at_call 28;refine(jt _ k1 k2 n _ wa HSV.out).mono ?_;rw [HVS.out];rintro e wv ⟨rfl,hb⟩;have HBV:=iH hb;obtain⟨g0,g1⟩:=CC.out wv hb;clear hb))
   clear f0 f1 f2 g0 g1
   obtain⟨r0,r1,rf⟩:=jd (R2.out wc HBC.out);have rf0:=rf 0;have rf1:=rf 1;clear rf;obtain⟨s0,s1,s2,sf⟩:=j7 (R3.out wc HBC.out);have sf0:=sf 0;have sf1:=sf 1;have sf2:=sf 2;clear sf
   go_wp2_with fail
   obtain⟨q2,q3⟩:=jo (R2.out wc HBC.out) (R3.out wc HBC.out) (.slice none 0 0) (.int .i64 0) (.slice none 0 0) (.slice none 0 0) (.int .i64 0)
   obtain⟨y0,y1,_⟩:=jd q2
   obtain⟨x0,x1,x2,_⟩:=j7 q3
   refine bodyPost_ret (v:=.tuple #[.agg #[.slice none 0 0,.int .i64 0],.agg #[.slice none 0 0,.slice none 0 0,.int .i64 0],.int .i64 14]) (by simp only [qm,set3]at y0 y1 x0 x1 x2;simp [results,Tryz.results42,go_sem,y0,y1,x0,x1,x2]) rfl ?_
   exact mp
 ·have HVS:Hid (vS k1 k2 n=false):=iH (by simpa using v1)
  have R:Hid (ky k1 k2 n d st=(14,[],0,[],[],0)):=iH (by unfold ky;rw [iT HVS.out])
  clear v1
  go_enter Tryz.func42,Tryz.ntmps42
  go_upto_region 1 with fail
  rw [<-HWS.out,<-HWC.out,<-HW2.out,<-HW3.out]
  obtain⟨f0,f1,f2⟩:=CS.out wa iB
  go_upto_region 2 with (go_at_call 28;refine(jt _ k1 k2 n _ wa HSV.out).mono ?_;rw [HVS.out];rintro e wv ⟨rfl,hb⟩;have HBV:=iH hb;obtain⟨g0,g1⟩:=CC.out wv hb;clear hb)
  clear f0 f1 f2 g0 g1
  obtain⟨r0,r1,rf⟩:=jd (R2.out wv HBV.out);have rf0:=rf 0;have rf1:=rf 1;clear rf;obtain⟨s0,s1,s2,sf⟩:=j7 (R3.out wv HBV.out);have sf0:=sf 0;have sf1:=sf 1;have sf2:=sf 2;clear sf
  go_wp2_with fail
  obtain⟨q2,q3⟩:=jo (R2.out wv HBV.out) (R3.out wv HBV.out) (.slice none 0 0) (.int .i64 0) (.slice none 0 0) (.slice none 0 0) (.int .i64 0)
  obtain⟨y0,y1,_⟩:=jd q2
  obtain⟨x0,x1,x2,_⟩:=j7 q3
  refine bodyPost_ret (v:=.tuple #[.agg #[.slice none 0 0,.int .i64 0],.agg #[.slice none 0 0,.slice none 0 0,.int .i64 0],.int .i64 14]) (by simp only [qm,set3]at y0 y1 x0 x1 x2;simp [results,Tryz.results42,go_sem,y0,y1,x0,x1,x2]) rfl ?_
  exact mW
section
open Go.RowKit
def B7:List UInt8:=q9 Z16 Z16 (xW [7])
section
variable(l:List UInt8)
include l
theorem j1c(j:Nat)(r:List UInt8):∀k,j+1<=k->Jk (l++ [128]++List.replicate j 0++r) (l.length+1+j) k=some l.length:=by
 induction j generalizing r with
 |zero=>
  intro k hk
  obtain⟨k,rfl⟩:∃q,k=q+1:=⟨k - 1,by omega⟩
  refine QO _ _ _ ?_
  simp [gb]
 |succ j ih=>
  intro k hk
  obtain⟨k,rfl⟩:∃q,k=q+1:=⟨k - 1,by omega⟩
  rw [show l.length+1+(j+1)=(l.length+1+j)+1 by omega,Kr]
  ·have:=ih ([0]++r) k (by omega)
   rw [List.replicate_succ',<-List.append_assoc (l++ [128]),List.append_assoc _ [0] r]
   exact this
  ·unfold gb
   have hl:(l++ [128]++List.replicate (j+1) 0).length=l.length+1+j+1:=by simp;omega
   rw [List.getD_eq_getElem?_getD,List.getElem?_append_left (by omega),List.getElem?_append_right (by simp)]
   simp
theorem Z5:Jk (xW l) (xW l).length 16=some l.length:=by
 have h:=j1c l (zJ l.length) [] 16 (by have:=q7 l.length;omega)
 rw [List.append_nil]at h
 rw [kH]
 exact h
theorem j1b:ZV (xW l)=l:=by
 unfold ZV
 rw [iF (by have:=qx l;have:=kH l;omega),Z5]
 show(xW l).take l.length=l
 unfold xW
 rw [List.append_assoc,List.take_left' rfl]
theorem j1a:ZT (xW l)=0:=by
 unfold ZT
 rw [iF (by have:=qx l;have:=kH l;omega),Z5]
end
attribute [irreducible] B7
attribute [local irreducible] q9 yq
end
def Zd(k N d:List UInt8):List UInt8:=if d= []then []else 1 :: q9 k (qS k N) (xW d)
theorem KH(k N d:List UInt8):j6 k N d=qe 135 (Zd k N d):=by
 unfold j6 Zd qe
 split
 ·rfl
 ·rw [iF (by simp)]
def exV(ex:Int):List UInt8:=if ex= -1 then []else if 256<ex then zI (ex % 65536)else Ux (ex % 256)
theorem Yj(ex:Int):qf ex=qe 151 (exV ex):=by
 unfold qf exV qe
 split
 ·rfl
 ·exact(iF (by split<;>simp [Ux,zI])).symm
theorem j73(k N d:List UInt8):(q9 k (qS k N) (xW d)).length=16*((d.length+1+zJ d.length) / 16):=J5 k _ d
theorem U9(k N d:List UInt8)(hd:d.length<=4000):Zd k N d= []\/(kf (Zd k N d)=true/\(Zd k N d).length<=4096):=by
 unfold Zd
 split
 ·exact .inl rfl
 ·rename_i h
  right
  have hl:=j73 k N d
  have hp:16<=d.length+1+zJ d.length/\(d.length+1+zJ d.length) % 16=0/\zJ d.length<=15:=by
   have:=qx d;have h2:=kH d;have:=q7 d.length;unfold zJ at*;omega
  refine⟨?_,by simp;omega⟩
  unfold kf
  simp only [List.length_cons,Bool.and_eq_true,decide_eq_true_eq]
  exact⟨by omega,rfl,by omega⟩
theorem j1x(k N d:List UInt8):qt k N ((Zd k N d).drop 1)=d/\kD k N ((Zd k N d).drop 1)=0:=by
 unfold Zd
 split
 ·rename_i h;subst h;exact⟨rfl,rfl⟩
 ·have hl:=j73 k N d
  have hp:16<=d.length+1+zJ d.length/\(d.length+1+zJ d.length) % 16=0:=by
   have:=qx d;have h2:=kH d;unfold zJ at*;omega
  have hne:¬q9 k (qS k N) (xW d)= []:=fun e=>by rw [e]at hl;simp at hl;omega
  have ho:=j05 k (qS k N) (xW d) _ (qx d)
  simp only [List.drop_succ_cons,List.drop_zero]
  unfold qt kD
  rw [iF hne,iF hne,ho]
  exact⟨j1b d,j1a d⟩
section
variable(ex:Int)(h:ex= -1\/(1<=ex/\ex<=65536))
include ex h
theorem j1y:(exV ex= []/\ex= -1)\/((1:Int)<=((exV ex).length:Int)/\(exV ex).length<=2/\exV ex≠ []):=by
 unfold exV
 split
 ·rename_i h;exact .inl ⟨rfl,h⟩
 ·right;split<;>simp [Ux,zI]
theorem j52:exW (exV ex)=ex:=by
 unfold exV
 by_cases h1:ex= -1
 ·rw [iT h1];unfold exW;rw [iT rfl];exact h1.symm
 ·rw [iF h1]
  have hr:=h.resolve_left h1
  by_cases h2:256<ex
  ·rw [iT h2]
   have e:JZ (zI (ex % 65536))=ex % 65536:=(VX (M:=zI (ex % 65536)) rfl (by omega) (by omega)).2 rfl
   unfold exW
   rw [iF (by simp [zI]),e]
   split
   ·rw [iF (by simp [zI])];omega
   ·omega
  ·rw [iF h2]
   have e:JZ (Ux (ex % 256))=ex % 256:=by
    show 256*0+bv (ofI (ex % 256))=_
    rw [kY];omega
   unfold exW
   rw [iF (by simp [Ux]),e]
   split
   ·rw [iT (by simp [Ux])];omega
   ·omega
end
theorem XJ(L:Ns)(v:List UInt8)(k:Ns):((L.app (.cons 142 v k .nil)).pick 142).isSome=true:=by
 induction L with
 |nil=>rfl
 |cons t x y r _ ih=>
  rw [Ns.app,Ns.pick]
  split
  ·rfl
  ·exact ih
theorem j37(L M:Ns)(g:Int)(h:(M.pick g).isSome=true):((L.app M).pick g).isSome=true:=by
 induction L with
 |nil=>exact h
 |cons t x y r _ ih=>
  rw [Ns.app,Ns.pick]
  split
  ·rfl
  ·exact ih
theorem j0s{tg lo:Int}{mu:Bool}(ht:¬tg=135)(h142:¬tg=142)(hlo:1<=lo)(hv:qX tg=true)(hp:jY tg=false)(k2 N head V M:List UInt8)(hk2:k2.length=16)(hV:V= []\/(kf V=true/\V.length<=4096))(hM:(M= []/\mu=false)\/(lo<=(M.length:Int)/\M.length<=2/\M≠ []))(ts:List Int)(hts:∀t∈ts,t=142\/(t=tg/\M≠ []))(b:List UInt8)(hb:x6 k2 N head ((qe 135 V).app (qe tg M))=.ok b):
 kZ ts (qZ tg lo mu) b=.ok ([V,M,kC k2 N head ((qe 135 V).app (qe tg M)).enc],(qe 135 V).app (qe tg M))/\b.length<=4096:=by
 obtain⟨L,hL⟩:∃L,(qe 135 V).app (qe tg M)=L:=⟨_,rfl⟩
 have hLc:L.chk 1=0:=by rw [<-hL];exact zv _ _ (by decide) (by decide) _ (by have:=zv tg M hv hp .nil rfl;rwa [Ns.app_nil]at this)
 have hLa:L.all<=2:=by rw [<-hL];have:=zu 135 V (qe tg M);have h9:=zu tg M .nil;rw [Ns.app_nil]at h9;simp only [Ns.all]at h9;omega
 rw [hL]at hb |-
 obtain⟨C,hC⟩:∃C,kC k2 N head L.enc=C:=⟨_,rfl⟩
 have hLe:=xS hLc (by omega)
 have hlt:¬4096<L.enc.length:=fun h=>by
  unfold x6 at hb
  rw [hLe,iT h]at hb
  cases hb
 rw [iF hlt]at hLe
 have hsl:=xq k2 N head hLc (by omega)
 rw [hLe]at hsl
 rw [show bytesOf (.ok L.enc:Except Int (List UInt8))=L.enc from rfl,hC]at hsl
 rw [hsl,yC C hLc (by omega)]at hb
 split at hb
 ·cases hb
 ·rename_i hle
  injection hb with hb
  have hlb:b.length<=4096:=by rw [<-hb];omega
  have hpp:jK b true=.ok (L.app (.cons 142 C .nil .nil)):=by
   rw [<-hb]
   exact Xf true _ _ (Vp true _ (by omega)) (Yc L C 1 (by omega) hLc) (by rw [Ns.all_snoc];omega) (by omega)
  have hcl:C.length=8:=by
   exact m3w
  have hsh:Zg tg lo mu (L.app (.cons 142 C .nil .nil)) V M C:=⟨by rw [<-hL,Ns.app_assoc],hV,hM,hcl⟩
  obtain⟨n,hf⟩:=Q3 ht h142 hsh
  have hall:(ts.all fun t=>((L.app (.cons 142 C .nil .nil)).pick t).isSome)=true:=by
   rw [List.all_eq_true]
   intro t htm
   rcases hts t htm with rfl|⟨rfl,hne⟩
   ·exact XJ _ _ _
   ·rw [<-hL,Ns.app_assoc,jZ hne]
    exact j37 _ _ _ (by rw [Ns.app,Ns.pick,iT rfl]<;>rfl)
  refine⟨?_,hlb⟩
  rw [Qu hpp hall hf]
  obtain⟨V',M',C',hvs,_,h3⟩:=zi ht h142 hlo hp (Yz hpp) hf
  simp only [List.cons.injEq,and_true]at hvs
  obtain⟨rfl,rfl,rfl⟩:=hvs
  rw [h3,hL,hC]
theorem ZZ{k1 k2:List UInt8}{n:Int}{c:Cm}(h1:vS k1 k2 n=true)(h2:vC c=true)(hg:Jo c.cl=true)(hn:n≠1099511627776)(hd:c.data.length<=4000){b:List UInt8}(hb:x6 k2 (Jh (n+1)) (xB (c.cl+12) c.ins c.p1 c.p2) ((j6 k1 (Jh (n+1)) c.data).app (qf c.ex))=.ok b):
 jr k1 k2 n ⟨c.cl+12,c.ins,c.p1,c.p2,b,65536⟩=(0,c,k1,k2,n+1):=by
 have hv:=of_decide_eq_true h2
 have hs:=of_decide_eq_true h1
 unfold Jo at hg
 rw [Bool.and_eq_true,decide_eq_true_eq,decide_eq_true_eq]at hg
 obtain⟨N,hN⟩:∃N,Jh (n+1)=N:=⟨_,rfl⟩
 rw [hN,KH,Yj]at hb
 obtain⟨ho,hlb⟩:=j0s (tg:=151) (lo:=1) (mu:=false) (by decide) (by decide) (by decide) (by decide) (by decide) k2 N _ (Zd k1 N c.data) (exV c.ex) hs.2.1 (U9 k1 N c.data hd) ((j1y c.ex hv.2.2.2.2.2.2).imp (fun h=>⟨h.1,rfl⟩) id) [142] (fun t h=>by simp at h;exact .inl h) b hb
 have hvc:vC ⟨c.cl+12,c.ins,c.p1,c.p2,b,65536⟩=true:=decide_eq_true ⟨by simp only;omega,by simp only;omega,hv.2.2.1,hv.2.2.2.1,hv.2.2.2.2.1,hlb,.inr (by simp only;omega)⟩
 unfold jr
 rw [iF (by rw [h1];simp),iF (by rw [hvc];simp),iF hn,iF (by simp only;omega),hN]
 simp only
 rw [ho]
 have e:=j1x k1 N c.data
 show(if ¬kC k2 N (xB (c.cl+12) c.ins c.p1 c.p2) ((qe 135 (Zd k1 N c.data)).app (qe 151 (exV c.ex))).enc=kC k2 N (xB (c.cl+12) c.ins c.p1 c.p2) ((qe 135 (Zd k1 N c.data)).app (qe 151 (exV c.ex))).enc then _
  else if ¬kD k1 N ((Zd k1 N c.data).drop 1)=0 then _ else _)=_
 rw [iF (fun h=>h rfl),iF (fun h=>h e.2)]
 show(0,(⟨c.cl+12 - 12,c.ins,c.p1,c.p2,qt k1 N ((Zd k1 N c.data).drop 1),exW (exV c.ex)⟩:Cm),k1,k2,n+1)=_
 rw [e.1,j52 c.ex hv.2.2.2.2.2.2,show c.cl+12 - 12=c.cl by omega]
theorem j3f{k2 N head V M:List UInt8}{tg:Int}(hk2:k2.length=16)(hv:qX tg=true)(hp:jY tg=false)(ht:tg<=255)(hV:V.length<=4000)(hM:M.length<=2):
 ∃b,x6 k2 N head ((qe 135 V).app (qe tg M))=.ok b/\b.length=(qe 135 V).enc.length+((qe tg M).enc.length+10):=by
 obtain⟨L,hL⟩:∃L,(qe 135 V).app (qe tg M)=L:=⟨_,rfl⟩
 have hLc:L.chk 1=0:=by rw [<-hL];exact zv _ _ (by decide) (by decide) _ (by have:=zv tg M hv hp .nil rfl;rwa [Ns.app_nil]at this)
 have hLa:L.all<=2:=by rw [<-hL];have:=zu 135 V (qe tg M);have h9:=zu tg M .nil;rw [Ns.app_nil]at h9;simp only [Ns.all]at h9;omega
 have hle:L.enc.length=(qe 135 V).enc.length+(qe tg M).enc.length:=by rw [<-hL,xz,List.length_append]
 have hl1:(qe 135 V).enc.length<=4+V.length:=by
  unfold qe
  split
  ·simp [Ns.enc]
  ·have:=zw 135 V .nil (by decide) (by decide) (by omega)
   simpa [Ns.enc]using this
 have hl2:(qe tg M).enc.length<=4+M.length:=by
  unfold qe
  split
  ·simp [Ns.enc]
  ·have:=zw tg M .nil hp ht (by omega)
   simpa [Ns.enc]using this
 rw [hL,xq k2 N head hLc (by omega)]
 have hLe:=xS hLc (by omega)
 rw [iF (by omega)]at hLe
 rw [hLe,show bytesOf (.ok L.enc:Except Int (List UInt8))=L.enc from rfl]
 obtain⟨C,hC⟩:∃C,kC k2 N head L.enc=C:=⟨_,rfl⟩
 have hcl:C.length=8:=by
  exact m3w
 have hce:(Ns.cons 142 C .nil .nil).enc.length=10:=by
  have h1:jY 142=false:=by decide
  have h2:(xu 8).length=1:=rfl
  have h3:(ku 142).length=1:=by decide
  simp [Ns.enc,h1,h2,h3,hcl]
 rw [hC,yC C hLc (by omega),xz,iF (by rw [List.length_append,hce];omega)]
 exact⟨_,rfl,by rw [List.length_append,hce,hle];omega⟩
end Go.Proofs.YtadndhgebgjlaaaGreat
