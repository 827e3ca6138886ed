/- The worlds behind the entry of Wrap and Unwrap; messaging.Wrap -/
import Derived.Test.YtadndhgebgjlaaaGreatPBj
import Derived.Test.YtadndhgebgjlaaaGreatPBm
set_option linter.all false
set_option maxRecDepth 100000
set_option maxHeartbeats 3000000
namespace Go.Proofs.YtadndhgebgjlaaaGreat
open Go.RowKit Go.Deep
theorem mr{P:Prop}(h:P:=by
 rw [R.out]
 exact⟨_,_,rfl,⟨_,rfl,BsS.nil0 _ _⟩,⟨_,_,rfl,BsS.nil0 _ _,BsS.nil0 _ _⟩,jk (HB.out.trans (Below.mono HBC.out HB.out.size)) (by omega)⟩):P:=h
theorem mB{P:Prop}(h:P:=by
 rw [<-HW5.out]at hbw
 exact⟨_,_,rfl,⟨_,rfl,hk _ _ V4.out⟩,⟨_,_,rfl,hk _ _ X4.out,hk _ _ Y4.out⟩,hbw⟩):P:=h
theorem mD{P:Prop}(h:P:=by
 go_simp
 refine hK _ _ ⟨hJ.1,hJ.2.1,fun h=>hJ.2.2 (by simpa [ji]using h)⟩ (World.grownBy.refl _ _) ?_
 first|exact rfl|exact j5 _):P:=h
theorem mV{P:Prop}(h:P:=by
 rw [R.out]
 exact⟨_,_,rfl,⟨_,rfl,BsS.nil0 _ _⟩,⟨_,_,rfl,BsS.nil0 _ _,BsS.nil0 _ _⟩,jk (HB.out.trans (Below.mono HBV.out HB.out.size)) (by omega)⟩):P:=h
theorem m0f{P:Prop}(h:P:=by
 obtain⟨r0,r1,r2,r3,r4,r5,rf⟩:=j8 (R2.out wc HBC.out);have rf0:=rf 0;have rf1:=rf 1;have rf2:=rf 2;have rf3:=rf 3;have rf4:=rf 4;have rf5:=rf 5;clear rf;obtain⟨s0,s1,s2,sf⟩:=j7 (R3.out wc HBC.out);have sf0:=sf 0;have sf1:=sf 1;have sf2:=sf 2;clear sf
 go_wp2_with fail
 obtain⟨q2,q3⟩:=jq (R2.out wc HBC.out) (R3.out wc HBC.out) (.int .i64 0) (.int .i64 0) (.int .i64 0) (.int .i64 0) (.slice none 0 0) (.int .i64 0) (.slice none 0 0) (.slice none 0 0) (.int .i64 0)
 obtain⟨y0,y1,y2,y3,y4,y5,_⟩:=j8 q2
 obtain⟨x0,x1,x2,_⟩:=j7 q3
 refine bodyPost_ret (v:=.tuple #[.agg #[.int .i64 0,.int .i64 0,.int .i64 0,.int .i64 0,.slice none 0 0,.int .i64 0],.agg #[.slice none 0 0,.slice none 0 0,.int .i64 0],.int .i64 14]) (by simp only [set6,set3]at y0 y1 y2 y3 y4 y5 x0 x1 x2;simp [results,Tryz.results23,go_sem,y0,y1,y2,y3,y4,y5,x0,x1,x2]) rfl ?_
 rw [R.out]
 exact⟨_,_,rfl,⟨_,rfl,BsS.nil0 _ _⟩,⟨_,_,rfl,BsS.nil0 _ _,BsS.nil0 _ _⟩,jk (HB.out.trans (Below.mono HBC.out HB.out.size)) (by omega)⟩):P:=h
theorem m0j{P:Prop}(h:P:=by
 intro v w1 hJ hF
 have e0:v 0=_:=hF 0 (by simp)
 have e1:v 1=_:=hF 1 (by simp)
 have e2:v 2=_:=hF 2 (by simp)
 have e3:v 3=_:=hF 3 (by simp)
 have e4:v 4=_:=hF 4 (by simp)
 have e5:v 5=_:=hF 5 (by simp)
 have e6:v 6=_:=hF 6 (by simp)
 have e10:v 10=_:=hF 10 (by simp)
 have e12:v 12=_:=hF 12 (by simp)
 obtain⟨a11,c11,e11,h11⟩:∃a c,v 11=_/\_:=hF 11 (by simp)
 simp only [List.drop_succ_cons,List.drop_zero,jf,Act.put,Nat.zero_add,Nat.reduceAdd,List.setIfInBounds_toArray,List.set_cons_zero,List.set_cons_succ]
 simp only [e11,e12]
 clear e0 e1 e2 e3 e4 e5 e6 e10 e11 e12
 have HO1:=iH (HO.out.below hJ)
 have HV1:=iH (qW HO.out h11 hJ HBK.out.size)
 have HBS1:=iH (Nat.le_trans HBK.out.size hJ.size)
 have HJ:=iH hJ
 clear h11 hJ hF
 go_wp2_with(at_builtin;(with_reducible refine jz rfl (.tmp 67) (.tmp 70) rfl wu.heap.size (.slice oA (j6 k1 N data).len oc) (j6 k1 N data) rfl HO1.out 151 X7 .nil (.slice a11 X7.length c11) (.slice none 0 0) _ w1.heap.size rfl rfl j2d HV1.out (NsS.nil0 _ _) HCL.out HBS1.out ?_);intro o2 w2 hg2;have HG:=iH hg2;clear hg2)
 go_meet
 obtain⟨o2A,o2c,hp⟩:=HG.out.1.form
 exact⟨o2A,o2c,by rw [HEX.out];exact hp,by rw [HEX.out,<-hp];exact HG.out.1,(HBK.out.trans (HJ.out.mono HBK.out.size)).trans HG.out.2.1⟩):P:=h
theorem m0x{P:Prop}(h:P:=by
 exact(.cons (fun _ _ _ _ _ _ h=>h) (.cons (fun _ _ _ _ _ _ h=>h) (.cons (fun _ _ _ _ _ _ h=>h) (.cons (fun _ _ _ _ _ _ h=>h) (.cons (fun _ _ _ _ _ _ h=>h) (.cons (fun _ _ _ _ _ _ h=>h) (.cons (fun _ _ _ _ _ _ h=>h) (.cons (fun _ _ _ _ _ hr ⟨a,c,e,h⟩=>⟨a,c,e,BsS.keep h fun g hg hl=>⟨hr.block g hl,hg.1,iZ hl hr.size⟩⟩) (.cons (fun _ _ _ _ _ hr ⟨a,c,e,h⟩=>⟨a,c,e,BsS.keep h fun g hg hl=>⟨hr.block g hl,hg.1,iZ hl hr.size⟩⟩) (.cons (fun _ _ _ _ _ hr ⟨a,c,e,h⟩=>⟨a,c,e,BsS.keep h fun g hg hl=>⟨hr.block g hl,hg.1,iZ hl hr.size⟩⟩) (.cons (fun _ _ _ _ _ _ h=>h) (.cons (fun _ _ _ _ _ hr ⟨a,c,e,h⟩=>⟨a,c,e,BsS.keep h fun g hg hl=>⟨hr.block g hl,hg.1,iZ hl hr.size⟩⟩) (.cons (fun _ _ _ _ _ _ h=>h) .nil)))))))))))))):P:=h
theorem m13{P:Prop}(h:P:=by
 obtain⟨c0,c1,c2,c3,c4,c5,_⟩:=j8 ((J6.row hJ NE2.out).trans RL4.out)
 go_simp
 refine hK _ _ (J6.step hJ 0 (by decide)) trivial ?_
 first|exact rfl|exact j5 _):P:=h
theorem m1m{P:Prop}(h:P:=by
 go_simp
 refine hK _ _ (J6.step hJ 1 (by decide)) trivial ?_
 first|exact rfl|exact j5 _):P:=h
theorem m1t{P:Prop}(h:P:=by
 have e1:v 1=_:=hF 1 (hA 1 (by simp))
 obtain⟨c0,c1,c2,c3,_⟩:=ki ((J6.row hJ NE3.out).trans RU4.out)
 simp only [e1]at hK
 go_simp
 refine hK _ _ (J6.step hJ 2 (by decide)) trivial ?_
 first|exact rfl|exact j5 _):P:=h
theorem m1z{P:Prop}(h:P:=by
 go_simp
 exact hK undef _ (J6.store hJ2.out hL2.out) trivial trivial):P:=h
theorem m29{P:Prop}(h:P:=by
 rw [R.out]
 exact⟨_,_,rfl,⟨_,rfl,BsS.nil0 _ _⟩,⟨_,_,rfl,BsS.nil0 _ _,BsS.nil0 _ _⟩,jk (HB.out.trans (Below.mono HB3.out HB.out.size)) (by omega)⟩):P:=h
theorem m2p{P:Prop}(h:P:=by
 exact(.cons (fun _ _ _ _ _ _ h=>h) (.cons (fun _ _ _ _ _ _ h=>h) (.cons (fun _ _ _ _ _ _ h=>h) (.cons (fun _ _ _ _ _ _ h=>h) .nil))))):P:=h
theorem m3l{P:Prop}(h:P:=by
 refine Nat.le_trans (zw 135 _ .nil (by decide) (by decide) (by simp;omega)) ?_
 simp [Ns.enc]
 omega):P:=h
theorem j7a{w:World}{vs vc:Value}{k1 k2:List UInt8}{n cl ins p1 p2 ex:Int}{data:List UInt8}(hs:qs w (·<w.heap.size) vs k1 k2 n)(hc:Jm w (·<w.heap.size) vc ⟨cl,ins,p1,p2,data,ex⟩):
 ∃A1 d1 A2 d2 A3 d3 ws wq w2 wa,vs=.agg #[.slice A1 k1.length d1,.slice A2 k2.length d2,.int .i64 n]/\vc=.agg #[.int .i64 cl,.int .i64 ins,.int .i64 p1,.int .i64 p2,.slice A3 data.length d3,.int .i64 ex]/\Hid (∀W,Below wa.heap.size wa W->W.heap[(w.heap.size+1+1)]?=some (.cells #[.int .i64 0,.int .i64 0,.int .i64 0,.int .i64 0,.slice none 0 0,.int .i64 0] 32 (0,0)))/\Hid (∀W,Below wa.heap.size wa W->W.heap[(w.heap.size+1+1+1)]?=some (.cells #[.slice none 0 0,.slice none 0 0,.int .i64 0] 29 (0,0)))/\Hid (∀W,Below wa.heap.size wa W->W.cell? ⟨w.heap.size,0,none⟩=some (.slice A1 k1.length d1)/\W.cell? ⟨w.heap.size,1,none⟩=some (.slice A2 k2.length d2)/\W.cell? ⟨w.heap.size,2,none⟩=some (.int .i64 n))/\Hid (∀W,Below wa.heap.size wa W->W.cell? ⟨w.heap.size+1,0,none⟩=some (.int .i64 cl)/\W.cell? ⟨w.heap.size+1,1,none⟩=some (.int .i64 ins)/\W.cell? ⟨w.heap.size+1,2,none⟩=some (.int .i64 p1)/\W.cell? ⟨w.heap.size+1,3,none⟩=some (.int .i64 p2)/\W.cell? ⟨w.heap.size+1,4,none⟩=some (.slice A3 data.length d3)/\W.cell? ⟨w.heap.size+1,5,none⟩=some (.int .i64 ex))/\Hid (wa.heap.size=w.heap.size+1+1+1+1)/\Hid (Below w.heap.size w wa)/\Hid (ws=w.alloc (.cells #[.slice A1 k1.length d1,.slice A2 k2.length d2,.int .i64 n] 29))/\Hid (wq=ws.alloc (.cells #[.int .i64 cl,.int .i64 ins,.int .i64 p1,.int .i64 p2,.slice A3 data.length d3,.int .i64 ex] 32))/\Hid (w2=wq.alloc (.cells #[.int .i64 0,.int .i64 0,.int .i64 0,.int .i64 0,.slice none 0 0,.int .i64 0] 32))/\Hid (wa=w2.alloc (.cells #[.slice none 0 0,.slice none 0 0,.int .i64 0] 29))/\Hid (Bs wa wa.heap.size (.slice A1 k1.length d1) k1)/\Hid (Bs wa wa.heap.size (.slice A2 k2.length d2) k2)/\Hid (Bs wa wa.heap.size (.slice A3 data.length d3) data)/\Hid (qs wa (·<wa.heap.size) (.agg #[.slice A1 k1.length d1,.slice A2 k2.length d2,.int .i64 n]) k1 k2 n)/\Hid (∀W,Below wa.heap.size wa W->Jm W (·<W.heap.size) (.agg #[.int .i64 cl,.int .i64 ins,.int .i64 p1,.int .i64 p2,.slice A3 data.length d3,.int .i64 ex]) ⟨cl,ins,p1,p2,data,ex⟩):=by
 obtain⟨ua,ub,rfl,ha,hb⟩:=hs
 obtain⟨ud,rfl,hd⟩:=hc
 obtain⟨A1,n1,d1,rfl⟩:=ha.form
 obtain⟨A2,n2,d2,rfl⟩:=hb.form
 obtain⟨A3,n3,d3,rfl⟩:=hd.form
 simp only at hd
 obtain rfl:=Bs.lenEq ha
 obtain rfl:=Bs.lenEq hb
 obtain rfl:=Bs.lenEq hd
 obtain⟨ws,hws⟩:∃ws,ws=w.alloc (.cells #[.slice A1 k1.length d1,.slice A2 k2.length d2,.int .i64 n] 29):=⟨_,rfl⟩
 obtain⟨wq,hwq⟩:∃wq,wq=ws.alloc (.cells #[.int .i64 cl,.int .i64 ins,.int .i64 p1,.int .i64 p2,.slice A3 data.length d3,.int .i64 ex] 32):=⟨_,rfl⟩
 obtain⟨w2,hw2⟩:∃w2,w2=wq.alloc (.cells #[.int .i64 0,.int .i64 0,.int .i64 0,.int .i64 0,.slice none 0 0,.int .i64 0] 32):=⟨_,rfl⟩
 obtain⟨wa,hwa⟩:∃wa,wa=w2.alloc (.cells #[.slice none 0 0,.slice none 0 0,.int .i64 0] 29):=⟨_,rfl⟩
 have zs:ws.heap.size=w.heap.size+1:=by rw [hws];simp
 have zq:wq.heap.size=w.heap.size+1+1:=by rw [hwq];simp [zs]
 have z2:w2.heap.size=w.heap.size+1+1+1:=by rw [hw2];simp [zq]
 have za:wa.heap.size=w.heap.size+1+1+1+1:=by rw [hwa];simp [z2]
 have b1:Below w.heap.size w ws:=by rw [hws];exact iA
 have b2:Below ws.heap.size ws wq:=by rw [hwq];exact iA
 have b3:Below wq.heap.size wq w2:=by rw [hw2];exact iA
 have b4:Below w2.heap.size w2 wa:=by rw [hwa];exact iA
 have q1:ws.heap[w.heap.size]?=some (.cells #[.slice A1 k1.length d1,.slice A2 k2.length d2,.int .i64 n] 29 (0,0)):=by rw [hws];exact iN
 have q2:wq.heap[w.heap.size+1]?=some (.cells #[.int .i64 cl,.int .i64 ins,.int .i64 p1,.int .i64 p2,.slice A3 data.length d3,.int .i64 ex] 32 (0,0)):=by rw [hwq,<-zs];exact iN
 have q3:w2.heap[(w.heap.size+1+1)]?=some (.cells #[.int .i64 0,.int .i64 0,.int .i64 0,.int .i64 0,.slice none 0 0,.int .i64 0] 32 (0,0)):=by rw [hw2,<-zq];exact iN
 have q4:wa.heap[(w.heap.size+1+1+1)]?=some (.cells #[.slice none 0 0,.slice none 0 0,.int .i64 0] 29 (0,0)):=by rw [hwa,<-z2];exact iN
 have e3:=(b4.block (w.heap.size+1+1) (by omega)).trans q3
 have e2:=(b4.block (w.heap.size+1) (by omega)).trans ((b3.block (w.heap.size+1) (by omega)).trans q2)
 have e1:=(b4.block w.heap.size (by omega)).trans ((b3.block w.heap.size (by omega)).trans ((b2.block w.heap.size (by omega)).trans q1))
 have hB:Below w.heap.size w wa:=b1.trans ((b2.trans ((b3.trans (b4.mono b3.size)).mono b2.size)).mono b1.size)
 have R2:Hid (∀W,Below wa.heap.size wa W->W.heap[(w.heap.size+1+1)]?=some (.cells #[.int .i64 0,.int .i64 0,.int .i64 0,.int .i64 0,.slice none 0 0,.int .i64 0] 32 (0,0))):=iH fun W h=>(h.block _ (by omega)).trans e3
 have R3:Hid (∀W,Below wa.heap.size wa W->W.heap[(w.heap.size+1+1+1)]?=some (.cells #[.slice none 0 0,.slice none 0 0,.int .i64 0] 29 (0,0))):=iH fun W h=>(h.block _ (by omega)).trans q4
 have CS:Hid (∀W,Below wa.heap.size wa W->W.cell? ⟨w.heap.size,0,none⟩=some (.slice A1 k1.length d1)/\W.cell? ⟨w.heap.size,1,none⟩=some (.slice A2 k2.length d2)/\W.cell? ⟨w.heap.size,2,none⟩=some (.int .i64 n)):=iH fun W h=>(by obtain⟨a,b,c,_⟩:=j7 ((h.block w.heap.size (by omega)).trans e1);exact⟨a,b,c⟩)
 have CC:Hid (∀W,Below wa.heap.size wa W->W.cell? ⟨w.heap.size+1,0,none⟩=some (.int .i64 cl)/\W.cell? ⟨w.heap.size+1,1,none⟩=some (.int .i64 ins)/\W.cell? ⟨w.heap.size+1,2,none⟩=some (.int .i64 p1)/\W.cell? ⟨w.heap.size+1,3,none⟩=some (.int .i64 p2)/\W.cell? ⟨w.heap.size+1,4,none⟩=some (.slice A3 data.length d3)/\W.cell? ⟨w.heap.size+1,5,none⟩=some (.int .i64 ex)):=iH fun W h=>(by obtain⟨a,b,c,d,e,f,_⟩:=j8 ((h.block (w.heap.size+1) (by omega)).trans e2);exact⟨a,b,c,d,e,f⟩)
 have HZA:=iH za
 have HB:=iH hB;have HWS:=iH hws;have HWC:=iH hwq;have HW2:=iH hw2;have HW3:=iH hwa
 have H1:=iH (Bs.lift ha hB);have H2:=iH (Bs.lift hb hB);have H3:=iH (Bs.lift hd hB)
 have HSV:Hid (qs wa (·<wa.heap.size) (.agg #[.slice A1 k1.length d1,.slice A2 k2.length d2,.int .i64 n]) k1 k2 n):=iH ⟨_,_,rfl,H1.out,H2.out⟩
 have HCV:Hid (∀W,Below wa.heap.size wa W->Jm W (·<W.heap.size) (.agg #[.int .i64 cl,.int .i64 ins,.int .i64 p1,.int .i64 p2,.slice A3 data.length d3,.int .i64 ex]) ⟨cl,ins,p1,p2,data,ex⟩):=iH fun W h=>⟨_,rfl,H3.out.lift h⟩
 exact⟨A1,d1,A2,d2,A3,d3,ws,wq,w2,wa,rfl,rfl,R2,R3,CS,CC,HZA,HB,HWS,HWC,HW2,HW3,H1,H2,H3,HSV,HCV⟩
theorem Yt(v:Value)(cl ins p1 p2:Int)(data:List UInt8)(ex:Int)(S:Nat->Prop)(w:World)(h:Jm w S v ⟨cl,ins,p1,p2,data,ex⟩)(h0:ql cl=true)(h1:ql ins=true)(h2:ql p1=true)(h3:ql p2=true):
 Calls Tryz.prog 53 #[v] w fun e w'=>∃v',e=.returned v'/\BsS w' (New w w') v' (xB cl ins p1 p2)/\Below w.heap.size w w':=VO v ⟨cl,ins,p1,p2,data,ex⟩ S w h h0 h1 h2 h3
theorem j4b{m:Nat}(h:m<243):ql ((m:Int)+12)=true:=decide_eq_true (by omega)
theorem XW{k2 N head:List UInt8}{L:Ns}{x:Int}(h:x6 k2 N head L=.error x):(x==0)=false:=by
 unfold x6 at h
 split at h
 ·rename_i e he;injection h with h;rw [<-h];exact Ql he
 ·exact Ql h
theorem j59(n:Nat)(h:n<=65535):(xu n).length<=3:=by
 rw [xh h]
 split
 ·simp
 ·split<;>simp
theorem zw(t:Int)(v:List UInt8)(R:Ns)(ht:jY t=false)(h2:t<=255)(hv:v.length<=65535):(Ns.cons t v .nil R).enc.length<=4+v.length+R.enc.length:=by
 simp only [Ns.enc,ht]
 have h1:(ku t).length=1:=by unfold ku;rw [iF (by omega)]<;>rfl
 have h3:=j59 v.length hv
 simp [h1]
 omega
theorem J5(k V d:List UInt8):(q9 k V (xW d)).length=16*((d.length+1+zJ d.length) / 16):=by rw [xE k V (xW d) (qx d),Km]
theorem j1z(ex:Int):(qf ex).enc.length<=100:=by
 unfold qf
 split
 ·simp [Ns.enc]
 ·refine Nat.le_trans (zw 151 _ .nil (by decide) (by decide) ?_) ?_
  ·split<;>simp [Ux,zI]
  ·split<;>simp [Ux,zI,Ns.enc]
theorem j3r(k1 N data:List UInt8)(ex:Int)(hd:data.length<=4096):((j6 k1 N data).app (qf ex)).enc.length<=10000:=by
 rw [xz,List.length_append]
 have h1:=j1z ex
 have h2:(j6 k1 N data).enc.length<=5000:=by
  unfold j6
  split
  ·simp [Ns.enc]
  ·have hl:=J5 k1 (qS k1 N) data
   have hp:=q7 data.length
   exact m3l
 omega
theorem Xy(vs vc:Value)(k1 k2:List UInt8)(n:Int)(c:Cm)(w:World)(hs:qs w (·<w.heap.size) vs k1 k2 n)(hc:Jm w (·<w.heap.size) vc c):
 Calls Tryz.prog 23 #[vs,vc] w (yN (qd k1 k2 n c) w):=by
 obtain⟨cl,ins,p1,p2,data,ex⟩:=c
 obtain⟨A1,d1,A2,d2,A3,d3,ws,wq,w2,wa,rfl,rfl,R2,R3,CS,CC,HZA,HB,HWS,HWC,HW2,HW3,H1,H2,H3,HSV,HCV⟩:=j7a hs hc
 clear hs hc
 by_cases v1:vS k1 k2 n=true
 ·have HVS:=iH v1
  by_cases v2:vC ⟨cl,ins,p1,p2,data,ex⟩=true
  ·have HVC:=iH v2
   have VS:=iH (of_decide_eq_true v1)
   have VC:=iH (of_decide_eq_true v2)
   clear v1 v2
   obtain⟨m,hm⟩:∃m:Nat,cl=m:=⟨cl.toNat,by have:=VC.out;simp only at this;omega⟩
   subst hm
   have hm:m<255:=by have:=VC.out;simp only at this;omega
   have a1:=Jr m (by omega)
   have o1:=Vd m (by omega)
   by_cases g1:m / 4 % 4=0
   ·have a2:bits BinOp.and IntKind.i64 (m:Int) 12=0:=by rw [a1,g1]<;>rfl
    have o2:bits BinOp.or IntKind.i64 (m:Int) 12=(m:Int)+12:=by rw [o1];omega
    by_cases g2:m=243
    ·have c1:decide ((m:Int)+12>254)=true:=decide_eq_true (by omega)
     have R:Hid (qd k1 k2 n ⟨m,ins,p1,p2,data,ex⟩=(14,zC,[],[],0)):=iH (by unfold qd;rw [iF (by rw [HVS.out];simp),iF (by rw [HVC.out];simp),iT (by unfold Jo;rw [g2]<;>rfl)])
     clear g1 g2 a1 o1 hm
     go_enter Tryz.func23,Tryz.ntmps23
     go_upto_region 1 with fail
     rw [<-HWS.out,<-HWC.out,<-HW2.out,<-HW3.out]
     obtain⟨f0,f1,f2⟩:=CS.out wa iB
     go_upto_region 2 with (first
      |(go_at_call 48;have M1:=HBV;go_loud(refine(kN _ _ _ wv (HCV.out wv HBV.out)).mono ?_;rw [HVC.out];rintro e wc ⟨rfl,hb⟩;have hb2:=HBV.out.trans (hb.mono HBV.out.size);have HBC:=iH hb2;clear g0 g1 g2 g3 g4 g5;obtain⟨g0,g1,g2,g3,g4,g5⟩:=CC.out wc hb2;clear f0 f1 f2;obtain⟨f0,f1,f2⟩:=CS.out wc hb2;clear hb hb2))
      |(go_at_call 47;refine(js _ k1 k2 n _ wa HSV.out).mono ?_;rw [HVS.out];rintro e wv ⟨rfl,hb⟩;have HBV:=iH hb;obtain⟨g0,g1,g2,g3,g4,g5⟩:=CC.out wv hb;clear hb))
     clear f0 f1 f2 g0 g1 g2 g3 g4 g5 a2 o2 c1
     exact m0f
    ·have c1:decide ((m:Int)+12>254)=false:=decide_eq_false (by omega)
     have GC:Hid (Jo (m:Int)=true):=iH (by unfold Jo;rw [Bool.and_eq_true];exact⟨decide_eq_true (by omega),decide_eq_true (by omega)⟩)
     have HM:Hid (m<243):=iH (by omega)
     by_cases g3:n=1099511627776
     ·have t3:(n==1099511627776)=true:=by simp [g3]
      have R:Hid (qd k1 k2 n ⟨m,ins,p1,p2,data,ex⟩=(3,zC,[],[],0)):=iH (by unfold qd;rw [iF (by rw [HVS.out];simp),iF (by rw [HVC.out];simp),iF (by rw [GC.out];simp),iT g3])
      clear g1 g2 g3 a1 o1 hm
      go_enter Tryz.func23,Tryz.ntmps23
      go_upto_region 1 with fail
      rw [<-HWS.out,<-HWC.out,<-HW2.out,<-HW3.out]
      obtain⟨f0,f1,f2⟩:=CS.out wa iB
      go_upto_region 4 with (first
       |(go_at_call 48;have M1:=HBV;go_loud(refine(kN _ _ _ wv (HCV.out wv HBV.out)).mono ?_;rw [HVC.out];rintro e wc ⟨rfl,hb⟩;have hb2:=HBV.out.trans (hb.mono HBV.out.size);have HBC:=iH hb2;clear g0 g1 g2 g3 g4 g5;obtain⟨g0,g1,g2,g3,g4,g5⟩:=CC.out wc hb2;clear f0 f1 f2;obtain⟨f0,f1,f2⟩:=CS.out wc hb2;clear hb hb2))
       |(go_at_call 47;refine(js _ k1 k2 n _ wa HSV.out).mono ?_;rw [HVS.out];rintro e wv ⟨rfl,hb⟩;have HBV:=iH hb;obtain⟨g0,g1,g2,g3,g4,g5⟩:=CC.out wv hb;clear hb))
      clear f0 f1 f2 g0 g1 g2 g3 g4 g5 a2 o2 c1 t3
      obtain⟨r0,r1,r2,r3,r4,r5,rf⟩:=j8 (R2.out wc HBC.out);have rf0:=rf 0;have rf1:=rf 1;have rf2:=rf 2;have rf3:=rf 3;have rf4:=rf 4;have rf5:=rf 5;clear rf;obtain⟨s0,s1,s2,sf⟩:=j7 (R3.out wc HBC.out);have sf0:=sf 0;have sf1:=sf 1;have sf2:=sf 2;clear sf
      go_wp2_with fail
      obtain⟨q2,q3⟩:=jq (R2.out wc HBC.out) (R3.out wc HBC.out) (.int .i64 0) (.int .i64 0) (.int .i64 0) (.int .i64 0) (.slice none 0 0) (.int .i64 0) (.slice none 0 0) (.slice none 0 0) (.int .i64 0)
      obtain⟨y0,y1,y2,y3,y4,y5,_⟩:=j8 q2
      obtain⟨x0,x1,x2,_⟩:=j7 q3
      refine bodyPost_ret (v:=.tuple #[.agg #[.int .i64 0,.int .i64 0,.int .i64 0,.int .i64 0,.slice none 0 0,.int .i64 0],.agg #[.slice none 0 0,.slice none 0 0,.int .i64 0],.int .i64 3]) (by simp only [set6,set3]at y0 y1 y2 y3 y4 y5 x0 x1 x2;simp [results,Tryz.results23,go_sem,y0,y1,y2,y3,y4,y5,x0,x1,x2]) rfl ?_
      exact mr
     ·have t3:(n==1099511627776)=false:=by simpa using g3
      have LK1:Hid (k1.length=16):=iH VS.out.1
      have LK2:Hid (k2.length=16):=iH VS.out.2.1
      have LD:Hid (data.length<=4096):=iH VC.out.2.2.2.2.2.1
      have HEXP:Hid (ex= -1\/(1<=ex/\ex<=65536)):=iH VC.out.2.2.2.2.2.2
      have OCI:Hid (ql ins=true/\ql p1=true/\ql p2=true):=iH ⟨decide_eq_true VC.out.2.2.1,decide_eq_true VC.out.2.2.2.1,decide_eq_true VC.out.2.2.2.2.1⟩
      obtain⟨N,hN⟩:∃N,Jh (n+1)=N:=⟨_,rfl⟩
      have LN:Hid (N.length=16):=iH (by rw [<-hN]<;>rfl)
      have HNX:Hid (∀(va vb:Value) (w:World),Bs w w.heap.size va k1->Bs w w.heap.size vb k2->Calls Tryz.prog 49 #[.agg #[va,vb,.int .i64 n]] w fun e w'=>∃x y z,e=.returned (.agg #[x,y,.int .i64 (n+1),z])/\Bs w' w'.heap.size x k1/\Bs w' w'.heap.size y k2/\Bs w' w'.heap.size z N/\Below w.heap.size w w'):=iH (fun va vb w h1 h2=>by rw [<-hN];exact yo va vb k1 k2 n VS.out.2.2.1 VS.out.2.2.2 w h1 h2)
      have R:Hid (qd k1 k2 n ⟨m,ins,p1,p2,data,ex⟩=match x6 k2 N (xB ((m:Int)+12) ins p1 p2) ((j6 k1 N data).app (qf ex))with
       |.error e=>(e,zC,[],[],0)
       |.ok b=>(0,⟨(m:Int)+12,ins,p1,p2,b,65536⟩,k1,k2,n+1)):=iH (by unfold qd;rw [iF (by rw [HVS.out];simp),iF (by rw [HVC.out];simp),iF (by rw [GC.out];simp),iF g3,hN]<;>rfl)
      have G3:=iH g3
      obtain⟨oe,hoe⟩:∃o,(ex != -1)=o:=⟨_,rfl⟩
      have HOE:=iH hoe
      clear hN g1 g2 g3 a1 o1 hm
      go_enter Tryz.func23,Tryz.ntmps23
      go_upto_region 1 with fail
      rw [<-HWS.out,<-HWC.out,<-HW2.out,<-HW3.out]
      obtain⟨f0,f1,f2⟩:=CS.out wa iB
      go_upto_region 6 with (first
       |(go_at_call 49;refine(HNX.out _ _ wc (H1.out.lift HBC.out) (H2.out.lift HBC.out)).mono ?_;rintro e wn ⟨x,y,z,rfl,hx,hy,hz,hb⟩;obtain⟨xA,xc,hp⟩:=Bs.formL hx;subst hp;obtain⟨yA,yc,hp⟩:=Bs.formL hy;subst hp;obtain⟨zA,zc,hp⟩:=Bs.formL hz;subst hp;have HX:=iH hx;have HY:=iH hy;have HZ:=iH hz;have HBN:=iH (HBC.out.trans (hb.mono HBC.out.size));obtain⟨u0,u1,u2,u3,uf⟩:=ki (zj wn);have uf0:=uf 0;have uf1:=uf 1;have uf2:=uf 2;have uf3:=uf 3;clear uf hx hy hz hb)
       |(go_at_call 48;have M1:=HBV;go_loud(refine(kN _ _ _ wv (HCV.out wv HBV.out)).mono ?_;rw [HVC.out];rintro e wc ⟨rfl,hb⟩;have hb2:=HBV.out.trans (hb.mono HBV.out.size);have HBC:=iH hb2;clear g0 g1 g2 g3 g4 g5;obtain⟨g0,g1,g2,g3,g4,g5⟩:=CC.out wc hb2;clear f0 f1 f2;obtain⟨f0,f1,f2⟩:=CS.out wc hb2;clear hb hb2))
       |(go_at_call 47;refine(js _ k1 k2 n _ wa HSV.out).mono ?_;rw [HVS.out];rintro e wv ⟨rfl,hb⟩;have HBV:=iH hb;obtain⟨g0,g1,g2,g3,g4,g5⟩:=CC.out wv hb;clear hb))
      clear u0 u1 u2 u3 uf0 uf1 uf2 uf3 g0 g1 g2 g3 g4 g5 f0 f1 f2 a2 c1 t3
      obtain⟨wu,hwu⟩:∃wu,wu=wn.alloc (.cells #[.slice xA k1.length xc,.slice yA k2.length yc,.int .i64 (n+1),.slice zA N.length zc] 77):=⟨_,rfl⟩
      rw [<-hwu]
      have hbu:Below wn.heap.size wn wu:=by rw [hwu];exact iA
      have hur:wu.heap[wn.heap.size]?=some (.cells #[.slice xA k1.length xc,.slice yA k2.length yc,.int .i64 (n+1),.slice zA N.length zc] 77 (0,0)):=by rw [hwu];exact iN
      have hult:=(iG hur)
      have CU:Hid (∀W,Below wu.heap.size wu W->W.cell? ⟨wn.heap.size,0,none⟩=some (.slice xA k1.length xc)/\W.cell? ⟨wn.heap.size,1,none⟩=some (.slice yA k2.length yc)/\W.cell? ⟨wn.heap.size,2,none⟩=some (.int .i64 (n+1))/\W.cell? ⟨wn.heap.size,3,none⟩=some (.slice zA N.length zc)):=iH fun W h=>(by obtain⟨a,b,c,d,_⟩:=ki ((h.block _ hult).trans hur);exact⟨a,b,c,d⟩)
      have RU:Hid (∀W,Below wu.heap.size wu W->W.heap[wn.heap.size]?=some (.cells #[.slice xA k1.length xc,.slice yA k2.length yc,.int .i64 (n+1),.slice zA N.length zc] 77 (0,0))):=iH fun W h=>(h.block _ hult).trans hur
      have HBAU:=iH (HBN.out.trans (hbu.mono HBN.out.size))
      have XU:=iH (HX.out.lift hbu);have YU:=iH (HY.out.lift hbu);have ZU:=iH (HZ.out.lift hbu);have DU:=iH (H3.out.lift HBAU.out)
      clear hwu hbu hur hult
      obtain⟨j0,j1,j2,j3⟩:=CU.out wu iB
      obtain⟨g0,g1,g2,g3,g4,g5⟩:=CC.out wu HBAU.out
      obtain⟨f0,f1,f2⟩:=CS.out wu HBAU.out
      go_upto_if 52 with (go_at_call 50;refine(KN _ _ _ _ _ k1 N data LK1.out LN.out LD.out wu XU.out ZU.out DU.out).mono ?_;rintro e wk ⟨o,rfl,ho,hb⟩;obtain⟨oA,oc,hp⟩:=ho.form;subst hp;have HO:=iH ho;have HBK:=iH hb;clear g0 g1 g2 g3 g4 g5;obtain⟨g0,g1,g2,g3,g4,g5⟩:=CC.out wk (HBAU.out.trans (hb.mono HBAU.out.size));clear ho hb j0 j1 j2 j3 f0 f1 f2)
      clear g0 g1 g2 g3 g4 g5 hoe
      have HCL:Hid ((j6 k1 N data).len<=1000000000000):=iH (by unfold j6;split<;>simp [Ns.len])
      go_cut [8,9,10,11] from 53 to 72 (fun y8 _ _ _ wx=>∃A c,y8=.slice A ((j6 k1 N data).app (qf ex)).len c/\OwnN wx wu.heap.size (.slice A ((j6 k1 N data).app (qf ex)).len c) ((j6 k1 N data).app (qf ex))/\Below wu.heap.size wu wx)
      case first=>
       by_cases b0:ex= -1
       ·have HEX:Hid ((j6 k1 N data).app (qf ex)=j6 k1 N data):=iH (by unfold qf;rw [iT b0,Ns.app_nil])
        obtain rfl:oe=false:=by rw [<-HOE.out];simp [b0]
        clear b0
        obtain⟨g0,g1,g2,g3,g4,g5⟩:=CC.out wk (HBAU.out.trans (HBK.out.mono HBAU.out.size))
        go_wp2_with fail
        go_meet
        exact⟨oA,oc,by rw [HEX.out],by rw [HEX.out];exact HO.out,HBK.out⟩
       ·have be:1<=ex/\ex<=65536:=HEXP.out.resolve_left b0
        have be1:=be.1;have be2:=be.2
        clear be
        by_cases b1:256<ex
        ·have HE0:Hid (0<=ex):=iH (by omega)
         have TS:decide (ex>256)=true:=decide_eq_true (by omega)
         obtain rfl:oe=true:=by rw [<-HOE.out];simp;omega
         obtain⟨X7,hX7⟩:∃X,zI (ex % 65536)=X:=⟨_,rfl⟩
         have LX7:Hid (X7.length=2):=iH (by rw [<-hX7]<;>rfl)
         have HOC:Hid (∀w,Calls Tryz.prog 51 #[.int .i64 (ex % 65536),.int .i64 2] w fun e w'=>∃v',e=.returned (.tuple #[v',.int .i64 0])/\OwnB w' w.heap.size v' X7/\Below w.heap.size w w'):=iH (fun w=>by rw [<-hX7];exact Qw (ex % 65536) w (by omega) (by omega))
         have HEX:Hid ((j6 k1 N data).app (qf ex)=(j6 k1 N data).app (.cons 151 X7 .nil .nil)):=iH (by unfold qf;rw [iF (by omega),iT (by omega),hX7])
         clear hX7 b0 b1
         obtain⟨g0,g1,g2,g3,g4,g5⟩:=CC.out wk (HBAU.out.trans (HBK.out.mono HBAU.out.size))
         go_upto_region 11 with fail
         clear g0 g1 g2 g3 g4 g5 TS
         refine jc 13 [some 57,some 58,some 59,some 60,some 61,some 62,some 63,some 64,some 56,some 65,some 66,some 10,some 11] [[],[0],[],[2],[2,3],[0,1,2,3,4],[],[0,1,2,3,4,5,6],[0,1,2,3,4,5,6,7],[0,1,2,3,4,5,6,7,8],[0,1,2,3,4,5,6,7,8],[0,1,2,3,4,5,6,7,8,9],[0,1,2,3,4,5,6,7,8,9,10,11]]
          (fun _ _ w1=>Below wk.heap.size wk w1) (fun w1 w2=>Below w1.heap.size w1 w2)
          [fun v _=>v 0=.pointer (some ⟨w.heap.size+1,5,none⟩),
           fun v _=>v 1=.int .i64 ex,
           fun v _=>v 2=.int .i64 2,
           fun v _=>v 3=.int .i64 16,
           fun v _=>v 4=.int .i64 65536,
           fun v _=>v 5=.int .i64 (ex % 65536),
           fun v _=>v 6=.int .i64 2,
           fun v w1=>∃a c,v 7=.tuple #[.slice a (X7).length c,.int .i64 0]/\BsS w1 (New wk w1) (.slice a (X7).length c) (X7),
           fun v w1=>∃a c,v 8=.tuple #[.slice a (X7).length c,.int .i64 0]/\BsS w1 (New wk w1) (.slice a (X7).length c) (X7),
           fun v w1=>∃a c,v 9=.slice a (X7).length c/\BsS w1 (New wk w1) (.slice a (X7).length c) (X7),
           fun v _=>v 10=.int .i64 0,
           fun v w1=>∃a c,v 11=.slice a (X7).length c/\BsS w1 (New wk w1) (.slice a (X7).length c) (X7),
           fun v _=>v 12=.int .i64 0]
          (by kernel_rfl) (by kernel_rfl) (fun _=>iB.drew) ?st2 ?steps2 ?tail2
         case st2=>
          exact m0x
         case steps2=>
          simp only [List.take_succ_cons,List.take_zero]
          refine(.cons ?_ (.cons ?_ (.cons ?_ (.cons ?_ (.cons ?_ (.cons ?_ (.cons ?_ (.cons ?_ (.cons ?_ (.cons ?_ (.cons ?_ (.cons ?_ (.cons ?_ .nil)))))))))))))
          all_goals(intro L v w1 hJ hL hA hF K hK;simp only [jf,Act.put,Nat.zero_add,Nat.reduceAdd,List.setIfInBounds_toArray,List.set_cons_zero,List.set_cons_succ]at hK |-)
          ·exact m6
          ·have e0:v 0=_:=hF 0 (hA 0 (by simp))
           obtain⟨c0,c1,c2,c3,c4,c5⟩:=CC.out _ (HBAU.out.trans ((HBK.out.trans (hJ.mono HBK.out.size)).mono HBAU.out.size))
           simp only [e0]at hK
           exact m6
          ·exact m6
          ·have e2:v 2=_:=hF 2 (hA 2 (by simp))
           simp only [e2]at hK
           exact m6
          ·have e3:v 3=_:=hF 3 (hA 3 (by simp))
           simp only [e3]at hK
           exact m6
          ·have e1:v 1=_:=hF 1 (hA 1 (by simp))
           have e4:v 4=_:=hF 4 (hA 4 (by simp))
           simp only [e1,e4]at hK
           go_simp
           refine hK _ _ hJ iB ?_
           show Value.int .i64 (Int.tmod ex 65536)=_
           rw [Int.tmod_eq_emod_of_nonneg HE0.out]
          ·exact m6
          ·have e5:v 5=_:=hF 5 (hA 5 (by simp))
           have e6:v 6=_:=hF 6 (hA 6 (by simp))
           simp only [e5,e6]at hK
           go_simp
           refine(HOC.out w1).mono ?_
           rintro e w5 ⟨v5,rfl,ho,hb⟩
           have hx:BsS w5 (New wk w5) v5 (X7):=(ho.out (by have:=LX7.out;omega) w1 iL).keep fun g hg _=>⟨rfl,Nat.le_trans hJ.size hg.1,hg.2⟩
           exact m7
          ·exact mg
          ·exact ma
          ·exact mw
          ·exact mh
          ·have e10:v 10=_:=hF 10 (hA 10 (by simp))
           simp only [e10]at hK
           exact m6
         case tail2=>
          exact m0j
        ·have HE0:Hid (0<=ex):=iH (by omega)
         have TS:decide (ex>256)=false:=decide_eq_false (by omega)
         obtain rfl:oe=true:=by rw [<-HOE.out];simp;omega
         obtain⟨X7,hX7⟩:∃X,Ux (ex % 256)=X:=⟨_,rfl⟩
         have LX7:Hid (X7.length=1):=iH (by rw [<-hX7]<;>rfl)
         have HOC:Hid (∀w,Calls Tryz.prog 51 #[.int .i64 (ex % 256),.int .i64 1] w fun e w'=>∃v',e=.returned (.tuple #[v',.int .i64 0])/\OwnB w' w.heap.size v' X7/\Below w.heap.size w w'):=iH (fun w=>by rw [<-hX7];exact j2v (ex % 256) w (by omega) (by omega))
         have HEX:Hid ((j6 k1 N data).app (qf ex)=(j6 k1 N data).app (.cons 151 X7 .nil .nil)):=iH (by unfold qf;rw [iF (by omega),iF (by omega),hX7])
         clear hX7 b0 b1
         obtain⟨g0,g1,g2,g3,g4,g5⟩:=CC.out wk (HBAU.out.trans (HBK.out.mono HBAU.out.size))
         go_upto_region 11 with fail
         clear g0 g1 g2 g3 g4 g5 TS
         refine jc 13 [some 57,some 58,some 59,some 60,some 61,some 62,some 63,some 64,some 56,some 65,some 66,some 10,some 11] [[],[0],[],[2],[2,3],[0,1,2,3,4],[],[0,1,2,3,4,5,6],[0,1,2,3,4,5,6,7],[0,1,2,3,4,5,6,7,8],[0,1,2,3,4,5,6,7,8],[0,1,2,3,4,5,6,7,8,9],[0,1,2,3,4,5,6,7,8,9,10,11]]
          (fun _ _ w1=>Below wk.heap.size wk w1) (fun w1 w2=>Below w1.heap.size w1 w2)
          [fun v _=>v 0=.pointer (some ⟨w.heap.size+1,5,none⟩),
           fun v _=>v 1=.int .i64 ex,
           fun v _=>v 2=.int .i64 1,
           fun v _=>v 3=.int .i64 8,
           fun v _=>v 4=.int .i64 256,
           fun v _=>v 5=.int .i64 (ex % 256),
           fun v _=>v 6=.int .i64 1,
           fun v w1=>∃a c,v 7=.tuple #[.slice a (X7).length c,.int .i64 0]/\BsS w1 (New wk w1) (.slice a (X7).length c) (X7),
           fun v w1=>∃a c,v 8=.tuple #[.slice a (X7).length c,.int .i64 0]/\BsS w1 (New wk w1) (.slice a (X7).length c) (X7),
           fun v w1=>∃a c,v 9=.slice a (X7).length c/\BsS w1 (New wk w1) (.slice a (X7).length c) (X7),
           fun v _=>v 10=.int .i64 0,
           fun v w1=>∃a c,v 11=.slice a (X7).length c/\BsS w1 (New wk w1) (.slice a (X7).length c) (X7),
           fun v _=>v 12=.int .i64 0]
          (by kernel_rfl) (by kernel_rfl) (fun _=>iB.drew) ?st1 ?steps1 ?tail1
         case st1=>
          exact m0x
         case steps1=>
          simp only [List.take_succ_cons,List.take_zero]
          refine(.cons ?_ (.cons ?_ (.cons ?_ (.cons ?_ (.cons ?_ (.cons ?_ (.cons ?_ (.cons ?_ (.cons ?_ (.cons ?_ (.cons ?_ (.cons ?_ (.cons ?_ .nil)))))))))))))
          all_goals(intro L v w1 hJ hL hA hF K hK;simp only [jf,Act.put,Nat.zero_add,Nat.reduceAdd,List.setIfInBounds_toArray,List.set_cons_zero,List.set_cons_succ]at hK |-)
          ·exact m6
          ·have e0:v 0=_:=hF 0 (hA 0 (by simp))
           obtain⟨c0,c1,c2,c3,c4,c5⟩:=CC.out _ (HBAU.out.trans ((HBK.out.trans (hJ.mono HBK.out.size)).mono HBAU.out.size))
           simp only [e0]at hK
           exact m6
          ·exact m6
          ·have e2:v 2=_:=hF 2 (hA 2 (by simp))
           simp only [e2]at hK
           exact m6
          ·have e3:v 3=_:=hF 3 (hA 3 (by simp))
           simp only [e3]at hK
           exact m6
          ·have e1:v 1=_:=hF 1 (hA 1 (by simp))
           have e4:v 4=_:=hF 4 (hA 4 (by simp))
           simp only [e1,e4]at hK
           go_simp
           refine hK _ _ hJ iB ?_
           show Value.int .i64 (Int.tmod ex 256)=_
           rw [Int.tmod_eq_emod_of_nonneg HE0.out]
          ·exact m6
          ·have e5:v 5=_:=hF 5 (hA 5 (by simp))
           have e6:v 6=_:=hF 6 (hA 6 (by simp))
           simp only [e5,e6]at hK
           go_simp
           refine(HOC.out w1).mono ?_
           rintro e w5 ⟨v5,rfl,ho,hb⟩
           have hx:BsS w5 (New wk w5) v5 (X7):=(ho.out (by have:=LX7.out;omega) w1 iL).keep fun g hg _=>⟨rfl,Nat.le_trans hJ.size hg.1,hg.2⟩
           exact m7
          ·exact mg
          ·exact ma
          ·exact mw
          ·exact mh
          ·have e10:v 10=_:=hF 10 (hA 10 (by simp))
           simp only [e10]at hK
           exact m6
         case tail1=>
          exact m0j
      case rest=>
      obtain⟨lA,lc,rfl,hO,hBX⟩:=hcut
      have HOX:=iH hO;have HBX:=iH hBX;have HBAX:=iH (HBAU.out.trans (hBX.mono HBAU.out.size))
      clear hO hBX
      obtain⟨g0,g1,g2,g3,g4,g5⟩:=CC.out wc HBAX.out
      obtain⟨n0,n1,n2,n3,n4,n5,nf⟩:=j8 (x9 wc)
      have nf0:=nf 0;have nf1:=nf 1;have nf2:=nf 2;have nf3:=nf 3;have nf4:=nf 4;have nf5:=nf 5
      clear nf
      go_upto_region 16 with fail
      have hby:Below wc.heap.size wc (wc.alloc (.cells #[.int .i64 ((m:Int)+12),.int .i64 ins,.int .i64 p1,.int .i64 p2,.slice A3 data.length d3,.int .i64 65536] 32)):=iA
      have hry:(wc.alloc (.cells #[.int .i64 ((m:Int)+12),.int .i64 ins,.int .i64 p1,.int .i64 p2,.slice A3 data.length d3,.int .i64 65536] 32)).heap[wc.heap.size]?=some (.cells #[.int .i64 ((m:Int)+12),.int .i64 ins,.int .i64 p1,.int .i64 p2,.slice A3 data.length d3,.int .i64 65536] 32 (0,0)):=iN
      obtain⟨wy,hwy⟩:∃wy,wy=wc.alloc (.cells #[.int .i64 ((m:Int)+12),.int .i64 ins,.int .i64 p1,.int .i64 p2,.slice A3 data.length d3,.int .i64 65536] 32):=⟨_,rfl⟩
      rw [<-hwy]at hby hry |-
      have hylt:=(iG hry)
      have CY:Hid (∀W,Below wy.heap.size wy W->W.cell? ⟨wc.heap.size,0,none⟩=some (.int .i64 ((m:Int)+12))/\W.cell? ⟨wc.heap.size,1,none⟩=some (.int .i64 ins)/\W.cell? ⟨wc.heap.size,2,none⟩=some (.int .i64 p1)/\W.cell? ⟨wc.heap.size,3,none⟩=some (.int .i64 p2)/\W.cell? ⟨wc.heap.size,4,none⟩=some (.slice A3 data.length d3)/\W.cell? ⟨wc.heap.size,5,none⟩=some (.int .i64 65536)):=iH fun W h=>(by obtain⟨a,b,c,d,e,f,_⟩:=j8 ((h.block _ hylt).trans hry);exact⟨a,b,c,d,e,f⟩)
      have RY:Hid (∀W,Below wy.heap.size wy W->W.heap[wc.heap.size]?=some (.cells #[.int .i64 ((m:Int)+12),.int .i64 ins,.int .i64 p1,.int .i64 p2,.slice A3 data.length d3,.int .i64 65536] 32 (0,0))):=iH fun W h=>(h.block _ hylt).trans hry
      have HYL:=iH hylt
      have HUC:=iH HBX.out.size
      have HBUY:=iH (HBX.out.trans (hby.mono HBX.out.size))
      have HOY:=iH (HOX.out.below hby)
      have DY:=iH (DU.out.lift HBUY.out)
      have NEO:Hid ((Value.slice lA ((j6 k1 N data).app (qf ex)).len lc).ownBlock≠some wc.heap.size):=iH (fun e=>by have:=(OwnN.lt HOX.out e).2;omega)
      obtain⟨H9,hH9⟩:∃H,xB ((m:Int)+12) ins p1 p2=H:=⟨_,rfl⟩
      have LH:Hid (H9.length<=100):=iH (by rw [<-hH9,yj];decide)
      have HHD:Hid (∀(v:Value) (w:World),Jm w (·<w.heap.size) v ⟨(m:Int)+12,ins,p1,p2,data,65536⟩->Calls Tryz.prog 53 #[v] w fun e w'=>∃v',e=.returned v'/\BsS w' (New w w') v' H9/\Below w.heap.size w w'):=iH (fun v w h=>by have hq:=Yt v ((m:Int)+12) ins p1 p2 data 65536 _ w h (j4b HM.out) OCI.out.1 OCI.out.2.1 OCI.out.2.2;rw [hH9]at hq;exact hq)
      rw [hH9]at R
      have LLA:Hid (((j6 k1 N data).app (qf ex)).all<=10):=iH (by unfold j6 qf;split<;>split<;>simp [Ns.app,Ns.all])
      have LLE:Hid (((j6 k1 N data).app (qf ex)).enc.length<=10000):=iH (j3r k1 N data ex LD.out)
      clear hby hry hwy hylt hH9 n0 n1 n2 n3 n4 n5 nf0 nf1 nf2 nf3 nf4 nf5 g0 g1 g2 g3 g4 g5
      obtain⟨r,hr⟩:∃r,x6 k2 N H9 ((j6 k1 N data).app (qf ex))=r:=⟨_,rfl⟩
      have NEG:Hid (∀g,wy.heap.size<=g->(Value.slice lA ((j6 k1 N data).app (qf ex)).len lc).ownBlock≠some g):=iH (fun g hg e=>by have:=(OwnN.lt HOX.out e).2;have:=HYL.out;omega)
      have HSL:Hid (∀(hA:Option Addr) (hc:Nat) (w:World),Below wu.heap.size wu w->Below wy.heap.size wy w->Bs w w.heap.size (.slice hA H9.length hc) H9->Calls Tryz.prog 52 #[.agg #[.slice xA k1.length xc,.slice yA k2.length yc,.int .i64 (n+1),.slice zA N.length zc],.slice hA H9.length hc,.slice lA ((j6 k1 N data).app (qf ex)).len lc] w (Zf r wu.heap.size (.slice lA ((j6 k1 N data).app (qf ex)).len lc) w)):=iH (fun hA hc w h1 h2 h3=>by rw [<-hr];exact Xx (.slice xA k1.length xc) (.slice yA k2.length yc) (.slice zA N.length zc) (.slice hA H9.length hc) (.slice lA ((j6 k1 N data).app (qf ex)).len lc) (n+1) k2 N H9 ((j6 k1 N data).app (qf ex)) LK2.out LN.out LH.out LLA.out LLE.out wu.heap.size w (YU.out.lift h1) (ZU.out.lift h1) h3 (HOY.out.below h2) h1.size)
      rw [hr]at R
      have HRE:=iH hr
      clear hr
      refine jc 10 [some 79,some 80,some 81,some 82,some 83,some 78,some 84,some 85,some 13,some 14] [[],[],[1],[],[0,1,2,3],[0,1,2,3,4],[0,1,2,3,4,5],[0,1,2,3,4,5],[0,1,2,3,4,5,6],[0,1,2,3,4,5,6,7,8]]
       (fun L _ w1=>wy.grownBy w1 (Value.slice lA ((j6 k1 N data).app (qf ex)).len lc).ownBlock/\Below wu.heap.size wu w1/\(L 4=false->Below wy.heap.size wy w1)) (fun w1 w2=>w1.grownBy w2 (Value.slice lA ((j6 k1 N data).app (qf ex)).len lc).ownBlock)
       [fun v _=>v 0=.agg #[.slice xA k1.length xc,.slice yA k2.length yc,.int .i64 (n+1),.slice zA N.length zc],
        fun v _=>v 1=.agg #[.int .i64 ((m:Int)+12),.int .i64 ins,.int .i64 p1,.int .i64 p2,.slice A3 data.length d3,.int .i64 65536],
        fun v w1=>∃a c,v 2=.slice a (H9).length c/\BsS w1 (New wy w1) (.slice a (H9).length c) (H9),
        fun v _=>v 3=.slice lA ((j6 k1 N data).app (qf ex)).len lc,
        fun v w1=>∃a c,v 4=.tuple #[.slice a ((bytesOf r)).length c,.int .i64 (jV r)]/\BsS w1 (New wy w1) (.slice a ((bytesOf r)).length c) ((bytesOf r)),
        fun v w1=>∃a c,v 5=.tuple #[.slice a ((bytesOf r)).length c,.int .i64 (jV r)]/\BsS w1 (New wy w1) (.slice a ((bytesOf r)).length c) ((bytesOf r)),
        fun v w1=>∃a c,v 6=.slice a ((bytesOf r)).length c/\BsS w1 (New wy w1) (.slice a ((bytesOf r)).length c) ((bytesOf r)),
        fun v _=>v 7=.int .i64 (jV r),
        fun v w1=>∃a c,v 8=.slice a ((bytesOf r)).length c/\BsS w1 (New wy w1) (.slice a ((bytesOf r)).length c) ((bytesOf r)),
        fun v _=>v 9=.int .i64 (jV r)]
       (by kernel_rfl) (by kernel_rfl) (fun _=>⟨jD (iB.drew) _,HBUY.out.drew,fun _=>iB.drew⟩) ?st9 ?steps9 ?tail9
      case st9=>
       exact(.cons (fun _ _ _ _ _ _ h=>h) (.cons (fun _ _ _ _ _ _ h=>h) (.cons (fun _ _ _ _ _ hr ⟨a,c,e,h⟩=>⟨a,c,e,BsS.keep h fun g hg hl=>⟨hr.block g hl (NEG.out g hg.1).symm,hg.1,iZ hl hr.size⟩⟩) (.cons (fun _ _ _ _ _ _ h=>h) (.cons (fun _ _ _ _ _ hr ⟨a,c,e,h⟩=>⟨a,c,e,BsS.keep h fun g hg hl=>⟨hr.block g hl (NEG.out g hg.1).symm,hg.1,iZ hl hr.size⟩⟩) (.cons (fun _ _ _ _ _ hr ⟨a,c,e,h⟩=>⟨a,c,e,BsS.keep h fun g hg hl=>⟨hr.block g hl (NEG.out g hg.1).symm,hg.1,iZ hl hr.size⟩⟩) (.cons (fun _ _ _ _ _ hr ⟨a,c,e,h⟩=>⟨a,c,e,BsS.keep h fun g hg hl=>⟨hr.block g hl (NEG.out g hg.1).symm,hg.1,iZ hl hr.size⟩⟩) (.cons (fun _ _ _ _ _ _ h=>h) (.cons (fun _ _ _ _ _ hr ⟨a,c,e,h⟩=>⟨a,c,e,BsS.keep h fun g hg hl=>⟨hr.block g hl (NEG.out g hg.1).symm,hg.1,iZ hl hr.size⟩⟩) (.cons (fun _ _ _ _ _ _ h=>h) .nil))))))))))
      case steps9=>
       simp only [List.take_succ_cons,List.take_zero]
       refine(.cons ?_ (.cons ?_ (.cons ?_ (.cons ?_ (.cons ?_ (.cons ?_ (.cons ?_ (.cons ?_ (.cons ?_ (.cons ?_ .nil))))))))))
       all_goals(intro L v w1 hJ hL hA hF K hK;simp only [jf,Act.put,Nat.zero_add,Nat.reduceAdd,List.setIfInBounds_toArray,List.set_cons_zero,List.set_cons_succ]at hK |-)
       ·obtain⟨c0,c1,c2,c3⟩:=CU.out _ hJ.2.1
        exact mD
       ·obtain⟨c0,c1,c2,c3,c4,c5,_⟩:=j8 ((hJ.1.block wc.heap.size HYL.out NEO.out.symm).trans (RY.out wy iB))
        exact mD
       ·have e1:v 1=_:=hF 1 (hA 1 (by simp))
        simp only [e1]at hK
        go_simp
        refine(HHD.out (.agg #[.int .i64 ((m:Int)+12),.int .i64 ins,.int .i64 p1,.int .i64 p2,.slice A3 data.length d3,.int .i64 65536]) w1 ⟨_,rfl,DU.out.lift hJ.2.1⟩).mono ?_
        rintro e w5 ⟨v5,rfl,ho,hb⟩
        have hx:BsS w5 (New wy w5) v5 H9:=ho.keep fun g hg _=>⟨rfl,Nat.le_trans hJ.1.size hg.1,hg.2⟩
        obtain⟨A5,C5,hv5⟩:=Bs.formL hx
        subst hv5
        exact hK _ _ ⟨kT hJ.1 (jD hb _),hJ.2.1.trans (hb.mono hJ.2.1.size),fun h=>(hJ.2.2 (by simpa [ji]using h)).trans (hb.mono hJ.1.size)⟩ (jD hb _) ⟨_,_,rfl,hx⟩
       ·exact mD
       ·have e0:v 0=_:=hF 0 (hA 0 (by simp))
        have e3:v 3=_:=hF 3 (hA 3 (by simp))
        simp only [e0,e3]at hK
        obtain⟨a2,c2,e2,h2⟩:∃a c,v 2=_/\_:=hF 2 (hA 2 (by simp))
        simp only [e2]at hK
        go_simp
        refine(HSL.out a2 c2 w1 hJ.2.1 (hJ.2.2 hL) (BsS.keep h2 fun g hg _=>⟨rfl,hg.2⟩)).mono ?_
        rintro e w5 ⟨v5,rfl,hs,hb,hg⟩
        have hx:BsS w5 (New wy w5) v5 (bytesOf r):=hs.keep fun g hg _=>⟨rfl,Nat.le_trans hJ.1.size hg.1,hg.2⟩
        obtain⟨A5,C5,hv5⟩:=Bs.formL hx
        subst hv5
        exact hK _ _ ⟨kT hJ.1 hg,hJ.2.1.trans hb,fun h=>absurd h (by simp [ji])⟩ hg ⟨_,_,rfl,hx⟩
       ·obtain⟨a4,c4,e4,h4⟩:∃a c,v 4=_/\_:=hF 4 (hA 4 (by simp))
        simp only [e4]at hK
        go_simp
        exact hK _ _ ⟨hJ.1,hJ.2.1,fun h=>hJ.2.2 (by simpa [ji]using h)⟩ (World.grownBy.refl _ _) ⟨_,_,rfl,h4⟩
       ·obtain⟨a5,c5,e5,h5⟩:∃a c,v 5=_/\_:=hF 5 (hA 5 (by simp))
        simp only [e5]at hK
        go_simp
        exact hK _ _ ⟨hJ.1,hJ.2.1,fun h=>hJ.2.2 (by simpa [ji]using h)⟩ (World.grownBy.refl _ _) ⟨_,_,rfl,h5⟩
       ·obtain⟨a5,c5,e5,h5⟩:∃a c,v 5=_/\_:=hF 5 (hA 5 (by simp))
        simp only [e5]at hK
        go_simp
        exact hK _ _ ⟨hJ.1,hJ.2.1,fun h=>hJ.2.2 (by simpa [ji]using h)⟩ (World.grownBy.refl _ _) rfl
       ·obtain⟨a6,c6,e6,h6⟩:∃a c,v 6=_/\_:=hF 6 (hA 6 (by simp))
        simp only [e6]at hK
        go_simp
        exact hK _ _ ⟨hJ.1,hJ.2.1,fun h=>hJ.2.2 (by simpa [ji]using h)⟩ (World.grownBy.refl _ _) ⟨_,_,rfl,h6⟩
       ·have e7:v 7=_:=hF 7 (hA 7 (by simp))
        simp only [e7]at hK
        exact mD
      case tail9=>
       intro v w1 hJ hF
       have e0:v 0=_:=hF 0 (by simp)
       have e1:v 1=_:=hF 1 (by simp)
       have e3:v 3=_:=hF 3 (by simp)
       have e7:v 7=_:=hF 7 (by simp)
       have e9:v 9=_:=hF 9 (by simp)
       obtain⟨a8,c8,e8,h8⟩:∃a c,v 8=_/\_:=hF 8 (by simp)
       simp only [List.drop_succ_cons,List.drop_zero,jf,Act.put,Nat.zero_add,Nat.reduceAdd,List.setIfInBounds_toArray,List.set_cons_zero,List.set_cons_succ]
       simp only [e8,e9]
       clear e0 e1 e3 e7 e8 e9
       have HV3:=iH (BsS.keep h8 (w':=w1) (S':=(·<w1.heap.size)) fun g hg _=>⟨rfl,hg.2⟩)
       obtain⟨w3,rfl⟩:∃w3:World,w3=w1:=⟨_,rfl⟩
       have hrl:=(hJ.1.block wc.heap.size HYL.out NEO.out.symm).trans (RY.out wy iB)
       have RL3:=iH hrl
       have HBU3:=iH hJ.2.1
       have HB3:=iH (HBAU.out.trans (hJ.2.1.mono HBAU.out.size))
       clear h8 hJ hF
       obtain⟨vA,hvA⟩:∃vA,vA=a8:=⟨_,rfl⟩
       obtain⟨vc,hvc⟩:∃vc,vc=c8:=⟨_,rfl⟩
       rw [<-hvA,<-hvc]at HV3 |-
       clear hvA hvc
       rcases r with x|b
       ·have hx:=XW HRE.out
        have t9:(x != 0)=true:=by simpa using hx
        clear hx hrl
        rw [show jV (.error x:Except Int (List UInt8))=x from rfl]
        go_upto_region 18 with fail
        obtain⟨r0,r1,r2,r3,r4,r5,rf⟩:=j8 (R2.out w3 HB3.out);have rf0:=rf 0;have rf1:=rf 1;have rf2:=rf 2;have rf3:=rf 3;have rf4:=rf 4;have rf5:=rf 5;clear rf;obtain⟨s0,s1,s2,sf⟩:=j7 (R3.out w3 HB3.out);have sf0:=sf 0;have sf1:=sf 1;have sf2:=sf 2;clear sf
        go_wp2_with fail
        obtain⟨q2,q3⟩:=jq (R2.out w3 HB3.out) (R3.out w3 HB3.out) (.int .i64 0) (.int .i64 0) (.int .i64 0) (.int .i64 0) (.slice none 0 0) (.int .i64 0) (.slice none 0 0) (.slice none 0 0) (.int .i64 0)
        obtain⟨y0,y1,y2,y3,y4,y5,_⟩:=j8 q2
        obtain⟨x0,x1,x2,_⟩:=j7 q3
        refine bodyPost_ret (v:=.tuple #[.agg #[.int .i64 0,.int .i64 0,.int .i64 0,.int .i64 0,.slice none 0 0,.int .i64 0],.agg #[.slice none 0 0,.slice none 0 0,.int .i64 0],.int .i64 x]) (by simp only [set6,set3]at y0 y1 y2 y3 y4 y5 x0 x1 x2;simp [results,Tryz.results23,go_sem,y0,y1,y2,y3,y4,y5,x0,x1,x2]) rfl ?_
        exact m29
       ·rw [show jV (.ok b:Except Int (List UInt8))=0 from rfl,show bytesOf (.ok b:Except Int (List UInt8))=b from rfl]
        rw [show bytesOf (.ok b:Except Int (List UInt8))=b from rfl]at HV3
        obtain⟨z0,z1,z2,z3,z4,z5,zf⟩:=j8 hrl
        have zf4:=zf 4
        clear zf hrl
        go_upto_region 20 with fail
        obtain⟨w4,hw4⟩:∃w4,w4=w3.setCell ⟨wc.heap.size,4,none⟩ (.slice vA b.length vc):=⟨_,rfl⟩
        rw [<-hw4]
        clear z0 z1 z2 z3 z4 z5 zf4
        have hb4:Below wu.heap.size wu w4:=by rw [hw4];exact HBU3.out.setCell HUC.out _
        have h4:Below wa.heap.size wa w4:=HBAU.out.trans (hb4.mono HBAU.out.size)
        obtain⟨wd,hwd⟩:∃wd,wd=w4.drew:=⟨_,rfl⟩
        have HWD:=iH hwd
        have RL4:Hid (wd.heap[wc.heap.size]?=some (.cells #[.int .i64 ((m:Int)+12),.int .i64 ins,.int .i64 p1,.int .i64 p2,.slice vA b.length vc,.int .i64 65536] 32 (0,0))):=iH (by rw [hwd,hw4];exact jg (o:=4) RL3.out)
        have RU4:Hid (wd.heap[wn.heap.size]?=some (.cells #[.slice xA k1.length xc,.slice yA k2.length yc,.int .i64 (n+1),.slice zA N.length zc] 77 (0,0))):=iH (by rw [hwd];exact RU.out w4 hb4)
        have RR4:Hid (wd.heap[(w.heap.size+1+1)]?=some (.cells #[.int .i64 0,.int .i64 0,.int .i64 0,.int .i64 0,.slice none 0 0,.int .i64 0] 32 (0,0))):=iH (by rw [hwd];exact R2.out w4 h4)
        have RS4:Hid (wd.heap[(w.heap.size+1+1+1)]?=some (.cells #[.slice none 0 0,.slice none 0 0,.int .i64 0] 29 (0,0))):=iH (by rw [hwd];exact R3.out w4 h4)
        have HB4:Hid (Below w.heap.size w wd):=iH (by rw [hwd];exact(HB.out.trans (h4.mono HB.out.size)).drew)
        have V4:Hid (Bs wd wd.heap.size (.slice vA b.length vc) b):=iH (by have h:=Bs.setr HV3.out (.slice vA b.length vc) RL3.out ZB (k:=4);rw [<-hw4]at h;rw [hwd];exact h)
        have X4:Hid (Bs wd wd.heap.size (.slice xA k1.length xc) k1):=iH (by rw [hwd];exact XU.out.lift hb4.drew)
        have Y4:Hid (Bs wd wd.heap.size (.slice yA k2.length yc) k2):=iH (by rw [hwd];exact YU.out.lift hb4.drew)
        have NE2:Hid (wc.heap.size≠(w.heap.size+1+1)):=iH (by have:=HZA.out;have:=HBAU.out.size;have:=HBX.out.size;omega)
        have NE3:Hid (wn.heap.size≠(w.heap.size+1+1)):=iH (by have:=HZA.out;have:=HBN.out.size;omega)
        clear hw4 hb4 h4 hwd
        refine jc 4 [some 93,some 94,some 95,none] [[],[],[1],[0]]
         (J6 wd (w.heap.size+1+1) 3 (.int .i64 ((m:Int)+12)) (.int .i64 ins) (.int .i64 p1) (.int .i64 p2) (.slice vA b.length vc) (.int .i64 65536)) (fun _ _=>True)
         [fun v _=>v 0=.agg #[.int .i64 ((m:Int)+12),.int .i64 ins,.int .i64 p1,.int .i64 p2,.slice vA b.length vc,.int .i64 65536],
          fun v _=>v 1=.pointer (some ⟨wn.heap.size,0,none⟩),
          fun v _=>v 2=.agg #[.slice xA k1.length xc,.slice yA k2.length yc,.int .i64 (n+1)],
          fun v w1=>True]
         (by kernel_rfl) (by kernel_rfl) (fun _=>HWD.out.symm.trans (iF (by decide)).symm) ?st7 ?steps7 ?tail7
        case st7=>
         exact m2p
        case steps7=>
         simp only [List.take_succ_cons,List.take_zero]
         refine(.cons ?_ (.cons ?_ (.cons ?_ (.cons ?_ .nil))))
         all_goals(intro L v w1 hJ hL hA hF K hK;simp only [jf,Act.put,Nat.zero_add,Nat.reduceAdd,List.setIfInBounds_toArray,List.set_cons_zero,List.set_cons_succ]at hK |-)
         ·exact m13
         ·exact m1m
         ·exact m1t
         ·have e0:v 0=_:=hF 0 (hA 0 (by simp))
          simp only [e0]at hK
          obtain rfl:=J6.old hJ hL
          obtain⟨r0,r1,r2,r3,r4,r5,rf⟩:=j8 RR4.out
          have rf0:=rf 0;have rf1:=rf 1;have rf2:=rf 2;have rf3:=rf 3;have rf4:=rf 4;have rf5:=rf 5;clear rf
          have hJ2:=iH hJ;have hL2:=iH hL
          clear hJ hL hF hA
          exact m1z
        case tail7=>
         intro v w1 hJ hF
         have e0:v 0=_:=hF 0 (by simp)
         have e1:v 1=_:=hF 1 (by simp)
         have e2:v 2=_:=hF 2 (by simp)
         simp only [List.drop_succ_cons,List.drop_zero,jf,Act.put,Nat.zero_add,Nat.reduceAdd,List.setIfInBounds_toArray,List.set_cons_zero,List.set_cons_succ]
         simp only [e2]
         clear e0 e1 e2 hF
         obtain rfl:=J6.all hJ rfl
         have RS5:Hid ((set6 wd (w.heap.size+1+1) (.int .i64 ((m:Int)+12)) (.int .i64 ins) (.int .i64 p1) (.int .i64 p2) (.slice vA b.length vc) (.int .i64 65536)).heap[(w.heap.size+1+1+1)]?=some (.cells #[.slice none 0 0,.slice none 0 0,.int .i64 0] 29 (0,0))):=iH ((jQ (by omega)).trans RS4.out)
         obtain⟨s0,s1,s2,sf⟩:=j7 RS5.out
         have sf0:=sf 0;have sf1:=sf 1;have sf2:=sf 2;clear sf
         obtain⟨w5,hw5⟩:∃w5,w5=set6 wd (w.heap.size+1+1) (.int .i64 ((m:Int)+12)) (.int .i64 ins) (.int .i64 p1) (.int .i64 p2) (.slice vA b.length vc) (.int .i64 65536):=⟨_,rfl⟩
         rw [<-hw5]at s0 s1 s2 sf0 sf1 sf2 |-
         have HW5:=iH hw5
         clear hw5 hJ
         go_wp2_with fail
         have q:=jq (W:=wd) RR4.out RS4.out (.int .i64 ((m:Int)+12)) (.int .i64 ins) (.int .i64 p1) (.int .i64 p2) (.slice vA b.length vc) (.int .i64 65536) (.slice xA k1.length xc) (.slice yA k2.length yc) (.int .i64 (n+1))
         rw [<-HW5.out]at q
         obtain⟨q2,q3⟩:=q
         obtain⟨y0,y1,y2,y3,y4,y5,_⟩:=j8 q2
         obtain⟨x0,x1,x2,_⟩:=j7 q3
         refine bodyPost_ret (v:=.tuple #[.agg #[.int .i64 ((m:Int)+12),.int .i64 ins,.int .i64 p1,.int .i64 p2,.slice vA b.length vc,.int .i64 65536],.agg #[.slice xA k1.length xc,.slice yA k2.length yc,.int .i64 (n+1)],.int .i64 0]) (by simp only [set3]at y0 y1 y2 y3 y4 y5 x0 x1 x2;simp [results,Tryz.results23,go_sem,y0,y1,y2,y3,y4,y5,x0,x1,x2]) rfl ?_
         rw [R.out]
         have hk:=fun(v:Value) (L:List UInt8) (h:Bs wd wd.heap.size v L)=>JA (W:=wd) RR4.out RS4.out (.int .i64 ((m:Int)+12)) (.int .i64 ins) (.int .i64 p1) (.int .i64 p2) (.slice vA b.length vc) (.int .i64 65536) (.slice xA k1.length xc) (.slice yA k2.length yc) (.int .i64 (n+1)) h
         rw [<-HW5.out]at hk
         have hbw:=jk (p:=(w.heap.size+1+1)) (a:=.int .i64 ((m:Int)+12)) (b:=.int .i64 ins) (c:=.int .i64 p1) (d:=.int .i64 p2) (e:=.slice vA b.length vc) (f:=.int .i64 65536) (x:=.slice xA k1.length xc) (y:=.slice yA k2.length yc) (z:=.int .i64 (n+1)) HB4.out (by omega)
         exact mB
   ·have h9:¬((m:Int) / 4 % 4=0):=by omega
    have a2:(((m / 4 % 4*4:Nat):Int) != 0)=true:=by simp;omega
    have R:Hid (qd k1 k2 n ⟨m,ins,p1,p2,data,ex⟩=(14,zC,[],[],0)):=iH (by unfold qd;rw [iF (by rw [HVS.out];simp),iF (by rw [HVC.out];simp),iT (by unfold Jo;rw [Bool.and_eq_false_iff];exact .inl (decide_eq_false (by omega)))])
    obtain⟨z,hz⟩:∃z:Int,((m / 4 % 4*4:Nat):Int)=z:=⟨_,rfl⟩
    rw [hz]at a1 a2
    clear g1 hm o1 hz h9
    go_enter Tryz.func23,Tryz.ntmps23
    go_upto_region 1 with fail
    rw [<-HWS.out,<-HWC.out,<-HW2.out,<-HW3.out]
    obtain⟨f0,f1,f2⟩:=CS.out wa iB
    go_upto_region 2 with (first
     |(go_at_call 48;have M1:=HBV;go_loud(refine(kN _ _ _ wv (HCV.out wv HBV.out)).mono ?_;rw [HVC.out];rintro e wc ⟨rfl,hb⟩;have hb2:=HBV.out.trans (hb.mono HBV.out.size);have HBC:=iH hb2;clear g0 g1 g2 g3 g4 g5;obtain⟨g0,g1,g2,g3,g4,g5⟩:=CC.out wc hb2;clear f0 f1 f2;obtain⟨f0,f1,f2⟩:=CS.out wc hb2;clear hb hb2))
     |(go_at_call 47;refine(js _ k1 k2 n _ wa HSV.out).mono ?_;rw [HVS.out];rintro e wv ⟨rfl,hb⟩;have HBV:=iH hb;obtain⟨g0,g1,g2,g3,g4,g5⟩:=CC.out wv hb;clear hb))
    clear f0 f1 f2 g0 g1 g2 g3 g4 g5 a1 a2
    obtain⟨r0,r1,r2,r3,r4,r5,rf⟩:=j8 (R2.out wc HBC.out);have rf0:=rf 0;have rf1:=rf 1;have rf2:=rf 2;have rf3:=rf 3;have rf4:=rf 4;have rf5:=rf 5;clear rf;obtain⟨s0,s1,s2,sf⟩:=j7 (R3.out wc HBC.out);have sf0:=sf 0;have sf1:=sf 1;have sf2:=sf 2;clear sf
    go_wp2_with fail
    obtain⟨q2,q3⟩:=jq (R2.out wc HBC.out) (R3.out wc HBC.out) (.int .i64 0) (.int .i64 0) (.int .i64 0) (.int .i64 0) (.slice none 0 0) (.int .i64 0) (.slice none 0 0) (.slice none 0 0) (.int .i64 0)
    obtain⟨y0,y1,y2,y3,y4,y5,_⟩:=j8 q2
    obtain⟨x0,x1,x2,_⟩:=j7 q3
    refine bodyPost_ret (v:=.tuple #[.agg #[.int .i64 0,.int .i64 0,.int .i64 0,.int .i64 0,.slice none 0 0,.int .i64 0],.agg #[.slice none 0 0,.slice none 0 0,.int .i64 0],.int .i64 14]) (by simp only [set6,set3]at y0 y1 y2 y3 y4 y5 x0 x1 x2;simp [results,Tryz.results23,go_sem,y0,y1,y2,y3,y4,y5,x0,x1,x2]) rfl ?_
    rw [R.out]
    exact⟨_,_,rfl,⟨_,rfl,BsS.nil0 _ _⟩,⟨_,_,rfl,BsS.nil0 _ _,BsS.nil0 _ _⟩,jk (HB.out.trans (Below.mono HBC.out HB.out.size)) (by omega)⟩
  ·have HVC:Hid (vC ⟨cl,ins,p1,p2,data,ex⟩=false):=iH (by simpa using v2)
   have R:Hid (qd k1 k2 n ⟨cl,ins,p1,p2,data,ex⟩=(14,zC,[],[],0)):=iH (by unfold qd;rw [iF (by rw [v1];simp),iT HVC.out])
   clear v1 v2
   go_enter Tryz.func23,Tryz.ntmps23
   go_upto_region 1 with fail
   rw [<-HWS.out,<-HWC.out,<-HW2.out,<-HW3.out]
   obtain⟨f0,f1,f2⟩:=CS.out wa iB
   go_upto_region 2 with (first
    |(go_at_call 48;have M1:=HBV;go_loud(refine(kN _ _ _ wv (HCV.out wv HBV.out)).mono ?_;rw [HVC.out];rintro e wc ⟨rfl,hb⟩;have hb2:=HBV.out.trans (hb.mono HBV.out.size);have HBC:=iH hb2;clear g0 g1 g2 g3 g4 g5;obtain⟨g0,g1,g2,g3,g4,g5⟩:=CC.out wc hb2;clear f0 f1 f2;obtain⟨f0,f1,f2⟩:=CS.out wc hb2;clear hb hb2))
    |(go_at_call 47;refine(js _ k1 k2 n _ wa HSV.out).mono ?_;rw [HVS.out];rintro e wv ⟨rfl,hb⟩;have HBV:=iH hb;obtain⟨g0,g1,g2,g3,g4,g5⟩:=CC.out wv hb;clear hb))
   clear f0 f1 f2 g0 g1 g2 g3 g4 g5
   exact m0f
 ·have HVS:Hid (vS k1 k2 n=false):=iH (by simpa using v1)
  have R:Hid (qd k1 k2 n ⟨cl,ins,p1,p2,data,ex⟩=(14,zC,[],[],0)):=iH (by unfold qd;rw [iT HVS.out])
  clear v1
  go_enter Tryz.func23,Tryz.ntmps23
  go_upto_region 1 with fail
  rw [<-HWS.out,<-HWC.out,<-HW2.out,<-HW3.out]
  obtain⟨f0,f1,f2⟩:=CS.out wa iB
  go_upto_region 2 with (go_at_call 47;refine(js _ k1 k2 n _ wa HSV.out).mono ?_;rw [HVS.out];rintro e wv ⟨rfl,hb⟩;have HBV:=iH hb;obtain⟨g0,g1,g2,g3,g4,g5⟩:=CC.out wv hb;clear hb)
  clear f0 f1 f2 g0 g1 g2 g3 g4 g5
  obtain⟨r0,r1,r2,r3,r4,r5,rf⟩:=j8 (R2.out wv HBV.out);have rf0:=rf 0;have rf1:=rf 1;have rf2:=rf 2;have rf3:=rf 3;have rf4:=rf 4;have rf5:=rf 5;clear rf;obtain⟨s0,s1,s2,sf⟩:=j7 (R3.out wv HBV.out);have sf0:=sf 0;have sf1:=sf 1;have sf2:=sf 2;clear sf
  go_wp2_with fail
  obtain⟨q2,q3⟩:=jq (R2.out wv HBV.out) (R3.out wv HBV.out) (.int .i64 0) (.int .i64 0) (.int .i64 0) (.int .i64 0) (.slice none 0 0) (.int .i64 0) (.slice none 0 0) (.slice none 0 0) (.int .i64 0)
  obtain⟨y0,y1,y2,y3,y4,y5,_⟩:=j8 q2
  obtain⟨x0,x1,x2,_⟩:=j7 q3
  refine bodyPost_ret (v:=.tuple #[.agg #[.int .i64 0,.int .i64 0,.int .i64 0,.int .i64 0,.slice none 0 0,.int .i64 0],.agg #[.slice none 0 0,.slice none 0 0,.int .i64 0],.int .i64 14]) (by simp only [set6,set3]at y0 y1 y2 y3 y4 y5 x0 x1 x2;simp [results,Tryz.results23,go_sem,y0,y1,y2,y3,y4,y5,x0,x1,x2]) rfl ?_
  exact mV
end Go.Proofs.YtadndhgebgjlaaaGreat
