/- Layer 19's commands and responses: both sides answer alike; The reference's Shuffle: it gives bytes, whatever bytes and number it is handed; Layer 19: Messag... -/
import Derived.Deep.CutBlock
import Derived.Test.YtadndhgebgjlaaaGreatPBl
import Derived.Test.YtadndhgebgjlaaaGreatPBy
import Derived.Test.YtadndhgebgjlaaaGreatPBz
import Derived.Test.YtadndhgebgjlaaaGreatPCa
set_option linter.all false
set_option maxRecDepth 100000
set_option maxHeartbeats 40000000
namespace Go.Proofs.YtadndhgebgjlaaaGreat
open Go.RowKit Go.Deep
theorem ml{P:Prop}(h:P:=by
 go_simp
 exact hK _ _ hJ (DiePost.refl hJ.1) rfl):P:=h
theorem mC{P:Prop}(h:P:=by
 go_wp2_with(go_at_call 8;refine(qD _).mono ?_;rintro e w12 ⟨rfl,hb⟩;have E12:=iH ((DiePost.refl D9.out.1).below hb);clear hb)
 go_ret
 exact⟨rfl,B1.out.grown (D9.out.trans E12.out).2 (by omega) (fun k e=>by injection e with e;omega)⟩):P:=h
theorem m1x{P:Prop}(h:P:=by
 rintro e w5 ⟨sv,l,rfl,hs,hb⟩
 obtain⟨A5,c5,hp⟩:=Bs.formL hs;subst hp
 have hd:DiePost B w1 p n w5:=(DiePost.refl hJ.1).below hb
 exact hK _ _ (hJ.trans hd) hd ⟨_,_,l,rfl,BsS.offD hs hd.1⟩):P:=h
theorem m2i{P:Prop}(h:P:=by
 go_simp
 refine(ke B p n 9 w1 hJ.1 (by decide) (by decide)).mono ?_
 rintro e w5 ⟨z,rfl,hz,hd⟩
 exact hK _ _ (hJ.trans hd) hd ⟨z,rfl,hz⟩):P:=h
theorem m31{P:Prop}(h:P:=by
 go_simp
 exact hK _ _ (hJ.allocA hL (by decide) (by decide) (by decide)) (RNB.die ((DiePost.refl hJ.1.1).alloc _)) trivial):P:=h
theorem zB(w:World):((w.alloc (.cells #[.int .i64 0,.int .i64 0,.int .i64 0,.int .i64 0,.slice none 0 0,.int .i64 0] 32)).alloc (.cells #[.slice none 0 0,.slice none 0 0,.int .i64 0] 29)).heap[w.heap.size]?=some (.cells #[.int .i64 0,.int .i64 0,.int .i64 0,.int .i64 0,.slice none 0 0,.int .i64 0] 32 (0,0))/\((w.alloc (.cells #[.int .i64 0,.int .i64 0,.int .i64 0,.int .i64 0,.slice none 0 0,.int .i64 0] 32)).alloc (.cells #[.slice none 0 0,.slice none 0 0,.int .i64 0] 29)).heap[w.heap.size+1]?=some (.cells #[.slice none 0 0,.slice none 0 0,.int .i64 0] 29 (0,0)):=by
 refine⟨by rw [Below.heap_alloc _ _ _ (by simp)];exact iN,?_⟩
 have h:=heap_alloc_new (w.alloc (.cells #[.int .i64 0,.int .i64 0,.int .i64 0,.int .i64 0,.slice none 0 0,.int .i64 0] 32)) (.cells #[.slice none 0 0,.slice none 0 0,.int .i64 0] 29)
 rwa [show(w.alloc (.cells #[.int .i64 0,.int .i64 0,.int .i64 0,.int .i64 0,.slice none 0 0,.int .i64 0] 32)).heap.size=w.heap.size+1 by simp]at h
theorem zD(w:World):((w.alloc (.cells #[.slice none 0 0,.int .i64 0] 44)).alloc (.cells #[.slice none 0 0,.slice none 0 0,.int .i64 0] 29)).heap[w.heap.size]?=some (.cells #[.slice none 0 0,.int .i64 0] 44 (0,0))/\((w.alloc (.cells #[.slice none 0 0,.int .i64 0] 44)).alloc (.cells #[.slice none 0 0,.slice none 0 0,.int .i64 0] 29)).heap[w.heap.size+1]?=some (.cells #[.slice none 0 0,.slice none 0 0,.int .i64 0] 29 (0,0)):=by
 refine⟨by rw [Below.heap_alloc _ _ _ (by simp)];exact iN,?_⟩
 have h:=heap_alloc_new (w.alloc (.cells #[.slice none 0 0,.int .i64 0] 44)) (.cells #[.slice none 0 0,.slice none 0 0,.int .i64 0] 29)
 rwa [show(w.alloc (.cells #[.slice none 0 0,.int .i64 0] 44)).heap.size=w.heap.size+1 by simp]at h
theorem Xh(vs vc vd:Value)(k1 k2:List UInt8)(n:Int)(c:Cm)(d:Cm)(w:World)(hs:qs w (·<w.heap.size) vs k1 k2 n)(hc:Jm w (·<w.heap.size) vc c)(hd:Jm w (·<w.heap.size) vd d):
 Calls Tryz.prog 18 #[vs,vc,vd] w fun e w'=>e=.returned (.bool true)/\Below w.heap.size w w':=by
 obtain⟨ua,ub,rfl,ha,hb⟩:=hs
 obtain⟨A1,d1,hp⟩:=Bs.formL ha;subst hp
 obtain⟨A2,d2,hp⟩:=Bs.formL hb;subst hp
 obtain⟨uc,rfl,hcd⟩:=hc
 obtain⟨ud,rfl,hdd⟩:=hd
 obtain⟨cA,cc,hp⟩:=Bs.formL hcd;subst hp
 obtain⟨dA,dc,hp⟩:=Bs.formL hdd;subst hp
 obtain⟨⟨E,C,K1,K2,M⟩,hr1⟩:∃r,qd k1 k2 n c=r:=⟨_,rfl⟩
 obtain⟨⟨F,D,L1,L2,Q⟩,hr2⟩:∃r,jr k1 k2 n d=r:=⟨_,rfl⟩
 have HR1:=iH hr1;have HR2:=iH hr2
 obtain⟨ws,hws⟩:∃ws,ws=w.alloc (.cells #[.slice A1 k1.length d1,.slice A2 k2.length d2,.int .i64 n] 29):=⟨_,rfl⟩
 obtain⟨wq,hwq⟩:∃wq,wq=ws.alloc (.cells #[.int .i64 c.cl,.int .i64 c.ins,.int .i64 c.p1,.int .i64 c.p2,.slice cA c.data.length cc,.int .i64 c.ex] 32):=⟨_,rfl⟩
 obtain⟨w0,hw0⟩:∃w0,w0=wq.alloc (.cells #[.int .i64 d.cl,.int .i64 d.ins,.int .i64 d.p1,.int .i64 d.p2,.slice dA d.data.length dc,.int .i64 d.ex] 32):=⟨_,rfl⟩
 have zs:ws.heap.size=w.heap.size+1:=by rw [hws];simp
 have zq:wq.heap.size=w.heap.size+1+1:=by rw [hwq];simp [zs]
 have b1:Below w.heap.size w ws:=by rw [hws];exact iA
 have b2:Below ws.heap.size ws wq:=by rw [hwq];exact iA
 have b3:Below wq.heap.size wq w0:=by rw [hw0];exact iA
 have z0:w0.heap.size=w.heap.size+1+1+1:=by rw [hw0];simp [zq]
 have q1:ws.heap[w.heap.size]?=some (.cells #[.slice A1 k1.length d1,.slice A2 k2.length d2,.int .i64 n] 29 (0,0)):=by rw [hws];exact iN
 have q2:wq.heap[w.heap.size+1]?=some (.cells #[.int .i64 c.cl,.int .i64 c.ins,.int .i64 c.p1,.int .i64 c.p2,.slice cA c.data.length cc,.int .i64 c.ex] 32 (0,0)):=by rw [hwq,<-zs];exact iN
 have q3:w0.heap[w.heap.size+1+1]?=some (.cells #[.int .i64 d.cl,.int .i64 d.ins,.int .i64 d.p1,.int .i64 d.p2,.slice dA d.data.length dc,.int .i64 d.ex] 32 (0,0)):=by rw [hw0,<-zq];exact iN
 have e2:=(b3.block (w.heap.size+1) (by omega)).trans q2
 have e1:=(b3.block w.heap.size (by omega)).trans ((b2.block w.heap.size (by omega)).trans q1)
 have hB:Below w.heap.size w w0:=b1.trans ((b2.trans (b3.mono b2.size)).mono b1.size)
 have CS:Hid (∀W,Below w0.heap.size w0 W->W.cell? ⟨w.heap.size,0,none⟩=some (.slice A1 k1.length d1)/\W.cell? ⟨w.heap.size,1,none⟩=some (.slice A2 k2.length d2)/\W.cell? ⟨w.heap.size,2,none⟩=some (.int .i64 n)):=iH fun W h=>(by obtain⟨a,b,c,_⟩:=j7 ((h.block w.heap.size (by omega)).trans e1);exact⟨a,b,c⟩)
 have CC:Hid (∀W,Below w0.heap.size w0 W->W.cell? ⟨w.heap.size+1,0,none⟩=some (.int .i64 c.cl)/\W.cell? ⟨w.heap.size+1,1,none⟩=some (.int .i64 c.ins)/\W.cell? ⟨w.heap.size+1,2,none⟩=some (.int .i64 c.p1)/\W.cell? ⟨w.heap.size+1,3,none⟩=some (.int .i64 c.p2)/\W.cell? ⟨w.heap.size+1,4,none⟩=some (.slice cA c.data.length cc)/\W.cell? ⟨w.heap.size+1,5,none⟩=some (.int .i64 c.ex)):=iH fun W h=>(by obtain⟨a,b,c,d,e,f,_⟩:=j8 ((h.block (w.heap.size+1) (by omega)).trans e2);exact⟨a,b,c,d,e,f⟩)
 have CD:Hid (∀W,Below w0.heap.size w0 W->W.cell? ⟨w.heap.size+1+1,0,none⟩=some (.int .i64 d.cl)/\W.cell? ⟨w.heap.size+1+1,1,none⟩=some (.int .i64 d.ins)/\W.cell? ⟨w.heap.size+1+1,2,none⟩=some (.int .i64 d.p1)/\W.cell? ⟨w.heap.size+1+1,3,none⟩=some (.int .i64 d.p2)/\W.cell? ⟨w.heap.size+1+1,4,none⟩=some (.slice dA d.data.length dc)/\W.cell? ⟨w.heap.size+1+1,5,none⟩=some (.int .i64 d.ex)):=iH fun W h=>(by obtain⟨a,b,c,d,e,f,_⟩:=j8 ((h.block (w.heap.size+1+1) (by omega)).trans q3);exact⟨a,b,c,d,e,f⟩)
 have HB0:=iH hB;have HWS:=iH hws;have HWQ:=iH hwq;have HW0:=iH hw0
 have HK1:=iH (Bs.lift ha hB);have HK2:=iH (Bs.lift hb hB);have HCD:=iH (Bs.lift hcd hB);have HDD:=iH (Bs.lift hdd hB)
 have HSV:Hid (∀W,Below w0.heap.size w0 W->qs W (·<W.heap.size) (.agg #[.slice A1 k1.length d1,.slice A2 k2.length d2,.int .i64 n]) k1 k2 n):=iH fun W h=>⟨_,_,rfl,HK1.out.lift h,HK2.out.lift h⟩
 have HCV:Hid (∀W,Below w0.heap.size w0 W->Jm W (·<W.heap.size) (.agg #[.int .i64 c.cl,.int .i64 c.ins,.int .i64 c.p1,.int .i64 c.p2,.slice cA c.data.length cc,.int .i64 c.ex]) c):=iH fun W h=>⟨_,rfl,HCD.out.lift h⟩
 have HDV:Hid (∀W,Below w0.heap.size w0 W->Jm W (·<W.heap.size) (.agg #[.int .i64 d.cl,.int .i64 d.ins,.int .i64 d.p1,.int .i64 d.p2,.slice dA d.data.length dc,.int .i64 d.ex]) d):=iH fun W h=>⟨_,rfl,HDD.out.lift h⟩
 clear ha hb hcd hdd hr1 hr2 hws hwq hw0 zs zq z0 b1 b2 b3 q1 q2 q3 e1 e2 hB
 go_enter Tryz.func18,Tryz.ntmps18
 go_upto_region 1 with fail
 rw [<-HWS.out,<-HWQ.out,<-HW0.out]
 obtain⟨s0,s1,s2⟩:=CS.out w0 iB
 obtain⟨c0,c1,c2,c3,c4,c5⟩:=CC.out w0 iB
 go_upto_region 2 with (go_at_call 23;refine(Xy _ _ k1 k2 n c w0 (HSV.out w0 iB) (HCV.out w0 iB)).mono ?_;rw [HR1.out];rintro e w1 ⟨v,s,rfl,⟨d1,rfl,hd⟩,⟨x1,y1,rfl,hx,hy⟩,hb⟩;obtain⟨dA1,dc1,hp⟩:=Bs.formL hd;subst hp;obtain⟨xA1,xc1,hp⟩:=Bs.formL hx;subst hp;obtain⟨yA1,yc1,hp⟩:=Bs.formL hy;subst hp;have HV1:Hid (VW w1 [(.slice dA1 C.data.length dc1,C.data),(.slice xA1 K1.length xc1,K1),(.slice yA1 K2.length yc1,K2)]):=iH (((VW.nil.add (S:=(·<w1.heap.size)) (fun _ h=>h) hy).add (S:=(·<w1.heap.size)) (fun _ h=>h) hx).add (S:=(·<w1.heap.size)) (fun _ h=>h) hd);have HB1:=iH hb;obtain⟨hz,hs0⟩:=zB w1;obtain⟨n0,n1,n2,n3,n4,n5,nf⟩:=j8 hz;have nf0:=nf 0;have nf1:=nf 1;have nf2:=nf 2;have nf3:=nf 3;have nf4:=nf 4;have nf5:=nf 5;obtain⟨m0,m1,m2,mf⟩:=j7 hs0;have mf0:=mf 0;have mf1:=mf 1;have mf2:=mf 2;clear nf mf hz hs0 hd hx hy hb)
 clear s0 s1 s2 c0 c1 c2 c3 c4 c5 n0 n1 n2 n3 n4 n5 nf0 nf1 nf2 nf3 nf4 nf5 m0 m1 m2 mf0 mf1 mf2
 obtain⟨u1,hu1⟩:∃u,u=(w1.alloc (.cells #[.int .i64 C.cl,.int .i64 C.ins,.int .i64 C.p1,.int .i64 C.p2,.slice dA1 C.data.length dc1,.int .i64 C.ex] 32)).alloc (.cells #[.slice xA1 K1.length xc1,.slice yA1 K2.length yc1,.int .i64 M] 29):=⟨_,rfl⟩
 rw [<-hu1]
 have hwu:Below w1.heap.size w1 u1:=by rw [hu1];exact(iA).alloc (by simp) _
 have hcr:u1.heap[w1.heap.size]?=some (.cells #[.int .i64 C.cl,.int .i64 C.ins,.int .i64 C.p1,.int .i64 C.p2,.slice dA1 C.data.length dc1,.int .i64 C.ex] 32 (0,0)):=by rw [hu1,Below.heap_alloc _ _ _ (by simp)];exact iN
 have hsr:u1.heap[w1.heap.size+1]?=some (.cells #[.slice xA1 K1.length xc1,.slice yA1 K2.length yc1,.int .i64 M] 29 (0,0)):=by
  rw [hu1]
  have h:=heap_alloc_new (w1.alloc (.cells #[.int .i64 C.cl,.int .i64 C.ins,.int .i64 C.p1,.int .i64 C.p2,.slice dA1 C.data.length dc1,.int .i64 C.ex] 32)) (.cells #[.slice xA1 K1.length xc1,.slice yA1 K2.length yc1,.int .i64 M] 29)
  rwa [show(w1.alloc (.cells #[.int .i64 C.cl,.int .i64 C.ins,.int .i64 C.p1,.int .i64 C.p2,.slice dA1 C.data.length dc1,.int .i64 C.ex] 32)).heap.size=w1.heap.size+1 by simp]at h
 have RC1:Hid (∀W,Below u1.heap.size u1 W->W.heap[w1.heap.size]?=some (.cells #[.int .i64 C.cl,.int .i64 C.ins,.int .i64 C.p1,.int .i64 C.p2,.slice dA1 C.data.length dc1,.int .i64 C.ex] 32 (0,0))):=iH fun W h=>(h.block _ (iG hcr)).trans hcr
 have RS1:Hid (∀W,Below u1.heap.size u1 W->W.heap[w1.heap.size+1]?=some (.cells #[.slice xA1 K1.length xc1,.slice yA1 K2.length yc1,.int .i64 M] 29 (0,0))):=iH fun W h=>(h.block _ (iG hsr)).trans hsr
 have VU1:=iH (HV1.out.on hwu)
 have HX1:=iH (HB1.out.trans (hwu.mono HB1.out.size))
 have HU1:Hid (Below w0.heap.size w0 u1):=iH HX1.out
 clear hwu hcr hsr hu1
 obtain⟨s0,s1,s2⟩:=CS.out u1 HU1.out
 obtain⟨c0,c1,c2,c3,c4,c5⟩:=CC.out u1 HU1.out
 go_upto_region 3 with (go_at_call 14;refine(XV _ _ k1 k2 n c u1 (HSV.out u1 HU1.out) (HCV.out u1 HU1.out)).mono ?_;rw [HR1.out];rintro e w2 ⟨v,s,rfl,⟨d2,rfl,hd⟩,⟨x2,y2,rfl,hx,hy⟩,hb⟩;obtain⟨dA2,dc2,hp⟩:=Bs.formL hd;subst hp;obtain⟨xA2,xc2,hp⟩:=Bs.formL hx;subst hp;obtain⟨yA2,yc2,hp⟩:=Bs.formL hy;subst hp;have HV2:Hid (VW w2 [(.slice dA2 C.data.length dc2,C.data),(.slice xA2 K1.length xc2,K1),(.slice yA2 K2.length yc2,K2)]):=iH (((VW.nil.add (S:=(·<w2.heap.size)) (fun _ h=>h) hy).add (S:=(·<w2.heap.size)) (fun _ h=>h) hx).add (S:=(·<w2.heap.size)) (fun _ h=>h) hd);have HB2:=iH hb;obtain⟨hz,hs0⟩:=zB w2;obtain⟨n0,n1,n2,n3,n4,n5,nf⟩:=j8 hz;have nf0:=nf 0;have nf1:=nf 1;have nf2:=nf 2;have nf3:=nf 3;have nf4:=nf 4;have nf5:=nf 5;obtain⟨m0,m1,m2,mf⟩:=j7 hs0;have mf0:=mf 0;have mf1:=mf 1;have mf2:=mf 2;clear nf mf hz hs0 hd hx hy hb)
 clear s0 s1 s2 c0 c1 c2 c3 c4 c5 n0 n1 n2 n3 n4 n5 nf0 nf1 nf2 nf3 nf4 nf5 m0 m1 m2 mf0 mf1 mf2
 obtain⟨u2,hu2⟩:∃u,u=(w2.alloc (.cells #[.int .i64 C.cl,.int .i64 C.ins,.int .i64 C.p1,.int .i64 C.p2,.slice dA2 C.data.length dc2,.int .i64 C.ex] 32)).alloc (.cells #[.slice xA2 K1.length xc2,.slice yA2 K2.length yc2,.int .i64 M] 29):=⟨_,rfl⟩
 rw [<-hu2]
 have hwu:Below w2.heap.size w2 u2:=by rw [hu2];exact(iA).alloc (by simp) _
 have hcr:u2.heap[w2.heap.size]?=some (.cells #[.int .i64 C.cl,.int .i64 C.ins,.int .i64 C.p1,.int .i64 C.p2,.slice dA2 C.data.length dc2,.int .i64 C.ex] 32 (0,0)):=by rw [hu2,Below.heap_alloc _ _ _ (by simp)];exact iN
 have hsr:u2.heap[w2.heap.size+1]?=some (.cells #[.slice xA2 K1.length xc2,.slice yA2 K2.length yc2,.int .i64 M] 29 (0,0)):=by
  rw [hu2]
  have h:=heap_alloc_new (w2.alloc (.cells #[.int .i64 C.cl,.int .i64 C.ins,.int .i64 C.p1,.int .i64 C.p2,.slice dA2 C.data.length dc2,.int .i64 C.ex] 32)) (.cells #[.slice xA2 K1.length xc2,.slice yA2 K2.length yc2,.int .i64 M] 29)
  rwa [show(w2.alloc (.cells #[.int .i64 C.cl,.int .i64 C.ins,.int .i64 C.p1,.int .i64 C.p2,.slice dA2 C.data.length dc2,.int .i64 C.ex] 32)).heap.size=w2.heap.size+1 by simp]at h
 have RC2:Hid (∀W,Below u2.heap.size u2 W->W.heap[w2.heap.size]?=some (.cells #[.int .i64 C.cl,.int .i64 C.ins,.int .i64 C.p1,.int .i64 C.p2,.slice dA2 C.data.length dc2,.int .i64 C.ex] 32 (0,0))):=iH fun W h=>(h.block _ (iG hcr)).trans hcr
 have RS2:Hid (∀W,Below u2.heap.size u2 W->W.heap[w2.heap.size+1]?=some (.cells #[.slice xA2 K1.length xc2,.slice yA2 K2.length yc2,.int .i64 M] 29 (0,0))):=iH fun W h=>(h.block _ (iG hsr)).trans hsr
 have VU2:=iH (HV2.out.on hwu)
 have HX2:=iH (HB2.out.trans (hwu.mono HB2.out.size))
 have HU2:Hid (Below w0.heap.size w0 u2):=iH (HU1.out.trans (HX2.out.mono HU1.out.size))
 clear hwu hcr hsr hu2
 obtain⟨s0,s1,s2⟩:=CS.out u2 HU2.out
 obtain⟨c0,c1,c2,c3,c4,c5⟩:=CD.out u2 HU2.out
 go_upto_region 4 with (go_at_call 25;refine(JU _ _ k1 k2 n d u2 (HSV.out u2 HU2.out) (HDV.out u2 HU2.out)).mono ?_;rw [HR2.out];rintro e w3 ⟨v,s,rfl,⟨d3,rfl,hd⟩,⟨x3,y3,rfl,hx,hy⟩,hb⟩;obtain⟨dA3,dc3,hp⟩:=Bs.formL hd;subst hp;obtain⟨xA3,xc3,hp⟩:=Bs.formL hx;subst hp;obtain⟨yA3,yc3,hp⟩:=Bs.formL hy;subst hp;have HV3:Hid (VW w3 [(.slice dA3 D.data.length dc3,D.data),(.slice xA3 L1.length xc3,L1),(.slice yA3 L2.length yc3,L2)]):=iH (((VW.nil.add (S:=(·<w3.heap.size)) (fun _ h=>h) hy).add (S:=(·<w3.heap.size)) (fun _ h=>h) hx).add (S:=(·<w3.heap.size)) (fun _ h=>h) hd);have HB3:=iH hb;obtain⟨hz,hs0⟩:=zB w3;obtain⟨n0,n1,n2,n3,n4,n5,nf⟩:=j8 hz;have nf0:=nf 0;have nf1:=nf 1;have nf2:=nf 2;have nf3:=nf 3;have nf4:=nf 4;have nf5:=nf 5;obtain⟨m0,m1,m2,mf⟩:=j7 hs0;have mf0:=mf 0;have mf1:=mf 1;have mf2:=mf 2;clear nf mf hz hs0 hd hx hy hb)
 clear s0 s1 s2 c0 c1 c2 c3 c4 c5 n0 n1 n2 n3 n4 n5 nf0 nf1 nf2 nf3 nf4 nf5 m0 m1 m2 mf0 mf1 mf2
 obtain⟨u3,hu3⟩:∃u,u=(w3.alloc (.cells #[.int .i64 D.cl,.int .i64 D.ins,.int .i64 D.p1,.int .i64 D.p2,.slice dA3 D.data.length dc3,.int .i64 D.ex] 32)).alloc (.cells #[.slice xA3 L1.length xc3,.slice yA3 L2.length yc3,.int .i64 Q] 29):=⟨_,rfl⟩
 rw [<-hu3]
 have hwu:Below w3.heap.size w3 u3:=by rw [hu3];exact(iA).alloc (by simp) _
 have hcr:u3.heap[w3.heap.size]?=some (.cells #[.int .i64 D.cl,.int .i64 D.ins,.int .i64 D.p1,.int .i64 D.p2,.slice dA3 D.data.length dc3,.int .i64 D.ex] 32 (0,0)):=by rw [hu3,Below.heap_alloc _ _ _ (by simp)];exact iN
 have hsr:u3.heap[w3.heap.size+1]?=some (.cells #[.slice xA3 L1.length xc3,.slice yA3 L2.length yc3,.int .i64 Q] 29 (0,0)):=by
  rw [hu3]
  have h:=heap_alloc_new (w3.alloc (.cells #[.int .i64 D.cl,.int .i64 D.ins,.int .i64 D.p1,.int .i64 D.p2,.slice dA3 D.data.length dc3,.int .i64 D.ex] 32)) (.cells #[.slice xA3 L1.length xc3,.slice yA3 L2.length yc3,.int .i64 Q] 29)
  rwa [show(w3.alloc (.cells #[.int .i64 D.cl,.int .i64 D.ins,.int .i64 D.p1,.int .i64 D.p2,.slice dA3 D.data.length dc3,.int .i64 D.ex] 32)).heap.size=w3.heap.size+1 by simp]at h
 have RC3:Hid (∀W,Below u3.heap.size u3 W->W.heap[w3.heap.size]?=some (.cells #[.int .i64 D.cl,.int .i64 D.ins,.int .i64 D.p1,.int .i64 D.p2,.slice dA3 D.data.length dc3,.int .i64 D.ex] 32 (0,0))):=iH fun W h=>(h.block _ (iG hcr)).trans hcr
 have RS3:Hid (∀W,Below u3.heap.size u3 W->W.heap[w3.heap.size+1]?=some (.cells #[.slice xA3 L1.length xc3,.slice yA3 L2.length yc3,.int .i64 Q] 29 (0,0))):=iH fun W h=>(h.block _ (iG hsr)).trans hsr
 have VU3:=iH (HV3.out.on hwu)
 have HX3:=iH (HB3.out.trans (hwu.mono HB3.out.size))
 have HU3:Hid (Below w0.heap.size w0 u3):=iH (HU2.out.trans (HX3.out.mono HU2.out.size))
 clear hwu hcr hsr hu3
 obtain⟨s0,s1,s2⟩:=CS.out u3 HU3.out
 obtain⟨c0,c1,c2,c3,c4,c5⟩:=CD.out u3 HU3.out
 go_upto_region 5 with (go_at_call 37;refine(ZN _ _ k1 k2 n d u3 (HSV.out u3 HU3.out) (HDV.out u3 HU3.out)).mono ?_;rw [HR2.out];rintro e w4 ⟨v,s,rfl,⟨d4,rfl,hd⟩,⟨x4,y4,rfl,hx,hy⟩,hb⟩;obtain⟨dA4,dc4,hp⟩:=Bs.formL hd;subst hp;obtain⟨xA4,xc4,hp⟩:=Bs.formL hx;subst hp;obtain⟨yA4,yc4,hp⟩:=Bs.formL hy;subst hp;have HV4:Hid (VW w4 [(.slice dA4 D.data.length dc4,D.data),(.slice xA4 L1.length xc4,L1),(.slice yA4 L2.length yc4,L2)]):=iH (((VW.nil.add (S:=(·<w4.heap.size)) (fun _ h=>h) hy).add (S:=(·<w4.heap.size)) (fun _ h=>h) hx).add (S:=(·<w4.heap.size)) (fun _ h=>h) hd);have HB4:=iH hb;obtain⟨hz,hs0⟩:=zB w4;obtain⟨n0,n1,n2,n3,n4,n5,nf⟩:=j8 hz;have nf0:=nf 0;have nf1:=nf 1;have nf2:=nf 2;have nf3:=nf 3;have nf4:=nf 4;have nf5:=nf 5;obtain⟨m0,m1,m2,mf⟩:=j7 hs0;have mf0:=mf 0;have mf1:=mf 1;have mf2:=mf 2;clear nf mf hz hs0 hd hx hy hb)
 clear s0 s1 s2 c0 c1 c2 c3 c4 c5 n0 n1 n2 n3 n4 n5 nf0 nf1 nf2 nf3 nf4 nf5 m0 m1 m2 mf0 mf1 mf2
 obtain⟨u4,hu4⟩:∃u,u=(w4.alloc (.cells #[.int .i64 D.cl,.int .i64 D.ins,.int .i64 D.p1,.int .i64 D.p2,.slice dA4 D.data.length dc4,.int .i64 D.ex] 32)).alloc (.cells #[.slice xA4 L1.length xc4,.slice yA4 L2.length yc4,.int .i64 Q] 29):=⟨_,rfl⟩
 rw [<-hu4]
 have hwu:Below w4.heap.size w4 u4:=by rw [hu4];exact(iA).alloc (by simp) _
 have hcr:u4.heap[w4.heap.size]?=some (.cells #[.int .i64 D.cl,.int .i64 D.ins,.int .i64 D.p1,.int .i64 D.p2,.slice dA4 D.data.length dc4,.int .i64 D.ex] 32 (0,0)):=by rw [hu4,Below.heap_alloc _ _ _ (by simp)];exact iN
 have hsr:u4.heap[w4.heap.size+1]?=some (.cells #[.slice xA4 L1.length xc4,.slice yA4 L2.length yc4,.int .i64 Q] 29 (0,0)):=by
  rw [hu4]
  have h:=heap_alloc_new (w4.alloc (.cells #[.int .i64 D.cl,.int .i64 D.ins,.int .i64 D.p1,.int .i64 D.p2,.slice dA4 D.data.length dc4,.int .i64 D.ex] 32)) (.cells #[.slice xA4 L1.length xc4,.slice yA4 L2.length yc4,.int .i64 Q] 29)
  rwa [show(w4.alloc (.cells #[.int .i64 D.cl,.int .i64 D.ins,.int .i64 D.p1,.int .i64 D.p2,.slice dA4 D.data.length dc4,.int .i64 D.ex] 32)).heap.size=w4.heap.size+1 by simp]at h
 have RC4:Hid (∀W,Below u4.heap.size u4 W->W.heap[w4.heap.size]?=some (.cells #[.int .i64 D.cl,.int .i64 D.ins,.int .i64 D.p1,.int .i64 D.p2,.slice dA4 D.data.length dc4,.int .i64 D.ex] 32 (0,0))):=iH fun W h=>(h.block _ (iG hcr)).trans hcr
 have RS4:Hid (∀W,Below u4.heap.size u4 W->W.heap[w4.heap.size+1]?=some (.cells #[.slice xA4 L1.length xc4,.slice yA4 L2.length yc4,.int .i64 Q] 29 (0,0))):=iH fun W h=>(h.block _ (iG hsr)).trans hsr
 have VU4:=iH (HV4.out.on hwu)
 have HX4:=iH (HB4.out.trans (hwu.mono HB4.out.size))
 have HU4:Hid (Below w0.heap.size w0 u4):=iH (HU3.out.trans (HX4.out.mono HU3.out.size))
 clear hwu hcr hsr hu4
 have H44:Hid (Below u4.heap.size u4 u4):=iH iB
 have H34:=iH HX4.out
 have H24:=iH (HX3.out.trans (HX4.out.mono HX3.out.size))
 have H14:=iH (HX2.out.trans (H24.out.mono HX2.out.size))
 obtain⟨a10,a11,a12,a13,a14,a15,_⟩:=j8 (RC1.out u4 H14.out);obtain⟨b10,b11,b12,_⟩:=j7 (RS1.out u4 H14.out)
 obtain⟨a20,a21,a22,a23,a24,a25,_⟩:=j8 (RC2.out u4 H24.out);obtain⟨b20,b21,b22,_⟩:=j7 (RS2.out u4 H24.out)
 obtain⟨a30,a31,a32,a33,a34,a35,_⟩:=j8 (RC3.out u4 H34.out);obtain⟨b30,b31,b32,_⟩:=j7 (RS3.out u4 H34.out)
 obtain⟨a40,a41,a42,a43,a44,a45,_⟩:=j8 (RC4.out u4 H44.out);obtain⟨b40,b41,b42,_⟩:=j7 (RS4.out u4 H44.out)
 have tE:(E==E)=true:=by simp
 have tF:(F==F)=true:=by simp
 go_wp2_with(first
  |(go_at_call 39;have MMz4:=z3B;refine(yD _ _ L1 L2 L1 L2 Q Q (·<z3.heap.size) (·<z3.heap.size) z3 ⟨_,_,rfl,((VU3.out.on (H34.out.trans (z3B.out.mono H34.out.size))).at 1 rfl),((VU3.out.on (H34.out.trans (z3B.out.mono H34.out.size))).at 2 rfl)⟩ ⟨_,_,rfl,((VU4.out.on (H44.out.trans (z3B.out.mono H44.out.size))).at 1 rfl),((VU4.out.on (H44.out.trans (z3B.out.mono H44.out.size))).at 2 rfl)⟩).mono ?_;rintro e z4 ⟨rfl,hb⟩;rw [decide_eq_true (show Q=Q/\L1=L1/\L2=L2 from⟨rfl,rfl,rfl⟩)];have z4B:Hid (Below u4.heap.size u4 z4):=iH (z3B.out.trans (hb.mono z3B.out.size));clear a10 a11 a12 a13 a14 a15 b10 b11 b12 a20 a21 a22 a23 a24 a25 b20 b21 b22 a30 a31 a32 a33 a34 a35 b30 b31 b32 a40 a41 a42 a43 a44 a45 b40 b41 b42;obtain⟨a10,a11,a12,a13,a14,a15,_⟩:=j8 (RC1.out z4 (H14.out.trans (z4B.out.mono H14.out.size)));obtain⟨b10,b11,b12,_⟩:=j7 (RS1.out z4 (H14.out.trans (z4B.out.mono H14.out.size)));obtain⟨a20,a21,a22,a23,a24,a25,_⟩:=j8 (RC2.out z4 (H24.out.trans (z4B.out.mono H24.out.size)));obtain⟨b20,b21,b22,_⟩:=j7 (RS2.out z4 (H24.out.trans (z4B.out.mono H24.out.size)));obtain⟨a30,a31,a32,a33,a34,a35,_⟩:=j8 (RC3.out z4 (H34.out.trans (z4B.out.mono H34.out.size)));obtain⟨b30,b31,b32,_⟩:=j7 (RS3.out z4 (H34.out.trans (z4B.out.mono H34.out.size)));obtain⟨a40,a41,a42,a43,a44,a45,_⟩:=j8 (RC4.out z4 (H44.out.trans (z4B.out.mono H44.out.size)));obtain⟨b40,b41,b42,_⟩:=j7 (RS4.out z4 (H44.out.trans (z4B.out.mono H44.out.size)));clear hb)
  |(go_at_call 38;have MMz3:=z2B;refine(JL _ _ D D (·<z2.heap.size) (·<z2.heap.size) z2 ⟨_,rfl,((VU3.out.on (H34.out.trans (z2B.out.mono H34.out.size))).at 0 rfl)⟩ ⟨_,rfl,((VU4.out.on (H44.out.trans (z2B.out.mono H44.out.size))).at 0 rfl)⟩).mono ?_;rintro e z3 ⟨rfl,hb⟩;rw [decide_eq_true (show D.cl=D.cl/\D.ins=D.ins/\D.p1=D.p1/\D.p2=D.p2/\D.ex=D.ex/\D.data=D.data from⟨rfl,rfl,rfl,rfl,rfl,rfl⟩)];have z3B:Hid (Below u4.heap.size u4 z3):=iH (z2B.out.trans (hb.mono z2B.out.size));clear a10 a11 a12 a13 a14 a15 b10 b11 b12 a20 a21 a22 a23 a24 a25 b20 b21 b22 a30 a31 a32 a33 a34 a35 b30 b31 b32 a40 a41 a42 a43 a44 a45 b40 b41 b42;obtain⟨a10,a11,a12,a13,a14,a15,_⟩:=j8 (RC1.out z3 (H14.out.trans (z3B.out.mono H14.out.size)));obtain⟨b10,b11,b12,_⟩:=j7 (RS1.out z3 (H14.out.trans (z3B.out.mono H14.out.size)));obtain⟨a20,a21,a22,a23,a24,a25,_⟩:=j8 (RC2.out z3 (H24.out.trans (z3B.out.mono H24.out.size)));obtain⟨b20,b21,b22,_⟩:=j7 (RS2.out z3 (H24.out.trans (z3B.out.mono H24.out.size)));obtain⟨a30,a31,a32,a33,a34,a35,_⟩:=j8 (RC3.out z3 (H34.out.trans (z3B.out.mono H34.out.size)));obtain⟨b30,b31,b32,_⟩:=j7 (RS3.out z3 (H34.out.trans (z3B.out.mono H34.out.size)));obtain⟨a40,a41,a42,a43,a44,a45,_⟩:=j8 (RC4.out z3 (H44.out.trans (z3B.out.mono H44.out.size)));obtain⟨b40,b41,b42,_⟩:=j7 (RS4.out z3 (H44.out.trans (z3B.out.mono H44.out.size)));clear hb)
  |(go_at_call 39;have MMz2:=z1B;refine(yD _ _ K1 K2 K1 K2 M M (·<z1.heap.size) (·<z1.heap.size) z1 ⟨_,_,rfl,((VU1.out.on (H14.out.trans (z1B.out.mono H14.out.size))).at 1 rfl),((VU1.out.on (H14.out.trans (z1B.out.mono H14.out.size))).at 2 rfl)⟩ ⟨_,_,rfl,((VU2.out.on (H24.out.trans (z1B.out.mono H24.out.size))).at 1 rfl),((VU2.out.on (H24.out.trans (z1B.out.mono H24.out.size))).at 2 rfl)⟩).mono ?_;rintro e z2 ⟨rfl,hb⟩;rw [decide_eq_true (show M=M/\K1=K1/\K2=K2 from⟨rfl,rfl,rfl⟩)];have z2B:Hid (Below u4.heap.size u4 z2):=iH (z1B.out.trans (hb.mono z1B.out.size));clear a10 a11 a12 a13 a14 a15 b10 b11 b12 a20 a21 a22 a23 a24 a25 b20 b21 b22 a30 a31 a32 a33 a34 a35 b30 b31 b32 a40 a41 a42 a43 a44 a45 b40 b41 b42;obtain⟨a10,a11,a12,a13,a14,a15,_⟩:=j8 (RC1.out z2 (H14.out.trans (z2B.out.mono H14.out.size)));obtain⟨b10,b11,b12,_⟩:=j7 (RS1.out z2 (H14.out.trans (z2B.out.mono H14.out.size)));obtain⟨a20,a21,a22,a23,a24,a25,_⟩:=j8 (RC2.out z2 (H24.out.trans (z2B.out.mono H24.out.size)));obtain⟨b20,b21,b22,_⟩:=j7 (RS2.out z2 (H24.out.trans (z2B.out.mono H24.out.size)));obtain⟨a30,a31,a32,a33,a34,a35,_⟩:=j8 (RC3.out z2 (H34.out.trans (z2B.out.mono H34.out.size)));obtain⟨b30,b31,b32,_⟩:=j7 (RS3.out z2 (H34.out.trans (z2B.out.mono H34.out.size)));obtain⟨a40,a41,a42,a43,a44,a45,_⟩:=j8 (RC4.out z2 (H44.out.trans (z2B.out.mono H44.out.size)));obtain⟨b40,b41,b42,_⟩:=j7 (RS4.out z2 (H44.out.trans (z2B.out.mono H44.out.size)));clear hb)
  |(go_at_call 38;have MMz1:=H44;refine(JL _ _ C C (·<u4.heap.size) (·<u4.heap.size) u4 ⟨_,rfl,((VU1.out.on H14.out).at 0 rfl)⟩ ⟨_,rfl,((VU2.out.on H24.out).at 0 rfl)⟩).mono ?_;rintro e z1 ⟨rfl,hb⟩;rw [decide_eq_true (show C.cl=C.cl/\C.ins=C.ins/\C.p1=C.p1/\C.p2=C.p2/\C.ex=C.ex/\C.data=C.data from⟨rfl,rfl,rfl,rfl,rfl,rfl⟩)];have z1B:Hid (Below u4.heap.size u4 z1):=iH hb;clear a10 a11 a12 a13 a14 a15 b10 b11 b12 a20 a21 a22 a23 a24 a25 b20 b21 b22 a30 a31 a32 a33 a34 a35 b30 b31 b32 a40 a41 a42 a43 a44 a45 b40 b41 b42;obtain⟨a10,a11,a12,a13,a14,a15,_⟩:=j8 (RC1.out z1 (H14.out.trans (z1B.out.mono H14.out.size)));obtain⟨b10,b11,b12,_⟩:=j7 (RS1.out z1 (H14.out.trans (z1B.out.mono H14.out.size)));obtain⟨a20,a21,a22,a23,a24,a25,_⟩:=j8 (RC2.out z1 (H24.out.trans (z1B.out.mono H24.out.size)));obtain⟨b20,b21,b22,_⟩:=j7 (RS2.out z1 (H24.out.trans (z1B.out.mono H24.out.size)));obtain⟨a30,a31,a32,a33,a34,a35,_⟩:=j8 (RC3.out z1 (H34.out.trans (z1B.out.mono H34.out.size)));obtain⟨b30,b31,b32,_⟩:=j7 (RS3.out z1 (H34.out.trans (z1B.out.mono H34.out.size)));obtain⟨a40,a41,a42,a43,a44,a45,_⟩:=j8 (RC4.out z1 (H44.out.trans (z1B.out.mono H44.out.size)));obtain⟨b40,b41,b42,_⟩:=j7 (RS4.out z1 (H44.out.trans (z1B.out.mono H44.out.size)));clear hb))
 go_ret
 exact⟨rfl,HB0.out.trans ((HU4.out.trans (z4B.out.mono HU4.out.size)).mono HB0.out.size)⟩
theorem QE(vs vc vd:Value)(k1 k2:List UInt8)(n:Int)(c:List UInt8)(st:Int)(d:List UInt8)(sd:Int)(w:World)(hs:qs w (·<w.heap.size) vs k1 k2 n)(hc:QU w (·<w.heap.size) vc c st)(hd:QU w (·<w.heap.size) vd d sd):
 Calls Tryz.prog 19 #[vs,vc,vd] w fun e w'=>e=.returned (.bool true)/\Below w.heap.size w w':=by
 obtain⟨ua,ub,rfl,ha,hb⟩:=hs
 obtain⟨A1,d1,hp⟩:=Bs.formL ha;subst hp
 obtain⟨A2,d2,hp⟩:=Bs.formL hb;subst hp
 obtain⟨uc,rfl,hcd⟩:=hc
 obtain⟨ud,rfl,hdd⟩:=hd
 obtain⟨cA,cc,hp⟩:=Bs.formL hcd;subst hp
 obtain⟨dA,dc,hp⟩:=Bs.formL hdd;subst hp
 obtain⟨⟨E,C,S1,K1,K2,M⟩,hr1⟩:∃r,kK k1 k2 n c st=r:=⟨_,rfl⟩
 obtain⟨⟨F,D,S2,L1,L2,Q⟩,hr2⟩:∃r,ky k1 k2 n d sd=r:=⟨_,rfl⟩
 have HR1:=iH hr1;have HR2:=iH hr2
 obtain⟨ws,hws⟩:∃ws,ws=w.alloc (.cells #[.slice A1 k1.length d1,.slice A2 k2.length d2,.int .i64 n] 29):=⟨_,rfl⟩
 obtain⟨wq,hwq⟩:∃wq,wq=ws.alloc (.cells #[.slice cA c.length cc,.int .i64 st] 44):=⟨_,rfl⟩
 obtain⟨w0,hw0⟩:∃w0,w0=wq.alloc (.cells #[.slice dA d.length dc,.int .i64 sd] 44):=⟨_,rfl⟩
 have zs:ws.heap.size=w.heap.size+1:=by rw [hws];simp
 have zq:wq.heap.size=w.heap.size+1+1:=by rw [hwq];simp [zs]
 have b1:Below w.heap.size w ws:=by rw [hws];exact iA
 have b2:Below ws.heap.size ws wq:=by rw [hwq];exact iA
 have b3:Below wq.heap.size wq w0:=by rw [hw0];exact iA
 have z0:w0.heap.size=w.heap.size+1+1+1:=by rw [hw0];simp [zq]
 have q1:ws.heap[w.heap.size]?=some (.cells #[.slice A1 k1.length d1,.slice A2 k2.length d2,.int .i64 n] 29 (0,0)):=by rw [hws];exact iN
 have q2:wq.heap[w.heap.size+1]?=some (.cells #[.slice cA c.length cc,.int .i64 st] 44 (0,0)):=by rw [hwq,<-zs];exact iN
 have q3:w0.heap[w.heap.size+1+1]?=some (.cells #[.slice dA d.length dc,.int .i64 sd] 44 (0,0)):=by rw [hw0,<-zq];exact iN
 have e2:=(b3.block (w.heap.size+1) (by omega)).trans q2
 have e1:=(b3.block w.heap.size (by omega)).trans ((b2.block w.heap.size (by omega)).trans q1)
 have hB:Below w.heap.size w w0:=b1.trans ((b2.trans (b3.mono b2.size)).mono b1.size)
 have CS:Hid (∀W,Below w0.heap.size w0 W->W.cell? ⟨w.heap.size,0,none⟩=some (.slice A1 k1.length d1)/\W.cell? ⟨w.heap.size,1,none⟩=some (.slice A2 k2.length d2)/\W.cell? ⟨w.heap.size,2,none⟩=some (.int .i64 n)):=iH fun W h=>(by obtain⟨a,b,c,_⟩:=j7 ((h.block w.heap.size (by omega)).trans e1);exact⟨a,b,c⟩)
 have CC:Hid (∀W,Below w0.heap.size w0 W->W.cell? ⟨w.heap.size+1,0,none⟩=some (.slice cA c.length cc)/\W.cell? ⟨w.heap.size+1,1,none⟩=some (.int .i64 st)):=iH fun W h=>(by obtain⟨a,b,_⟩:=jd ((h.block (w.heap.size+1) (by omega)).trans e2);exact⟨a,b⟩)
 have CD:Hid (∀W,Below w0.heap.size w0 W->W.cell? ⟨w.heap.size+1+1,0,none⟩=some (.slice dA d.length dc)/\W.cell? ⟨w.heap.size+1+1,1,none⟩=some (.int .i64 sd)):=iH fun W h=>(by obtain⟨a,b,_⟩:=jd ((h.block (w.heap.size+1+1) (by omega)).trans q3);exact⟨a,b⟩)
 have HB0:=iH hB;have HWS:=iH hws;have HWQ:=iH hwq;have HW0:=iH hw0
 have HK1:=iH (Bs.lift ha hB);have HK2:=iH (Bs.lift hb hB);have HCD:=iH (Bs.lift hcd hB);have HDD:=iH (Bs.lift hdd hB)
 have HSV:Hid (∀W,Below w0.heap.size w0 W->qs W (·<W.heap.size) (.agg #[.slice A1 k1.length d1,.slice A2 k2.length d2,.int .i64 n]) k1 k2 n):=iH fun W h=>⟨_,_,rfl,HK1.out.lift h,HK2.out.lift h⟩
 have HCV:Hid (∀W,Below w0.heap.size w0 W->QU W (·<W.heap.size) (.agg #[.slice cA c.length cc,.int .i64 st]) c st):=iH fun W h=>⟨_,rfl,HCD.out.lift h⟩
 have HDV:Hid (∀W,Below w0.heap.size w0 W->QU W (·<W.heap.size) (.agg #[.slice dA d.length dc,.int .i64 sd]) d sd):=iH fun W h=>⟨_,rfl,HDD.out.lift h⟩
 clear ha hb hcd hdd hr1 hr2 hws hwq hw0 zs zq z0 b1 b2 b3 q1 q2 q3 e1 e2 hB
 go_enter Tryz.func19,Tryz.ntmps19
 go_upto_region 1 with fail
 rw [<-HWS.out,<-HWQ.out,<-HW0.out]
 obtain⟨s0,s1,s2⟩:=CS.out w0 iB
 obtain⟨c0,c1⟩:=CC.out w0 iB
 go_upto_region 2 with (go_at_call 40;refine(Uo _ _ k1 k2 n c st w0 (HSV.out w0 iB) (HCV.out w0 iB)).mono ?_;rw [HR1.out];rintro e w1 ⟨v,s,rfl,⟨d1,rfl,hd⟩,⟨x1,y1,rfl,hx,hy⟩,hb⟩;obtain⟨dA1,dc1,hp⟩:=Bs.formL hd;subst hp;obtain⟨xA1,xc1,hp⟩:=Bs.formL hx;subst hp;obtain⟨yA1,yc1,hp⟩:=Bs.formL hy;subst hp;have HV1:Hid (VW w1 [(.slice dA1 C.length dc1,C),(.slice xA1 K1.length xc1,K1),(.slice yA1 K2.length yc1,K2)]):=iH (((VW.nil.add (S:=(·<w1.heap.size)) (fun _ h=>h) hy).add (S:=(·<w1.heap.size)) (fun _ h=>h) hx).add (S:=(·<w1.heap.size)) (fun _ h=>h) hd);have HB1:=iH hb;obtain⟨hz,hs0⟩:=zD w1;obtain⟨n0,n1,nf⟩:=jd hz;have nf0:=nf 0;have nf1:=nf 1;obtain⟨m0,m1,m2,mf⟩:=j7 hs0;have mf0:=mf 0;have mf1:=mf 1;have mf2:=mf 2;clear nf mf hz hs0 hd hx hy hb)
 clear s0 s1 s2 c0 c1 n0 n1 nf0 nf1 m0 m1 m2 mf0 mf1 mf2
 obtain⟨u1,hu1⟩:∃u,u=(w1.alloc (.cells #[.slice dA1 C.length dc1,.int .i64 S1] 44)).alloc (.cells #[.slice xA1 K1.length xc1,.slice yA1 K2.length yc1,.int .i64 M] 29):=⟨_,rfl⟩
 rw [<-hu1]
 have hwu:Below w1.heap.size w1 u1:=by rw [hu1];exact(iA).alloc (by simp) _
 have hcr:u1.heap[w1.heap.size]?=some (.cells #[.slice dA1 C.length dc1,.int .i64 S1] 44 (0,0)):=by rw [hu1,Below.heap_alloc _ _ _ (by simp)];exact iN
 have hsr:u1.heap[w1.heap.size+1]?=some (.cells #[.slice xA1 K1.length xc1,.slice yA1 K2.length yc1,.int .i64 M] 29 (0,0)):=by
  rw [hu1]
  have h:=heap_alloc_new (w1.alloc (.cells #[.slice dA1 C.length dc1,.int .i64 S1] 44)) (.cells #[.slice xA1 K1.length xc1,.slice yA1 K2.length yc1,.int .i64 M] 29)
  rwa [show(w1.alloc (.cells #[.slice dA1 C.length dc1,.int .i64 S1] 44)).heap.size=w1.heap.size+1 by simp]at h
 have RC1:Hid (∀W,Below u1.heap.size u1 W->W.heap[w1.heap.size]?=some (.cells #[.slice dA1 C.length dc1,.int .i64 S1] 44 (0,0))):=iH fun W h=>(h.block _ (iG hcr)).trans hcr
 have RS1:Hid (∀W,Below u1.heap.size u1 W->W.heap[w1.heap.size+1]?=some (.cells #[.slice xA1 K1.length xc1,.slice yA1 K2.length yc1,.int .i64 M] 29 (0,0))):=iH fun W h=>(h.block _ (iG hsr)).trans hsr
 have VU1:=iH (HV1.out.on hwu)
 have HX1:=iH (HB1.out.trans (hwu.mono HB1.out.size))
 have HU1:Hid (Below w0.heap.size w0 u1):=iH HX1.out
 clear hwu hcr hsr hu1
 obtain⟨s0,s1,s2⟩:=CS.out u1 HU1.out
 obtain⟨c0,c1⟩:=CC.out u1 HU1.out
 go_upto_region 3 with (go_at_call 21;refine(Q0 _ _ k1 k2 n c st u1 (HSV.out u1 HU1.out) (HCV.out u1 HU1.out)).mono ?_;rw [HR1.out];rintro e w2 ⟨v,s,rfl,⟨d2,rfl,hd⟩,⟨x2,y2,rfl,hx,hy⟩,hb⟩;obtain⟨dA2,dc2,hp⟩:=Bs.formL hd;subst hp;obtain⟨xA2,xc2,hp⟩:=Bs.formL hx;subst hp;obtain⟨yA2,yc2,hp⟩:=Bs.formL hy;subst hp;have HV2:Hid (VW w2 [(.slice dA2 C.length dc2,C),(.slice xA2 K1.length xc2,K1),(.slice yA2 K2.length yc2,K2)]):=iH (((VW.nil.add (S:=(·<w2.heap.size)) (fun _ h=>h) hy).add (S:=(·<w2.heap.size)) (fun _ h=>h) hx).add (S:=(·<w2.heap.size)) (fun _ h=>h) hd);have HB2:=iH hb;obtain⟨hz,hs0⟩:=zD w2;obtain⟨n0,n1,nf⟩:=jd hz;have nf0:=nf 0;have nf1:=nf 1;obtain⟨m0,m1,m2,mf⟩:=j7 hs0;have mf0:=mf 0;have mf1:=mf 1;have mf2:=mf 2;clear nf mf hz hs0 hd hx hy hb)
 clear s0 s1 s2 c0 c1 n0 n1 nf0 nf1 m0 m1 m2 mf0 mf1 mf2
 obtain⟨u2,hu2⟩:∃u,u=(w2.alloc (.cells #[.slice dA2 C.length dc2,.int .i64 S1] 44)).alloc (.cells #[.slice xA2 K1.length xc2,.slice yA2 K2.length yc2,.int .i64 M] 29):=⟨_,rfl⟩
 rw [<-hu2]
 have hwu:Below w2.heap.size w2 u2:=by rw [hu2];exact(iA).alloc (by simp) _
 have hcr:u2.heap[w2.heap.size]?=some (.cells #[.slice dA2 C.length dc2,.int .i64 S1] 44 (0,0)):=by rw [hu2,Below.heap_alloc _ _ _ (by simp)];exact iN
 have hsr:u2.heap[w2.heap.size+1]?=some (.cells #[.slice xA2 K1.length xc2,.slice yA2 K2.length yc2,.int .i64 M] 29 (0,0)):=by
  rw [hu2]
  have h:=heap_alloc_new (w2.alloc (.cells #[.slice dA2 C.length dc2,.int .i64 S1] 44)) (.cells #[.slice xA2 K1.length xc2,.slice yA2 K2.length yc2,.int .i64 M] 29)
  rwa [show(w2.alloc (.cells #[.slice dA2 C.length dc2,.int .i64 S1] 44)).heap.size=w2.heap.size+1 by simp]at h
 have RC2:Hid (∀W,Below u2.heap.size u2 W->W.heap[w2.heap.size]?=some (.cells #[.slice dA2 C.length dc2,.int .i64 S1] 44 (0,0))):=iH fun W h=>(h.block _ (iG hcr)).trans hcr
 have RS2:Hid (∀W,Below u2.heap.size u2 W->W.heap[w2.heap.size+1]?=some (.cells #[.slice xA2 K1.length xc2,.slice yA2 K2.length yc2,.int .i64 M] 29 (0,0))):=iH fun W h=>(h.block _ (iG hsr)).trans hsr
 have VU2:=iH (HV2.out.on hwu)
 have HX2:=iH (HB2.out.trans (hwu.mono HB2.out.size))
 have HU2:Hid (Below w0.heap.size w0 u2):=iH (HU1.out.trans (HX2.out.mono HU1.out.size))
 clear hwu hcr hsr hu2
 obtain⟨s0,s1,s2⟩:=CS.out u2 HU2.out
 obtain⟨c0,c1⟩:=CD.out u2 HU2.out
 go_upto_region 4 with (go_at_call 41;refine(VT _ _ k1 k2 n d sd u2 (HSV.out u2 HU2.out) (HDV.out u2 HU2.out)).mono ?_;rw [HR2.out];rintro e w3 ⟨v,s,rfl,⟨d3,rfl,hd⟩,⟨x3,y3,rfl,hx,hy⟩,hb⟩;obtain⟨dA3,dc3,hp⟩:=Bs.formL hd;subst hp;obtain⟨xA3,xc3,hp⟩:=Bs.formL hx;subst hp;obtain⟨yA3,yc3,hp⟩:=Bs.formL hy;subst hp;have HV3:Hid (VW w3 [(.slice dA3 D.length dc3,D),(.slice xA3 L1.length xc3,L1),(.slice yA3 L2.length yc3,L2)]):=iH (((VW.nil.add (S:=(·<w3.heap.size)) (fun _ h=>h) hy).add (S:=(·<w3.heap.size)) (fun _ h=>h) hx).add (S:=(·<w3.heap.size)) (fun _ h=>h) hd);have HB3:=iH hb;obtain⟨hz,hs0⟩:=zD w3;obtain⟨n0,n1,nf⟩:=jd hz;have nf0:=nf 0;have nf1:=nf 1;obtain⟨m0,m1,m2,mf⟩:=j7 hs0;have mf0:=mf 0;have mf1:=mf 1;have mf2:=mf 2;clear nf mf hz hs0 hd hx hy hb)
 clear s0 s1 s2 c0 c1 n0 n1 nf0 nf1 m0 m1 m2 mf0 mf1 mf2
 obtain⟨u3,hu3⟩:∃u,u=(w3.alloc (.cells #[.slice dA3 D.length dc3,.int .i64 S2] 44)).alloc (.cells #[.slice xA3 L1.length xc3,.slice yA3 L2.length yc3,.int .i64 Q] 29):=⟨_,rfl⟩
 rw [<-hu3]
 have hwu:Below w3.heap.size w3 u3:=by rw [hu3];exact(iA).alloc (by simp) _
 have hcr:u3.heap[w3.heap.size]?=some (.cells #[.slice dA3 D.length dc3,.int .i64 S2] 44 (0,0)):=by rw [hu3,Below.heap_alloc _ _ _ (by simp)];exact iN
 have hsr:u3.heap[w3.heap.size+1]?=some (.cells #[.slice xA3 L1.length xc3,.slice yA3 L2.length yc3,.int .i64 Q] 29 (0,0)):=by
  rw [hu3]
  have h:=heap_alloc_new (w3.alloc (.cells #[.slice dA3 D.length dc3,.int .i64 S2] 44)) (.cells #[.slice xA3 L1.length xc3,.slice yA3 L2.length yc3,.int .i64 Q] 29)
  rwa [show(w3.alloc (.cells #[.slice dA3 D.length dc3,.int .i64 S2] 44)).heap.size=w3.heap.size+1 by simp]at h
 have RC3:Hid (∀W,Below u3.heap.size u3 W->W.heap[w3.heap.size]?=some (.cells #[.slice dA3 D.length dc3,.int .i64 S2] 44 (0,0))):=iH fun W h=>(h.block _ (iG hcr)).trans hcr
 have RS3:Hid (∀W,Below u3.heap.size u3 W->W.heap[w3.heap.size+1]?=some (.cells #[.slice xA3 L1.length xc3,.slice yA3 L2.length yc3,.int .i64 Q] 29 (0,0))):=iH fun W h=>(h.block _ (iG hsr)).trans hsr
 have VU3:=iH (HV3.out.on hwu)
 have HX3:=iH (HB3.out.trans (hwu.mono HB3.out.size))
 have HU3:Hid (Below w0.heap.size w0 u3):=iH (HU2.out.trans (HX3.out.mono HU2.out.size))
 clear hwu hcr hsr hu3
 obtain⟨s0,s1,s2⟩:=CS.out u3 HU3.out
 obtain⟨c0,c1⟩:=CD.out u3 HU3.out
 go_upto_region 5 with (go_at_call 42;refine(j0k _ _ k1 k2 n d sd u3 (HSV.out u3 HU3.out) (HDV.out u3 HU3.out)).mono ?_;rw [HR2.out];rintro e w4 ⟨v,s,rfl,⟨d4,rfl,hd⟩,⟨x4,y4,rfl,hx,hy⟩,hb⟩;obtain⟨dA4,dc4,hp⟩:=Bs.formL hd;subst hp;obtain⟨xA4,xc4,hp⟩:=Bs.formL hx;subst hp;obtain⟨yA4,yc4,hp⟩:=Bs.formL hy;subst hp;have HV4:Hid (VW w4 [(.slice dA4 D.length dc4,D),(.slice xA4 L1.length xc4,L1),(.slice yA4 L2.length yc4,L2)]):=iH (((VW.nil.add (S:=(·<w4.heap.size)) (fun _ h=>h) hy).add (S:=(·<w4.heap.size)) (fun _ h=>h) hx).add (S:=(·<w4.heap.size)) (fun _ h=>h) hd);have HB4:=iH hb;obtain⟨hz,hs0⟩:=zD w4;obtain⟨n0,n1,nf⟩:=jd hz;have nf0:=nf 0;have nf1:=nf 1;obtain⟨m0,m1,m2,mf⟩:=j7 hs0;have mf0:=mf 0;have mf1:=mf 1;have mf2:=mf 2;clear nf mf hz hs0 hd hx hy hb)
 clear s0 s1 s2 c0 c1 n0 n1 nf0 nf1 m0 m1 m2 mf0 mf1 mf2
 obtain⟨u4,hu4⟩:∃u,u=(w4.alloc (.cells #[.slice dA4 D.length dc4,.int .i64 S2] 44)).alloc (.cells #[.slice xA4 L1.length xc4,.slice yA4 L2.length yc4,.int .i64 Q] 29):=⟨_,rfl⟩
 rw [<-hu4]
 have hwu:Below w4.heap.size w4 u4:=by rw [hu4];exact(iA).alloc (by simp) _
 have hcr:u4.heap[w4.heap.size]?=some (.cells #[.slice dA4 D.length dc4,.int .i64 S2] 44 (0,0)):=by rw [hu4,Below.heap_alloc _ _ _ (by simp)];exact iN
 have hsr:u4.heap[w4.heap.size+1]?=some (.cells #[.slice xA4 L1.length xc4,.slice yA4 L2.length yc4,.int .i64 Q] 29 (0,0)):=by
  rw [hu4]
  have h:=heap_alloc_new (w4.alloc (.cells #[.slice dA4 D.length dc4,.int .i64 S2] 44)) (.cells #[.slice xA4 L1.length xc4,.slice yA4 L2.length yc4,.int .i64 Q] 29)
  rwa [show(w4.alloc (.cells #[.slice dA4 D.length dc4,.int .i64 S2] 44)).heap.size=w4.heap.size+1 by simp]at h
 have RC4:Hid (∀W,Below u4.heap.size u4 W->W.heap[w4.heap.size]?=some (.cells #[.slice dA4 D.length dc4,.int .i64 S2] 44 (0,0))):=iH fun W h=>(h.block _ (iG hcr)).trans hcr
 have RS4:Hid (∀W,Below u4.heap.size u4 W->W.heap[w4.heap.size+1]?=some (.cells #[.slice xA4 L1.length xc4,.slice yA4 L2.length yc4,.int .i64 Q] 29 (0,0))):=iH fun W h=>(h.block _ (iG hsr)).trans hsr
 have VU4:=iH (HV4.out.on hwu)
 have HX4:=iH (HB4.out.trans (hwu.mono HB4.out.size))
 have HU4:Hid (Below w0.heap.size w0 u4):=iH (HU3.out.trans (HX4.out.mono HU3.out.size))
 clear hwu hcr hsr hu4
 have H44:Hid (Below u4.heap.size u4 u4):=iH iB
 have H34:=iH HX4.out
 have H24:=iH (HX3.out.trans (HX4.out.mono HX3.out.size))
 have H14:=iH (HX2.out.trans (H24.out.mono HX2.out.size))
 obtain⟨a10,a11,_⟩:=jd (RC1.out u4 H14.out);obtain⟨b10,b11,b12,_⟩:=j7 (RS1.out u4 H14.out)
 obtain⟨a20,a21,_⟩:=jd (RC2.out u4 H24.out);obtain⟨b20,b21,b22,_⟩:=j7 (RS2.out u4 H24.out)
 obtain⟨a30,a31,_⟩:=jd (RC3.out u4 H34.out);obtain⟨b30,b31,b32,_⟩:=j7 (RS3.out u4 H34.out)
 obtain⟨a40,a41,_⟩:=jd (RC4.out u4 H44.out);obtain⟨b40,b41,b42,_⟩:=j7 (RS4.out u4 H44.out)
 have tE:(E==E)=true:=by simp
 have tF:(F==F)=true:=by simp
 go_wp2_with(first
  |(go_at_call 39;have MMz4:=z3B;refine(yD _ _ L1 L2 L1 L2 Q Q (·<z3.heap.size) (·<z3.heap.size) z3 ⟨_,_,rfl,((VU3.out.on (H34.out.trans (z3B.out.mono H34.out.size))).at 1 rfl),((VU3.out.on (H34.out.trans (z3B.out.mono H34.out.size))).at 2 rfl)⟩ ⟨_,_,rfl,((VU4.out.on (H44.out.trans (z3B.out.mono H44.out.size))).at 1 rfl),((VU4.out.on (H44.out.trans (z3B.out.mono H44.out.size))).at 2 rfl)⟩).mono ?_;rintro e z4 ⟨rfl,hb⟩;rw [decide_eq_true (show Q=Q/\L1=L1/\L2=L2 from⟨rfl,rfl,rfl⟩)];have z4B:Hid (Below u4.heap.size u4 z4):=iH (z3B.out.trans (hb.mono z3B.out.size));clear a10 a11 b10 b11 b12 a20 a21 b20 b21 b22 a30 a31 b30 b31 b32 a40 a41 b40 b41 b42;obtain⟨a10,a11,_⟩:=jd (RC1.out z4 (H14.out.trans (z4B.out.mono H14.out.size)));obtain⟨b10,b11,b12,_⟩:=j7 (RS1.out z4 (H14.out.trans (z4B.out.mono H14.out.size)));obtain⟨a20,a21,_⟩:=jd (RC2.out z4 (H24.out.trans (z4B.out.mono H24.out.size)));obtain⟨b20,b21,b22,_⟩:=j7 (RS2.out z4 (H24.out.trans (z4B.out.mono H24.out.size)));obtain⟨a30,a31,_⟩:=jd (RC3.out z4 (H34.out.trans (z4B.out.mono H34.out.size)));obtain⟨b30,b31,b32,_⟩:=j7 (RS3.out z4 (H34.out.trans (z4B.out.mono H34.out.size)));obtain⟨a40,a41,_⟩:=jd (RC4.out z4 (H44.out.trans (z4B.out.mono H44.out.size)));obtain⟨b40,b41,b42,_⟩:=j7 (RS4.out z4 (H44.out.trans (z4B.out.mono H44.out.size)));clear hb)
  |(go_at_call 43;have MMz3:=z2B;refine(Kk _ _ D D S2 S2 (·<z2.heap.size) (·<z2.heap.size) z2 ⟨_,rfl,((VU3.out.on (H34.out.trans (z2B.out.mono H34.out.size))).at 0 rfl)⟩ ⟨_,rfl,((VU4.out.on (H44.out.trans (z2B.out.mono H44.out.size))).at 0 rfl)⟩).mono ?_;rintro e z3 ⟨rfl,hb⟩;rw [decide_eq_true (show S2=S2/\D=D from⟨rfl,rfl⟩)];have z3B:Hid (Below u4.heap.size u4 z3):=iH (z2B.out.trans (hb.mono z2B.out.size));clear a10 a11 b10 b11 b12 a20 a21 b20 b21 b22 a30 a31 b30 b31 b32 a40 a41 b40 b41 b42;obtain⟨a10,a11,_⟩:=jd (RC1.out z3 (H14.out.trans (z3B.out.mono H14.out.size)));obtain⟨b10,b11,b12,_⟩:=j7 (RS1.out z3 (H14.out.trans (z3B.out.mono H14.out.size)));obtain⟨a20,a21,_⟩:=jd (RC2.out z3 (H24.out.trans (z3B.out.mono H24.out.size)));obtain⟨b20,b21,b22,_⟩:=j7 (RS2.out z3 (H24.out.trans (z3B.out.mono H24.out.size)));obtain⟨a30,a31,_⟩:=jd (RC3.out z3 (H34.out.trans (z3B.out.mono H34.out.size)));obtain⟨b30,b31,b32,_⟩:=j7 (RS3.out z3 (H34.out.trans (z3B.out.mono H34.out.size)));obtain⟨a40,a41,_⟩:=jd (RC4.out z3 (H44.out.trans (z3B.out.mono H44.out.size)));obtain⟨b40,b41,b42,_⟩:=j7 (RS4.out z3 (H44.out.trans (z3B.out.mono H44.out.size)));clear hb)
  |(go_at_call 39;have MMz2:=z1B;refine(yD _ _ K1 K2 K1 K2 M M (·<z1.heap.size) (·<z1.heap.size) z1 ⟨_,_,rfl,((VU1.out.on (H14.out.trans (z1B.out.mono H14.out.size))).at 1 rfl),((VU1.out.on (H14.out.trans (z1B.out.mono H14.out.size))).at 2 rfl)⟩ ⟨_,_,rfl,((VU2.out.on (H24.out.trans (z1B.out.mono H24.out.size))).at 1 rfl),((VU2.out.on (H24.out.trans (z1B.out.mono H24.out.size))).at 2 rfl)⟩).mono ?_;rintro e z2 ⟨rfl,hb⟩;rw [decide_eq_true (show M=M/\K1=K1/\K2=K2 from⟨rfl,rfl,rfl⟩)];have z2B:Hid (Below u4.heap.size u4 z2):=iH (z1B.out.trans (hb.mono z1B.out.size));clear a10 a11 b10 b11 b12 a20 a21 b20 b21 b22 a30 a31 b30 b31 b32 a40 a41 b40 b41 b42;obtain⟨a10,a11,_⟩:=jd (RC1.out z2 (H14.out.trans (z2B.out.mono H14.out.size)));obtain⟨b10,b11,b12,_⟩:=j7 (RS1.out z2 (H14.out.trans (z2B.out.mono H14.out.size)));obtain⟨a20,a21,_⟩:=jd (RC2.out z2 (H24.out.trans (z2B.out.mono H24.out.size)));obtain⟨b20,b21,b22,_⟩:=j7 (RS2.out z2 (H24.out.trans (z2B.out.mono H24.out.size)));obtain⟨a30,a31,_⟩:=jd (RC3.out z2 (H34.out.trans (z2B.out.mono H34.out.size)));obtain⟨b30,b31,b32,_⟩:=j7 (RS3.out z2 (H34.out.trans (z2B.out.mono H34.out.size)));obtain⟨a40,a41,_⟩:=jd (RC4.out z2 (H44.out.trans (z2B.out.mono H44.out.size)));obtain⟨b40,b41,b42,_⟩:=j7 (RS4.out z2 (H44.out.trans (z2B.out.mono H44.out.size)));clear hb)
  |(go_at_call 43;have MMz1:=H44;refine(Kk _ _ C C S1 S1 (·<u4.heap.size) (·<u4.heap.size) u4 ⟨_,rfl,((VU1.out.on H14.out).at 0 rfl)⟩ ⟨_,rfl,((VU2.out.on H24.out).at 0 rfl)⟩).mono ?_;rintro e z1 ⟨rfl,hb⟩;rw [decide_eq_true (show S1=S1/\C=C from⟨rfl,rfl⟩)];have z1B:Hid (Below u4.heap.size u4 z1):=iH hb;clear a10 a11 b10 b11 b12 a20 a21 b20 b21 b22 a30 a31 b30 b31 b32 a40 a41 b40 b41 b42;obtain⟨a10,a11,_⟩:=jd (RC1.out z1 (H14.out.trans (z1B.out.mono H14.out.size)));obtain⟨b10,b11,b12,_⟩:=j7 (RS1.out z1 (H14.out.trans (z1B.out.mono H14.out.size)));obtain⟨a20,a21,_⟩:=jd (RC2.out z1 (H24.out.trans (z1B.out.mono H24.out.size)));obtain⟨b20,b21,b22,_⟩:=j7 (RS2.out z1 (H24.out.trans (z1B.out.mono H24.out.size)));obtain⟨a30,a31,_⟩:=jd (RC3.out z1 (H34.out.trans (z1B.out.mono H34.out.size)));obtain⟨b30,b31,b32,_⟩:=j7 (RS3.out z1 (H34.out.trans (z1B.out.mono H34.out.size)));obtain⟨a40,a41,_⟩:=jd (RC4.out z1 (H44.out.trans (z1B.out.mono H44.out.size)));obtain⟨b40,b41,b42,_⟩:=j7 (RS4.out z1 (H44.out.trans (z1B.out.mono H44.out.size)));clear hb))
 go_ret
 exact⟨rfl,HB0.out.trans ((HU4.out.trans (z4B.out.mono HU4.out.size)).mono HB0.out.size)⟩
def JW(wd we:World)(L:Nat->Bool)(_:Nat->Value)(w2:World):Prop:=(L 11=false/\w2=wd)\/(L 11=true/\L 6=true/\L 9=true/\w2=we)
section
variable {wd we w2:World} {L:Nat->Bool} {v:Nat->Value} {y:Value}
section
variable(h:JW wd we L v w2)
include h
theorem JW.step(i:Nat)(hi:i≠11):JW wd we (ji L i) (jy v i y) w2:=by
 unfold JW ji
 rw [iF (Ne.symm hi)]
 rcases h with ⟨a,b⟩|⟨a,b,c,d⟩
 ·exact .inl ⟨a,b⟩
 ·exact .inr ⟨a,by split<;>first|rfl|exact b,by split<;>first|rfl|exact c,d⟩
theorem JW.at(hL:L 6=false\/L 9=false):w2=wd:=by
 rcases h with ⟨_,b⟩|⟨_,b,c,_⟩
 ·exact b
 ·rw [b,c]at hL;simp at hL
theorem JW.off(hL:L 11=false):w2=wd:=by
 rcases h with ⟨_,b⟩|⟨a,_⟩
 ·exact b
 ·rw [a]at hL;cases hL
theorem JW.on(hL:L 11=true):w2=we:=by
 rcases h with ⟨a,_⟩|⟨_,_,_,b⟩
 ·rw [a]at hL;cases hL
 ·exact b
end
theorem JW.set(h6:L 6=true)(h9:L 9=true):JW wd we (ji L 11) (jy v 11 y) we:=.inr ⟨by simp [ji],by simp [ji,h6],by simp [ji,h9],rfl⟩
end
theorem XQ{w:World}{base e size n:Nat}{v:Value}{xs:List Value}(h:w.ownsRow base e size v n xs):∃A c,v=.slice A n c:=by
 rcases h.2 with ⟨rfl,rfl⟩|⟨g,cap,cur,hv,_⟩
 ·exact⟨_,_,rfl⟩
 ·exact⟨_,_,hv⟩
theorem YF{w:World}{base:Nat}{S:Nat->Prop}{o:Value}{L:Ns}(h:RowN w base S o L){b:Nat}(e:o.ownBlock=some b):base<=b:=by
 obtain⟨xs,h1,_⟩:=h
 exact(h1.lt b e).1
theorem U0{w1 w3 w4:World}{r:Option Nat}(h:Below w1.heap.size w1 w3)(hg:w3.grownBy w4 r)(hr:∀b,r=some b->w1.heap.size<=b):Below w1.heap.size w1 w4:=
 ⟨hg.os.trans h.os,hg.tape.trans h.tape,hg.output.trans h.output,Nat.le_trans h.size hg.size,fun i hi=>(hg.block i (iZ hi h.size) (fun e=>by have:=hr i e.symm;omega)).trans (h.block i hi)⟩
theorem UI(w:World)(base:Nat)(S:Nat->Prop)(o:Value)(L M:Ns)(ty:TypeId)(x:Addr)(c:Nat)(ys:List Value)(hown:RowN w base S o L)(hys:EachN w S M ys)(hc:∀j u,ys[j]?=some u->w.cell? (x.add j)=some u)(hS:∀b,S b->o.ownBlock≠some b)(hl:L.len+M.len<=1000000000000)(hbase:base<=w.heap.size):
 ∃o' w',(Builtin.append_ #[58,58] ty #[o,.slice (some x) M.len c]).run Tryz.prog w=.ok o' w'/\RowN w' base S o' (L.app M)/\w.grownBy w' o.ownBlock/\(o'.ownBlock=o.ownBlock\/o'.ownBlock=some w.heap.size):=by
 obtain⟨xs,h1,h2⟩:=hown
 obtain⟨i,hinfo,hzz⟩:=Option.map_eq_some_iff.1 zk
 simp only [Prod.mk.injEq]at hzz
 obtain⟨hz,hsize,hbb⟩:=hzz
 obtain⟨hy1,hy2⟩:=EachN.one' M ys hys
 obtain⟨o',w',hr,g1,g2,_,g3⟩:=run_append_own_at (P:=Tryz.prog) w base 58 ty 61 i _ 3 56 Tryz.underlying58 hinfo hz hsize hbb rfl (by omega) o L.len xs h1 x M.len c ys hy1 hc hy2 (by unfold maxLen;omega) (by omega) hbase
 have hk:∀b,S b->b<w.heap.size->w'.heap[b]?=w.heap[b]?/\S b:=fun b hs hl'=>⟨g2.block b hl' (fun e=>hS b hs e.symm),hs⟩
 exact⟨o',w',hr,⟨xs++ys,by rw [Ns.len_app];exact g1,EachN.app L xs (h2.keep hk L xs) (hys.keep hk M ys)⟩,g2,g3⟩
theorem Zc{op:Oper}{a:Act}{w:World}{K:Act->World->Prop}{Q:Exit->Act->World->Prop}(s x:Operand)(ho:op.op=.call {callee:=.builtin .append,args:=#[s,x],argTypes:=#[58,58]})(base:Nat)(S:Nat->Prop)(o:Value)(L M:Ns)(hs:a.eval s=o)(hown:RowN w base S o L)(A:Addr)(m c:Nat)(ys:List Value)(hx:a.eval x=.slice (some A) m c)(hm:m=M.len)(hys:EachN w S M ys)(hc:∀j u,ys[j]?=some u->w.cell? (A.add j)=some u)(hS:∀b,S b->o.ownBlock≠some b)(hl:L.len+M.len<=1000000000000)(hbase:base<=w.heap.size)(h:∀o' w',RowN w' base S o' (L.app M)->w.grownBy w' o.ownBlock->(o'.ownBlock=o.ownBlock\/o'.ownBlock=some w.heap.size)->K (a.put op.dst o') w'):op.wp Tryz.prog a w K Q:=by
 subst hm
 obtain⟨o',w',hr,h1,h2,h3⟩:=UI w base S o L M op.type A c ys hown hys hc hS hl hbase
 unfold Oper.wp execOp
 simp only [ho,resolve,invoke,builtin,Sem.run_bind,Sem.run_pure,Result.andThen_ok,List.map_toArray,List.map_cons,List.map_nil,hs,hx,hr]
 exact h o' w' h1 h2 h3
theorem QR{ops:Array Oper}{rest:List Oper}{op:Oper}{a:Act}{w:World}{Q:Exit->Act->World->Prop}(hgd:op.guard=none)(s x:Operand)(ho:op.op=.call {callee:=.builtin .append,args:=#[s,x],argTypes:=#[58,58]})(base:Nat)(S:Nat->Prop)(o:Value)(L M:Ns)(hs:a.eval s=o)(hown:RowN w base S o L)(A:Addr)(m c:Nat)(ys:List Value)(hx:a.eval x=.slice (some A) m c)(hm:m=M.len)(hys:EachN w S M ys)(hc:∀j u,ys[j]?=some u->w.cell? (A.add j)=some u)(hS:∀b,S b->o.ownBlock≠some b)(hl:L.len+M.len<=1000000000000)(hbase:base<=w.heap.size)(h:∀o' w',RowN w' base S o' (L.app M)->w.grownBy w' o.ownBlock->(o'.ownBlock=o.ownBlock\/o'.ownBlock=some w.heap.size)->wpList Tryz.prog ops Q rest (a.put op.dst o') w'):wpList Tryz.prog ops Q (op :: rest) a w:=
 wpList_plain hgd fun _ hK=>Zc s x ho base S o L M hs hown A m c ys hx hm hys hc hS hl hbase fun o' w' g1 g2 g3=>hK _ _ (h o' w' g1 g2 g3)
theorem RowN.set3{w:World}{base g cap k:Nat}{S:Nat->Prop}{L P R kd kd':Ns}{t t':Int}{v v':List UInt8}{x' y':Value}(h:RowN w base S (.slice (some ⟨g,0,none⟩) L.len cap) L)(hL:L=P.app (.cons t v kd R))(hk:P.len=k)(ht:kB t')(hx:BsS w S x' v')(hy:NsS w S y' kd')(hS:∀b,S b->b≠g):
 RowN (((w.setCell ⟨g,k*3,none⟩ (.int .i64 t')).setCell ⟨g,k*3+1,none⟩ x').setCell ⟨g,k*3+2,none⟩ y') base S (.slice (some ⟨g,0,none⟩) L.len cap) (P.app (.cons t' v' kd' R)):=by
 obtain⟨xs,h1,h2⟩:=h
 have hkl:k<L.len:=by rw [hL,Ns.len_app,hk];simp only [Ns.len];omega
 obtain⟨P1,t1,v1,kd1,R1,xs1,x1,y1,xs2,e1,e2,rfl,e4,g1,g2,g3,g4,g5⟩:=zh L xs k h2 hkl
 obtain⟨rfl,rfl⟩:P1=P/\R1=R:=by
  clear h1 h2 hx hy ht g1 g2 g3 g4 g5 e4 hkl
  subst hL
  subst hk
  induction P generalizing P1 with
  |nil=>
   cases P1 with
   |nil=>simp only [Ns.app,Ns.cons.injEq]at e1;exact⟨rfl,e1.2.2.2.symm⟩
   |cons _ _ _ _=>simp [Ns.len]at e2
  |cons t2 v2 k2 r2 _ ih=>
   cases P1 with
   |nil=>simp [Ns.len]at e2
   |cons t3 v3 k3 r3=>
    simp only [Ns.app,Ns.cons.injEq]at e1
    obtain⟨rfl,rfl,rfl,e1⟩:=e1
    obtain⟨rfl,rfl⟩:=ih r3 e1 (by simp only [Ns.len]at e2;omega)
    exact⟨rfl,rfl⟩
 have kp:∀b,S b->b<w.heap.size->(((w.setCell ⟨g,k*3,none⟩ (.int .i64 t')).setCell ⟨g,k*3+1,none⟩ x').setCell ⟨g,k*3+2,none⟩ y').heap[b]?=w.heap[b]?/\S b:=fun b hs _=>
  ⟨(iO (hS b hs)).trans ((iO (hS b hs)).trans (iO (hS b hs))),hs⟩
 refine⟨xs1++(.int .i64 t' :: x' :: y' :: xs2),?_,ye ht (hx.keep kp) (hy.keep kp) (g5.keep kp _ xs2) _ xs1 (g1.keep kp _ xs1)⟩
 have:=yW (i:=k*3+2) (u:=y') (yW (i:=k*3+1) (u:=x') (yW (i:=k*3) (u:=.int .i64 t') h1))
 rw [YL xs1 _ x1 y1 _ xs2 _ e4,YM xs1 _ x1 y1 _ xs2 _ e4,YN xs1 _ x' y1 _ xs2 _ e4]at this
 have hl:(P1.app (.cons t' v' kd' R1)).len=L.len:=by rw [hL,Ns.len_app,Ns.len_app]<;>rfl
 rw [hl]
 exact this
theorem ZK(L:Ns)(o:Value)(w:World)(hO:NsS w (·<w.heap.size) o L)(ha:L.all<=100000000000):
 Calls Tryz.prog 46 #[o] w fun e w'=>∃v' l,e=.returned v'/\Bs w' w'.heap.size v' l/\Below w.heap.size w w':=by
 have HE:=iH (xC L o w hO (by omega))
 clear hO
 go_enter Tryz.func46,Tryz.ntmps46
 go_wp2_with(go_at_call 33;refine HE.out.mono ?_;rintro e w1 ⟨v1,rfl,hs,hb⟩;have HS:=iH (BsS.rd hs);have HB:=iH hb;clear hs hb)
 go_ret
 exact⟨_,_,rfl,HS.out,HB.out⟩
theorem YP(B:List UInt8)(v:Value)(how:Int)(w:World)(hv:Bs w w.heap.size v B)(h0:0<=how)(h9:how<9):
 Calls Tryz.prog 22 #[v,.int .i64 how] w fun e w'=>∃v' l,e=.returned v'/\Bs w' w'.heap.size v' l/\Below w.heap.size w w':=by
 have hmx:Tryz.prog.follows .mixedOrders=true:=by kernel_rfl
 have HP:=iH (KZ B v true w hv)
 obtain⟨a,c,rfl⟩:=hv.form2
 have HV:=iH hv
 clear hv
 cases hp:jK B true with
 |error er=>
  rw [hp]at HP
  clear hp
  go_enter Tryz.func22,Tryz.ntmps22
  go_wp2_with(go_at_call 45;refine HP.out.mono ?_;rintro e w1 ⟨h1,_⟩;obtain⟨va,vc,rfl,hb⟩:=NodesOut.err h1;have HB:=iH hb;clear h1 hb)
  go_ret
  exact⟨_,_,rfl,Bs.lift HV.out HB.out,HB.out⟩
 |ok L=>
  obtain⟨l1,l2⟩:=XI hp
  rw [hp]at HP
  clear hp
  by_cases hz:L.len=0
  ·go_enter Tryz.func22,Tryz.ntmps22
   go_wp2_with(go_at_call 45;refine HP.out.mono ?_;rintro e w1 ⟨h1,_⟩;obtain⟨va,vc,rfl,_,hb⟩:=NodesOut.got h1;have HB:=iH hb;clear h1 hb)
   go_ret
   exact⟨_,_,rfl,Bs.lift HV.out HB.out,HB.out⟩
  ·obtain⟨n,hn⟩:∃n,L.len=n:=⟨_,rfl⟩
   have hn0:0<n:=by omega
   go_enter Tryz.func22,Tryz.ntmps22
   go_upto_block 0 with (go_at_call 45;refine HP.out.mono ?_;rintro e w1 ⟨h1,h2⟩;obtain⟨v1,rfl,ho⟩:=h2 _ rfl;obtain⟨va,vc,e5,_,hb⟩:=NodesOut.got h1;obtain⟨g,cap,rfl⟩:∃g cap,v1=.slice (some ⟨g,0,none⟩) n cap:=(by obtain⟨xs,h,_⟩:=ho;rcases h.2 with ⟨_,h⟩|⟨g,cap,cur,hv,_⟩;omega;exact⟨g,cap,by rw [hv,hn]⟩);have HB:=iH hb;have HO:=iH ho;clear h1 h2 ho hb e5)
   obtain⟨k,hk⟩:∃k:Nat,how % 3 % (n:Int)=k:=⟨(how % 3 % (n:Int)).toNat,by have:=Int.emod_nonneg (how % 3) (show(n:Int)≠0 by omega);omega⟩
   have hkn:k<n:=by have:=Int.emod_lt_of_pos (how % 3) (show(0:Int)<n by omega);omega
   obtain⟨j,hj⟩:∃j,how / 3=j:=⟨_,rfl⟩
   have hj3:j=0\/j=1\/j=2:=by omega
   have hnz:((n:Int)==0)=false:=by simp;omega
   rw [hk,hj,hnz]
   clear hk hj h0 h9
   obtain⟨S,hSe⟩:∃S,xM w.heap.size w1 (.slice (some ⟨g,0,none⟩) n cap)=S:=⟨_,rfl⟩
   obtain⟨xs,hown,hEa⟩:=HO.out
   rw [hSe]at hEa
   have hS:∀b,S b->b<w1.heap.size/\b≠g/\w.heap.size<=b:=by intro b h;rw [<-hSe]at h;exact⟨h.1,fun e=>h.2.1 (by rw [e]<;>rfl),h.2.2⟩
   have hgl:=hown.lt g rfl
   have hcap:n<=cap/\cap<=9223372036854775807:=by
    rcases hown.2 with ⟨e,_⟩|⟨g',cap',cur,hv,_,_,h1,h2,_⟩
    ·cases e
    ·injection hv with _ _ e3;subst e3;exact⟨by omega,h2⟩
   have hfz:∀o,w1.frozen? ⟨g,o,none⟩=false:=fun o=>by
    rcases hown.2 with ⟨e,_⟩|⟨g',cap',cur,hv,_,hh,_⟩
    ·cases e
    ·injection hv with e1 _ _;injection e1 with e1;injection e1 with e1 _;subst e1;simp [World.frozen?,hh]
   have ea:∀o j,(⟨g,o,none⟩:Addr).add j=⟨g,o+j,none⟩:=fun o j=>by unfold Addr.add;split<;>simp_all
   have hcell:∀j u,xs[j]?=some u->w1.cell? ⟨g,j,none⟩=some u:=fun j u hu=>by have:=hown.cells (g:=g) rfl j u hu;rw [ea,Nat.zero_add]at this;exact this
   obtain⟨P,t,v1,kd,R,xs1,x,y,xs2,eL,eP,ex,el,g1,hti,hxv,hyk,g5⟩:=zh L xs k hEa (by omega)
   have hall:P.all+1+kd.all+R.all<=256:=by have:=l1;rw [eL,Ns.all_app]at this;simp only [Ns.all]at this;omega
   have hRl:R.len=n - (k+1):=by have h:=hn;rw [eL,Ns.len_app]at h;simp only [Ns.len]at h;omega
   have HROW:Hid (RowN w1 w.heap.size S (.slice (some ⟨g,0,none⟩) n cap) L):=iH ⟨xs,hown,hEa⟩
   have HS:=iH hS;have HGL:=iH hgl;have HFZ:=iH hfz;have HALL:=iH hall
   have HEL:=iH eL;have HEP:=iH eP;have HTI:=iH hti;have HRL:=iH hRl;have HL1:=iH l1
   have HSE:=iH hSe;have HCL:=iH hcell;have HEA:=iH hEa;have HOWN:=iH hown
   have HC1:Hid (∀w2,Below w1.heap.size w1 w2->(∀j u,xs1[j]?=some u->w2.cell? ((⟨g,0,none⟩:Addr).add j)=some u)/\(∀j u,xs2[j]?=some u->w2.cell? ((⟨g,(k+1)*3,none⟩:Addr).add j)=some u)/\EachN w2 S P xs1/\EachN w2 S R xs2):=iH fun w2 hb=>by
    have kp:∀b,S b->b<w1.heap.size->w2.heap[b]?=w1.heap[b]?/\S b:=fun b hs hl=>⟨hb.block b hl,hs⟩
    have hcc:∀o,w2.cell? ⟨g,o,none⟩=w1.cell? ⟨g,o,none⟩:=fun o=>World.cell?_of_block (hb.block g hgl.2)
    refine⟨fun j u hu=> ?_,fun j u hu=> ?_,g1.keep kp P xs1,g5.keep kp R xs2⟩
    ·rw [ea,Nat.zero_add,hcc]
     exact hcell j u (by rw [ex,List.getElem?_append_left (List.getElem?_eq_some_iff.1 hu).1];exact hu)
    ·rw [ea,hcc]
     refine hcell _ u ?_
     rw [ex,List.getElem?_append_right (by omega),el,show(k+1)*3+j - k*3=j+1+1+1 by omega]
     exact hu
   have hc0:w1.cell? ⟨g,k*3,none⟩=some (.int .i64 t):=hcell _ _ (by rw [ex,List.getElem?_append_right (by omega),el,Nat.sub_self]<;>rfl)
   have hc1:w1.cell? ⟨g,k*3+1,none⟩=some x:=hcell _ _ (by rw [ex,List.getElem?_append_right (by omega),el,show k*3+1 - k*3=1 by omega]<;>rfl)
   have hc2:w1.cell? ⟨g,k*3+2,none⟩=some y:=hcell _ _ (by rw [ex,List.getElem?_append_right (by omega),el,show k*3+2 - k*3=2 by omega]<;>rfl)
   obtain⟨xa,xc,rfl⟩:=hxv.form2
   obtain⟨ya,yc,rfl⟩:=hyk.form2
   have HXV:=iH hxv;have HYK:=iH hyk;have HC0:=iH hc0;have HC11:=iH hc1;have HC2:=iH hc2
   have hcap1:=hcap.1;have hcap2:=hcap.2
   have hkc:k<=cap:=by omega
   clear hcell hEa hown hS hgl hfz ea eL eP ex el g1 hti hxv hyk g5 hall hRl hSe hcap HO HP hc0 hc1 hc2
   go_cut [5] from 25 to 57 (fun y wx=>∃A c L',y=.slice A L'.len c/\NsS wx (·<wx.heap.size) (.slice A L'.len c) L'/\L'.all<=900/\Below w.heap.size w wx)
   case first=>
    rcases hj3 with rfl|rfl|rfl
    ·go_upto_region 9 with fail
     refine jc 8 [some 34,some 35,some 36,some 37,some 38,some 39,some 40,some 41] [[],[],[0,1],[0,1,2],[],[],[5],[4,5,6]]
      (fun _ _ w2=>Below w1.heap.size w1 w2) (fun w2 w3=>Below w2.heap.size w2 w3)
      [fun v _=>v 0=.slice (some ⟨g,0,none⟩) n cap,fun v _=>v 1=.int .i64 k,fun v _=>v 2=.slice (some ⟨g,0,none⟩) k cap,fun v w2=>RowN w2 w1.heap.size S (v 3) P,fun v _=>v 4=.slice (some ⟨g,0,none⟩) n cap,fun v _=>v 5=.int .i64 k,fun v _=>v 6=.int .i64 ((k:Int)+1),fun v _=>∃A,v 7=.slice (some A) (n - (k+1)) (cap - (k+1))/\(cap≠k+1->A=⟨g,(k+1)*3,none⟩)]
      (by kernel_rfl) (by kernel_rfl) (fun _=>iB.drew) ?st ?steps ?tail
     case st=>
      exact(.cons (fun _ _ _ _ _ _ h=>h) (.cons (fun _ _ _ _ _ _ h=>h) (.cons (fun _ _ _ _ _ _ h=>h) (.cons (fun _ _ _ _ _ hr h=>RowN.keep (row:=none) h ⟨hr.os,hr.tape,hr.output,hr.size,fun i hi _=>hr.block i hi⟩ (fun q e=>by cases e) (fun b hs hl=>⟨hr.block b hl,hs⟩)) (.cons (fun _ _ _ _ _ _ h=>h) (.cons (fun _ _ _ _ _ _ h=>h) (.cons (fun _ _ _ _ _ _ h=>h) (.cons (fun _ _ _ _ _ _ h=>h) .nil))))))))
     case steps=>
      simp only [List.take_succ_cons,List.take_zero]
      refine(.cons ?_ (.cons ?_ (.cons ?_ (.cons ?_ (.cons ?_ (.cons ?_ (.cons ?_ (.cons ?_ .nil))))))))
      all_goals(intro L' v w2 hJ hL hA hF K hK;simp only [jf,Act.put,Nat.zero_add,Nat.reduceAdd,List.setIfInBounds_toArray,List.set_cons_zero,List.set_cons_succ]at hK |-)
      ·go_simp
       exact hK _ _ hJ iB rfl
      ·go_simp
       exact hK _ _ hJ iB rfl
      ·have e0:v 0=_:=hF 0 (hA 0 (by simp))
       have e1:v 1=_:=hF 1 (hA 1 (by simp))
       simp only [e0,e1]at hK
       go_simp
       exact hK _ _ hJ iB rfl
      ·have e2:v 2=_:=hF 2 (hA 2 (by simp))
       simp only [e2]at hK |-
       obtain⟨q1,_,q3,_⟩:=HC1.out w2 hJ
       rw [iT (show Region.wanted _ _=true from rfl)]
       refine Zc (.const (.slice none 0 0)) (.tmp 36) rfl w1.heap.size S (.slice none 0 0) .nil P rfl ⟨[],World.ownsRow_nil _ _ _ _,rfl⟩ ⟨g,0,none⟩ k cap xs1 (by simp [Act.eval]) HEP.out.symm q3 q1 (fun _ _ e=>by cases e) (by have:=HALL.out;have:=P.cnt_len;simp only [Ns.len];omega) hJ.size ?_
       intro o' w' hr hg _
       have hb:Below w2.heap.size w2 w':=⟨hg.os,hg.tape,hg.output,hg.size,fun i hi=>hg.block i hi (fun e=>by cases e)⟩
       exact hK _ _ (hJ.trans (hb.mono hJ.size)) hb hr
      ·go_simp
       exact hK _ _ hJ iB rfl
      ·go_simp
       exact hK _ _ hJ iB rfl
      ·have e5:v 5=_:=hF 5 (hA 5 (by simp))
       have W6:Value.int .i64 (IntKind.i64.wrap ((k:Int)+1))=.int .i64 ((k:Int)+1):=by rw [IntWalk.i64_in _ (by omega)]
       simp only [e5]at hK
       go_simp
       exact hK _ _ hJ iB rfl
      ·have e4:v 4=_:=hF 4 (hA 4 (by simp))
       have e6:v 6=_:=hF 6 (hA 6 (by simp))
       simp only [e4,e6]at hK
       go_simp
       rw [iT (by omega)]
       by_cases hc:cap=k+1
       ·rw [iT hc]
        exact hK _ _ hJ iB ⟨⟨g,0,none⟩,rfl,fun h=>absurd hc h⟩
       ·rw [iF hc]
        exact hK _ _ hJ iB ⟨⟨g,(k+1)*3,none⟩,rfl,fun _=>rfl⟩
     case tail=>
      intro v w2 hJ hF
      have e0:v 0=_:=hF 0 (by simp)
      have e1:v 1=_:=hF 1 (by simp)
      have e2:v 2=_:=hF 2 (by simp)
      have h3:RowN w2 w1.heap.size S (v 3) P:=hF 3 (by simp)
      have e4:v 4=_:=hF 4 (by simp)
      have e5:v 5=_:=hF 5 (by simp)
      have e6:v 6=_:=hF 6 (by simp)
      obtain⟨A7,e7,hA7⟩:∃A,v 7=_/\_:=hF 7 (by simp)
      obtain⟨o3,c3,e3⟩:∃A c,v 3=.slice A P.len c:=(by obtain⟨_,h,_⟩:=h3;exact XQ h)
      simp only [List.drop_succ_cons,List.drop_zero,jf,Act.put,Nat.zero_add,Nat.reduceAdd,List.setIfInBounds_toArray,List.set_cons_zero,List.set_cons_succ]
      simp only [e0,e1,e2,e3,e4,e5,e6,e7]
      rw [e3]at h3
      obtain⟨_,q2,_,q4⟩:=HC1.out w2 hJ
      refine QR rfl (.tmp 37) (.tmp 41) rfl w1.heap.size S (.slice o3 P.len c3) P R (by simp [Act.eval]) h3 A7 (n - (k+1)) (cap - (k+1)) xs2 (by simp [Act.eval]) HRL.out.symm q4 ?_ ?_ (by have:=HALL.out;have:=P.cnt_len;have:=R.cnt_len;omega) hJ.size ?_
      ·intro j u hu
       have h1:=(EachN.one' R xs2 q4).1
       have h2:=(List.getElem?_eq_some_iff.1 hu).1
       have h4:=HRL.out
       rw [hA7 (by omega)]
       exact q2 j u hu
      ·intro b hb e
       have:=YF h3 e
       have:=(HS.out b hb).1
       omega
      ·intro o' w' hr hg _
       have hb:Below w1.heap.size w1 w':=U0 hJ hg (fun b e=>YF h3 e)
       obtain⟨o4,c4,e8⟩:∃A c,o'=.slice A (P.app R).len c:=(by obtain⟨_,h,_⟩:=hr;exact XQ h)
       subst e8
       have HR:=iH hr;have HBB:=iH hb
       clear hr hb hg h3 hF hJ q2 q4 e0 e1 e2 e3 e4 e5 e6 e7 hA7
       obtain⟨N4,hN4⟩:∃N,(P.app R).len=N:=⟨_,rfl⟩
       rw [hN4]
       have HN4:=iH hN4
       clear hN4
       go_wp2_with fail
       go_meet
       have hal:(P.app R).all<=256:=by rw [Ns.all_app];have:=HALL.out;omega
       rw [<-HN4.out]
       exact⟨_,_,P.app R,rfl,HR.out.nss (by have:=(P.app R).cnt_len;omega) (fun b h=>by have:=(HS.out b h).1;have:=HBB.out.size;omega) (fun b _ h=>h),by omega,HB.out.trans (HBB.out.mono HB.out.size)⟩
    ·obtain⟨P0,t0,v0,kd0,R0,ys1,x0,y0,ys2,fL,fP,fx,fl,f1,f2,f3,f4,f5⟩:=zh L xs 0 HEA.out (by omega)
     obtain rfl:ys1= []:=List.length_eq_zero_iff.1 (by omega)
     obtain rfl:P0=.nil:=by cases P0 with|nil=>rfl|cons _ _ _ _=>simp [Ns.len]at fP
     obtain⟨za,zc,rfl⟩:=f3.form2
     obtain⟨ua,uc,rfl⟩:=f4.form2
     have HZ0:=iH (HCL.out 0 (.int .i64 t0) (by rw [fx]<;>rfl))
     have HZ1:=iH (HCL.out 1 (.slice za v0.length zc) (by rw [fx]<;>rfl))
     have HZ2:=iH (HCL.out 2 (.slice ua kd0.len uc) (by rw [fx]<;>rfl))
     have HFL:=iH fL;have HF2:=iH f2;have HF3:=iH f3;have HF4:=iH f4
     have hkn1:(k:Int)<n:=by omega
     have h0n:(0:Int)<n:=by omega
     clear fL fP fx fl f1 f2 f3 f4 f5
     go_upto_region 11 with fail
     refine jc 12 [some 45,some 46,some 47,some 48,some 49,some 50,some 51,some 52,some 53,some 54,some 55,none] [[],[],[],[],[],[3,4],[3,4,5],[],[7],[7,8],[0,3,4,5,6,7,8,9],[0,3,4,5,6,7,8,9,10]]
      (JW w1.drew (((w1.drew.setCell ⟨g,0,none⟩ (.int .i64 t)).setCell ⟨g,1,none⟩ (.slice xa v1.length xc)).setCell ⟨g,2,none⟩ (.slice ya kd.len yc))) (fun _ _=>True)
      [fun v _=>v 0=.slice (some ⟨g,0,none⟩) n cap,
       fun v _=>v 1=.slice (some ⟨g,0,none⟩) n cap,
       fun v _=>v 2=.int .i64 k,
       fun v _=>v 3=.slice (some ⟨g,0,none⟩) n cap,
       fun v _=>v 4=.int .i64 k,
       fun v _=>v 5=.pointer (some ⟨g,k*3,none⟩),
       fun v _=>v 6=.agg #[.int .i64 t,.slice xa v1.length xc,.slice ya kd.len yc],
       fun v _=>v 7=.slice (some ⟨g,0,none⟩) n cap,
       fun v _=>v 8=.pointer (some ⟨g,0,none⟩),
       fun v _=>v 9=.agg #[.int .i64 t0,.slice za v0.length zc,.slice ua kd0.len uc],
       fun v _=>v 10=.pointer (some ⟨g,0,none⟩),
       fun _ _=>True]
      (by kernel_rfl) (by kernel_rfl) (fun _=>.inl ⟨rfl,rfl⟩) ?st1 ?steps1 ?tail1
     case st1=>
      exact(.cons (fun _ _ _ _ _ _ h=>h) (.cons (fun _ _ _ _ _ _ h=>h) (.cons (fun _ _ _ _ _ _ h=>h) (.cons (fun _ _ _ _ _ _ h=>h) (.cons (fun _ _ _ _ _ _ h=>h) (.cons (fun _ _ _ _ _ _ h=>h) (.cons (fun _ _ _ _ _ _ h=>h) (.cons (fun _ _ _ _ _ _ h=>h) (.cons (fun _ _ _ _ _ _ h=>h) (.cons (fun _ _ _ _ _ _ h=>h) (.cons (fun _ _ _ _ _ _ h=>h) (.cons (fun _ _ _ _ _ _ h=>h) .nil))))))))))))
     case steps1=>
      simp only [List.take_succ_cons,List.take_zero]
      refine(.cons ?_ (.cons ?_ (.cons ?_ (.cons ?_ (.cons ?_ (.cons ?_ (.cons ?_ (.cons ?_ (.cons ?_ (.cons ?_ (.cons ?_ (.cons ?_ .nil))))))))))))
      all_goals(intro L' v w2 hJ hL hA hF K hK;simp only [jf,Act.put,Nat.zero_add,Nat.reduceAdd,List.setIfInBounds_toArray,List.set_cons_zero,List.set_cons_succ]at hK |-)
      ·go_simp
       exact hK _ _ (hJ.step 0 (by decide)) trivial rfl
      ·go_simp
       exact hK _ _ (hJ.step 1 (by decide)) trivial rfl
      ·go_simp
       exact hK _ _ (hJ.step 2 (by decide)) trivial rfl
      ·go_simp
       exact hK _ _ (hJ.step 3 (by decide)) trivial rfl
      ·go_simp
       exact hK _ _ (hJ.step 4 (by decide)) trivial rfl
      ·have e3:v 3=_:=hF 3 (hA 3 (by simp))
       have e4:v 4=_:=hF 4 (hA 4 (by simp))
       simp only [e3,e4]at hK
       go_simp
       exact hK _ _ (hJ.step 5 (by decide)) trivial rfl
      ·have e5:v 5=_:=hF 5 (hA 5 (by simp))
       simp only [e5]at hK
       obtain rfl:=hJ.at (.inl hL)
       have l0:w1.drew.cell? ⟨g,k*3,none⟩=some (.int .i64 t):=HC0.out
       have l1:w1.drew.cell? ⟨g,k*3+1,none⟩=some (.slice xa v1.length xc):=HC11.out
       have l2:w1.drew.cell? ⟨g,k*3+2,none⟩=some (.slice ya kd.len yc):=HC2.out
       go_simp
       exact hK _ _ (hJ.step 6 (by decide)) trivial rfl
      ·go_simp
       exact hK _ _ (hJ.step 7 (by decide)) trivial rfl
      ·have e7:v 7=_:=hF 7 (hA 7 (by simp))
       simp only [e7]at hK
       go_simp
       exact hK _ _ (hJ.step 8 (by decide)) trivial rfl
      ·have e8:v 8=_:=hF 8 (hA 8 (by simp))
       simp only [e8]at hK
       obtain rfl:=hJ.at (.inr hL)
       have l0:w1.drew.cell? ⟨g,0,none⟩=some (.int .i64 t0):=HZ0.out
       have l1:w1.drew.cell? ⟨g,1,none⟩=some (.slice za v0.length zc):=HZ1.out
       have l2:w1.drew.cell? ⟨g,2,none⟩=some (.slice ua kd0.len uc):=HZ2.out
       go_simp
       exact hK _ _ (hJ.step 9 (by decide)) trivial rfl
      ·have e0:v 0=_:=hF 0 (hA 0 (by simp))
       simp only [e0]at hK
       go_simp
       exact hK _ _ (hJ.step 10 (by decide)) trivial rfl
      ·have e10:v 10=_:=hF 10 (hA 10 (by simp))
       have e6:v 6=_:=hF 6 (hA 6 (by simp))
       simp only [e10,e6]at hK |-
       have hw:=hJ.off hL
       subst hw
       have l0:=HZ0.out
       have l1:=HZ1.out
       have l2:=HZ2.out
       have f0:=HFZ.out 0
       have f1:=HFZ.out 1
       have f2:=HFZ.out 2
       go_simp
       exact hK undef _ (JW.set (hA 6 (by simp)) (hA 9 (by simp))) trivial trivial
     case tail1=>
      intro v w2 hJ hF
      have e0:v 0=_:=hF 0 (by simp)
      have e1:v 1=_:=hF 1 (by simp)
      have e2:v 2=_:=hF 2 (by simp)
      have e3:v 3=_:=hF 3 (by simp)
      have e4:v 4=_:=hF 4 (by simp)
      have e5:v 5=_:=hF 5 (by simp)
      have e6:v 6=_:=hF 6 (by simp)
      have e7:v 7=_:=hF 7 (by simp)
      have e8:v 8=_:=hF 8 (by simp)
      have e9:v 9=_:=hF 9 (by simp)
      have e10:v 10=_:=hF 10 (by simp)
      simp only [List.drop_succ_cons,List.drop_zero,jf,Act.put,Nat.zero_add,Nat.reduceAdd,List.setIfInBounds_toArray,List.set_cons_zero,List.set_cons_succ]
      simp only [e0,e1,e2,e3,e4,e5,e6,e7,e8,e9,e10]
      have hw:=hJ.on rfl
      clear hJ hF e0 e1 e2 e3 e4 e5 e6 e7 e8 e9 e10
      have hr0:RowN w1.drew w.heap.size S (.slice (some ⟨g,0,none⟩) L.len cap) L:=by rw [hn];exact RowN.keep (row:=none) HROW.out (km (World.grownBy.refl _ _)) (fun q e=>by cases e) (fun b hs _=>⟨rfl,hs⟩)
      have hr1:=hr0.set3 (k:=0) (P:=.nil) HFL.out rfl HTI.out (HXV.out.keep fun b hs _=>⟨rfl,hs⟩) (HYK.out.keep fun b hs _=>⟨rfl,hs⟩) (fun b h=>(HS.out b h).2.1)
      simp only [Nat.zero_mul,Nat.zero_add]at hr1
      rw [<-hw]at hr1
      have hl1:((Ns.nil).app (.cons t v1 kd R0)).len=L.len:=by have:=HFL.out;rw [this,Ns.len_app,Ns.len_app]<;>rfl
      obtain⟨L1,hL1⟩:∃L1,(Ns.nil).app (.cons t v1 kd R0)=L1:=⟨_,rfl⟩
      have hal:L1.all<=600/\kd0.all<=256:=by
       have h:=HL1.out
       have h2:=HALL.out
       rw [HFL.out]at h
       rw [<-hL1]
       simp only [Ns.app,Ns.all]at h |-
       omega
      rw [hL1]at hr1 hl1
      rw [<-hl1]at hr1
      obtain⟨P2,t2,v2,kd2,R2,x2,y2,e2,p2,c0,c1,c2,cf,_⟩:=hr1.at (k:=k) (by rw [hl1];omega)
      have hx0:BsS w2 S (.slice za v0.length zc) v0:=HF3.out.keep fun b hs _=>⟨by rw [hw];exact(iO (HS.out b hs).2.1).trans ((iO (HS.out b hs).2.1).trans (iO (HS.out b hs).2.1)),hs⟩
      have hy0:NsS w2 S (.slice ua kd0.len uc) kd0:=HF4.out.keep fun b hs _=>⟨by rw [hw];exact(iO (HS.out b hs).2.1).trans ((iO (HS.out b hs).2.1).trans (iO (HS.out b hs).2.1)),hs⟩
      have hr2:=hr1.set3 e2 p2 HF2.out hx0 hy0 (fun b h=>(HS.out b h).2.1)
      have hal2:(P2.app (.cons t0 v0 kd0 R2)).all<=900:=by
       have h:=hal.1
       have h2:=hal.2
       rw [e2,Ns.all_app]at h
       rw [Ns.all_app]
       simp only [Ns.all]at h |-
       omega
      have hbw:Below w.heap.size w w2:=by rw [hw];exact((HB.out.drew.setCell HGL.out.1 _).setCell HGL.out.1 _).setCell HGL.out.1 _
      have hl2:(P2.app (.cons t0 v0 kd0 R2)).len=n:=by rw [e2,Ns.len_app]at hl1;rw [Ns.len_app];simp only [Ns.len]at hl1 |-;omega
      have f0:=cf (k*3);have f1:=cf (k*3+1);have f2:=cf (k*3+2)
      have HR2:=iH hr2;have HAL:=iH hal2;have HBW:=iH hbw;have HL2:=iH hl2;have HLL:=iH hl1;have HSZ:=iH (show w2.heap.size=w1.heap.size by rw [hw];simp)
      clear hr0 hr1 hr2 hal hal2 hbw hl2 hw hl1 hL1 cf hx0 hy0 e2 p2
      go_wp2_with fail
      go_meet
      rw [<-HL2.out]
      exact⟨_,_,P2.app (.cons t0 v0 kd0 R2),rfl,(by have h:=HR2.out;rw [HLL.out,hn,<-HL2.out]at h;exact h.nss (by have:=HL2.out;have:=L.cnt_len;omega) (fun b h=>by have h1:=(HS.out b h).1;have h2:=HSZ.out;simp;omega) (fun b _ h=>h)),by have:=HAL.out;omega,(((HBW.out.setCell HGL.out.1 _).setCell HGL.out.1 _).setCell HGL.out.1 _)⟩
    ·have hOO:OwnN w1 w.heap.size (.slice (some ⟨g,0,none⟩) n cap) L:=by have h:=HROW.out;rw [<-HSE.out]at h;exact h
     have hX:BsS w1 (xM w.heap.size w1 (.slice (some ⟨g,0,none⟩) n cap)) (.slice xa v1.length xc) v1:=by rw [HSE.out];exact HXV.out
     have hY:NsS w1 (xM w.heap.size w1 (.slice (some ⟨g,0,none⟩) n cap)) (.slice ya kd.len yc) kd:=by rw [HSE.out];exact HYK.out
     have HOO:=iH hOO;have HX:=iH hX;have HY:=iH hY
     have c0:=HC0.out;have c1:=HC11.out;have c2:=HC2.out
     have hkn1:(k:Int)<n:=by omega
     clear hOO hX hY
     go_wp2_with(at_builtin;(with_reducible refine jz rfl (.tmp 25) (.tmp 30) rfl w.heap.size (.slice (some ⟨g,0,none⟩) n cap) L rfl HOO.out t v1 kd (.slice xa v1.length xc) (.slice ya kd.len yc) _ w1.heap.size rfl rfl HTI.out HX.out HY.out (by have:=L.cnt_len;omega) (by have:=HB.out.size;omega) ?_);intro o' w' hG;obtain⟨o4,c4,hp⟩:=hG.1.form;subst hp;have HG:=iH hG;clear hG)
     go_meet
     have hle:=(L.app (.cons t v1 kd .nil)).cnt_len
     have hal:(L.app (.cons t v1 kd .nil)).all<=600:=by rw [Ns.all_app];have:=HL1.out;have:=HALL.out;simp only [Ns.all];omega
     exact⟨_,_,L.app (.cons t v1 kd .nil),rfl,(HG.out.1.nss (by omega)).keep (fun b hs hl=>⟨rfl,hl⟩),by omega,HB.out.trans HG.out.2.1⟩
   case rest=>
    obtain⟨A,c',L',rfl,hv,ha,hb⟩:=hcut
    have HV':=iH hv;have HA:=iH ha;have HB':=iH hb
    clear hv ha hb
    go_wp2_with(go_at_call 46;refine(ZK L' _ _ HV'.out (by have:=HA.out;omega)).mono ?_;rintro e w9 ⟨v9,l9,rfl,h9,hb9⟩;obtain⟨A9,d9,hp⟩:=Bs.formL h9;subst hp;have H9:=iH h9;have B9:=iH hb9;clear h9 hb9)
    go_ret
    exact⟨_,_,rfl,H9.out,HB'.out.trans (B9.out.mono HB'.out.size)⟩
def AggC(p:Nat)(w:World)(x:Value):Prop:=∃(c:Cm) (A:Option Addr) (C:Nat),x=.agg #[.int .i64 c.cl,.int .i64 c.ins,.int .i64 c.p1,.int .i64 c.p2,.slice A c.data.length C,.int .i64 c.ex]/\BsS w (yM p w) (.slice A c.data.length C) c.data
def AggR(p:Nat)(w:World)(x:Value):Prop:=∃(d:List UInt8) (st:Int) (A:Option Addr) (C:Nat),x=.agg #[.slice A d.length C,.int .i64 st]/\BsS w (yM p w) (.slice A d.length C) d
def AggS(p:Nat)(w:World)(x:Value):Prop:=∃(k1 k2:List UInt8) (m:Int) (A:Option Addr) (c:Nat) (B:Option Addr) (d:Nat),x=.agg #[.slice A k1.length c,.slice B k2.length d,.int .i64 m]/\BsS w (yM p w) (.slice A k1.length c) k1/\BsS w (yM p w) (.slice B k2.length d) k2
def TupA(G:Value->Prop)(p:Nat)(w:World)(x:Value):Prop:=∃a b E,x=.tuple #[a,b,.int .i64 E]/\G a/\AggS p w b
def j3w(x:Value):Prop:=∃E,x=.int .i64 E
theorem j3g{w:World}{p g:Nat}{v:Value}{l:List UInt8}{x0 x1:Value}{t:TypeId}(h:BsS w (yM p w) v l)(hr:w.heap[g]?=some (.cells #[x0,x1] t (0,0)))(hn:noB #[x0,x1])(a b:Value):BsS (qm w g a b) (yM p (qm w g a b)) v l:=
 BsS.keep (h.off hr hn) fun _ hs hl=>⟨kz hs.2,by rw [yB];exact hl,hs.1.2⟩
section
variable {p:Nat} {w w':World} {x:Value}
theorem AggC.keep(h:AggC p w x)(hr:RNB p w w'):AggC p w' x:=by obtain⟨c,A,C,e,h⟩:=h;exact⟨c,A,C,e,hr.bs h⟩
theorem AggR.keep(h:AggR p w x)(hr:RNB p w w'):AggR p w' x:=by obtain⟨c,s,A,C,e,h⟩:=h;exact⟨c,s,A,C,e,hr.bs h⟩
theorem AggS.keep(h:AggS p w x)(hr:RNB p w w'):AggS p w' x:=by obtain⟨a,b,m,A,c,B,d,e,h,g⟩:=h;exact⟨a,b,m,A,c,B,d,e,hr.bs h,hr.bs g⟩
theorem TupA.keepC(h:TupA (AggC p w) p w x)(hr:RNB p w w'):TupA (AggC p w') p w' x:=by obtain⟨a,b,E,e,h,g⟩:=h;exact⟨a,b,E,e,h.keep hr,g.keep hr⟩
theorem TupA.keepR(h:TupA (AggR p w) p w x)(hr:RNB p w w'):TupA (AggR p w') p w' x:=by obtain⟨a,b,E,e,h,g⟩:=h;exact⟨a,b,E,e,h.keep hr,g.keep hr⟩
end
theorem zH(v:Value)(n:Nat)(w:World)(hv:IntsS w (·<w.heap.size) v n):Calls Tryz.prog 6 #[v] w fun e w'=>e=.returned (.bool true)/\Below w.heap.size w w':=by
 have HL:=iH (VK _ v n w hv)
 have HR:=iH (j3c v n w hv)
 obtain⟨va,vc,rfl⟩:=hv.form
 clear hv
 by_cases hn:(n:Int)<=400
 ·have hn1:decide ((n:Int)<=400)=true:=decide_eq_true hn
  rw [hn1]at HL
  clear hn hn1
  obtain⟨p,hp⟩:∃p,w.heap.size=p:=⟨_,rfl⟩
  obtain⟨B,hB⟩:∃B,p+1=B:=⟨_,rfl⟩
  have HR:Hid (Calls Tryz.prog 9 #[.slice va n vc] w fun e w'=>e=.returned (.pointer (some ⟨p,0,none⟩))/\Die B w' p n/\Below p w w'):=iH (by rw [<-hB,<-hp];exact HR.out)
  have HW:=iH hp
  rw [hp]
  clear hp
  go_enter Tryz.func6,Tryz.ntmps6
  go_upto_region 5 with (first
   |(go_at_call 7;refine iR HL.out ?_)
   |(go_at_call 9;refine HR.out.mono ?_;rintro e wr ⟨rfl,hd,hb⟩;have D1:Hid (DiePost B wr p n wr):=iH (DiePost.refl hd);have B1:=iH hb;have L1:=hd.le;have L2:=hd.lt;clear hd hb)
   |(go_at_call 10;refine(Xl B p n wr D1.out.1).mono ?_;rintro e w2 ⟨v,k1,k2,m,rfl,⟨ua,ub,rfl,ha,hb⟩,hvs,hd⟩;obtain⟨A1,d1,hp⟩:=Bs.formL ha;subst hp;obtain⟨A2,d2,hp⟩:=Bs.formL hb;subst hp;have D2:=iH hd;have X2:=iH (ha.newO (p:=p) (by omega));have Y2:=iH (hb.newO (p:=p) (by omega));have z2:=hd.2.size;clear ha hb hd))
  obtain⟨wa,hwa⟩:∃u,u=w2.alloc (.cells #[.slice A1 k1.length d1,.slice A2 k2.length d2,.int .i64 m] 29):=⟨_,rfl⟩
  rw [<-hwa]
  have hr1:wa.heap[w2.heap.size]?=some (.cells #[.slice A1 k1.length d1,.slice A2 k2.length d2,.int .i64 m] 29 (0,0)):=by rw [hwa];exact iN
  have hbw:Below w2.heap.size w2 wa:=by rw [hwa];exact iA
  clear hwa
  have S0:Hid (SesAt p wa w2.heap.size k1 k2 m):=iH ⟨_,_,_,_,hr1,X2.out.rollO ((DiePost.refl D2.out.1).below hbw),Y2.out.rollO ((DiePost.refl D2.out.1).below hbw)⟩
  have D0:Hid (DiePost B wr p n wa):=iH (D2.out.below hbw)
  have HGL:Hid (w2.heap.size<wa.heap.size):=iH (iG hr1)
  obtain⟨gs,hgs⟩:∃g,w2.heap.size=g:=⟨_,rfl⟩
  rw [hgs]at S0 HGL |-
  have gs1:gs≠p:=by omega
  have gs2:wr.heap.size<=gs:=by omega
  have HP0:Hid (p<wa.heap.size):=iH (by have:=HGL.out;omega)
  have HB0:Hid (B<=wa.heap.size):=iH D0.out.1.le
  clear hr1 hbw D2 X2 Y2 hvs hgs z2
  obtain⟨sA,sa,sB,sb,hr,hx,hy⟩:=S0.out;have XS:=iH hx;have YS:=iH hy;have RS:=iH hr;clear hr hx hy
  refine jc 13 [some 20,some 21,some 22,some 23,some 19,some 24,some 25,some 26,some 5,some 6,none,none,some 7] [[],[],[1],[0,1,2],[0,1,2,3],[0,1,2,3,4],[0,1,2,3,4],[0,1,2,3,4],[],[],[0,1,2,3,4,5,8,9],[0,1,2,3,4,5,6,8,9,10],[0,1,2,3,4,5,6,7,8,9,10,11]]
   (JZD B p n wa 8 10 9 11 #[.int .i64 0,.int .i64 0,.int .i64 0,.int .i64 0,.slice none 0 0,.int .i64 0] 32 #[.slice none 0 0,.slice none 0 0,.int .i64 0] 29 (fun w q=>∃c,CmdAt p w q c)) (RNB p)
   [fun v _=>v 0=.agg #[.slice sA k1.length sa,.slice sB k2.length sb,.int .i64 m],
    fun v _=>v 1=.pointer (some ⟨p,0,none⟩),
    fun v w1=>AggC p w1 (v 2),
    fun v w1=>TupA (AggC p w1) p w1 (v 3),
    fun v w1=>TupA (AggC p w1) p w1 (v 4),
    fun v w1=>AggC p w1 (v 5),
    fun v w1=>AggS p w1 (v 6),
    fun v _=>j3w (v 7),
    fun v _=>True,
    fun v _=>True,
    fun v _=>True,
    fun v _=>True,
    fun v _=>j3w (v 12)]
   (by kernel_rfl) (by kernel_rfl) (fun _=>JZD.start D0.out.1) ?stc ?stepsc ?tailc
  case stc=>
   exact(.cons (fun _ _ _ _ _ _ h=>h) (.cons (fun _ _ _ _ _ _ h=>h) (.cons (fun _ _ _ _ _ hr h=>h.keep hr) (.cons (fun _ _ _ _ _ hr h=>h.keepC hr) (.cons (fun _ _ _ _ _ hr h=>h.keepC hr) (.cons (fun _ _ _ _ _ hr h=>h.keep hr) (.cons (fun _ _ _ _ _ hr h=>h.keep hr) (.cons (fun _ _ _ _ _ _ h=>h) (.cons (fun _ _ _ _ _ _ h=>h) (.cons (fun _ _ _ _ _ _ h=>h) (.cons (fun _ _ _ _ _ _ h=>h) (.cons (fun _ _ _ _ _ _ h=>h) (.cons (fun _ _ _ _ _ _ h=>h) .nil)))))))))))))
  case stepsc=>
   simp only [List.take_succ_cons,List.take_zero]
   refine(.cons ?_ (.cons ?_ (.cons ?_ (.cons ?_ (.cons ?_ (.cons ?_ (.cons ?_ (.cons ?_ (.cons ?_ (.cons ?_ (.cons ?_ (.cons ?_ (.cons ?_ .nil)))))))))))))
   all_goals(intro L v w1 hJ hL hA hF K hK;simp only [jf,Act.put,Nat.zero_add,Nat.reduceAdd,List.setIfInBounds_toArray,List.set_cons_zero,List.set_cons_succ]at hK |-)
   ·obtain⟨x0,x1,x2,xf⟩:=j7 ((hJ.1.blk HGL.out gs1).trans RS.out)
    clear xf
    go_simp
    refine hK _ _ (hJ.step CmdAt.keepR HP0.out (DiePost.refl hJ.1.1) 0 (by decide) (by decide) (by decide) (by decide)) RNB.refl ?_
    first|exact rfl|exact j5 _
   ·go_simp
    refine hK _ _ (hJ.step CmdAt.keepR HP0.out (DiePost.refl hJ.1.1) 1 (by decide) (by decide) (by decide) (by decide)) RNB.refl ?_
    first|exact rfl|exact j5 _
   ·have e1:v 1=_:=hF 1 (hA 1 (by simp))
    simp only [e1]at hK
    go_simp
    refine(Xi B p n w1 hJ.1.1).mono ?_
    rintro e w5 ⟨cv,c,rfl,⟨ud,rfl,hc⟩,_,hd⟩
    obtain⟨A,C,hp⟩:=Bs.formL hc;subst hp
    exact hK _ _ (hJ.step CmdAt.keepR HP0.out hd 2 (by decide) (by decide) (by decide) (by decide)) (RNB.die hd) ⟨c,A,C,rfl,hc.newO (iZ HP0.out hJ.1.2.size)⟩
   ·have e0:v 0=_:=hF 0 (hA 0 (by simp))
    obtain⟨c,A,C,e2,hc⟩:AggC p w1 (v 2):=hF 2 (hA 2 (by simp))
    simp only [e0,e2]at hK
    go_simp
    refine(XV _ _ k1 k2 m c w1 ⟨_,_,rfl,(XS.out.rollO hJ.1).lo,(YS.out.rollO hJ.1).lo⟩ ⟨_,rfl,hc.lo⟩).mono ?_
    rintro e w5 ⟨cv,sv,rfl,⟨d2,rfl,hd⟩,⟨x2,y2,rfl,hx,hy⟩,hb⟩
    obtain⟨A2,c2,hp⟩:=Bs.formL hd;subst hp
    obtain⟨A3,c3,hp⟩:=Bs.formL hx;subst hp
    obtain⟨A4,c4,hp⟩:=Bs.formL hy;subst hp
    have hD:DiePost B w1 p n w5:=(DiePost.refl hJ.1.1).below hb
    exact hK _ _ (hJ.step CmdAt.keepR HP0.out hD 3 (by decide) (by decide) (by decide) (by decide)) (RNB.die hD) ⟨_,_,_,rfl,⟨_,_,_,rfl,BsS.offD hd hD.1⟩,⟨_,_,_,_,_,_,_,rfl,BsS.offD hx hD.1,BsS.offD hy hD.1⟩⟩
   ·obtain⟨ta,tb,tE,e3,ha,hb⟩:TupA (AggC p w1) p w1 (v 3):=hF 3 (hA 3 (by simp))
    simp only [e3]at hK
    go_simp
    exact hK _ _ (hJ.step CmdAt.keepR HP0.out (DiePost.refl hJ.1.1) 4 (by decide) (by decide) (by decide) (by decide)) RNB.refl ⟨_,_,_,rfl,ha,hb⟩
   ·obtain⟨ta,tb,tE,e4,ha,hb⟩:TupA (AggC p w1) p w1 (v 4):=hF 4 (hA 4 (by simp))
    simp only [e4]at hK
    go_simp
    exact hK _ _ (hJ.step CmdAt.keepR HP0.out (DiePost.refl hJ.1.1) 5 (by decide) (by decide) (by decide) (by decide)) RNB.refl ha
   ·obtain⟨ta,tb,tE,e4,ha,hb⟩:TupA (AggC p w1) p w1 (v 4):=hF 4 (hA 4 (by simp))
    simp only [e4]at hK
    go_simp
    exact hK _ _ (hJ.step CmdAt.keepR HP0.out (DiePost.refl hJ.1.1) 6 (by decide) (by decide) (by decide) (by decide)) RNB.refl hb
   ·obtain⟨ta,tb,tE,e4,ha,hb⟩:TupA (AggC p w1) p w1 (v 4):=hF 4 (hA 4 (by simp))
    simp only [e4]at hK
    go_simp
    exact hK _ _ (hJ.step CmdAt.keepR HP0.out (DiePost.refl hJ.1.1) 7 (by decide) (by decide) (by decide) (by decide)) RNB.refl ⟨_,rfl⟩
   ·exact m31
   ·go_simp
    exact hK _ _ (hJ.allocC CmdAt.keepR (by decide) (by decide)) (RNB.die ((DiePost.refl hJ.1.1).alloc _)) trivial
   ·obtain⟨q,e8,hq0,hq1,hz,_⟩:=hJ.2.1 (hA 8 (by simp))
    have hrow:=hz hL
    obtain⟨c,A,C,e5,hc⟩:AggC p w1 (v 5):=hF 5 (hA 5 (by simp))
    simp only [e8,e5]at hK |-
    obtain⟨z0,z1,z2,z3,z4,z5,zf⟩:=j8 hrow
    have zf0:=zf 0;have zf1:=zf 1;have zf2:=zf 2;have zf3:=zf 3;have zf4:=zf 4;have zf5:=zf 5
    clear zf
    go_simp
    refine hK undef _ (hJ.storeA (w2:=set6 w1 q _ _ _ _ _ _) (hA 8 (by simp)) e8 (hJ.1.set6 HB0.out hq0 _ _ _ _ _ _) (by rw [qq]) (fun j hj=>jQ hj) ⟨c,_,_,zz _ _ _ _ _ _ hrow,j3h hc hrow ZB _ _ _ _ _ _⟩ (by decide) (by decide) (by decide)) (RNB.row (w2:=set6 w1 q _ _ _ _ _ _) hrow ZB (by rw [qq];exact Nat.le_refl _) (fun j hj=>jQ hj)) trivial
   ·obtain⟨q,e9,hq0,hq1,hz⟩:=hJ.2.2.1 (hA 9 (by simp))
    have hrow:=hz hL
    obtain⟨j1,j2,jm,A,ca,B2,d2,e6,hx,hy⟩:AggS p w1 (v 6):=hF 6 (hA 6 (by simp))
    simp only [e9,e6]at hK |-
    obtain⟨z0,z1,z2,zf⟩:=j7 hrow
    have zf0:=zf 0;have zf1:=zf 1;have zf2:=zf 2
    clear zf
    have hnb:RNB p w1 (set3 w1 q (.slice A j1.length ca) (.slice B2 j2.length d2) (.int .i64 jm)):=RNB.row hrow j6x (by rw [kW];exact Nat.le_refl _) (fun j hj=>jC hj)
    go_simp
    exact hK undef _ (hJ.storeC (w2:=set3 w1 q _ _ _) CmdAt.keepR (hA 9 (by simp)) e9 (hJ.1.set3 HB0.out hq0 _ _ _) (by rw [kW]) (fun j hj=>jC hj) hnb (by decide) (by decide) (by decide)) hnb trivial
   ·obtain⟨E7,e7⟩:j3w (v 7):=hF 7 (hA 7 (by simp))
    simp only [e7]at hK
    go_simp
    exact hK _ _ (hJ.step CmdAt.keepR HP0.out (DiePost.refl hJ.1.1) 12 (by decide) (by decide) (by decide) (by decide)) RNB.refl ⟨E7,rfl⟩
  case tailc=>
   intro v w1 hJ hF
   obtain⟨qc,e8,hq0,hq1,_,hw⟩:=hJ.2.1 rfl
   obtain⟨C,hC⟩:=hw rfl
   obtain⟨Ec,e12⟩:j3w (v 12):=hF 12 (by simp)
   simp only [List.drop_succ_cons,List.drop_zero,jf,Act.put,Nat.zero_add,Nat.reduceAdd,List.setIfInBounds_toArray,List.set_cons_zero,List.set_cons_succ]
   simp only [e8,e12]
   obtain⟨wc,hwc⟩:∃u,u=w1:=⟨_,rfl⟩
   rw [<-hwc]at hJ hC hq1 |-
   have D7:=iH (D0.out.trans hJ.1);have S7:=iH (S0.out.roll hJ.1 gs1);have C7:Hid (CmdAt p wc qc C):=iH hC
   have qc1:qc≠p:=by have:=HP0.out;omega
   have qc2:wr.heap.size<=qc:=by have:=HGL.out;omega
   have qc3:gs≠qc:=by have:=HGL.out;omega
   have z7:=hJ.1.2.size
   have HGL:Hid (gs<wc.heap.size):=iH (by have:=HGL.out;omega)
   have HP0:Hid (p<wc.heap.size):=iH (by have:=HP0.out;omega)
   have HB0:Hid (B<=wc.heap.size):=iH D7.out.1.le
   have HQ1:=iH hq1
   clear hJ hF hw hC e8 e12 hwc hq0 hq1 z7 S0 D0 XS YS RS sA sa sB sb
   obtain⟨sA,sa,sB,sb,hr,hx,hy⟩:=S7.out;have XS:=iH hx;have YS:=iH hy;have RS:=iH hr;clear hr hx hy
   go_upto_region 6 with fail
   refine jc 13 [some 28,some 29,some 30,some 31,some 27,some 32,some 33,some 34,some 8,some 9,none,none,some 10] [[],[],[1],[0,1,2],[0,1,2,3],[0,1,2,3,4],[0,1,2,3,4],[0,1,2,3,4],[],[],[0,1,2,3,4,5,8,9],[0,1,2,3,4,5,6,8,9,10],[0,1,2,3,4,5,6,7,8,9,10,11]]
    (JZD B p n wc 8 10 9 11 #[.slice none 0 0,.int .i64 0] 44 #[.slice none 0 0,.slice none 0 0,.int .i64 0] 29 (fun w q=>∃d st,RspAt p w q d st)) (RNB p)
    [fun v _=>v 0=.agg #[.slice sA k1.length sa,.slice sB k2.length sb,.int .i64 m],
     fun v _=>v 1=.pointer (some ⟨p,0,none⟩),
     fun v w1=>AggR p w1 (v 2),
     fun v w1=>TupA (AggR p w1) p w1 (v 3),
     fun v w1=>TupA (AggR p w1) p w1 (v 4),
     fun v w1=>AggR p w1 (v 5),
     fun v w1=>AggS p w1 (v 6),
     fun v _=>j3w (v 7),
     fun v _=>True,
     fun v _=>True,
     fun v _=>True,
     fun v _=>True,
     fun v _=>j3w (v 12)]
    (by kernel_rfl) (by kernel_rfl) (fun _=>JZD.start D7.out.1) ?str ?stepsr ?tailr
   case str=>
    exact(.cons (fun _ _ _ _ _ _ h=>h) (.cons (fun _ _ _ _ _ _ h=>h) (.cons (fun _ _ _ _ _ hr h=>h.keep hr) (.cons (fun _ _ _ _ _ hr h=>h.keepR hr) (.cons (fun _ _ _ _ _ hr h=>h.keepR hr) (.cons (fun _ _ _ _ _ hr h=>h.keep hr) (.cons (fun _ _ _ _ _ hr h=>h.keep hr) (.cons (fun _ _ _ _ _ _ h=>h) (.cons (fun _ _ _ _ _ _ h=>h) (.cons (fun _ _ _ _ _ _ h=>h) (.cons (fun _ _ _ _ _ _ h=>h) (.cons (fun _ _ _ _ _ _ h=>h) (.cons (fun _ _ _ _ _ _ h=>h) .nil)))))))))))))
   case stepsr=>
    simp only [List.take_succ_cons,List.take_zero]
    refine(.cons ?_ (.cons ?_ (.cons ?_ (.cons ?_ (.cons ?_ (.cons ?_ (.cons ?_ (.cons ?_ (.cons ?_ (.cons ?_ (.cons ?_ (.cons ?_ (.cons ?_ .nil)))))))))))))
    all_goals(intro L v w1 hJ hL hA hF K hK;simp only [jf,Act.put,Nat.zero_add,Nat.reduceAdd,List.setIfInBounds_toArray,List.set_cons_zero,List.set_cons_succ]at hK |-)
    ·obtain⟨x0,x1,x2,xf⟩:=j7 ((hJ.1.blk HGL.out gs1).trans RS.out)
     clear xf
     go_simp
     refine hK _ _ (hJ.step RspAt.keepR HP0.out (DiePost.refl hJ.1.1) 0 (by decide) (by decide) (by decide) (by decide)) RNB.refl ?_
     first|exact rfl|exact j5 _
    ·go_simp
     refine hK _ _ (hJ.step RspAt.keepR HP0.out (DiePost.refl hJ.1.1) 1 (by decide) (by decide) (by decide) (by decide)) RNB.refl ?_
     first|exact rfl|exact j5 _
    ·have e1:v 1=_:=hF 1 (hA 1 (by simp))
     simp only [e1]at hK
     go_simp
     refine(Qk B p n w1 hJ.1.1).mono ?_
     rintro e w5 ⟨cv,c,st,rfl,⟨ud,rfl,hc⟩,_,hd⟩
     obtain⟨A,C,hp⟩:=Bs.formL hc;subst hp
     exact hK _ _ (hJ.step RspAt.keepR HP0.out hd 2 (by decide) (by decide) (by decide) (by decide)) (RNB.die hd) ⟨c,st,A,C,rfl,hc.newO (iZ HP0.out hJ.1.2.size)⟩
    ·have e0:v 0=_:=hF 0 (hA 0 (by simp))
     obtain⟨c,st,A,C,e2,hc⟩:AggR p w1 (v 2):=hF 2 (hA 2 (by simp))
     simp only [e0,e2]at hK
     go_simp
     refine(Q0 _ _ k1 k2 m c st w1 ⟨_,_,rfl,(XS.out.rollO hJ.1).lo,(YS.out.rollO hJ.1).lo⟩ ⟨_,rfl,hc.lo⟩).mono ?_
     rintro e w5 ⟨cv,sv,rfl,⟨d2,rfl,hd⟩,⟨x2,y2,rfl,hx,hy⟩,hb⟩
     obtain⟨A2,c2,hp⟩:=Bs.formL hd;subst hp
     obtain⟨A3,c3,hp⟩:=Bs.formL hx;subst hp
     obtain⟨A4,c4,hp⟩:=Bs.formL hy;subst hp
     have hD:DiePost B w1 p n w5:=(DiePost.refl hJ.1.1).below hb
     exact hK _ _ (hJ.step RspAt.keepR HP0.out hD 3 (by decide) (by decide) (by decide) (by decide)) (RNB.die hD) ⟨_,_,_,rfl,⟨_,_,_,_,rfl,BsS.offD hd hD.1⟩,⟨_,_,_,_,_,_,_,rfl,BsS.offD hx hD.1,BsS.offD hy hD.1⟩⟩
    ·obtain⟨ta,tb,tE,e3,ha,hb⟩:TupA (AggR p w1) p w1 (v 3):=hF 3 (hA 3 (by simp))
     simp only [e3]at hK
     go_simp
     exact hK _ _ (hJ.step RspAt.keepR HP0.out (DiePost.refl hJ.1.1) 4 (by decide) (by decide) (by decide) (by decide)) RNB.refl ⟨_,_,_,rfl,ha,hb⟩
    ·obtain⟨ta,tb,tE,e4,ha,hb⟩:TupA (AggR p w1) p w1 (v 4):=hF 4 (hA 4 (by simp))
     simp only [e4]at hK
     go_simp
     exact hK _ _ (hJ.step RspAt.keepR HP0.out (DiePost.refl hJ.1.1) 5 (by decide) (by decide) (by decide) (by decide)) RNB.refl ha
    ·obtain⟨ta,tb,tE,e4,ha,hb⟩:TupA (AggR p w1) p w1 (v 4):=hF 4 (hA 4 (by simp))
     simp only [e4]at hK
     go_simp
     exact hK _ _ (hJ.step RspAt.keepR HP0.out (DiePost.refl hJ.1.1) 6 (by decide) (by decide) (by decide) (by decide)) RNB.refl hb
    ·obtain⟨ta,tb,tE,e4,ha,hb⟩:TupA (AggR p w1) p w1 (v 4):=hF 4 (hA 4 (by simp))
     simp only [e4]at hK
     go_simp
     exact hK _ _ (hJ.step RspAt.keepR HP0.out (DiePost.refl hJ.1.1) 7 (by decide) (by decide) (by decide) (by decide)) RNB.refl ⟨_,rfl⟩
    ·exact m31
    ·go_simp
     exact hK _ _ (hJ.allocC RspAt.keepR (by decide) (by decide)) (RNB.die ((DiePost.refl hJ.1.1).alloc _)) trivial
    ·obtain⟨q,e8,hq0,hq1,hz,_⟩:=hJ.2.1 (hA 8 (by simp))
     have hrow:=hz hL
     obtain⟨c,st,A,C,e5,hc⟩:AggR p w1 (v 5):=hF 5 (hA 5 (by simp))
     simp only [e8,e5]at hK |-
     obtain⟨z0,z1,zf⟩:=jd hrow
     have zf0:=zf 0;have zf1:=zf 1
     clear zf
     go_simp
     refine hK undef _ (hJ.storeA (w2:=qm w1 q _ _) (hA 8 (by simp)) e8 ((hJ.1.set HB0.out hq0 _).set HB0.out hq0 _) (by rw [yB]) (fun j hj=>kz hj) ⟨c,st,_,_,YJ _ _ hrow,j3g hc hrow Uq _ _⟩ (by decide) (by decide) (by decide)) (RNB.row (w2:=qm w1 q _ _) hrow Uq (by rw [yB];exact Nat.le_refl _) (fun j hj=>kz hj)) trivial
    ·obtain⟨q,e9,hq0,hq1,hz⟩:=hJ.2.2.1 (hA 9 (by simp))
     have hrow:=hz hL
     obtain⟨j1,j2,jm,A,ca,B2,d2,e6,hx,hy⟩:AggS p w1 (v 6):=hF 6 (hA 6 (by simp))
     simp only [e9,e6]at hK |-
     obtain⟨z0,z1,z2,zf⟩:=j7 hrow
     have zf0:=zf 0;have zf1:=zf 1;have zf2:=zf 2
     clear zf
     have hnb:RNB p w1 (set3 w1 q (.slice A j1.length ca) (.slice B2 j2.length d2) (.int .i64 jm)):=RNB.row hrow j6x (by rw [kW];exact Nat.le_refl _) (fun j hj=>jC hj)
     go_simp
     exact hK undef _ (hJ.storeC (w2:=set3 w1 q _ _ _) RspAt.keepR (hA 9 (by simp)) e9 (hJ.1.set3 HB0.out hq0 _ _ _) (by rw [kW]) (fun j hj=>jC hj) hnb (by decide) (by decide) (by decide)) hnb trivial
    ·obtain⟨E7,e7⟩:j3w (v 7):=hF 7 (hA 7 (by simp))
     simp only [e7]at hK
     go_simp
     exact hK _ _ (hJ.step RspAt.keepR HP0.out (DiePost.refl hJ.1.1) 12 (by decide) (by decide) (by decide) (by decide)) RNB.refl ⟨E7,rfl⟩
   case tailr=>
    intro v w1 hJ hF
    obtain⟨qr,e8,hq0,hq1,_,hw⟩:=hJ.2.1 rfl
    obtain⟨R,rst,hC⟩:=hw rfl
    obtain⟨Er,e12⟩:j3w (v 12):=hF 12 (by simp)
    simp only [List.drop_succ_cons,List.drop_zero,jf,Act.put,Nat.zero_add,Nat.reduceAdd,List.setIfInBounds_toArray,List.set_cons_zero,List.set_cons_succ]
    simp only [e8,e12]
    obtain⟨wr2,hwr2⟩:∃u,u=w1:=⟨_,rfl⟩
    rw [<-hwr2]at hJ hC hq1 |-
    have D9:=iH (D7.out.trans hJ.1);have S9:=iH (S7.out.roll hJ.1 gs1);have C9:=iH (C7.out.roll hJ.1 qc1);have R9:Hid (RspAt p wr2 qr R rst):=iH hC
    have qr1:qr≠p:=by have:=HP0.out;omega
    have qr2:wr.heap.size<=qr:=by have:=HGL.out;omega
    have qr3:gs≠qr:=by have:=HGL.out;omega
    have qr4:qc≠qr:=by have:=HQ1.out;omega
    have HB1:Hid (B<=wr.heap.size):=iH (by omega)
    clear hJ hF hw hC e8 e12 hwr2 hq0 hq1 S7 D7 C7 XS YS RS sA sa sB sb HGL HP0 HB0 HQ1
    obtain⟨cA,cC,hr,hx⟩:=C9.out;obtain⟨c0,c1,c2,c3,c4,c5,cf⟩:=j8 hr;have cf0:=cf 0;have cf1:=cf 1;have cf2:=cf 2;have cf3:=cf 3;have cf4:=cf 4;have cf5:=cf 5;have Xc:=iH hx;have Rc:=iH hr;clear cf hr hx
    obtain⟨dA,dC,hr,hx⟩:=R9.out;obtain⟨d0,d1,cf⟩:=jd hr;have df0:=cf 0;have df1:=cf 1;have Xd:=iH hx;have Rd:=iH hr;clear cf hr hx
    by_cases h1:Ec=0
    case neg=>
     have k1:(Ec != 0)=true:=by simp [h1]
     exact mC
    subst h1
    by_cases h1:Er=0
    case neg=>
     have k1:(Er != 0)=true:=by simp [h1]
     exact mC
    subst h1
    by_cases h1:1000<(C.data.length:Int)
    case pos=>
     exact mC
    by_cases h2:1000<(R.length:Int)
    case pos=>
     exact mC
    go_upto_region 9 with fail
    have HQC:Hid (qc<wr2.heap.size):=iH (iG Rc.out)
    have HQR:Hid (qr<wr2.heap.size):=iH (iG Rd.out)
    clear c0 cf0 c1 cf1 c2 cf2 c3 cf3 c4 cf4 c5 cf5
    clear d0 df0 d1 df1
    refine jc 11 [some 54,some 55,some 56,some 57,some 58,some 59,some 60,some 61,some 62,some 63,some 64] [[],[0],[],[2],[0,1,2,3],[],[5],[],[0,1,2,3,4,7],[0,1,2,3,4,5,6,7,8],[0,1,2,3,4]]
     (fun _ _ w1=>DiePost B wr2 p n w1) (fun w1 w2=>DiePost B w1 p n w2)
     [fun v _=>v 0=.pointer (some ⟨qc,4,none⟩),
      fun v _=>v 1=.slice cA C.data.length cC,
      fun v _=>v 2=.pointer (some ⟨p,0,none⟩),
      fun v _=>∃z:Nat,v 3=.int .i64 z/\(z:Int)<9,
      fun v w1=>∃(A:Option Addr) (c:Nat) (l:List UInt8),v 4=.slice A l.length c/\BsS w1 (yM p w1) (.slice A l.length c) l,
      fun v _=>v 5=.pointer (some ⟨qr,0,none⟩),
      fun v _=>v 6=.slice dA R.length dC,
      fun v _=>v 7=.pointer (some ⟨p,0,none⟩),
      fun v _=>∃z:Nat,v 8=.int .i64 z/\(z:Int)<9,
      fun v w1=>∃(A:Option Addr) (c:Nat) (l:List UInt8),v 9=.slice A l.length c/\BsS w1 (yM p w1) (.slice A l.length c) l,
      fun v _=>v 10=.pointer (some ⟨qc,4,none⟩)]
     (by kernel_rfl) (by kernel_rfl) (fun _=>(DiePost.refl D9.out.1).drew) ?st9 ?steps9 ?tail9
    case st9=>
     exact(.cons (fun _ _ _ _ _ _ h=>h) (.cons (fun _ _ _ _ _ _ h=>h) (.cons (fun _ _ _ _ _ _ h=>h) (.cons (fun _ _ _ _ _ _ h=>h) (.cons (fun _ _ _ _ _ hr ⟨A,c,l,e,h⟩=>⟨A,c,l,e,h.rollO hr⟩) (.cons (fun _ _ _ _ _ _ h=>h) (.cons (fun _ _ _ _ _ _ h=>h) (.cons (fun _ _ _ _ _ _ h=>h) (.cons (fun _ _ _ _ _ _ h=>h) (.cons (fun _ _ _ _ _ hr ⟨A,c,l,e,h⟩=>⟨A,c,l,e,h.rollO hr⟩) (.cons (fun _ _ _ _ _ _ h=>h) .nil)))))))))))
    case steps9=>
     simp only [List.take_succ_cons,List.take_zero]
     refine(.cons ?_ (.cons ?_ (.cons ?_ (.cons ?_ (.cons ?_ (.cons ?_ (.cons ?_ (.cons ?_ (.cons ?_ (.cons ?_ (.cons ?_ .nil)))))))))))
     all_goals(intro L v w1 hJ hL hA hF K hK;simp only [jf,Act.put,Nat.zero_add,Nat.reduceAdd,List.setIfInBounds_toArray,List.set_cons_zero,List.set_cons_succ]at hK |-)
     ·exact ml
     ·have e0:v 0=_:=hF 0 (hA 0 (by simp))
      simp only [e0]at hK
      obtain⟨_,_,_,_,x4,_,_⟩:=j8 ((hJ.blk HQC.out qc1).trans Rc.out)
      exact ml
     ·exact ml
     ·have e2:v 2=_:=hF 2 (hA 2 (by simp))
      simp only [e2]at hK
      exact m2i
     ·have e1:v 1=_:=hF 1 (hA 1 (by simp))
      obtain⟨z,e3,hz⟩:∃z:Nat,v 3=.int .i64 z/\(z:Int)<9:=hF 3 (hA 3 (by simp))
      simp only [e1,e3]at hK
      go_simp
      refine(YP C.data _ z w1 (Xc.out.rollO hJ).lo (by omega) hz).mono ?_
      exact m1x
     ·exact ml
     ·have e5:v 5=_:=hF 5 (hA 5 (by simp))
      simp only [e5]at hK
      obtain⟨x4,_,_⟩:=jd ((hJ.blk HQR.out qr1).trans Rd.out)
      exact ml
     ·exact ml
     ·have e7:v 7=_:=hF 7 (hA 7 (by simp))
      simp only [e7]at hK
      exact m2i
     ·have e6:v 6=_:=hF 6 (hA 6 (by simp))
      obtain⟨z,e8,hz⟩:∃z:Nat,v 8=.int .i64 z/\(z:Int)<9:=hF 8 (hA 8 (by simp))
      simp only [e6,e8]at hK
      go_simp
      refine(YP R _ z w1 (Xd.out.rollO hJ).lo (by omega) hz).mono ?_
      exact m1x
     ·exact ml
    case tail9=>
     intro v w1 hJ hF
     have e0:v 0=_:=hF 0 (by simp)
     have e1:v 1=_:=hF 1 (by simp)
     have e2:v 2=_:=hF 2 (by simp)
     have e5:v 5=_:=hF 5 (by simp)
     have e6:v 6=_:=hF 6 (by simp)
     have e7:v 7=_:=hF 7 (by simp)
     have e10:v 10=_:=hF 10 (by simp)
     obtain⟨z3,e3,_⟩:∃z:Nat,v 3=.int .i64 z/\(z:Int)<9:=hF 3 (by simp)
     obtain⟨z8,e8,_⟩:∃z:Nat,v 8=.int .i64 z/\(z:Int)<9:=hF 8 (by simp)
     obtain⟨A4,d4,l4,e4,h4⟩:∃(A:Option Addr) (c:Nat) (l:List UInt8),v 4=.slice A l.length c/\BsS w1 (yM p w1) (.slice A l.length c) l:=hF 4 (by simp)
     obtain⟨A9,d9,l9,e9,h9⟩:∃(A:Option Addr) (c:Nat) (l:List UInt8),v 9=.slice A l.length c/\BsS w1 (yM p w1) (.slice A l.length c) l:=hF 9 (by simp)
     simp only [List.drop_succ_cons,List.drop_zero,jf,Act.put,Nat.zero_add,Nat.reduceAdd,List.setIfInBounds_toArray,List.set_cons_zero,List.set_cons_succ]
     simp only [e0,e1,e2,e3,e4,e5,e6,e7,e8,e9,e10]
     obtain⟨wt,hwt⟩:∃u,u=w1:=⟨_,rfl⟩
     rw [<-hwt]at hJ h4 h9 |-
     have DT:=iH (D9.out.trans hJ);have ST:=iH (S9.out.roll hJ gs1);have CT:=iH (C9.out.roll hJ qc1);have RT:=iH (R9.out.roll hJ qr1);have X4:=iH h4;have X9:=iH h9
     clear hJ hF hwt h4 h9 Xc Rc Xd Rd S9 C9 R9 D9 HQC HQR e0 e1 e2 e3 e4 e5 e6 e7 e8 e9 e10
     obtain⟨cA,cC,hr,hx⟩:=CT.out;obtain⟨c0,c1,c2,c3,c4,c5,cf⟩:=j8 hr;have cf0:=cf 0;have cf1:=cf 1;have cf2:=cf 2;have cf3:=cf 3;have cf4:=cf 4;have cf5:=cf 5;have Xc:=iH hx;have Rc:=iH hr;clear cf hr hx
     obtain⟨dA,dC,hr,hx⟩:=RT.out;obtain⟨d0,d1,cf⟩:=jd hr;have df0:=cf 0;have df1:=cf 1;have Xd:=iH hx;have Rd:=iH hr;clear cf hr hx
     go_upto_region 10 with fail
     clear c0 cf0 c1 cf1 c2 cf2 c3 cf3 c4 cf4 c5 cf5
     clear d0 df0 d1 df1
     obtain⟨wz,hwz⟩:∃u,u=(wt.setCell ⟨qc,4,none⟩ (.slice A4 l4.length d4)).setCell ⟨qr,0,none⟩ (.slice A9 l9.length d9):=⟨_,rfl⟩
     rw [<-hwz]
     have r1:(wt.setCell ⟨qc,4,none⟩ (.slice A4 l4.length d4)).heap[qr]?=_:=(iO (Ne.symm qr4)).trans Rd.out
     have DZ:Hid (DiePost B wr p n wz):=iH (by rw [hwz];exact(DT.out.set HB1.out qc2 _).set HB1.out qr2 _)
     have SZ:Hid (SesAt p wz gs k1 k2 m):=iH (by rw [hwz];exact(ST.out.other Rc.out ZB qc3 _).other r1 Uq qr3 _)
     have CZ:Hid (CmdAt p wz qc {C with data:=l4}):=iH (by rw [hwz];exact(CT.out.setD X4.out).other r1 Uq qr4 _)
     have RZ:Hid (RspAt p wz qr l9 rst):=iH (by rw [hwz];exact(RT.out.other Rc.out ZB (Ne.symm qr4) _).setD (X9.out.setO Rc.out ZB _))
     clear hwz r1 DT ST CT RT X4 X9 Xc Rc Xd Rd
     go_wp2_with(first
      |(go_at_call 19;refine(QE _ _ _ k1 k2 m [] 0 l9 rst w13 ⟨_,_,rfl,XS.out.lo,YS.out.lo⟩ ⟨_,rfl,BsS.nil0 _ _⟩ ⟨_,rfl,Xd.out.lo⟩).mono ?_;rintro e w14 ⟨rfl,hb⟩;have D14:=iH (D13.out.below hb);clear s0 s1 s2 sf0 sf1 sf2;clear d0 df0 d1 df1;clear hb)
      |(go_at_call 18;refine(Xh _ _ _ k1 k2 m ⟨0,0,0,0,[],0⟩ {C with data:=l4} w12 ⟨_,_,rfl,XS.out.lo,YS.out.lo⟩ ⟨_,rfl,BsS.nil0 _ _⟩ ⟨_,rfl,Xc.out.lo⟩).mono ?_;rintro e w13 ⟨rfl,hb⟩;have E13:=iH ((DiePost.refl D12.out.1).below hb);have D13:=iH (D12.out.trans E13.out);clear s0 s1 s2 sf0 sf1 sf2;clear c0 cf0 c1 cf1 c2 cf2 c3 cf3 c4 cf4 c5 cf5;clear XS YS RS Xc Rc;obtain⟨sA,sa,sB,sb,hr,hx,hy⟩:=(S12.out.roll E13.out gs1);obtain⟨s0,s1,s2,sf⟩:=j7 hr;have sf0:=sf 0;have sf1:=sf 1;have sf2:=sf 2;have XS:=iH hx;have YS:=iH hy;have RS:=iH hr;clear sf hr hx hy;obtain⟨dA,dC,hr,hx⟩:=(R12.out.roll E13.out qr1);obtain⟨d0,d1,cf⟩:=jd hr;have df0:=cf 0;have df1:=cf 1;have Xd:=iH hx;have Rd:=iH hr;clear cf hr hx;clear hb)
      |(go_at_call 8;refine(qD _).mono ?_;rintro e w12 ⟨rfl,hb⟩;have E12:=iH ((DiePost.refl DZ.out.1).below hb);have D12:=iH (DZ.out.trans E12.out);have S12:=iH (SZ.out.roll E12.out gs1);have R12:=iH (RZ.out.roll E12.out qr1);obtain⟨sA,sa,sB,sb,hr,hx,hy⟩:=S12.out;obtain⟨s0,s1,s2,sf⟩:=j7 hr;have sf0:=sf 0;have sf1:=sf 1;have sf2:=sf 2;have XS:=iH hx;have YS:=iH hy;have RS:=iH hr;clear sf hr hx hy;obtain⟨cA,cC,hr,hx⟩:=(CZ.out.roll E12.out qc1);obtain⟨c0,c1,c2,c3,c4,c5,cf⟩:=j8 hr;have cf0:=cf 0;have cf1:=cf 1;have cf2:=cf 2;have cf3:=cf 3;have cf4:=cf 4;have cf5:=cf 5;have Xc:=iH hx;have Rc:=iH hr;clear cf hr hx;clear hb))
     go_ret
     exact⟨rfl,B1.out.grown D14.out.2 (by omega) (fun k e=>by injection e with e;omega)⟩
 ·have hn1:decide ((n:Int)<=400)=false:=decide_eq_false hn
  rw [hn1]at HL
  clear hn hn1
  go_enter Tryz.func6,Tryz.ntmps6
  go_wp2_with(first
   |(go_at_call 7;refine iR HL.out ?_)
   |(go_at_call 8;refine(qD _).mono ?_;rintro e w1 ⟨rfl,hb⟩;have HB:=iH hb;clear hb))
  go_ret
  exact⟨by simp,HB.out⟩
end Go.Proofs.YtadndhgebgjlaaaGreat
