import Derived.Test.YtadndhgebgjlaaaGreatPBu
import Derived.Test.YtadndhgebgjlaaaGreatPBw
import Derived.Test.YtadndhgebgjlaaaGreatPBv
set_option linter.all false
set_option maxRecDepth 100000
set_option maxHeartbeats 8000000
namespace Go.Proofs.YtadndhgebgjlaaaGreat
open Go.RowKit Go.Deep
theorem zm(w:World):((w.alloc (.cells #[.int .i64 0,.int .i64 0,.int .i64 0,.int .i64 0,.slice none 0 0,.int .i64 0] 32)).alloc (.cells #[.slice none 0 0,.slice none 0 0,.int .i64 0] 29)).heap[w.heap.size]?=some (.cells #[.int .i64 0,.int .i64 0,.int .i64 0,.int .i64 0,.slice none 0 0,.int .i64 0] 32 (0,0))/\((w.alloc (.cells #[.int .i64 0,.int .i64 0,.int .i64 0,.int .i64 0,.slice none 0 0,.int .i64 0] 32)).alloc (.cells #[.slice none 0 0,.slice none 0 0,.int .i64 0] 29)).heap[w.heap.size+1]?=some (.cells #[.slice none 0 0,.slice none 0 0,.int .i64 0] 29 (0,0)):=by
 refine⟨by rw [Below.heap_alloc _ _ _ (by simp)];exact iN,?_⟩
 have h:=heap_alloc_new (w.alloc (.cells #[.int .i64 0,.int .i64 0,.int .i64 0,.int .i64 0,.slice none 0 0,.int .i64 0] 32)) (.cells #[.slice none 0 0,.slice none 0 0,.int .i64 0] 29)
 rwa [show(w.alloc (.cells #[.int .i64 0,.int .i64 0,.int .i64 0,.int .i64 0,.slice none 0 0,.int .i64 0] 32)).heap.size=w.heap.size+1 by simp]at h
theorem zn(w:World):((w.alloc (.cells #[.slice none 0 0,.int .i64 0] 44)).alloc (.cells #[.slice none 0 0,.slice none 0 0,.int .i64 0] 29)).heap[w.heap.size]?=some (.cells #[.slice none 0 0,.int .i64 0] 44 (0,0))/\((w.alloc (.cells #[.slice none 0 0,.int .i64 0] 44)).alloc (.cells #[.slice none 0 0,.slice none 0 0,.int .i64 0] 29)).heap[w.heap.size+1]?=some (.cells #[.slice none 0 0,.slice none 0 0,.int .i64 0] 29 (0,0)):=by
 refine⟨by rw [Below.heap_alloc _ _ _ (by simp)];exact iN,?_⟩
 have h:=heap_alloc_new (w.alloc (.cells #[.slice none 0 0,.int .i64 0] 44)) (.cells #[.slice none 0 0,.slice none 0 0,.int .i64 0] 29)
 rwa [show(w.alloc (.cells #[.slice none 0 0,.int .i64 0] 44)).heap.size=w.heap.size+1 by simp]at h
theorem QR(vs vc vd:Value)(k1 k2:List UInt8)(n:Int)(c:Cm)(d:Cm)(w:World)(hs:qa w (·<w.heap.size) vs k1 k2 n)(hc:yx w (·<w.heap.size) vc c)(hd:yx w (·<w.heap.size) vd d):
 Calls Tryz.prog 18 #[vs,vc,vd] w fun e w'=>e=.returned (.bool true)/\Below w.heap.size w w':=by
 obtain⟨ua,ub,rfl,ha,hb⟩:=hs
 obtain⟨A1,d1,hp⟩:=Bs.formL ha;subst hp
 obtain⟨A2,d2,hp⟩:=Bs.formL hb;subst hp
 obtain⟨uc,rfl,hcd⟩:=hc
 obtain⟨ud,rfl,hdd⟩:=hd
 obtain⟨cA,cc,hp⟩:=Bs.formL hcd;subst hp
 obtain⟨dA,dc,hp⟩:=Bs.formL hdd;subst hp
 obtain⟨⟨E,C,K1,K2,M⟩,hr1⟩:∃r,q6 k1 k2 n c=r:=⟨_,rfl⟩
 obtain⟨⟨F,D,L1,L2,Q⟩,hr2⟩:∃r,jq k1 k2 n d=r:=⟨_,rfl⟩
 have HR1:=iH hr1;have HR2:=iH hr2
 obtain⟨ws,hws⟩:∃ws,ws=w.alloc (.cells #[.slice A1 k1.length d1,.slice A2 k2.length d2,.int .i64 n] 29):=⟨_,rfl⟩
 obtain⟨wq,hwq⟩:∃wq,wq=ws.alloc (.cells #[.int .i64 c.cl,.int .i64 c.ins,.int .i64 c.p1,.int .i64 c.p2,.slice cA c.data.length cc,.int .i64 c.ex] 32):=⟨_,rfl⟩
 obtain⟨w0,hw0⟩:∃w0,w0=wq.alloc (.cells #[.int .i64 d.cl,.int .i64 d.ins,.int .i64 d.p1,.int .i64 d.p2,.slice dA d.data.length dc,.int .i64 d.ex] 32):=⟨_,rfl⟩
 have zs:ws.heap.size=w.heap.size+1:=by rw [hws];simp
 have zq:wq.heap.size=w.heap.size+1+1:=by rw [hwq];simp [zs]
 have b1:Below w.heap.size w ws:=by rw [hws];exact iA
 have b2:Below ws.heap.size ws wq:=by rw [hwq];exact iA
 have b3:Below wq.heap.size wq w0:=by rw [hw0];exact iA
 have z0:w0.heap.size=w.heap.size+1+1+1:=by rw [hw0];simp [zq]
 have q1:ws.heap[w.heap.size]?=some (.cells #[.slice A1 k1.length d1,.slice A2 k2.length d2,.int .i64 n] 29 (0,0)):=by rw [hws];exact iN
 have q2:wq.heap[w.heap.size+1]?=some (.cells #[.int .i64 c.cl,.int .i64 c.ins,.int .i64 c.p1,.int .i64 c.p2,.slice cA c.data.length cc,.int .i64 c.ex] 32 (0,0)):=by rw [hwq,<-zs];exact iN
 have q3:w0.heap[w.heap.size+1+1]?=some (.cells #[.int .i64 d.cl,.int .i64 d.ins,.int .i64 d.p1,.int .i64 d.p2,.slice dA d.data.length dc,.int .i64 d.ex] 32 (0,0)):=by rw [hw0,<-zq];exact iN
 have e2:=(b3.block (w.heap.size+1) (by omega)).trans q2
 have e1:=(b3.block w.heap.size (by omega)).trans ((b2.block w.heap.size (by omega)).trans q1)
 have hB:Below w.heap.size w w0:=b1.trans ((b2.trans (b3.mono b2.size)).mono b1.size)
 have CS:Hid (∀W,Below w0.heap.size w0 W->W.cell? ⟨w.heap.size,0,none⟩=some (.slice A1 k1.length d1)/\W.cell? ⟨w.heap.size,1,none⟩=some (.slice A2 k2.length d2)/\W.cell? ⟨w.heap.size,2,none⟩=some (.int .i64 n)):=iH fun W h=>(by obtain⟨a,b,c,_⟩:=j7 ((h.block w.heap.size (by omega)).trans e1);exact⟨a,b,c⟩)
 have CC:Hid (∀W,Below w0.heap.size w0 W->W.cell? ⟨w.heap.size+1,0,none⟩=some (.int .i64 c.cl)/\W.cell? ⟨w.heap.size+1,1,none⟩=some (.int .i64 c.ins)/\W.cell? ⟨w.heap.size+1,2,none⟩=some (.int .i64 c.p1)/\W.cell? ⟨w.heap.size+1,3,none⟩=some (.int .i64 c.p2)/\W.cell? ⟨w.heap.size+1,4,none⟩=some (.slice cA c.data.length cc)/\W.cell? ⟨w.heap.size+1,5,none⟩=some (.int .i64 c.ex)):=iH fun W h=>(by obtain⟨a,b,c,d,e,f,_⟩:=ja ((h.block (w.heap.size+1) (by omega)).trans e2);exact⟨a,b,c,d,e,f⟩)
 have CD:Hid (∀W,Below w0.heap.size w0 W->W.cell? ⟨w.heap.size+1+1,0,none⟩=some (.int .i64 d.cl)/\W.cell? ⟨w.heap.size+1+1,1,none⟩=some (.int .i64 d.ins)/\W.cell? ⟨w.heap.size+1+1,2,none⟩=some (.int .i64 d.p1)/\W.cell? ⟨w.heap.size+1+1,3,none⟩=some (.int .i64 d.p2)/\W.cell? ⟨w.heap.size+1+1,4,none⟩=some (.slice dA d.data.length dc)/\W.cell? ⟨w.heap.size+1+1,5,none⟩=some (.int .i64 d.ex)):=iH fun W h=>(by obtain⟨a,b,c,d,e,f,_⟩:=ja ((h.block (w.heap.size+1+1) (by omega)).trans q3);exact⟨a,b,c,d,e,f⟩)
 have HB0:=iH hB;have HWS:=iH hws;have HWQ:=iH hwq;have HW0:=iH hw0
 have HK1:=iH (Bs.lift ha hB);have HK2:=iH (Bs.lift hb hB);have HCD:=iH (Bs.lift hcd hB);have HDD:=iH (Bs.lift hdd hB)
 have HSV:Hid (∀W,Below w0.heap.size w0 W->qa W (·<W.heap.size) (.agg #[.slice A1 k1.length d1,.slice A2 k2.length d2,.int .i64 n]) k1 k2 n):=iH fun W h=>⟨_,_,rfl,HK1.out.lift h,HK2.out.lift h⟩
 have HCV:Hid (∀W,Below w0.heap.size w0 W->yx W (·<W.heap.size) (.agg #[.int .i64 c.cl,.int .i64 c.ins,.int .i64 c.p1,.int .i64 c.p2,.slice cA c.data.length cc,.int .i64 c.ex]) c):=iH fun W h=>⟨_,rfl,HCD.out.lift h⟩
 have HDV:Hid (∀W,Below w0.heap.size w0 W->yx W (·<W.heap.size) (.agg #[.int .i64 d.cl,.int .i64 d.ins,.int .i64 d.p1,.int .i64 d.p2,.slice dA d.data.length dc,.int .i64 d.ex]) d):=iH fun W h=>⟨_,rfl,HDD.out.lift h⟩
 clear ha hb hcd hdd hr1 hr2 hws hwq hw0 zs zq z0 b1 b2 b3 q1 q2 q3 e1 e2 hB
 go_enter Tryz.func18,Tryz.ntmps18
 go_upto_region 1 with fail
 rw [<-HWS.out,<-HWQ.out,<-HW0.out]
 obtain⟨s0,s1,s2⟩:=CS.out w0 iB
 obtain⟨c0,c1,c2,c3,c4,c5⟩:=CC.out w0 iB
 go_upto_region 2 with (go_at_call 23;refine(Xe _ _ k1 k2 n c w0 (HSV.out w0 iB) (HCV.out w0 iB)).mono ?_;rw [HR1.out];rintro e w1 ⟨v,s,rfl,⟨d1,rfl,hd⟩,⟨x1,y1,rfl,hx,hy⟩,hb⟩;obtain⟨dA1,dc1,hp⟩:=Bs.formL hd;subst hp;obtain⟨xA1,xc1,hp⟩:=Bs.formL hx;subst hp;obtain⟨yA1,yc1,hp⟩:=Bs.formL hy;subst hp;have HV1:Hid (VW w1 [(.slice dA1 C.data.length dc1,C.data),(.slice xA1 K1.length xc1,K1),(.slice yA1 K2.length yc1,K2)]):=iH (((VW.nil.add (S:=(·<w1.heap.size)) (fun _ h=>h) hy).add (S:=(·<w1.heap.size)) (fun _ h=>h) hx).add (S:=(·<w1.heap.size)) (fun _ h=>h) hd);have HB1:=iH hb;obtain⟨hz,hs0⟩:=zm w1;obtain⟨n0,n1,n2,n3,n4,n5,nf⟩:=ja hz;have nf0:=nf 0;have nf1:=nf 1;have nf2:=nf 2;have nf3:=nf 3;have nf4:=nf 4;have nf5:=nf 5;obtain⟨m0,m1,m2,mf⟩:=j7 hs0;have mf0:=mf 0;have mf1:=mf 1;have mf2:=mf 2;clear nf mf hz hs0 hd hx hy hb)
 clear s0 s1 s2 c0 c1 c2 c3 c4 c5 n0 n1 n2 n3 n4 n5 nf0 nf1 nf2 nf3 nf4 nf5 m0 m1 m2 mf0 mf1 mf2
 obtain⟨u1,hu1⟩:∃u,u=(w1.alloc (.cells #[.int .i64 C.cl,.int .i64 C.ins,.int .i64 C.p1,.int .i64 C.p2,.slice dA1 C.data.length dc1,.int .i64 C.ex] 32)).alloc (.cells #[.slice xA1 K1.length xc1,.slice yA1 K2.length yc1,.int .i64 M] 29):=⟨_,rfl⟩
 rw [<-hu1]
 have hwu:Below w1.heap.size w1 u1:=by rw [hu1];exact(iA).alloc (by simp) _
 have hcr:u1.heap[w1.heap.size]?=some (.cells #[.int .i64 C.cl,.int .i64 C.ins,.int .i64 C.p1,.int .i64 C.p2,.slice dA1 C.data.length dc1,.int .i64 C.ex] 32 (0,0)):=by rw [hu1,Below.heap_alloc _ _ _ (by simp)];exact iN
 have hsr:u1.heap[w1.heap.size+1]?=some (.cells #[.slice xA1 K1.length xc1,.slice yA1 K2.length yc1,.int .i64 M] 29 (0,0)):=by
  rw [hu1]
  have h:=heap_alloc_new (w1.alloc (.cells #[.int .i64 C.cl,.int .i64 C.ins,.int .i64 C.p1,.int .i64 C.p2,.slice dA1 C.data.length dc1,.int .i64 C.ex] 32)) (.cells #[.slice xA1 K1.length xc1,.slice yA1 K2.length yc1,.int .i64 M] 29)
  rwa [show(w1.alloc (.cells #[.int .i64 C.cl,.int .i64 C.ins,.int .i64 C.p1,.int .i64 C.p2,.slice dA1 C.data.length dc1,.int .i64 C.ex] 32)).heap.size=w1.heap.size+1 by simp]at h
 have RC1:Hid (∀W,Below u1.heap.size u1 W->W.heap[w1.heap.size]?=some (.cells #[.int .i64 C.cl,.int .i64 C.ins,.int .i64 C.p1,.int .i64 C.p2,.slice dA1 C.data.length dc1,.int .i64 C.ex] 32 (0,0))):=iH fun W h=>(h.block _ (iG hcr)).trans hcr
 have RS1:Hid (∀W,Below u1.heap.size u1 W->W.heap[w1.heap.size+1]?=some (.cells #[.slice xA1 K1.length xc1,.slice yA1 K2.length yc1,.int .i64 M] 29 (0,0))):=iH fun W h=>(h.block _ (iG hsr)).trans hsr
 have VU1:=iH (HV1.out.on hwu)
 have HX1:=iH (HB1.out.trans (hwu.mono HB1.out.size))
 have HU1:Hid (Below w0.heap.size w0 u1):=iH HX1.out
 clear hwu hcr hsr hu1
 obtain⟨s0,s1,s2⟩:=CS.out u1 HU1.out
 obtain⟨c0,c1,c2,c3,c4,c5⟩:=CC.out u1 HU1.out
 go_upto_region 3 with (go_at_call 14;refine(VE _ _ k1 k2 n c u1 (HSV.out u1 HU1.out) (HCV.out u1 HU1.out)).mono ?_;rw [HR1.out];rintro e w2 ⟨v,s,rfl,⟨d2,rfl,hd⟩,⟨x2,y2,rfl,hx,hy⟩,hb⟩;obtain⟨dA2,dc2,hp⟩:=Bs.formL hd;subst hp;obtain⟨xA2,xc2,hp⟩:=Bs.formL hx;subst hp;obtain⟨yA2,yc2,hp⟩:=Bs.formL hy;subst hp;have HV2:Hid (VW w2 [(.slice dA2 C.data.length dc2,C.data),(.slice xA2 K1.length xc2,K1),(.slice yA2 K2.length yc2,K2)]):=iH (((VW.nil.add (S:=(·<w2.heap.size)) (fun _ h=>h) hy).add (S:=(·<w2.heap.size)) (fun _ h=>h) hx).add (S:=(·<w2.heap.size)) (fun _ h=>h) hd);have HB2:=iH hb;obtain⟨hz,hs0⟩:=zm w2;obtain⟨n0,n1,n2,n3,n4,n5,nf⟩:=ja hz;have nf0:=nf 0;have nf1:=nf 1;have nf2:=nf 2;have nf3:=nf 3;have nf4:=nf 4;have nf5:=nf 5;obtain⟨m0,m1,m2,mf⟩:=j7 hs0;have mf0:=mf 0;have mf1:=mf 1;have mf2:=mf 2;clear nf mf hz hs0 hd hx hy hb)
 clear s0 s1 s2 c0 c1 c2 c3 c4 c5 n0 n1 n2 n3 n4 n5 nf0 nf1 nf2 nf3 nf4 nf5 m0 m1 m2 mf0 mf1 mf2
 obtain⟨u2,hu2⟩:∃u,u=(w2.alloc (.cells #[.int .i64 C.cl,.int .i64 C.ins,.int .i64 C.p1,.int .i64 C.p2,.slice dA2 C.data.length dc2,.int .i64 C.ex] 32)).alloc (.cells #[.slice xA2 K1.length xc2,.slice yA2 K2.length yc2,.int .i64 M] 29):=⟨_,rfl⟩
 rw [<-hu2]
 have hwu:Below w2.heap.size w2 u2:=by rw [hu2];exact(iA).alloc (by simp) _
 have hcr:u2.heap[w2.heap.size]?=some (.cells #[.int .i64 C.cl,.int .i64 C.ins,.int .i64 C.p1,.int .i64 C.p2,.slice dA2 C.data.length dc2,.int .i64 C.ex] 32 (0,0)):=by rw [hu2,Below.heap_alloc _ _ _ (by simp)];exact iN
 have hsr:u2.heap[w2.heap.size+1]?=some (.cells #[.slice xA2 K1.length xc2,.slice yA2 K2.length yc2,.int .i64 M] 29 (0,0)):=by
  rw [hu2]
  have h:=heap_alloc_new (w2.alloc (.cells #[.int .i64 C.cl,.int .i64 C.ins,.int .i64 C.p1,.int .i64 C.p2,.slice dA2 C.data.length dc2,.int .i64 C.ex] 32)) (.cells #[.slice xA2 K1.length xc2,.slice yA2 K2.length yc2,.int .i64 M] 29)
  rwa [show(w2.alloc (.cells #[.int .i64 C.cl,.int .i64 C.ins,.int .i64 C.p1,.int .i64 C.p2,.slice dA2 C.data.length dc2,.int .i64 C.ex] 32)).heap.size=w2.heap.size+1 by simp]at h
 have RC2:Hid (∀W,Below u2.heap.size u2 W->W.heap[w2.heap.size]?=some (.cells #[.int .i64 C.cl,.int .i64 C.ins,.int .i64 C.p1,.int .i64 C.p2,.slice dA2 C.data.length dc2,.int .i64 C.ex] 32 (0,0))):=iH fun W h=>(h.block _ (iG hcr)).trans hcr
 have RS2:Hid (∀W,Below u2.heap.size u2 W->W.heap[w2.heap.size+1]?=some (.cells #[.slice xA2 K1.length xc2,.slice yA2 K2.length yc2,.int .i64 M] 29 (0,0))):=iH fun W h=>(h.block _ (iG hsr)).trans hsr
 have VU2:=iH (HV2.out.on hwu)
 have HX2:=iH (HB2.out.trans (hwu.mono HB2.out.size))
 have HU2:Hid (Below w0.heap.size w0 u2):=iH (HU1.out.trans (HX2.out.mono HU1.out.size))
 clear hwu hcr hsr hu2
 obtain⟨s0,s1,s2⟩:=CS.out u2 HU2.out
 obtain⟨c0,c1,c2,c3,c4,c5⟩:=CD.out u2 HU2.out
 go_upto_region 4 with (go_at_call 25;refine(JH _ _ k1 k2 n d u2 (HSV.out u2 HU2.out) (HDV.out u2 HU2.out)).mono ?_;rw [HR2.out];rintro e w3 ⟨v,s,rfl,⟨d3,rfl,hd⟩,⟨x3,y3,rfl,hx,hy⟩,hb⟩;obtain⟨dA3,dc3,hp⟩:=Bs.formL hd;subst hp;obtain⟨xA3,xc3,hp⟩:=Bs.formL hx;subst hp;obtain⟨yA3,yc3,hp⟩:=Bs.formL hy;subst hp;have HV3:Hid (VW w3 [(.slice dA3 D.data.length dc3,D.data),(.slice xA3 L1.length xc3,L1),(.slice yA3 L2.length yc3,L2)]):=iH (((VW.nil.add (S:=(·<w3.heap.size)) (fun _ h=>h) hy).add (S:=(·<w3.heap.size)) (fun _ h=>h) hx).add (S:=(·<w3.heap.size)) (fun _ h=>h) hd);have HB3:=iH hb;obtain⟨hz,hs0⟩:=zm w3;obtain⟨n0,n1,n2,n3,n4,n5,nf⟩:=ja hz;have nf0:=nf 0;have nf1:=nf 1;have nf2:=nf 2;have nf3:=nf 3;have nf4:=nf 4;have nf5:=nf 5;obtain⟨m0,m1,m2,mf⟩:=j7 hs0;have mf0:=mf 0;have mf1:=mf 1;have mf2:=mf 2;clear nf mf hz hs0 hd hx hy hb)
 clear s0 s1 s2 c0 c1 c2 c3 c4 c5 n0 n1 n2 n3 n4 n5 nf0 nf1 nf2 nf3 nf4 nf5 m0 m1 m2 mf0 mf1 mf2
 obtain⟨u3,hu3⟩:∃u,u=(w3.alloc (.cells #[.int .i64 D.cl,.int .i64 D.ins,.int .i64 D.p1,.int .i64 D.p2,.slice dA3 D.data.length dc3,.int .i64 D.ex] 32)).alloc (.cells #[.slice xA3 L1.length xc3,.slice yA3 L2.length yc3,.int .i64 Q] 29):=⟨_,rfl⟩
 rw [<-hu3]
 have hwu:Below w3.heap.size w3 u3:=by rw [hu3];exact(iA).alloc (by simp) _
 have hcr:u3.heap[w3.heap.size]?=some (.cells #[.int .i64 D.cl,.int .i64 D.ins,.int .i64 D.p1,.int .i64 D.p2,.slice dA3 D.data.length dc3,.int .i64 D.ex] 32 (0,0)):=by rw [hu3,Below.heap_alloc _ _ _ (by simp)];exact iN
 have hsr:u3.heap[w3.heap.size+1]?=some (.cells #[.slice xA3 L1.length xc3,.slice yA3 L2.length yc3,.int .i64 Q] 29 (0,0)):=by
  rw [hu3]
  have h:=heap_alloc_new (w3.alloc (.cells #[.int .i64 D.cl,.int .i64 D.ins,.int .i64 D.p1,.int .i64 D.p2,.slice dA3 D.data.length dc3,.int .i64 D.ex] 32)) (.cells #[.slice xA3 L1.length xc3,.slice yA3 L2.length yc3,.int .i64 Q] 29)
  rwa [show(w3.alloc (.cells #[.int .i64 D.cl,.int .i64 D.ins,.int .i64 D.p1,.int .i64 D.p2,.slice dA3 D.data.length dc3,.int .i64 D.ex] 32)).heap.size=w3.heap.size+1 by simp]at h
 have RC3:Hid (∀W,Below u3.heap.size u3 W->W.heap[w3.heap.size]?=some (.cells #[.int .i64 D.cl,.int .i64 D.ins,.int .i64 D.p1,.int .i64 D.p2,.slice dA3 D.data.length dc3,.int .i64 D.ex] 32 (0,0))):=iH fun W h=>(h.block _ (iG hcr)).trans hcr
 have RS3:Hid (∀W,Below u3.heap.size u3 W->W.heap[w3.heap.size+1]?=some (.cells #[.slice xA3 L1.length xc3,.slice yA3 L2.length yc3,.int .i64 Q] 29 (0,0))):=iH fun W h=>(h.block _ (iG hsr)).trans hsr
 have VU3:=iH (HV3.out.on hwu)
 have HX3:=iH (HB3.out.trans (hwu.mono HB3.out.size))
 have HU3:Hid (Below w0.heap.size w0 u3):=iH (HU2.out.trans (HX3.out.mono HU2.out.size))
 clear hwu hcr hsr hu3
 obtain⟨s0,s1,s2⟩:=CS.out u3 HU3.out
 obtain⟨c0,c1,c2,c3,c4,c5⟩:=CD.out u3 HU3.out
 go_upto_region 5 with (go_at_call 37;refine(Zl _ _ k1 k2 n d u3 (HSV.out u3 HU3.out) (HDV.out u3 HU3.out)).mono ?_;rw [HR2.out];rintro e w4 ⟨v,s,rfl,⟨d4,rfl,hd⟩,⟨x4,y4,rfl,hx,hy⟩,hb⟩;obtain⟨dA4,dc4,hp⟩:=Bs.formL hd;subst hp;obtain⟨xA4,xc4,hp⟩:=Bs.formL hx;subst hp;obtain⟨yA4,yc4,hp⟩:=Bs.formL hy;subst hp;have HV4:Hid (VW w4 [(.slice dA4 D.data.length dc4,D.data),(.slice xA4 L1.length xc4,L1),(.slice yA4 L2.length yc4,L2)]):=iH (((VW.nil.add (S:=(·<w4.heap.size)) (fun _ h=>h) hy).add (S:=(·<w4.heap.size)) (fun _ h=>h) hx).add (S:=(·<w4.heap.size)) (fun _ h=>h) hd);have HB4:=iH hb;obtain⟨hz,hs0⟩:=zm w4;obtain⟨n0,n1,n2,n3,n4,n5,nf⟩:=ja hz;have nf0:=nf 0;have nf1:=nf 1;have nf2:=nf 2;have nf3:=nf 3;have nf4:=nf 4;have nf5:=nf 5;obtain⟨m0,m1,m2,mf⟩:=j7 hs0;have mf0:=mf 0;have mf1:=mf 1;have mf2:=mf 2;clear nf mf hz hs0 hd hx hy hb)
 clear s0 s1 s2 c0 c1 c2 c3 c4 c5 n0 n1 n2 n3 n4 n5 nf0 nf1 nf2 nf3 nf4 nf5 m0 m1 m2 mf0 mf1 mf2
 obtain⟨u4,hu4⟩:∃u,u=(w4.alloc (.cells #[.int .i64 D.cl,.int .i64 D.ins,.int .i64 D.p1,.int .i64 D.p2,.slice dA4 D.data.length dc4,.int .i64 D.ex] 32)).alloc (.cells #[.slice xA4 L1.length xc4,.slice yA4 L2.length yc4,.int .i64 Q] 29):=⟨_,rfl⟩
 rw [<-hu4]
 have hwu:Below w4.heap.size w4 u4:=by rw [hu4];exact(iA).alloc (by simp) _
 have hcr:u4.heap[w4.heap.size]?=some (.cells #[.int .i64 D.cl,.int .i64 D.ins,.int .i64 D.p1,.int .i64 D.p2,.slice dA4 D.data.length dc4,.int .i64 D.ex] 32 (0,0)):=by rw [hu4,Below.heap_alloc _ _ _ (by simp)];exact iN
 have hsr:u4.heap[w4.heap.size+1]?=some (.cells #[.slice xA4 L1.length xc4,.slice yA4 L2.length yc4,.int .i64 Q] 29 (0,0)):=by
  rw [hu4]
  have h:=heap_alloc_new (w4.alloc (.cells #[.int .i64 D.cl,.int .i64 D.ins,.int .i64 D.p1,.int .i64 D.p2,.slice dA4 D.data.length dc4,.int .i64 D.ex] 32)) (.cells #[.slice xA4 L1.length xc4,.slice yA4 L2.length yc4,.int .i64 Q] 29)
  rwa [show(w4.alloc (.cells #[.int .i64 D.cl,.int .i64 D.ins,.int .i64 D.p1,.int .i64 D.p2,.slice dA4 D.data.length dc4,.int .i64 D.ex] 32)).heap.size=w4.heap.size+1 by simp]at h
 have RC4:Hid (∀W,Below u4.heap.size u4 W->W.heap[w4.heap.size]?=some (.cells #[.int .i64 D.cl,.int .i64 D.ins,.int .i64 D.p1,.int .i64 D.p2,.slice dA4 D.data.length dc4,.int .i64 D.ex] 32 (0,0))):=iH fun W h=>(h.block _ (iG hcr)).trans hcr
 have RS4:Hid (∀W,Below u4.heap.size u4 W->W.heap[w4.heap.size+1]?=some (.cells #[.slice xA4 L1.length xc4,.slice yA4 L2.length yc4,.int .i64 Q] 29 (0,0))):=iH fun W h=>(h.block _ (iG hsr)).trans hsr
 have VU4:=iH (HV4.out.on hwu)
 have HX4:=iH (HB4.out.trans (hwu.mono HB4.out.size))
 have HU4:Hid (Below w0.heap.size w0 u4):=iH (HU3.out.trans (HX4.out.mono HU3.out.size))
 clear hwu hcr hsr hu4
 have U0:Hid (Below u4.heap.size u4 u4):=iH iB
 have U1:=iH HX4.out
 have U2:=iH (HX3.out.trans (HX4.out.mono HX3.out.size))
 have U3:=iH (HX2.out.trans (U2.out.mono HX2.out.size))
 obtain⟨a10,a11,a12,a13,a14,a15,_⟩:=ja (RC1.out u4 U3.out);obtain⟨b10,b11,b12,_⟩:=j7 (RS1.out u4 U3.out)
 obtain⟨a20,a21,a22,a23,a24,a25,_⟩:=ja (RC2.out u4 U2.out);obtain⟨b20,b21,b22,_⟩:=j7 (RS2.out u4 U2.out)
 obtain⟨a30,a31,a32,a33,a34,a35,_⟩:=ja (RC3.out u4 U1.out);obtain⟨b30,b31,b32,_⟩:=j7 (RS3.out u4 U1.out)
 obtain⟨a40,a41,a42,a43,a44,a45,_⟩:=ja (RC4.out u4 U0.out);obtain⟨b40,b41,b42,_⟩:=j7 (RS4.out u4 U0.out)
 have tE:(E==E)=true:=by simp
 have tF:(F==F)=true:=by simp
 go_wp2_with(first
  |(go_at_call 39;have MMz4:=U4;refine(yp _ _ L1 L2 L1 L2 Q Q (·<z3.heap.size) (·<z3.heap.size) z3 ⟨_,_,rfl,((VU3.out.on (U1.out.trans (U4.out.mono U1.out.size))).at 1 rfl),((VU3.out.on (U1.out.trans (U4.out.mono U1.out.size))).at 2 rfl)⟩ ⟨_,_,rfl,((VU4.out.on (U0.out.trans (U4.out.mono U0.out.size))).at 1 rfl),((VU4.out.on (U0.out.trans (U4.out.mono U0.out.size))).at 2 rfl)⟩).mono ?_;rintro e z4 ⟨rfl,hb⟩;rw [decide_eq_true (show Q=Q/\L1=L1/\L2=L2 from⟨rfl,rfl,rfl⟩)];have U8:Hid (Below u4.heap.size u4 z4):=iH (U4.out.trans (hb.mono U4.out.size));clear a10 a11 a12 a13 a14 a15 b10 b11 b12 a20 a21 a22 a23 a24 a25 b20 b21 b22 a30 a31 a32 a33 a34 a35 b30 b31 b32 a40 a41 a42 a43 a44 a45 b40 b41 b42;obtain⟨a10,a11,a12,a13,a14,a15,_⟩:=ja (RC1.out z4 (U3.out.trans (U8.out.mono U3.out.size)));obtain⟨b10,b11,b12,_⟩:=j7 (RS1.out z4 (U3.out.trans (U8.out.mono U3.out.size)));obtain⟨a20,a21,a22,a23,a24,a25,_⟩:=ja (RC2.out z4 (U2.out.trans (U8.out.mono U2.out.size)));obtain⟨b20,b21,b22,_⟩:=j7 (RS2.out z4 (U2.out.trans (U8.out.mono U2.out.size)));obtain⟨a30,a31,a32,a33,a34,a35,_⟩:=ja (RC3.out z4 (U1.out.trans (U8.out.mono U1.out.size)));obtain⟨b30,b31,b32,_⟩:=j7 (RS3.out z4 (U1.out.trans (U8.out.mono U1.out.size)));obtain⟨a40,a41,a42,a43,a44,a45,_⟩:=ja (RC4.out z4 (U0.out.trans (U8.out.mono U0.out.size)));obtain⟨b40,b41,b42,_⟩:=j7 (RS4.out z4 (U0.out.trans (U8.out.mono U0.out.size)));clear hb)
  |(go_at_call 38;have MMz3:=U7;refine(Jy _ _ D D (·<z2.heap.size) (·<z2.heap.size) z2 ⟨_,rfl,((VU3.out.on (U1.out.trans (U7.out.mono U1.out.size))).at 0 rfl)⟩ ⟨_,rfl,((VU4.out.on (U0.out.trans (U7.out.mono U0.out.size))).at 0 rfl)⟩).mono ?_;rintro e z3 ⟨rfl,hb⟩;rw [decide_eq_true (show D.cl=D.cl/\D.ins=D.ins/\D.p1=D.p1/\D.p2=D.p2/\D.ex=D.ex/\D.data=D.data from⟨rfl,rfl,rfl,rfl,rfl,rfl⟩)];have U4:Hid (Below u4.heap.size u4 z3):=iH (U7.out.trans (hb.mono U7.out.size));clear a10 a11 a12 a13 a14 a15 b10 b11 b12 a20 a21 a22 a23 a24 a25 b20 b21 b22 a30 a31 a32 a33 a34 a35 b30 b31 b32 a40 a41 a42 a43 a44 a45 b40 b41 b42;obtain⟨a10,a11,a12,a13,a14,a15,_⟩:=ja (RC1.out z3 (U3.out.trans (U4.out.mono U3.out.size)));obtain⟨b10,b11,b12,_⟩:=j7 (RS1.out z3 (U3.out.trans (U4.out.mono U3.out.size)));obtain⟨a20,a21,a22,a23,a24,a25,_⟩:=ja (RC2.out z3 (U2.out.trans (U4.out.mono U2.out.size)));obtain⟨b20,b21,b22,_⟩:=j7 (RS2.out z3 (U2.out.trans (U4.out.mono U2.out.size)));obtain⟨a30,a31,a32,a33,a34,a35,_⟩:=ja (RC3.out z3 (U1.out.trans (U4.out.mono U1.out.size)));obtain⟨b30,b31,b32,_⟩:=j7 (RS3.out z3 (U1.out.trans (U4.out.mono U1.out.size)));obtain⟨a40,a41,a42,a43,a44,a45,_⟩:=ja (RC4.out z3 (U0.out.trans (U4.out.mono U0.out.size)));obtain⟨b40,b41,b42,_⟩:=j7 (RS4.out z3 (U0.out.trans (U4.out.mono U0.out.size)));clear hb)
  |(go_at_call 39;have MMz2:=U5;refine(yp _ _ K1 K2 K1 K2 M M (·<z1.heap.size) (·<z1.heap.size) z1 ⟨_,_,rfl,((VU1.out.on (U3.out.trans (U5.out.mono U3.out.size))).at 1 rfl),((VU1.out.on (U3.out.trans (U5.out.mono U3.out.size))).at 2 rfl)⟩ ⟨_,_,rfl,((VU2.out.on (U2.out.trans (U5.out.mono U2.out.size))).at 1 rfl),((VU2.out.on (U2.out.trans (U5.out.mono U2.out.size))).at 2 rfl)⟩).mono ?_;rintro e z2 ⟨rfl,hb⟩;rw [decide_eq_true (show M=M/\K1=K1/\K2=K2 from⟨rfl,rfl,rfl⟩)];have U7:Hid (Below u4.heap.size u4 z2):=iH (U5.out.trans (hb.mono U5.out.size));clear a10 a11 a12 a13 a14 a15 b10 b11 b12 a20 a21 a22 a23 a24 a25 b20 b21 b22 a30 a31 a32 a33 a34 a35 b30 b31 b32 a40 a41 a42 a43 a44 a45 b40 b41 b42;obtain⟨a10,a11,a12,a13,a14,a15,_⟩:=ja (RC1.out z2 (U3.out.trans (U7.out.mono U3.out.size)));obtain⟨b10,b11,b12,_⟩:=j7 (RS1.out z2 (U3.out.trans (U7.out.mono U3.out.size)));obtain⟨a20,a21,a22,a23,a24,a25,_⟩:=ja (RC2.out z2 (U2.out.trans (U7.out.mono U2.out.size)));obtain⟨b20,b21,b22,_⟩:=j7 (RS2.out z2 (U2.out.trans (U7.out.mono U2.out.size)));obtain⟨a30,a31,a32,a33,a34,a35,_⟩:=ja (RC3.out z2 (U1.out.trans (U7.out.mono U1.out.size)));obtain⟨b30,b31,b32,_⟩:=j7 (RS3.out z2 (U1.out.trans (U7.out.mono U1.out.size)));obtain⟨a40,a41,a42,a43,a44,a45,_⟩:=ja (RC4.out z2 (U0.out.trans (U7.out.mono U0.out.size)));obtain⟨b40,b41,b42,_⟩:=j7 (RS4.out z2 (U0.out.trans (U7.out.mono U0.out.size)));clear hb)
  |(go_at_call 38;have MMz1:=U0;refine(Jy _ _ C C (·<u4.heap.size) (·<u4.heap.size) u4 ⟨_,rfl,((VU1.out.on U3.out).at 0 rfl)⟩ ⟨_,rfl,((VU2.out.on U2.out).at 0 rfl)⟩).mono ?_;rintro e z1 ⟨rfl,hb⟩;rw [decide_eq_true (show C.cl=C.cl/\C.ins=C.ins/\C.p1=C.p1/\C.p2=C.p2/\C.ex=C.ex/\C.data=C.data from⟨rfl,rfl,rfl,rfl,rfl,rfl⟩)];have U5:Hid (Below u4.heap.size u4 z1):=iH hb;clear a10 a11 a12 a13 a14 a15 b10 b11 b12 a20 a21 a22 a23 a24 a25 b20 b21 b22 a30 a31 a32 a33 a34 a35 b30 b31 b32 a40 a41 a42 a43 a44 a45 b40 b41 b42;obtain⟨a10,a11,a12,a13,a14,a15,_⟩:=ja (RC1.out z1 (U3.out.trans (U5.out.mono U3.out.size)));obtain⟨b10,b11,b12,_⟩:=j7 (RS1.out z1 (U3.out.trans (U5.out.mono U3.out.size)));obtain⟨a20,a21,a22,a23,a24,a25,_⟩:=ja (RC2.out z1 (U2.out.trans (U5.out.mono U2.out.size)));obtain⟨b20,b21,b22,_⟩:=j7 (RS2.out z1 (U2.out.trans (U5.out.mono U2.out.size)));obtain⟨a30,a31,a32,a33,a34,a35,_⟩:=ja (RC3.out z1 (U1.out.trans (U5.out.mono U1.out.size)));obtain⟨b30,b31,b32,_⟩:=j7 (RS3.out z1 (U1.out.trans (U5.out.mono U1.out.size)));obtain⟨a40,a41,a42,a43,a44,a45,_⟩:=ja (RC4.out z1 (U0.out.trans (U5.out.mono U0.out.size)));obtain⟨b40,b41,b42,_⟩:=j7 (RS4.out z1 (U0.out.trans (U5.out.mono U0.out.size)));clear hb))
 go_ret
 exact⟨rfl,HB0.out.trans ((HU4.out.trans (U8.out.mono HU4.out.size)).mono HB0.out.size)⟩
theorem Qp(vs vc vd:Value)(k1 k2:List UInt8)(n:Int)(c:List UInt8)(st:Int)(d:List UInt8)(sd:Int)(w:World)(hs:qa w (·<w.heap.size) vs k1 k2 n)(hc:Kr w (·<w.heap.size) vc c st)(hd:Kr w (·<w.heap.size) vd d sd):
 Calls Tryz.prog 19 #[vs,vc,vd] w fun e w'=>e=.returned (.bool true)/\Below w.heap.size w w':=by
 obtain⟨ua,ub,rfl,ha,hb⟩:=hs
 obtain⟨A1,d1,hp⟩:=Bs.formL ha;subst hp
 obtain⟨A2,d2,hp⟩:=Bs.formL hb;subst hp
 obtain⟨uc,rfl,hcd⟩:=hc
 obtain⟨ud,rfl,hdd⟩:=hd
 obtain⟨cA,cc,hp⟩:=Bs.formL hcd;subst hp
 obtain⟨dA,dc,hp⟩:=Bs.formL hdd;subst hp
 obtain⟨⟨E,C,S1,K1,K2,M⟩,hr1⟩:∃r,kC k1 k2 n c st=r:=⟨_,rfl⟩
 obtain⟨⟨F,D,S2,L1,L2,Q⟩,hr2⟩:∃r,kj k1 k2 n d sd=r:=⟨_,rfl⟩
 have HR1:=iH hr1;have HR2:=iH hr2
 obtain⟨ws,hws⟩:∃ws,ws=w.alloc (.cells #[.slice A1 k1.length d1,.slice A2 k2.length d2,.int .i64 n] 29):=⟨_,rfl⟩
 obtain⟨wq,hwq⟩:∃wq,wq=ws.alloc (.cells #[.slice cA c.length cc,.int .i64 st] 44):=⟨_,rfl⟩
 obtain⟨w0,hw0⟩:∃w0,w0=wq.alloc (.cells #[.slice dA d.length dc,.int .i64 sd] 44):=⟨_,rfl⟩
 have zs:ws.heap.size=w.heap.size+1:=by rw [hws];simp
 have zq:wq.heap.size=w.heap.size+1+1:=by rw [hwq];simp [zs]
 have b1:Below w.heap.size w ws:=by rw [hws];exact iA
 have b2:Below ws.heap.size ws wq:=by rw [hwq];exact iA
 have b3:Below wq.heap.size wq w0:=by rw [hw0];exact iA
 have z0:w0.heap.size=w.heap.size+1+1+1:=by rw [hw0];simp [zq]
 have q1:ws.heap[w.heap.size]?=some (.cells #[.slice A1 k1.length d1,.slice A2 k2.length d2,.int .i64 n] 29 (0,0)):=by rw [hws];exact iN
 have q2:wq.heap[w.heap.size+1]?=some (.cells #[.slice cA c.length cc,.int .i64 st] 44 (0,0)):=by rw [hwq,<-zs];exact iN
 have q3:w0.heap[w.heap.size+1+1]?=some (.cells #[.slice dA d.length dc,.int .i64 sd] 44 (0,0)):=by rw [hw0,<-zq];exact iN
 have e2:=(b3.block (w.heap.size+1) (by omega)).trans q2
 have e1:=(b3.block w.heap.size (by omega)).trans ((b2.block w.heap.size (by omega)).trans q1)
 have hB:Below w.heap.size w w0:=b1.trans ((b2.trans (b3.mono b2.size)).mono b1.size)
 have CS:Hid (∀W,Below w0.heap.size w0 W->W.cell? ⟨w.heap.size,0,none⟩=some (.slice A1 k1.length d1)/\W.cell? ⟨w.heap.size,1,none⟩=some (.slice A2 k2.length d2)/\W.cell? ⟨w.heap.size,2,none⟩=some (.int .i64 n)):=iH fun W h=>(by obtain⟨a,b,c,_⟩:=j7 ((h.block w.heap.size (by omega)).trans e1);exact⟨a,b,c⟩)
 have CC:Hid (∀W,Below w0.heap.size w0 W->W.cell? ⟨w.heap.size+1,0,none⟩=some (.slice cA c.length cc)/\W.cell? ⟨w.heap.size+1,1,none⟩=some (.int .i64 st)):=iH fun W h=>(by obtain⟨a,b,_⟩:=jd ((h.block (w.heap.size+1) (by omega)).trans e2);exact⟨a,b⟩)
 have CD:Hid (∀W,Below w0.heap.size w0 W->W.cell? ⟨w.heap.size+1+1,0,none⟩=some (.slice dA d.length dc)/\W.cell? ⟨w.heap.size+1+1,1,none⟩=some (.int .i64 sd)):=iH fun W h=>(by obtain⟨a,b,_⟩:=jd ((h.block (w.heap.size+1+1) (by omega)).trans q3);exact⟨a,b⟩)
 have HB0:=iH hB;have HWS:=iH hws;have HWQ:=iH hwq;have HW0:=iH hw0
 have HK1:=iH (Bs.lift ha hB);have HK2:=iH (Bs.lift hb hB);have HCD:=iH (Bs.lift hcd hB);have HDD:=iH (Bs.lift hdd hB)
 have HSV:Hid (∀W,Below w0.heap.size w0 W->qa W (·<W.heap.size) (.agg #[.slice A1 k1.length d1,.slice A2 k2.length d2,.int .i64 n]) k1 k2 n):=iH fun W h=>⟨_,_,rfl,HK1.out.lift h,HK2.out.lift h⟩
 have HCV:Hid (∀W,Below w0.heap.size w0 W->Kr W (·<W.heap.size) (.agg #[.slice cA c.length cc,.int .i64 st]) c st):=iH fun W h=>⟨_,rfl,HCD.out.lift h⟩
 have HDV:Hid (∀W,Below w0.heap.size w0 W->Kr W (·<W.heap.size) (.agg #[.slice dA d.length dc,.int .i64 sd]) d sd):=iH fun W h=>⟨_,rfl,HDD.out.lift h⟩
 clear ha hb hcd hdd hr1 hr2 hws hwq hw0 zs zq z0 b1 b2 b3 q1 q2 q3 e1 e2 hB
 go_enter Tryz.func19,Tryz.ntmps19
 go_upto_region 1 with fail
 rw [<-HWS.out,<-HWQ.out,<-HW0.out]
 obtain⟨s0,s1,s2⟩:=CS.out w0 iB
 obtain⟨c0,c1⟩:=CC.out w0 iB
 go_upto_region 2 with (go_at_call 40;refine(YN _ _ k1 k2 n c st w0 (HSV.out w0 iB) (HCV.out w0 iB)).mono ?_;rw [HR1.out];rintro e w1 ⟨v,s,rfl,⟨d1,rfl,hd⟩,⟨x1,y1,rfl,hx,hy⟩,hb⟩;obtain⟨dA1,dc1,hp⟩:=Bs.formL hd;subst hp;obtain⟨xA1,xc1,hp⟩:=Bs.formL hx;subst hp;obtain⟨yA1,yc1,hp⟩:=Bs.formL hy;subst hp;have HV1:Hid (VW w1 [(.slice dA1 C.length dc1,C),(.slice xA1 K1.length xc1,K1),(.slice yA1 K2.length yc1,K2)]):=iH (((VW.nil.add (S:=(·<w1.heap.size)) (fun _ h=>h) hy).add (S:=(·<w1.heap.size)) (fun _ h=>h) hx).add (S:=(·<w1.heap.size)) (fun _ h=>h) hd);have HB1:=iH hb;obtain⟨hz,hs0⟩:=zn w1;obtain⟨n0,n1,nf⟩:=jd hz;have nf0:=nf 0;have nf1:=nf 1;obtain⟨m0,m1,m2,mf⟩:=j7 hs0;have mf0:=mf 0;have mf1:=mf 1;have mf2:=mf 2;clear nf mf hz hs0 hd hx hy hb)
 clear s0 s1 s2 c0 c1 n0 n1 nf0 nf1 m0 m1 m2 mf0 mf1 mf2
 obtain⟨u1,hu1⟩:∃u,u=(w1.alloc (.cells #[.slice dA1 C.length dc1,.int .i64 S1] 44)).alloc (.cells #[.slice xA1 K1.length xc1,.slice yA1 K2.length yc1,.int .i64 M] 29):=⟨_,rfl⟩
 rw [<-hu1]
 have hwu:Below w1.heap.size w1 u1:=by rw [hu1];exact(iA).alloc (by simp) _
 have hcr:u1.heap[w1.heap.size]?=some (.cells #[.slice dA1 C.length dc1,.int .i64 S1] 44 (0,0)):=by rw [hu1,Below.heap_alloc _ _ _ (by simp)];exact iN
 have hsr:u1.heap[w1.heap.size+1]?=some (.cells #[.slice xA1 K1.length xc1,.slice yA1 K2.length yc1,.int .i64 M] 29 (0,0)):=by
  rw [hu1]
  have h:=heap_alloc_new (w1.alloc (.cells #[.slice dA1 C.length dc1,.int .i64 S1] 44)) (.cells #[.slice xA1 K1.length xc1,.slice yA1 K2.length yc1,.int .i64 M] 29)
  rwa [show(w1.alloc (.cells #[.slice dA1 C.length dc1,.int .i64 S1] 44)).heap.size=w1.heap.size+1 by simp]at h
 have RC1:Hid (∀W,Below u1.heap.size u1 W->W.heap[w1.heap.size]?=some (.cells #[.slice dA1 C.length dc1,.int .i64 S1] 44 (0,0))):=iH fun W h=>(h.block _ (iG hcr)).trans hcr
 have RS1:Hid (∀W,Below u1.heap.size u1 W->W.heap[w1.heap.size+1]?=some (.cells #[.slice xA1 K1.length xc1,.slice yA1 K2.length yc1,.int .i64 M] 29 (0,0))):=iH fun W h=>(h.block _ (iG hsr)).trans hsr
 have VU1:=iH (HV1.out.on hwu)
 have HX1:=iH (HB1.out.trans (hwu.mono HB1.out.size))
 have HU1:Hid (Below w0.heap.size w0 u1):=iH HX1.out
 clear hwu hcr hsr hu1
 obtain⟨s0,s1,s2⟩:=CS.out u1 HU1.out
 obtain⟨c0,c1⟩:=CC.out u1 HU1.out
 go_upto_region 3 with (go_at_call 21;refine(U6 _ _ k1 k2 n c st u1 (HSV.out u1 HU1.out) (HCV.out u1 HU1.out)).mono ?_;rw [HR1.out];rintro e w2 ⟨v,s,rfl,⟨d2,rfl,hd⟩,⟨x2,y2,rfl,hx,hy⟩,hb⟩;obtain⟨dA2,dc2,hp⟩:=Bs.formL hd;subst hp;obtain⟨xA2,xc2,hp⟩:=Bs.formL hx;subst hp;obtain⟨yA2,yc2,hp⟩:=Bs.formL hy;subst hp;have HV2:Hid (VW w2 [(.slice dA2 C.length dc2,C),(.slice xA2 K1.length xc2,K1),(.slice yA2 K2.length yc2,K2)]):=iH (((VW.nil.add (S:=(·<w2.heap.size)) (fun _ h=>h) hy).add (S:=(·<w2.heap.size)) (fun _ h=>h) hx).add (S:=(·<w2.heap.size)) (fun _ h=>h) hd);have HB2:=iH hb;obtain⟨hz,hs0⟩:=zn w2;obtain⟨n0,n1,nf⟩:=jd hz;have nf0:=nf 0;have nf1:=nf 1;obtain⟨m0,m1,m2,mf⟩:=j7 hs0;have mf0:=mf 0;have mf1:=mf 1;have mf2:=mf 2;clear nf mf hz hs0 hd hx hy hb)
 clear s0 s1 s2 c0 c1 n0 n1 nf0 nf1 m0 m1 m2 mf0 mf1 mf2
 obtain⟨u2,hu2⟩:∃u,u=(w2.alloc (.cells #[.slice dA2 C.length dc2,.int .i64 S1] 44)).alloc (.cells #[.slice xA2 K1.length xc2,.slice yA2 K2.length yc2,.int .i64 M] 29):=⟨_,rfl⟩
 rw [<-hu2]
 have hwu:Below w2.heap.size w2 u2:=by rw [hu2];exact(iA).alloc (by simp) _
 have hcr:u2.heap[w2.heap.size]?=some (.cells #[.slice dA2 C.length dc2,.int .i64 S1] 44 (0,0)):=by rw [hu2,Below.heap_alloc _ _ _ (by simp)];exact iN
 have hsr:u2.heap[w2.heap.size+1]?=some (.cells #[.slice xA2 K1.length xc2,.slice yA2 K2.length yc2,.int .i64 M] 29 (0,0)):=by
  rw [hu2]
  have h:=heap_alloc_new (w2.alloc (.cells #[.slice dA2 C.length dc2,.int .i64 S1] 44)) (.cells #[.slice xA2 K1.length xc2,.slice yA2 K2.length yc2,.int .i64 M] 29)
  rwa [show(w2.alloc (.cells #[.slice dA2 C.length dc2,.int .i64 S1] 44)).heap.size=w2.heap.size+1 by simp]at h
 have RC2:Hid (∀W,Below u2.heap.size u2 W->W.heap[w2.heap.size]?=some (.cells #[.slice dA2 C.length dc2,.int .i64 S1] 44 (0,0))):=iH fun W h=>(h.block _ (iG hcr)).trans hcr
 have RS2:Hid (∀W,Below u2.heap.size u2 W->W.heap[w2.heap.size+1]?=some (.cells #[.slice xA2 K1.length xc2,.slice yA2 K2.length yc2,.int .i64 M] 29 (0,0))):=iH fun W h=>(h.block _ (iG hsr)).trans hsr
 have VU2:=iH (HV2.out.on hwu)
 have HX2:=iH (HB2.out.trans (hwu.mono HB2.out.size))
 have HU2:Hid (Below w0.heap.size w0 u2):=iH (HU1.out.trans (HX2.out.mono HU1.out.size))
 clear hwu hcr hsr hu2
 obtain⟨s0,s1,s2⟩:=CS.out u2 HU2.out
 obtain⟨c0,c1⟩:=CD.out u2 HU2.out
 go_upto_region 4 with (go_at_call 41;refine(Vb _ _ k1 k2 n d sd u2 (HSV.out u2 HU2.out) (HDV.out u2 HU2.out)).mono ?_;rw [HR2.out];rintro e w3 ⟨v,s,rfl,⟨d3,rfl,hd⟩,⟨x3,y3,rfl,hx,hy⟩,hb⟩;obtain⟨dA3,dc3,hp⟩:=Bs.formL hd;subst hp;obtain⟨xA3,xc3,hp⟩:=Bs.formL hx;subst hp;obtain⟨yA3,yc3,hp⟩:=Bs.formL hy;subst hp;have HV3:Hid (VW w3 [(.slice dA3 D.length dc3,D),(.slice xA3 L1.length xc3,L1),(.slice yA3 L2.length yc3,L2)]):=iH (((VW.nil.add (S:=(·<w3.heap.size)) (fun _ h=>h) hy).add (S:=(·<w3.heap.size)) (fun _ h=>h) hx).add (S:=(·<w3.heap.size)) (fun _ h=>h) hd);have HB3:=iH hb;obtain⟨hz,hs0⟩:=zn w3;obtain⟨n0,n1,nf⟩:=jd hz;have nf0:=nf 0;have nf1:=nf 1;obtain⟨m0,m1,m2,mf⟩:=j7 hs0;have mf0:=mf 0;have mf1:=mf 1;have mf2:=mf 2;clear nf mf hz hs0 hd hx hy hb)
 clear s0 s1 s2 c0 c1 n0 n1 nf0 nf1 m0 m1 m2 mf0 mf1 mf2
 obtain⟨u3,hu3⟩:∃u,u=(w3.alloc (.cells #[.slice dA3 D.length dc3,.int .i64 S2] 44)).alloc (.cells #[.slice xA3 L1.length xc3,.slice yA3 L2.length yc3,.int .i64 Q] 29):=⟨_,rfl⟩
 rw [<-hu3]
 have hwu:Below w3.heap.size w3 u3:=by rw [hu3];exact(iA).alloc (by simp) _
 have hcr:u3.heap[w3.heap.size]?=some (.cells #[.slice dA3 D.length dc3,.int .i64 S2] 44 (0,0)):=by rw [hu3,Below.heap_alloc _ _ _ (by simp)];exact iN
 have hsr:u3.heap[w3.heap.size+1]?=some (.cells #[.slice xA3 L1.length xc3,.slice yA3 L2.length yc3,.int .i64 Q] 29 (0,0)):=by
  rw [hu3]
  have h:=heap_alloc_new (w3.alloc (.cells #[.slice dA3 D.length dc3,.int .i64 S2] 44)) (.cells #[.slice xA3 L1.length xc3,.slice yA3 L2.length yc3,.int .i64 Q] 29)
  rwa [show(w3.alloc (.cells #[.slice dA3 D.length dc3,.int .i64 S2] 44)).heap.size=w3.heap.size+1 by simp]at h
 have RC3:Hid (∀W,Below u3.heap.size u3 W->W.heap[w3.heap.size]?=some (.cells #[.slice dA3 D.length dc3,.int .i64 S2] 44 (0,0))):=iH fun W h=>(h.block _ (iG hcr)).trans hcr
 have RS3:Hid (∀W,Below u3.heap.size u3 W->W.heap[w3.heap.size+1]?=some (.cells #[.slice xA3 L1.length xc3,.slice yA3 L2.length yc3,.int .i64 Q] 29 (0,0))):=iH fun W h=>(h.block _ (iG hsr)).trans hsr
 have VU3:=iH (HV3.out.on hwu)
 have HX3:=iH (HB3.out.trans (hwu.mono HB3.out.size))
 have HU3:Hid (Below w0.heap.size w0 u3):=iH (HU2.out.trans (HX3.out.mono HU2.out.size))
 clear hwu hcr hsr hu3
 obtain⟨s0,s1,s2⟩:=CS.out u3 HU3.out
 obtain⟨c0,c1⟩:=CD.out u3 HU3.out
 go_upto_region 5 with (go_at_call 42;refine(Vz _ _ k1 k2 n d sd u3 (HSV.out u3 HU3.out) (HDV.out u3 HU3.out)).mono ?_;rw [HR2.out];rintro e w4 ⟨v,s,rfl,⟨d4,rfl,hd⟩,⟨x4,y4,rfl,hx,hy⟩,hb⟩;obtain⟨dA4,dc4,hp⟩:=Bs.formL hd;subst hp;obtain⟨xA4,xc4,hp⟩:=Bs.formL hx;subst hp;obtain⟨yA4,yc4,hp⟩:=Bs.formL hy;subst hp;have HV4:Hid (VW w4 [(.slice dA4 D.length dc4,D),(.slice xA4 L1.length xc4,L1),(.slice yA4 L2.length yc4,L2)]):=iH (((VW.nil.add (S:=(·<w4.heap.size)) (fun _ h=>h) hy).add (S:=(·<w4.heap.size)) (fun _ h=>h) hx).add (S:=(·<w4.heap.size)) (fun _ h=>h) hd);have HB4:=iH hb;obtain⟨hz,hs0⟩:=zn w4;obtain⟨n0,n1,nf⟩:=jd hz;have nf0:=nf 0;have nf1:=nf 1;obtain⟨m0,m1,m2,mf⟩:=j7 hs0;have mf0:=mf 0;have mf1:=mf 1;have mf2:=mf 2;clear nf mf hz hs0 hd hx hy hb)
 clear s0 s1 s2 c0 c1 n0 n1 nf0 nf1 m0 m1 m2 mf0 mf1 mf2
 obtain⟨u4,hu4⟩:∃u,u=(w4.alloc (.cells #[.slice dA4 D.length dc4,.int .i64 S2] 44)).alloc (.cells #[.slice xA4 L1.length xc4,.slice yA4 L2.length yc4,.int .i64 Q] 29):=⟨_,rfl⟩
 rw [<-hu4]
 have hwu:Below w4.heap.size w4 u4:=by rw [hu4];exact(iA).alloc (by simp) _
 have hcr:u4.heap[w4.heap.size]?=some (.cells #[.slice dA4 D.length dc4,.int .i64 S2] 44 (0,0)):=by rw [hu4,Below.heap_alloc _ _ _ (by simp)];exact iN
 have hsr:u4.heap[w4.heap.size+1]?=some (.cells #[.slice xA4 L1.length xc4,.slice yA4 L2.length yc4,.int .i64 Q] 29 (0,0)):=by
  rw [hu4]
  have h:=heap_alloc_new (w4.alloc (.cells #[.slice dA4 D.length dc4,.int .i64 S2] 44)) (.cells #[.slice xA4 L1.length xc4,.slice yA4 L2.length yc4,.int .i64 Q] 29)
  rwa [show(w4.alloc (.cells #[.slice dA4 D.length dc4,.int .i64 S2] 44)).heap.size=w4.heap.size+1 by simp]at h
 have RC4:Hid (∀W,Below u4.heap.size u4 W->W.heap[w4.heap.size]?=some (.cells #[.slice dA4 D.length dc4,.int .i64 S2] 44 (0,0))):=iH fun W h=>(h.block _ (iG hcr)).trans hcr
 have RS4:Hid (∀W,Below u4.heap.size u4 W->W.heap[w4.heap.size+1]?=some (.cells #[.slice xA4 L1.length xc4,.slice yA4 L2.length yc4,.int .i64 Q] 29 (0,0))):=iH fun W h=>(h.block _ (iG hsr)).trans hsr
 have VU4:=iH (HV4.out.on hwu)
 have HX4:=iH (HB4.out.trans (hwu.mono HB4.out.size))
 have HU4:Hid (Below w0.heap.size w0 u4):=iH (HU3.out.trans (HX4.out.mono HU3.out.size))
 clear hwu hcr hsr hu4
 have U0:Hid (Below u4.heap.size u4 u4):=iH iB
 have U1:=iH HX4.out
 have U2:=iH (HX3.out.trans (HX4.out.mono HX3.out.size))
 have U3:=iH (HX2.out.trans (U2.out.mono HX2.out.size))
 obtain⟨a10,a11,_⟩:=jd (RC1.out u4 U3.out);obtain⟨b10,b11,b12,_⟩:=j7 (RS1.out u4 U3.out)
 obtain⟨a20,a21,_⟩:=jd (RC2.out u4 U2.out);obtain⟨b20,b21,b22,_⟩:=j7 (RS2.out u4 U2.out)
 obtain⟨a30,a31,_⟩:=jd (RC3.out u4 U1.out);obtain⟨b30,b31,b32,_⟩:=j7 (RS3.out u4 U1.out)
 obtain⟨a40,a41,_⟩:=jd (RC4.out u4 U0.out);obtain⟨b40,b41,b42,_⟩:=j7 (RS4.out u4 U0.out)
 have tE:(E==E)=true:=by simp
 have tF:(F==F)=true:=by simp
 go_wp2_with(first
  |(go_at_call 39;have MMz4:=U4;refine(yp _ _ L1 L2 L1 L2 Q Q (·<z3.heap.size) (·<z3.heap.size) z3 ⟨_,_,rfl,((VU3.out.on (U1.out.trans (U4.out.mono U1.out.size))).at 1 rfl),((VU3.out.on (U1.out.trans (U4.out.mono U1.out.size))).at 2 rfl)⟩ ⟨_,_,rfl,((VU4.out.on (U0.out.trans (U4.out.mono U0.out.size))).at 1 rfl),((VU4.out.on (U0.out.trans (U4.out.mono U0.out.size))).at 2 rfl)⟩).mono ?_;rintro e z4 ⟨rfl,hb⟩;rw [decide_eq_true (show Q=Q/\L1=L1/\L2=L2 from⟨rfl,rfl,rfl⟩)];have U8:Hid (Below u4.heap.size u4 z4):=iH (U4.out.trans (hb.mono U4.out.size));clear a10 a11 b10 b11 b12 a20 a21 b20 b21 b22 a30 a31 b30 b31 b32 a40 a41 b40 b41 b42;obtain⟨a10,a11,_⟩:=jd (RC1.out z4 (U3.out.trans (U8.out.mono U3.out.size)));obtain⟨b10,b11,b12,_⟩:=j7 (RS1.out z4 (U3.out.trans (U8.out.mono U3.out.size)));obtain⟨a20,a21,_⟩:=jd (RC2.out z4 (U2.out.trans (U8.out.mono U2.out.size)));obtain⟨b20,b21,b22,_⟩:=j7 (RS2.out z4 (U2.out.trans (U8.out.mono U2.out.size)));obtain⟨a30,a31,_⟩:=jd (RC3.out z4 (U1.out.trans (U8.out.mono U1.out.size)));obtain⟨b30,b31,b32,_⟩:=j7 (RS3.out z4 (U1.out.trans (U8.out.mono U1.out.size)));obtain⟨a40,a41,_⟩:=jd (RC4.out z4 (U0.out.trans (U8.out.mono U0.out.size)));obtain⟨b40,b41,b42,_⟩:=j7 (RS4.out z4 (U0.out.trans (U8.out.mono U0.out.size)));clear hb)
  |(go_at_call 43;have MMz3:=U7;refine(K6 _ _ D D S2 S2 (·<z2.heap.size) (·<z2.heap.size) z2 ⟨_,rfl,((VU3.out.on (U1.out.trans (U7.out.mono U1.out.size))).at 0 rfl)⟩ ⟨_,rfl,((VU4.out.on (U0.out.trans (U7.out.mono U0.out.size))).at 0 rfl)⟩).mono ?_;rintro e z3 ⟨rfl,hb⟩;rw [decide_eq_true (show S2=S2/\D=D from⟨rfl,rfl⟩)];have U4:Hid (Below u4.heap.size u4 z3):=iH (U7.out.trans (hb.mono U7.out.size));clear a10 a11 b10 b11 b12 a20 a21 b20 b21 b22 a30 a31 b30 b31 b32 a40 a41 b40 b41 b42;obtain⟨a10,a11,_⟩:=jd (RC1.out z3 (U3.out.trans (U4.out.mono U3.out.size)));obtain⟨b10,b11,b12,_⟩:=j7 (RS1.out z3 (U3.out.trans (U4.out.mono U3.out.size)));obtain⟨a20,a21,_⟩:=jd (RC2.out z3 (U2.out.trans (U4.out.mono U2.out.size)));obtain⟨b20,b21,b22,_⟩:=j7 (RS2.out z3 (U2.out.trans (U4.out.mono U2.out.size)));obtain⟨a30,a31,_⟩:=jd (RC3.out z3 (U1.out.trans (U4.out.mono U1.out.size)));obtain⟨b30,b31,b32,_⟩:=j7 (RS3.out z3 (U1.out.trans (U4.out.mono U1.out.size)));obtain⟨a40,a41,_⟩:=jd (RC4.out z3 (U0.out.trans (U4.out.mono U0.out.size)));obtain⟨b40,b41,b42,_⟩:=j7 (RS4.out z3 (U0.out.trans (U4.out.mono U0.out.size)));clear hb)
  |(go_at_call 39;have MMz2:=U5;refine(yp _ _ K1 K2 K1 K2 M M (·<z1.heap.size) (·<z1.heap.size) z1 ⟨_,_,rfl,((VU1.out.on (U3.out.trans (U5.out.mono U3.out.size))).at 1 rfl),((VU1.out.on (U3.out.trans (U5.out.mono U3.out.size))).at 2 rfl)⟩ ⟨_,_,rfl,((VU2.out.on (U2.out.trans (U5.out.mono U2.out.size))).at 1 rfl),((VU2.out.on (U2.out.trans (U5.out.mono U2.out.size))).at 2 rfl)⟩).mono ?_;rintro e z2 ⟨rfl,hb⟩;rw [decide_eq_true (show M=M/\K1=K1/\K2=K2 from⟨rfl,rfl,rfl⟩)];have U7:Hid (Below u4.heap.size u4 z2):=iH (U5.out.trans (hb.mono U5.out.size));clear a10 a11 b10 b11 b12 a20 a21 b20 b21 b22 a30 a31 b30 b31 b32 a40 a41 b40 b41 b42;obtain⟨a10,a11,_⟩:=jd (RC1.out z2 (U3.out.trans (U7.out.mono U3.out.size)));obtain⟨b10,b11,b12,_⟩:=j7 (RS1.out z2 (U3.out.trans (U7.out.mono U3.out.size)));obtain⟨a20,a21,_⟩:=jd (RC2.out z2 (U2.out.trans (U7.out.mono U2.out.size)));obtain⟨b20,b21,b22,_⟩:=j7 (RS2.out z2 (U2.out.trans (U7.out.mono U2.out.size)));obtain⟨a30,a31,_⟩:=jd (RC3.out z2 (U1.out.trans (U7.out.mono U1.out.size)));obtain⟨b30,b31,b32,_⟩:=j7 (RS3.out z2 (U1.out.trans (U7.out.mono U1.out.size)));obtain⟨a40,a41,_⟩:=jd (RC4.out z2 (U0.out.trans (U7.out.mono U0.out.size)));obtain⟨b40,b41,b42,_⟩:=j7 (RS4.out z2 (U0.out.trans (U7.out.mono U0.out.size)));clear hb)
  |(go_at_call 43;have MMz1:=U0;refine(K6 _ _ C C S1 S1 (·<u4.heap.size) (·<u4.heap.size) u4 ⟨_,rfl,((VU1.out.on U3.out).at 0 rfl)⟩ ⟨_,rfl,((VU2.out.on U2.out).at 0 rfl)⟩).mono ?_;rintro e z1 ⟨rfl,hb⟩;rw [decide_eq_true (show S1=S1/\C=C from⟨rfl,rfl⟩)];have U5:Hid (Below u4.heap.size u4 z1):=iH hb;clear a10 a11 b10 b11 b12 a20 a21 b20 b21 b22 a30 a31 b30 b31 b32 a40 a41 b40 b41 b42;obtain⟨a10,a11,_⟩:=jd (RC1.out z1 (U3.out.trans (U5.out.mono U3.out.size)));obtain⟨b10,b11,b12,_⟩:=j7 (RS1.out z1 (U3.out.trans (U5.out.mono U3.out.size)));obtain⟨a20,a21,_⟩:=jd (RC2.out z1 (U2.out.trans (U5.out.mono U2.out.size)));obtain⟨b20,b21,b22,_⟩:=j7 (RS2.out z1 (U2.out.trans (U5.out.mono U2.out.size)));obtain⟨a30,a31,_⟩:=jd (RC3.out z1 (U1.out.trans (U5.out.mono U1.out.size)));obtain⟨b30,b31,b32,_⟩:=j7 (RS3.out z1 (U1.out.trans (U5.out.mono U1.out.size)));obtain⟨a40,a41,_⟩:=jd (RC4.out z1 (U0.out.trans (U5.out.mono U0.out.size)));obtain⟨b40,b41,b42,_⟩:=j7 (RS4.out z1 (U0.out.trans (U5.out.mono U0.out.size)));clear hb))
 go_ret
 exact⟨rfl,HB0.out.trans ((HU4.out.trans (U8.out.mono HU4.out.size)).mono HB0.out.size)⟩
theorem yb(vs:Value)(k1 k2:List UInt8)(n:Int)(vc:Value)(c:Cm)(vr:Value)(r:List UInt8)(st:Int)(w:World)(hs:qa w (·<w.heap.size) vs k1 k2 n)(hc:yx w (·<w.heap.size) vc c)(hr:Kr w (·<w.heap.size) vr r st):
 Calls Tryz.prog 4 #[vs,vc,vr] w fun e w'=>e=.returned (.bool true)/\Below w.heap.size w w':=by
 obtain⟨ua,ub,rfl,ha,hb⟩:=hs
 obtain⟨A1,d1,hp⟩:=Bs.formL ha;subst hp
 obtain⟨A2,d2,hp⟩:=Bs.formL hb;subst hp
 obtain⟨uc,rfl,hcd⟩:=hc
 obtain⟨cA,cc,hp⟩:=Bs.formL hcd;subst hp
 obtain⟨ur,rfl,hrd⟩:=hr
 obtain⟨rA,rc,hp⟩:=Bs.formL hrd;subst hp
 obtain⟨ws,hws⟩:∃ws,ws=w.alloc (.cells #[.slice A1 k1.length d1,.slice A2 k2.length d2,.int .i64 n] 29):=⟨_,rfl⟩
 obtain⟨wq,hwq⟩:∃wq,wq=ws.alloc (.cells #[.int .i64 c.cl,.int .i64 c.ins,.int .i64 c.p1,.int .i64 c.p2,.slice cA c.data.length cc,.int .i64 c.ex] 32):=⟨_,rfl⟩
 obtain⟨w0,hw0⟩:∃w0,w0=wq.alloc (.cells #[.slice rA r.length rc,.int .i64 st] 44):=⟨_,rfl⟩
 have zs:ws.heap.size=w.heap.size+1:=by rw [hws];simp
 have zq:wq.heap.size=w.heap.size+1+1:=by rw [hwq];simp [zs]
 have b1:Below w.heap.size w ws:=by rw [hws];exact iA
 have b2:Below ws.heap.size ws wq:=by rw [hwq];exact iA
 have b3:Below wq.heap.size wq w0:=by rw [hw0];exact iA
 have z0:w0.heap.size=w.heap.size+1+1+1:=by rw [hw0];simp [zq]
 have q1:ws.heap[w.heap.size]?=some (.cells #[.slice A1 k1.length d1,.slice A2 k2.length d2,.int .i64 n] 29 (0,0)):=by rw [hws];exact iN
 have q2:wq.heap[w.heap.size+1]?=some (.cells #[.int .i64 c.cl,.int .i64 c.ins,.int .i64 c.p1,.int .i64 c.p2,.slice cA c.data.length cc,.int .i64 c.ex] 32 (0,0)):=by rw [hwq,<-zs];exact iN
 have q3:w0.heap[w.heap.size+1+1]?=some (.cells #[.slice rA r.length rc,.int .i64 st] 44 (0,0)):=by rw [hw0,<-zq];exact iN
 have e2:=(b3.block (w.heap.size+1) (by omega)).trans q2
 have e1:=(b3.block w.heap.size (by omega)).trans ((b2.block w.heap.size (by omega)).trans q1)
 have hB:Below w.heap.size w w0:=b1.trans ((b2.trans (b3.mono b2.size)).mono b1.size)
 have CS:Hid (∀W,Below w0.heap.size w0 W->W.cell? ⟨w.heap.size,0,none⟩=some (.slice A1 k1.length d1)/\W.cell? ⟨w.heap.size,1,none⟩=some (.slice A2 k2.length d2)/\W.cell? ⟨w.heap.size,2,none⟩=some (.int .i64 n)):=iH fun W h=>(by obtain⟨a,b,c,_⟩:=j7 ((h.block w.heap.size (by omega)).trans e1);exact⟨a,b,c⟩)
 have CC:Hid (∀W,Below w0.heap.size w0 W->W.cell? ⟨w.heap.size+1,0,none⟩=some (.int .i64 c.cl)/\W.cell? ⟨w.heap.size+1,1,none⟩=some (.int .i64 c.ins)/\W.cell? ⟨w.heap.size+1,2,none⟩=some (.int .i64 c.p1)/\W.cell? ⟨w.heap.size+1,3,none⟩=some (.int .i64 c.p2)/\W.cell? ⟨w.heap.size+1,4,none⟩=some (.slice cA c.data.length cc)/\W.cell? ⟨w.heap.size+1,5,none⟩=some (.int .i64 c.ex)):=iH fun W h=>(by obtain⟨a,b,c,d,e,f,_⟩:=ja ((h.block (w.heap.size+1) (by omega)).trans e2);exact⟨a,b,c,d,e,f⟩)
 have CR:Hid (∀W,Below w0.heap.size w0 W->W.cell? ⟨w.heap.size+1+1,0,none⟩=some (.slice rA r.length rc)/\W.cell? ⟨w.heap.size+1+1,1,none⟩=some (.int .i64 st)):=iH fun W h=>(by obtain⟨a,b,_⟩:=jd ((h.block (w.heap.size+1+1) (by omega)).trans q3);exact⟨a,b⟩)
 have HB0:=iH hB;have HWS:=iH hws;have HWQ:=iH hwq;have HW0:=iH hw0
 have HK1:=iH (Bs.lift ha hB);have HK2:=iH (Bs.lift hb hB);have HCD:=iH (Bs.lift hcd hB);have HRD:=iH (Bs.lift hrd hB)
 have HSV:Hid (∀W,Below w0.heap.size w0 W->qa W (·<W.heap.size) (.agg #[.slice A1 k1.length d1,.slice A2 k2.length d2,.int .i64 n]) k1 k2 n):=iH fun W h=>⟨_,_,rfl,HK1.out.lift h,HK2.out.lift h⟩
 have HCV:Hid (∀W,Below w0.heap.size w0 W->yx W (·<W.heap.size) (.agg #[.int .i64 c.cl,.int .i64 c.ins,.int .i64 c.p1,.int .i64 c.p2,.slice cA c.data.length cc,.int .i64 c.ex]) c):=iH fun W h=>⟨_,rfl,HCD.out.lift h⟩
 have HRV:Hid (∀W,Below w0.heap.size w0 W->Kr W (·<W.heap.size) (.agg #[.slice rA r.length rc,.int .i64 st]) r st):=iH fun W h=>⟨_,rfl,HRD.out.lift h⟩
 clear ha hb hcd hrd hws hwq hw0 zs zq z0 b1 b2 b3 q1 q2 q3 e1 e2 hB
 go_enter Tryz.func4,Tryz.ntmps4
 go_upto_region 1 with fail
 rw [<-HWS.out,<-HWQ.out,<-HW0.out]
 go_wp2_with(first
  |(go_at_call 8;refine(Yl w0).mono ?_;rintro e w1 ⟨rfl,hb1⟩;have H1:=iH hb1;obtain⟨s0,s1,s2⟩:=CS.out w1 H1.out;obtain⟨c0,c1,c2,c3,c4,c5⟩:=CC.out w1 H1.out;obtain⟨r0,r1⟩:=CR.out w1 H1.out;clear hb1)
  |(go_at_call 18;refine(QR _ _ _ k1 k2 n c c w1 (HSV.out w1 H1.out) (HCV.out w1 H1.out) (HCV.out w1 H1.out)).mono ?_;rintro e w2 ⟨rfl,hb2⟩;have H2:=iH (H1.out.trans (hb2.mono H1.out.size));clear hb2 s0 s1 s2 r0 r1;obtain⟨s0,s1,s2⟩:=CS.out w2 H2.out;obtain⟨r0,r1⟩:=CR.out w2 H2.out)
  |(go_at_call 19;refine(Qp _ _ _ k1 k2 n r st r st w2 (HSV.out w2 H2.out) (HRV.out w2 H2.out) (HRV.out w2 H2.out)).mono ?_;rintro e w3 ⟨rfl,hb3⟩;have H3:=iH (H2.out.trans (hb3.mono H2.out.size));clear hb3))
 go_ret
 exact⟨rfl,HB0.out.trans (H3.out.mono HB0.out.size)⟩
end Go.Proofs.YtadndhgebgjlaaaGreat
