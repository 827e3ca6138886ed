/- Layer 19: MessagingLengths -/
import Derived.Deep.CutBlock
import Derived.Test.YtadndhgebgjlaaaPBq
import Derived.Test.YtadndhgebgjlaaaPBr
import Derived.Test.YtadndhgebgjlaaaPBp
set_option linter.unusedVariables false
set_option linter.unnecessarySimpa false
set_option linter.unusedSimpArgs false
set_option maxRecDepth 100000
set_option maxHeartbeats 40000000
namespace Go.Proofs.Ytadndhgebgjlaaa
open Go.RowKit Go.Deep
theorem x7(v:Value)(n:Nat)(vo:Value)(oth:List UInt8)(lo:oth.length<=140737488351232)(w:World)(hv:IntsS w (·<w.heap.size) v n)(ho:Bs w w.heap.size vo oth):Calls Try.prog 3 #[v,vo] w fun e w'=>e=.returned (.bool true)/\Below w.heap.size w w':=by
 have HL:=iH (JZ _ v n w hv)
 have HR:=iH (Qx v n w hv)
 obtain⟨va,vc,rfl⟩:=hv.form
 obtain⟨oA,oC,rfl⟩:=Bs.formL ho
 have HO:=iH ho
 clear hv ho lo
 by_cases hn:(n:Int)<=400
 ·have hn1:decide ((n:Int)<=400)=true:=decide_eq_true hn
  rw [hn1]at HL
  clear hn hn1
  obtain⟨p,hp⟩:∃p,w.heap.size=p:=⟨_,rfl⟩
  obtain⟨B,hB⟩:∃B,p+1=B:=⟨_,rfl⟩
  have HR:Hid (Calls Try.prog 8 #[.slice va n vc] w fun e w'=>e=.returned (.pointer (some ⟨p,0,none⟩))/\Die B w' p n/\Below p w w'):=iH (by rw [<-hB,<-hp];exact HR.out)
  have HW:=iH hp
  rw [hp]
  clear hp
  go_enter Try.func3,Try.ntmps3
  go_upto_region 5 with (first
   |(go_at_call 6;refine HL.out.mono ?_;rintro e w' ⟨rfl,hw'⟩;rw [hw'];clear hw' w')
   |(go_at_call 8;refine HR.out.mono ?_;rintro e w1 ⟨rfl,hd,hb⟩;have D1:Hid (DiePost B w1 p n w1):=iH (DiePost.refl hd);have B1:=iH hb;have L1:=hd.le;have L2:=hd.lt;clear hd hb)
   |(go_at_call 9;refine(qs B p n w2 D2.out.1).mono ?_;rintro e w3 ⟨v,j1,j2,m2,rfl,⟨ua,ub,rfl,ha,hb⟩,hvs,hd⟩;obtain⟨A3,d3,hp⟩:=Bs.formL ha;subst hp;obtain⟨A4,d4,hp⟩:=Bs.formL hb;subst hp;have V2:=iH hvs;have D3:=iH (D2.out.trans hd);have X3:=iH (X2.out.rollO hd);have Y3:=iH (Y2.out.rollO hd);have Z3:=iH (ha.newO (p:=p) (by omega));have T3:=iH (hb.newO (p:=p) (by omega));have z3:=hd.2.size;clear ha hb hd hvs)
   |(go_at_call 9;refine(qs B p n w1 D1.out.1).mono ?_;rintro e w2 ⟨v,k1,k2,m,rfl,⟨ua,ub,rfl,ha,hb⟩,hvs,hd⟩;obtain⟨A1,d1,hp⟩:=Bs.formL ha;subst hp;obtain⟨A2,d2,hp⟩:=Bs.formL hb;subst hp;have D2:=iH hd;have X2:=iH (ha.newO (p:=p) (by omega));have Y2:=iH (hb.newO (p:=p) (by omega));have z2:=hd.2.size;have V1:=iH hvs;clear ha hb hd hvs))
  obtain⟨wa,hwa⟩:∃u,u=(w3.alloc (.cells #[.slice A1 k1.length d1,.slice A2 k2.length d2,.int .i64 m] 29)).alloc (.cells #[.slice A3 j1.length d3,.slice A4 j2.length d4,.int .i64 m2] 29):=⟨_,rfl⟩
  rw [<-hwa]
  have hr1:wa.heap[w3.heap.size]?=some (.cells #[.slice A1 k1.length d1,.slice A2 k2.length d2,.int .i64 m] 29 (0,0)):=by rw [hwa,Below.heap_alloc _ _ _ (by simp)];exact iN
  have hr2:wa.heap[w3.heap.size+1]?=some (.cells #[.slice A3 j1.length d3,.slice A4 j2.length d4,.int .i64 m2] 29 (0,0)):=by
   rw [hwa]
   have h:=heap_alloc_new (w3.alloc (.cells #[.slice A1 k1.length d1,.slice A2 k2.length d2,.int .i64 m] 29)) (.cells #[.slice A3 j1.length d3,.slice A4 j2.length d4,.int .i64 m2] 29)
   rwa [jG]at h
  have hbw:Below w3.heap.size w3 wa:=by rw [hwa];exact(iA).alloc (by simp) _
  clear hwa
  have S0:Hid (SesAt p wa w3.heap.size k1 k2 m):=iH ⟨_,_,_,_,hr1,X3.out.rollO ((DiePost.refl D3.out.1).below hbw),Y3.out.rollO ((DiePost.refl D3.out.1).below hbw)⟩
  have U0:Hid (SesAt p wa (w3.heap.size+1) j1 j2 m2):=iH ⟨_,_,_,_,hr2,Z3.out.rollO ((DiePost.refl D3.out.1).below hbw),T3.out.rollO ((DiePost.refl D3.out.1).below hbw)⟩
  have D0:Hid (DiePost B w1 p n wa):=iH (D3.out.below hbw)
  obtain⟨gs,hgs⟩:∃g,w3.heap.size=g:=⟨_,rfl⟩
  obtain⟨gu,hgu⟩:∃g,gs+1=g:=⟨_,rfl⟩
  rw [hgs]at S0 U0 |-
  rw [hgu]at U0 |-
  have gs1:gs≠p:=by omega
  have gu1:gu≠p:=by omega
  clear hr1 hr2 hbw D2 D3 X2 Y2 X3 Y3 Z3 T3 hgs hgu z2 z3
  obtain⟨sA,sa,sB,sb,hr,hx,hy⟩:=S0.out;obtain⟨s0,s1,s2,_⟩:=j9 hr;have Xs:=iH hx;have Ys:=iH hy;clear hr hx hy
  obtain⟨uA,ua,uB,ub,hr,hx,hy⟩:=U0.out;obtain⟨u0,u1,u2,_⟩:=j9 hr;have Xu:=iH hx;have Yu:=iH hy;clear hr hx hy
  by_cases h1:m=1099511627776
  ·have t1:(m==1099511627776)=true:=by simp [h1]
   clear h1
   go_wp2_with(go_at_call 7;refine(kg _).mono ?_;rintro e wz ⟨rfl,hb⟩;have HZ:=iH hb;clear hb)
   go_ret
   exact⟨rfl,B1.out.grown (D0.out.below HZ.out).2 (by omega) (fun k e=>by injection e with e;omega)⟩
  ·have t1:(m==1099511627776)=false:=by simpa using h1
   have H1:=iH h1
   clear h1
   by_cases h2:m2=1099511627776
   ·have t2:(m2==1099511627776)=true:=by simp [h2]
    clear h2
    go_wp2_with(go_at_call 7;refine(kg _).mono ?_;rintro e wz ⟨rfl,hb⟩;have HZ:=iH hb;clear hb)
    go_ret
    exact⟨rfl,B1.out.grown (D0.out.below HZ.out).2 (by omega) (fun k e=>by injection e with e;omega)⟩
   ·have t2:(m2==1099511627776)=false:=by simpa using h2
    have H2:=iH h2
    clear h2
    go_upto_region 8 with (go_at_call 10;refine(zr B p n wa D0.out.1).mono ?_;rintro e w5 ⟨v,c,rfl,⟨ud,rfl,hc⟩,hmc,hd⟩;obtain⟨A5,d5,hp⟩:=Bs.formL hc;subst hp;have MC:=iH hmc;have D5:=iH (D0.out.trans hd);have S5:=iH (S0.out.roll hd gs1);have U5:=iH (U0.out.roll hd gu1);have X5:=iH (hc.newO (p:=p) (by have:=D0.out.2.size;omega));clear hc hmc hd)
    clear s0 s1 s2 u0 u1 u2 t1 t2
    obtain⟨w6,hw6⟩:∃u,u=w5.alloc (.cells #[.int .i64 c.cl,.int .i64 c.ins,.int .i64 c.p1,.int .i64 c.p2,.slice A5 c.data.length d5,.int .i64 c.ex] 32):=⟨_,rfl⟩
    rw [<-hw6]
    have hb6:Below w5.heap.size w5 w6:=by rw [hw6];exact iA
    have E6:Hid (DiePost B w5 p n w6):=iH ((DiePost.refl D5.out.1).below hb6)
    have D6:=iH (D5.out.trans E6.out);have S6:=iH (S5.out.roll E6.out gs1);have U6:=iH (U5.out.roll E6.out gu1)
    have C6:Hid (CmdAt p w6 w5.heap.size c):=iH ⟨_,_,by rw [hw6];exact iN,X5.out.rollO E6.out⟩
    obtain⟨gc,hgc⟩:∃g,w5.heap.size=g:=⟨_,rfl⟩
    rw [hgc]at C6 |-
    clear hw6 hb6 E6 S5 U5 X5 hgc S0 U0
    have HWK:=iH (rfl:w6.heap.size=w6.heap.size)
    obtain⟨gq,hgk⟩:∃g,w6.heap.size=g:=⟨_,rfl⟩
    obtain⟨cA,cC,hr,hx⟩:=C6.out
    have RC:=iH hr;have XC:=iH hx
    have gcl:gc<gq:=by have:=(iG hr);omega
    obtain⟨c0,c1,c2,c3,c4,c5,_⟩:=j8 hr
    clear hr hx C6
    go_upto_region 9 with fail
    clear c0 c1 c2 c3 c4 c5
    obtain⟨w7,hw7⟩:∃u,u=w6.alloc (.cells #[.int .i64 c.cl,.int .i64 c.ins,.int .i64 c.p1,.int .i64 c.p2,.slice cA c.data.length cC,.int .i64 c.ex] 32):=⟨_,rfl⟩
    rw [<-hw7]
    have K7:Hid (w7.heap[gq]?=some (.cells #[.int .i64 c.cl,.int .i64 c.ins,.int .i64 c.p1,.int .i64 c.p2,.slice cA c.data.length cC,.int .i64 c.ex] 32 (0,0))):=iH (by rw [hw7,<-hgk];exact iN)
    have B7:Hid (Below gq w6 w7):=iH (by rw [hw7,<-hgk];exact iA)
    have z7:gq<w7.heap.size:=by rw [hw7];simp;omega
    try rw [hgk]
    have GK:=iH hgk
    clear hw7 hgk HWK
    have hcl:c.data.length<=3000:=MC.out.2.2.2.2.1
    obtain⟨c0,c1,c2,c3,c4,c5,_⟩:=j8 ((B7.out.block gc gcl).trans RC.out)
    go_upto_region 10 with (at_make;(with_reducible refine Jz rfl (.tmp 41) rfl (c.data.length:Int) c.data.length rfl rfl (Nat.le_trans hcl (by decide)) ?_);intro w8 hx hb;have X8:=iH hx;have B8:=iH hb;have K8:=iH ((hb.block gq z7).trans K7.out);have z8:=hb.size;obtain⟨k0,k1',k2',k3,k4,k5,kf⟩:=j8 K8.out;have kf4:=kf 4;clear kf hx hb)
    clear c0 c1 c2 c3 c4 c5 k0 k1' k2' k3 k4 k5 kf4
    obtain⟨Z,hZ⟩:∃Z:List UInt8,Z=List.replicate c.data.length 0:=⟨_,rfl⟩
    have hzl:c.data.length=Z.length:=by rw [hZ];simp
    have X8':Hid (OwnB w8 w7.heap.size (.slice (some ⟨w7.heap.size,0,none⟩) Z.length Z.length) Z):=iH (by have h:=X8.out;rw [<-hZ,hzl]at h;exact h)
    obtain⟨gd,hgd⟩:∃g,w7.heap.size=g:=⟨_,rfl⟩
    rw [hgd]at X8' z7 z8 |-
    have gkd:gq<gd:=by omega
    rw [hzl]
    obtain⟨w9,hw9⟩:∃u,u=w8.setCell ⟨gq,4,none⟩ (.slice (some ⟨gd,0,none⟩) Z.length Z.length):=⟨_,rfl⟩
    rw [<-hw9]
    have K9:Hid (w9.heap[gq]?=some (.cells #[.int .i64 c.cl,.int .i64 c.ins,.int .i64 c.p1,.int .i64 c.p2,.slice (some ⟨gd,0,none⟩) Z.length Z.length,.int .i64 c.ex] 32 (0,0))):=iH (by rw [hw9];exact jb (o:=4) K8.out)
    have B9:Hid (Below gq w6 w9):=iH (by rw [hw9];exact(B7.out.trans (by rw [hgd]at B8;exact B8.out.mono (by omega))).setCell iL _)
    have X9:Hid (OwnB w9 gd (.slice (some ⟨gd,0,none⟩) Z.length Z.length) Z):=iH (by rw [hw9];exact Xn X8'.out (by omega))
    have ZL:=iH hzl
    have z9:gd<=w9.heap.size:=by rw [hw9];simpa using z8
    clear hw9 X8 X8' B8 K8 K7 B7 hZ hgd z8
    have hZ3:Z.length<=3000:=by omega
    clear hzl hcl
    obtain⟨nz,hnz⟩:∃m,Z.length=m:=⟨_,rfl⟩
    rw [hnz]at K9 X9 hZ3 |-
    have NZ:=iH hnz
    clear hnz
    obtain⟨on,hon⟩:∃m,oth.length=m:=⟨_,rfl⟩
    have HOW:Hid (BsS w9 (fun b=>b<w.heap.size) (.slice oA on oC) oth):=iH (by rw [<-hon];have hz:=HW.out;exact HO.out.keep fun b hs hl=>⟨((B1.out.grown (D6.out.below (show Below w6.heap.size w6 w9 by rw [GK.out];exact B9.out)).2 (by omega) (fun k e=>by injection e with e;omega)).block b (by omega)),hl⟩)
    have OL:=iH hon
    rw [hon]
    clear hon
    go_wp2_with fail
    go_loopg [10] nz (fun q iv wr=>∃(i:Nat) (M:List UInt8),i+q=nz/\iv=.int .i64 i/\M.length=nz/\w9.grownBy wr (some gd)/\OwnB wr gd (.slice (some ⟨gd,0,none⟩) nz nz) M)
    case atStart=>exact⟨0,Z,by omega,rfl,NZ.out,World.grownBy.refl _ _,X9.out⟩
    case round=>
     obtain⟨i,M,hi,rfl,hM,hE,hX⟩:=hrel
     have HE:=iH hE;have HX:=iH hX;have HM:=iH hM;have HI:=iH hi
     have hgk0:=(hE.block gq (iZ gkd z9) (by intro e;injection e with e;omega)).trans K9.out
     have KR:=iH hgk0
     obtain⟨k0,k1',k2',k3,k4,k5,_⟩:=j8 hgk0
     clear hE hX hM hgk0
     by_cases h1:i<nz
     ·have t1:((i:Nat):Int)<nz:=by omega
      by_cases h2:i<on
      ·have t2:((i:Nat):Int)<on:=by omega
       have hcb:∃b off,oA=some ⟨b,off,none⟩/\∀j,j<on->wr.cell? ⟨b,off+j,none⟩=some (U8 (gb oth j)):=by
        obtain⟨a,cc,hv,g1,g2,g3,g4⟩:=HOW.out
        injection hv with e1 e2 e3
        subst e1 e3
        obtain⟨b,off,ha,hb,hc⟩:=g4 (by have:=OL.out;omega)
        refine⟨b,off,ha,fun j hj=> ?_⟩
        have:=hc j (by have:=OL.out;omega)
        have hbl:b<w9.heap.size:=by
         have hz:=HW.out;have hz2:=B1.out.size;have hz3:=D6.out.2.size;have hz4:=GK.out;omega
        have hne:b≠gd:=by
         have hz:=HW.out;have hz2:=B1.out.size;have hz3:=D6.out.2.size;have hz4:=GK.out;omega
        exact(XV (HE.out.block b hbl (by intro e;injection e with e;exact hne e)) _).trans this
       obtain⟨ob,oo,rfl,hcc⟩:=hcb
       have o1:=hcc i h2
       have hdb:=j0x HX.out (show i<M.length by have:=HM.out;omega)
       obtain⟨d1',d2'⟩:=hdb
       clear hcc
       go_upto_region 13 with fail
       refine wp_region_still_tail 8 (by kernel_rfl) (by kernel_rfl) ?_
       simp only [iI,iK,iE,iJ]
       repeat(refine wpStill_step (fun K hK=> ?_);go_simp;(try go_bits);refine hK _ ?_;clear hK K)
       refine wpStill_nil ?_
       go_wp2_with fail
       go_roundg (gk - 1)
       case measure=>omega
       case rel=>exact⟨i+1,M.set i (gb oth i),by omega,by go_num,by simp;exact HM.out,j5 (jO HE.out) (.inl rfl) _,Ug (HX.out:OwnB wr.drew gd _ M) _ _⟩
      ·have t2:¬((i:Nat):Int)<on:=by omega
       have KS:Hid (SesAt p wr gs k1 k2 m):=iH (S6.out.keepB (by rw [GK.out];exact Nat.le_refl _) (B9.out.grown HE.out (by omega) (fun k e=>by injection e with e;omega)))
       have KU:Hid (SesAt p wr gu j1 j2 m2):=iH (U6.out.keepB (by rw [GK.out];exact Nat.le_refl _) (B9.out.grown HE.out (by omega) (fun k e=>by injection e with e;omega)))
       have hbr:Below gq w6 wr:=B9.out.grown HE.out (by omega) (fun k e=>by injection e with e;omega)
       have RCr:Hid (wr.heap[gc]?=some (.cells #[.int .i64 c.cl,.int .i64 c.ins,.int .i64 c.p1,.int .i64 c.p2,.slice cA c.data.length cC,.int .i64 c.ex] 32 (0,0))):=iH ((hbr.block gc gcl).trans RC.out)
       have XCr:Hid (Bs wr wr.heap.size (.slice cA c.data.length cC) c.data):=iH (XC.out.keep fun b hs hl=>⟨hbr.block b (by have:=GK.out;have:=hs.1;omega),iZ hl hbr.size⟩)
       have DR:Hid (DiePost B w1 p n wr):=iH (D6.out.below (show Below w6.heap.size w6 wr by rw [GK.out];exact hbr))
       have XMr:Hid (Bs wr wr.heap.size (.slice (some ⟨gd,0,none⟩) nz nz) M):=iH (UT HX.out (by have:=HM.out;omega))
       have hlen:c.data.length=M.length:=by rw [HM.out,ZL.out];exact NZ.out
       have hmk:QZ ⟨c.cl,c.ins,c.p1,c.p2,M,c.ex⟩:=⟨MC.out.1,MC.out.2.1,MC.out.2.2.1,MC.out.2.2.2.1,by show M.length<=3000;rw [<-hlen];exact MC.out.2.2.2.2.1,MC.out.2.2.2.2.2⟩
       obtain⟨b1,b2,hw1,hw2,hbl⟩:=Kt V1.out V2.out MC.out hmk H1.out H2.out hlen rfl
       have HW1:=iH hw1;have HW2:=iH hw2;have HBL:=iH hbl
       have CL:=iH (ZL.out.trans NZ.out)
       clear hbr hlen hmk hw1 hw2 hbl
       obtain⟨c0,c1,c2,c3,c4,c5,_⟩:=j8 RCr.out
       obtain⟨sA,sa,sB,sb,hr,hx,hy⟩:=KS.out;obtain⟨s0,s1,s2,_⟩:=j9 hr;have Xs:=iH hx;have Ys:=iH hy;clear hr hx hy
       go_upto_region 15 with (go_at_call 11;refine(q7 _ _ k1 k2 m c wr ⟨_,_,rfl,Xs.out.lo,Ys.out.lo⟩ ⟨_,rfl,XCr.out⟩).mono ?_;rw [HW1.out];rintro e w20 ⟨v,s,rfl,⟨dd,rfl,hd⟩,⟨x2,y2,rfl,hx,hy⟩,hb⟩;obtain⟨dA2,dc2,hp⟩:=Bs.formL hd;subst hp;obtain⟨xA2,xc2,hp⟩:=Bs.formL hx;subst hp;obtain⟨yA2,yc2,hp⟩:=Bs.formL hy;subst hp;have HB20:=iH hb;obtain⟨hz,hs0⟩:=kK w20;obtain⟨n0,n1,n2,n3,n4,n5,nf⟩:=j8 hz;have nf0:=nf 0;have nf1:=nf 1;have nf2:=nf 2;have nf3:=nf 3;have nf4:=nf 4;have nf5:=nf 5;obtain⟨m0,m1,m2,mf⟩:=j9 hs0;have mf0:=mf 0;have mf1:=mf 1;have mf2:=mf 2;clear nf mf hz hs0;clear hd hx hy hb)
       clear n0 nf0 n1 nf1 n2 nf2 n3 nf3 n4 nf4 n5 nf5 m0 m1 m2 mf0 mf1 mf2 s0 s1 s2 c0 c1 c2 c3 c4 c5
       obtain⟨w21,hw21⟩:∃u,u=(w20.alloc (.cells #[.int .i64 (c.cl+12),.int .i64 c.ins,.int .i64 c.p1,.int .i64 c.p2,.slice dA2 b1.length dc2,.int .i64 65536] 32)).alloc (.cells #[.slice xA2 k1.length xc2,.slice yA2 k2.length yc2,.int .i64 (m+1)] 29):=⟨_,rfl⟩
       rw [<-hw21]
       have hr1:w21.heap[w20.heap.size]?=some (.cells #[.int .i64 (c.cl+12),.int .i64 c.ins,.int .i64 c.p1,.int .i64 c.p2,.slice dA2 b1.length dc2,.int .i64 65536] 32 (0,0)):=by rw [hw21,Below.heap_alloc _ _ _ (by simp)];exact iN
       have hr2:w21.heap[w20.heap.size+1]?=some (.cells #[.slice xA2 k1.length xc2,.slice yA2 k2.length yc2,.int .i64 (m+1)] 29 (0,0)):=by
        rw [hw21]
        have h:=heap_alloc_new (w20.alloc (.cells #[.int .i64 (c.cl+12),.int .i64 c.ins,.int .i64 c.p1,.int .i64 c.p2,.slice dA2 b1.length dc2,.int .i64 65536] 32)) (.cells #[.slice xA2 k1.length xc2,.slice yA2 k2.length yc2,.int .i64 (m+1)] 29)
        rwa [jG]at h
       have hbw:Below w20.heap.size w20 w21:=by rw [hw21];exact(iA).alloc (by simp) _
       clear hw21
       have R21:Hid (w21.heap[w20.heap.size]?=some (.cells #[.int .i64 (c.cl+12),.int .i64 c.ins,.int .i64 c.p1,.int .i64 c.p2,.slice dA2 b1.length dc2,.int .i64 65536] 32 (0,0))):=iH hr1
       have HB21:=iH (HB20.out.trans (hbw.mono HB20.out.size))
       have E21:Hid (DiePost B wr p n w21):=iH ((DiePost.refl DR.out.1).below HB21.out)
       have KU21:=iH (KU.out.roll E21.out gu1)
       have hkr:=(HB21.out.block gq (by have:=(iG KR.out);omega)).trans KR.out
       have KR21:=iH hkr
       clear hr1 hr2 hbw hkr k0 k1' k2' k3 k4 k5
       obtain⟨k0,k1',k2',k3,k4,k5,_⟩:=j8 KR21.out
       obtain⟨uA,ua,uB,ub,hr,hx,hy⟩:=KU21.out;obtain⟨u0,u1,u2,_⟩:=j9 hr;have Xu:=iH hx;have Yu:=iH hy;clear hr hx hy
       go_upto_region 16 with (go_at_call 11;refine(q7 _ _ j1 j2 m2 ⟨c.cl,c.ins,c.p1,c.p2,M,c.ex⟩ w21 ⟨_,_,rfl,Xu.out.lo,Yu.out.lo⟩ ⟨_,rfl,Bs.lift XMr.out HB21.out⟩).mono ?_;rw [HW2.out];rintro e w22 ⟨v,s,rfl,⟨dd,rfl,hd⟩,⟨x2,y2,rfl,hx,hy⟩,hb⟩;obtain⟨dA3,dc3,hp⟩:=Bs.formL hd;subst hp;obtain⟨xA3,xc3,hp⟩:=Bs.formL hx;subst hp;obtain⟨yA3,yc3,hp⟩:=Bs.formL hy;subst hp;have HB22:=iH hb;obtain⟨hz,hs0⟩:=kK w22;obtain⟨n0,n1,n2,n3,n4,n5,nf⟩:=j8 hz;have nf0:=nf 0;have nf1:=nf 1;have nf2:=nf 2;have nf3:=nf 3;have nf4:=nf 4;have nf5:=nf 5;obtain⟨m0,m1,m2,mf⟩:=j9 hs0;have mf0:=mf 0;have mf1:=mf 1;have mf2:=mf 2;clear nf mf hz hs0;clear hd hx hy hb)
       clear n0 nf0 n1 nf1 n2 nf2 n3 nf3 n4 nf4 n5 nf5 m0 m1 m2 mf0 mf1 mf2 u0 u1 u2 k0 k1' k2' k3 k4 k5
       obtain⟨w23,hw23⟩:∃u,u=(w22.alloc (.cells #[.int .i64 (c.cl+12),.int .i64 c.ins,.int .i64 c.p1,.int .i64 c.p2,.slice dA3 b2.length dc3,.int .i64 65536] 32)).alloc (.cells #[.slice xA3 j1.length xc3,.slice yA3 j2.length yc3,.int .i64 (m2+1)] 29):=⟨_,rfl⟩
       rw [<-hw23]
       have hr1:w23.heap[w22.heap.size]?=some (.cells #[.int .i64 (c.cl+12),.int .i64 c.ins,.int .i64 c.p1,.int .i64 c.p2,.slice dA3 b2.length dc3,.int .i64 65536] 32 (0,0)):=by rw [hw23,Below.heap_alloc _ _ _ (by simp)];exact iN
       have hr2:w23.heap[w22.heap.size+1]?=some (.cells #[.slice xA3 j1.length xc3,.slice yA3 j2.length yc3,.int .i64 (m2+1)] 29 (0,0)):=by
        rw [hw23]
        have h:=heap_alloc_new (w22.alloc (.cells #[.int .i64 (c.cl+12),.int .i64 c.ins,.int .i64 c.p1,.int .i64 c.p2,.slice dA3 b2.length dc3,.int .i64 65536] 32)) (.cells #[.slice xA3 j1.length xc3,.slice yA3 j2.length yc3,.int .i64 (m2+1)] 29)
        rwa [jG]at h
       have hbw:Below w22.heap.size w22 w23:=by rw [hw23];exact(iA).alloc (by simp) _
       clear hw23
       have R23:Hid (w23.heap[w22.heap.size]?=some (.cells #[.int .i64 (c.cl+12),.int .i64 c.ins,.int .i64 c.p1,.int .i64 c.p2,.slice dA3 b2.length dc3,.int .i64 65536] 32 (0,0))):=iH hr1
       have HB23:=iH (HB22.out.trans (hbw.mono HB22.out.size))
       have R21':=iH ((HB23.out.block _ (iG R21.out)).trans R21.out)
       have D23:=iH ((DR.out.trans E21.out).below HB23.out)
       clear hr1 hr2 hbw
       have tl:((b1.length:Int)==b2.length)=true:=by rw [HBL.out];simp
       go_wp2_with(go_at_call 7;refine(kg w23).mono ?_;rintro e wz ⟨rfl,hb⟩;have HZ:=iH hb;obtain⟨p0,p1,p2,p3,p4,p5,_⟩:=j8 ((hb.block _ (iG R21'.out)).trans R21'.out);obtain⟨q0,q1,q2,q3,q4,q5,_⟩:=j8 ((hb.block _ (iG R23.out)).trans R23.out);clear hb)
       go_ret
       exact⟨rfl,B1.out.grown (D23.out.below HZ.out).2 (by omega) (fun k e=>by injection e with e;omega)⟩
     ·have t1:¬((i:Nat):Int)<nz:=by omega
      have KS:Hid (SesAt p wr gs k1 k2 m):=iH (S6.out.keepB (by rw [GK.out];exact Nat.le_refl _) (B9.out.grown HE.out (by omega) (fun k e=>by injection e with e;omega)))
      have KU:Hid (SesAt p wr gu j1 j2 m2):=iH (U6.out.keepB (by rw [GK.out];exact Nat.le_refl _) (B9.out.grown HE.out (by omega) (fun k e=>by injection e with e;omega)))
      have hbr:Below gq w6 wr:=B9.out.grown HE.out (by omega) (fun k e=>by injection e with e;omega)
      have RCr:Hid (wr.heap[gc]?=some (.cells #[.int .i64 c.cl,.int .i64 c.ins,.int .i64 c.p1,.int .i64 c.p2,.slice cA c.data.length cC,.int .i64 c.ex] 32 (0,0))):=iH ((hbr.block gc gcl).trans RC.out)
      have XCr:Hid (Bs wr wr.heap.size (.slice cA c.data.length cC) c.data):=iH (XC.out.keep fun b hs hl=>⟨hbr.block b (by have:=GK.out;have:=hs.1;omega),iZ hl hbr.size⟩)
      have DR:Hid (DiePost B w1 p n wr):=iH (D6.out.below (show Below w6.heap.size w6 wr by rw [GK.out];exact hbr))
      have XMr:Hid (Bs wr wr.heap.size (.slice (some ⟨gd,0,none⟩) nz nz) M):=iH (UT HX.out (by have:=HM.out;omega))
      have hlen:c.data.length=M.length:=by rw [HM.out,ZL.out];exact NZ.out
      have hmk:QZ ⟨c.cl,c.ins,c.p1,c.p2,M,c.ex⟩:=⟨MC.out.1,MC.out.2.1,MC.out.2.2.1,MC.out.2.2.2.1,by show M.length<=3000;rw [<-hlen];exact MC.out.2.2.2.2.1,MC.out.2.2.2.2.2⟩
      obtain⟨b1,b2,hw1,hw2,hbl⟩:=Kt V1.out V2.out MC.out hmk H1.out H2.out hlen rfl
      have HW1:=iH hw1;have HW2:=iH hw2;have HBL:=iH hbl
      have CL:=iH (ZL.out.trans NZ.out)
      clear hbr hlen hmk hw1 hw2 hbl
      obtain⟨c0,c1,c2,c3,c4,c5,_⟩:=j8 RCr.out
      obtain⟨sA,sa,sB,sb,hr,hx,hy⟩:=KS.out;obtain⟨s0,s1,s2,_⟩:=j9 hr;have Xs:=iH hx;have Ys:=iH hy;clear hr hx hy
      go_upto_region 15 with (go_at_call 11;refine(q7 _ _ k1 k2 m c wr ⟨_,_,rfl,Xs.out.lo,Ys.out.lo⟩ ⟨_,rfl,XCr.out⟩).mono ?_;rw [HW1.out];rintro e w20 ⟨v,s,rfl,⟨dd,rfl,hd⟩,⟨x2,y2,rfl,hx,hy⟩,hb⟩;obtain⟨dA2,dc2,hp⟩:=Bs.formL hd;subst hp;obtain⟨xA2,xc2,hp⟩:=Bs.formL hx;subst hp;obtain⟨yA2,yc2,hp⟩:=Bs.formL hy;subst hp;have HB20:=iH hb;obtain⟨hz,hs0⟩:=kK w20;obtain⟨n0,n1,n2,n3,n4,n5,nf⟩:=j8 hz;have nf0:=nf 0;have nf1:=nf 1;have nf2:=nf 2;have nf3:=nf 3;have nf4:=nf 4;have nf5:=nf 5;obtain⟨m0,m1,m2,mf⟩:=j9 hs0;have mf0:=mf 0;have mf1:=mf 1;have mf2:=mf 2;clear nf mf hz hs0;clear hd hx hy hb)
      clear n0 nf0 n1 nf1 n2 nf2 n3 nf3 n4 nf4 n5 nf5 m0 m1 m2 mf0 mf1 mf2 s0 s1 s2 c0 c1 c2 c3 c4 c5
      obtain⟨w21,hw21⟩:∃u,u=(w20.alloc (.cells #[.int .i64 (c.cl+12),.int .i64 c.ins,.int .i64 c.p1,.int .i64 c.p2,.slice dA2 b1.length dc2,.int .i64 65536] 32)).alloc (.cells #[.slice xA2 k1.length xc2,.slice yA2 k2.length yc2,.int .i64 (m+1)] 29):=⟨_,rfl⟩
      rw [<-hw21]
      have hr1:w21.heap[w20.heap.size]?=some (.cells #[.int .i64 (c.cl+12),.int .i64 c.ins,.int .i64 c.p1,.int .i64 c.p2,.slice dA2 b1.length dc2,.int .i64 65536] 32 (0,0)):=by rw [hw21,Below.heap_alloc _ _ _ (by simp)];exact iN
      have hr2:w21.heap[w20.heap.size+1]?=some (.cells #[.slice xA2 k1.length xc2,.slice yA2 k2.length yc2,.int .i64 (m+1)] 29 (0,0)):=by
       rw [hw21]
       have h:=heap_alloc_new (w20.alloc (.cells #[.int .i64 (c.cl+12),.int .i64 c.ins,.int .i64 c.p1,.int .i64 c.p2,.slice dA2 b1.length dc2,.int .i64 65536] 32)) (.cells #[.slice xA2 k1.length xc2,.slice yA2 k2.length yc2,.int .i64 (m+1)] 29)
       rwa [jG]at h
      have hbw:Below w20.heap.size w20 w21:=by rw [hw21];exact(iA).alloc (by simp) _
      clear hw21
      have R21:Hid (w21.heap[w20.heap.size]?=some (.cells #[.int .i64 (c.cl+12),.int .i64 c.ins,.int .i64 c.p1,.int .i64 c.p2,.slice dA2 b1.length dc2,.int .i64 65536] 32 (0,0))):=iH hr1
      have HB21:=iH (HB20.out.trans (hbw.mono HB20.out.size))
      have E21:Hid (DiePost B wr p n w21):=iH ((DiePost.refl DR.out.1).below HB21.out)
      have KU21:=iH (KU.out.roll E21.out gu1)
      have hkr:=(HB21.out.block gq (by have:=(iG KR.out);omega)).trans KR.out
      have KR21:=iH hkr
      clear hr1 hr2 hbw hkr k0 k1' k2' k3 k4 k5
      obtain⟨k0,k1',k2',k3,k4,k5,_⟩:=j8 KR21.out
      obtain⟨uA,ua,uB,ub,hr,hx,hy⟩:=KU21.out;obtain⟨u0,u1,u2,_⟩:=j9 hr;have Xu:=iH hx;have Yu:=iH hy;clear hr hx hy
      go_upto_region 16 with (go_at_call 11;refine(q7 _ _ j1 j2 m2 ⟨c.cl,c.ins,c.p1,c.p2,M,c.ex⟩ w21 ⟨_,_,rfl,Xu.out.lo,Yu.out.lo⟩ ⟨_,rfl,Bs.lift XMr.out HB21.out⟩).mono ?_;rw [HW2.out];rintro e w22 ⟨v,s,rfl,⟨dd,rfl,hd⟩,⟨x2,y2,rfl,hx,hy⟩,hb⟩;obtain⟨dA3,dc3,hp⟩:=Bs.formL hd;subst hp;obtain⟨xA3,xc3,hp⟩:=Bs.formL hx;subst hp;obtain⟨yA3,yc3,hp⟩:=Bs.formL hy;subst hp;have HB22:=iH hb;obtain⟨hz,hs0⟩:=kK w22;obtain⟨n0,n1,n2,n3,n4,n5,nf⟩:=j8 hz;have nf0:=nf 0;have nf1:=nf 1;have nf2:=nf 2;have nf3:=nf 3;have nf4:=nf 4;have nf5:=nf 5;obtain⟨m0,m1,m2,mf⟩:=j9 hs0;have mf0:=mf 0;have mf1:=mf 1;have mf2:=mf 2;clear nf mf hz hs0;clear hd hx hy hb)
      clear n0 nf0 n1 nf1 n2 nf2 n3 nf3 n4 nf4 n5 nf5 m0 m1 m2 mf0 mf1 mf2 u0 u1 u2 k0 k1' k2' k3 k4 k5
      obtain⟨w23,hw23⟩:∃u,u=(w22.alloc (.cells #[.int .i64 (c.cl+12),.int .i64 c.ins,.int .i64 c.p1,.int .i64 c.p2,.slice dA3 b2.length dc3,.int .i64 65536] 32)).alloc (.cells #[.slice xA3 j1.length xc3,.slice yA3 j2.length yc3,.int .i64 (m2+1)] 29):=⟨_,rfl⟩
      rw [<-hw23]
      have hr1:w23.heap[w22.heap.size]?=some (.cells #[.int .i64 (c.cl+12),.int .i64 c.ins,.int .i64 c.p1,.int .i64 c.p2,.slice dA3 b2.length dc3,.int .i64 65536] 32 (0,0)):=by rw [hw23,Below.heap_alloc _ _ _ (by simp)];exact iN
      have hr2:w23.heap[w22.heap.size+1]?=some (.cells #[.slice xA3 j1.length xc3,.slice yA3 j2.length yc3,.int .i64 (m2+1)] 29 (0,0)):=by
       rw [hw23]
       have h:=heap_alloc_new (w22.alloc (.cells #[.int .i64 (c.cl+12),.int .i64 c.ins,.int .i64 c.p1,.int .i64 c.p2,.slice dA3 b2.length dc3,.int .i64 65536] 32)) (.cells #[.slice xA3 j1.length xc3,.slice yA3 j2.length yc3,.int .i64 (m2+1)] 29)
       rwa [jG]at h
      have hbw:Below w22.heap.size w22 w23:=by rw [hw23];exact(iA).alloc (by simp) _
      clear hw23
      have R23:Hid (w23.heap[w22.heap.size]?=some (.cells #[.int .i64 (c.cl+12),.int .i64 c.ins,.int .i64 c.p1,.int .i64 c.p2,.slice dA3 b2.length dc3,.int .i64 65536] 32 (0,0))):=iH hr1
      have HB23:=iH (HB22.out.trans (hbw.mono HB22.out.size))
      have R21':=iH ((HB23.out.block _ (iG R21.out)).trans R21.out)
      have D23:=iH ((DR.out.trans E21.out).below HB23.out)
      clear hr1 hr2 hbw
      have tl:((b1.length:Int)==b2.length)=true:=by rw [HBL.out];simp
      go_wp2_with(go_at_call 7;refine(kg w23).mono ?_;rintro e wz ⟨rfl,hb⟩;have HZ:=iH hb;obtain⟨p0,p1,p2,p3,p4,p5,_⟩:=j8 ((hb.block _ (iG R21'.out)).trans R21'.out);obtain⟨q0,q1,q2,q3,q4,q5,_⟩:=j8 ((hb.block _ (iG R23.out)).trans R23.out);clear hb)
      go_ret
      exact⟨rfl,B1.out.grown (D23.out.below HZ.out).2 (by omega) (fun k e=>by injection e with e;omega)⟩
 ·have hn1:decide ((n:Int)<=400)=false:=decide_eq_false hn
  rw [hn1]at HL
  clear hn hn1
  go_enter Try.func3,Try.ntmps3
  go_wp2_with(first
   |(go_at_call 6;refine HL.out.mono ?_;rintro e w' ⟨rfl,hw'⟩;rw [hw'];clear hw' w')
   |(go_at_call 7;refine(kg _).mono ?_;rintro e w1 ⟨rfl,hb⟩;have HB:=iH hb;clear hb))
  go_ret
  exact⟨by simp,HB.out⟩
end Go.Proofs.Ytadndhgebgjlaaa
