/- messaging.Reply; The reference's Reply; messaging.Open; The reference's Open; Plain: what was secured is read as it was -/
import Derived.Test.YtadndhgebgjlaaaPBg
import Derived.Test.YtadndhgebgjlaaaPBl
import Derived.Test.YtadndhgebgjlaaaPBm
set_option linter.unusedVariables false
set_option linter.unusedSimpArgs false
set_option maxRecDepth 100000
set_option maxHeartbeats 8000000
namespace Go.Proofs.Ytadndhgebgjlaaa
open Go.RowKit Go.Deep
def stN(st:Int):Ns:=.cons 153 (kV st) .nil .nil
def UU(k1 k2:List UInt8)(n st:Int):Except Int (List UInt8)->Int×List UInt8×Int×List UInt8×List UInt8×Int
 |.error e=>(e,[],0,[],[],0)
 |.ok b=>(0,b,st,k1,k2,n+1)
def qa(k1 k2:List UInt8)(n:Int)(d:List UInt8)(st:Int):Int×List UInt8×Int×List UInt8×List UInt8×Int:=
 if vS k1 k2 n=false then(14,[],0,[],[],0)
 else if vR d st=false then(14,[],0,[],[],0)
 else if n=1099511627776 then(3,[],0,[],[],0)
 else UU k1 k2 n st (qb k2 (xF (n+1)) [] ((j6 k1 (xF (n+1)) d).app (stN st)))
theorem j19:jW 153:=⟨by decide,by decide⟩
theorem ZF(k1 N d:List UInt8)(st:Int)(hd:d.length<=4096):((j6 k1 N d).app (stN st)).enc.length<=10000:=by
 rw [qj,List.length_append]
 have h1:(stN st).enc.length<=100:=by
  refine Nat.le_trans (qP 153 _ .nil (by decide) (by decide) (by simp [kV])) ?_
  simp [kV,Ns.enc]
 have h2:(j6 k1 N d).enc.length<=5000:=by
  unfold j6
  split
  ·simp [Ns.enc]
  ·have hl:=zl k1 (qZ k1 N) d
   have hp:=kP d.length
   refine Nat.le_trans (qP 135 _ .nil (by decide) (by decide) (by simp;omega)) ?_
   simp [Ns.enc]
   omega
 omega
theorem Y9{a b c d:Value}(h:Value.tuple #[a,b]=.tuple #[c,d]):a=c:=by
 injection h with h
 have:=congrArg (fun x:Array Value=>x[0]?) h
 simpa using this
theorem ZD{w:World}{base base':Nat}{o:Value}{L:Ns}(h:OwnN w base' o L)(hb:base<=base'):OwnN w base o L:=by
 obtain⟨xs,h1,h2⟩:=h
 refine⟨xs,⟨h1.1,?_⟩,h2.keep (fun b hs _=>⟨rfl,hs.1,hs.2.1,Nat.le_trans hb hs.2.2⟩) L xs⟩
 rcases h1.2 with h0|⟨g,cap,cur,hv,hb',r⟩
 ·exact .inl h0
 ·exact .inr ⟨g,cap,cur,hv,Nat.le_trans hb hb',r⟩
theorem Ux{op:Oper}{a:Act}{w:World}{K:Act->World->Prop}{Q:Exit->Act->World->Prop}(s x:Operand)
 (ho:op.op=.call {callee:=.builtin .append,args:=#[s,x],argTypes:=#[58,58]})
 (base:Nat) (o:Value) (L:Ns) (hs:a.eval s=o) (hown:OwnN w base o L) (t:Int) (v:List UInt8) (k:Ns) (xv yv:Value) (ty:TypeId) (g:Nat) (hx:a.eval x=.slice (some ⟨g,0,none⟩) 1 1) (hg:g=w.heap.size)
 (hi:jW t) (hv:BsS w (zI base w o) xv v) (hk:NsS w (zI base w o) yv k) (hb:L.len<=100000000000) (hbase:base<=w.heap.size)
 (h:∀o' w',Yt w w' base o o' (L.app (.cons t v k .nil))->K (a.put op.dst o') w'):Oper.wp Try.prog op a (w.alloc (.cells #[.int .i64 t,xv,yv] ty)) K Q:=by
 subst hg
 have hkX:∀b,zI base w o b->b<w.heap.size->(w.alloc (.cells #[.int .i64 t,xv,yv] ty)).heap[b]?=w.heap[b]?/\V8 base (fun _=>False) (w.alloc (.cells #[.int .i64 t,xv,yv] ty)) o b:=fun b hs hl=>
  ⟨Below.heap_alloc w _ b hl,⟨iZ hl (by simp),hs.2⟩,fun h=>h⟩
 have hX:OwnX (w.alloc (.cells #[.int .i64 t,xv,yv] ty)) base (fun _=>False) o L:=by
  obtain⟨xs,h1,h2⟩:=hown
  exact⟨xs,World.ownsRow.alloc h1 _,h2.keep hkX L xs⟩
 have hE:EachN (w.alloc (.cells #[.int .i64 t,xv,yv] ty)) (V8 base (fun _=>False) (w.alloc (.cells #[.int .i64 t,xv,yv] ty)) o) (.cons t v k .nil) [.int .i64 t,xv,yv]:=⟨xv,yv,[],rfl,hi,hv.keep hkX,hk.keep hkX,rfl⟩
 refine Uy s x ho base (fun _=>False) o L (.cons t v k .nil) hs hX w.heap.size 1 [.int .i64 t,xv,yv] #[.int .i64 t,xv,yv] ty (0,0) hx rfl (iN) rfl hE (by simp [Ns.len];omega) (Nat.le_trans hbase (by simp)) (fun h=>h) fun o' w' hG=>h o' w' ⟨hG.1.own,(iB.alloc hbase _).trans hG.2.1,?_⟩
 exact⟨hG.2.2.1.os,hG.2.2.1.tape,hG.2.2.1.output,Nat.le_trans (by simp) hG.2.2.1.size,fun b hb' hne=>(hG.2.2.1.block b (by simp;omega) hne).trans (Below.heap_alloc w _ b hb')⟩
theorem Xd(vs vc:Value)(k1 k2:List UInt8)(n:Int)(d:List UInt8)(st:Int)(w:World)(hs:xk w (·<w.heap.size) vs k1 k2 n)(hc:Yw w (·<w.heap.size) vc d st):
 Calls Try.prog 18 #[vs,vc] w (UE (qa k1 k2 n d st) w):=by
 obtain⟨ua,ub,rfl,ha,hb⟩:=hs
 obtain⟨ud,rfl,hd⟩:=hc
 obtain⟨A1,n1,d1,rfl⟩:=ha.form
 obtain⟨A2,n2,d2,rfl⟩:=hb.form
 obtain⟨A3,n3,d3,rfl⟩:=hd.form
 obtain rfl:=Bs.lenEq ha
 obtain rfl:=Bs.lenEq hb
 obtain rfl:=Bs.lenEq hd
 obtain⟨ws,hws⟩:∃ws,ws=w.alloc (.cells #[.slice A1 k1.length d1,.slice A2 k2.length d2,.int .i64 n] 29):=⟨_,rfl⟩
 obtain⟨wq,hwq⟩:∃wq,wq=ws.alloc (.cells #[.slice A3 d.length d3,.int .i64 st] 45):=⟨_,rfl⟩
 obtain⟨w2,hw2⟩:∃w2,w2=wq.alloc (.cells #[.slice none 0 0,.int .i64 0] 45):=⟨_,rfl⟩
 obtain⟨wa,hwa⟩:∃wa,wa=w2.alloc (.cells #[.slice none 0 0,.slice none 0 0,.int .i64 0] 29):=⟨_,rfl⟩
 have zs:ws.heap.size=w.heap.size+1:=by rw [hws];simp
 have zq:wq.heap.size=w.heap.size+1+1:=by rw [hwq];simp [zs]
 have z2:w2.heap.size=w.heap.size+1+1+1:=by rw [hw2];simp [zq]
 have za:wa.heap.size=w.heap.size+1+1+1+1:=by rw [hwa];simp [z2]
 have b1:Below w.heap.size w ws:=by rw [hws];exact iA
 have b2:Below ws.heap.size ws wq:=by rw [hwq];exact iA
 have b3:Below wq.heap.size wq w2:=by rw [hw2];exact iA
 have b4:Below w2.heap.size w2 wa:=by rw [hwa];exact iA
 have q1:ws.heap[w.heap.size]?=some (.cells #[.slice A1 k1.length d1,.slice A2 k2.length d2,.int .i64 n] 29 (0,0)):=by rw [hws];exact iN
 have q2:wq.heap[w.heap.size+1]?=some (.cells #[.slice A3 d.length d3,.int .i64 st] 45 (0,0)):=by rw [hwq,<-zs];exact iN
 have q3:w2.heap[(w.heap.size+1+1)]?=some (.cells #[.slice none 0 0,.int .i64 0] 45 (0,0)):=by rw [hw2,<-zq];exact iN
 have q4:wa.heap[(w.heap.size+1+1+1)]?=some (.cells #[.slice none 0 0,.slice none 0 0,.int .i64 0] 29 (0,0)):=by rw [hwa,<-z2];exact iN
 have e3:=(b4.block (w.heap.size+1+1) (by omega)).trans q3
 have e2:=(b4.block (w.heap.size+1) (by omega)).trans ((b3.block (w.heap.size+1) (by omega)).trans q2)
 have e1:=(b4.block w.heap.size (by omega)).trans ((b3.block w.heap.size (by omega)).trans ((b2.block w.heap.size (by omega)).trans q1))
 have hB:Below w.heap.size w wa:=b1.trans ((b2.trans ((b3.trans (b4.mono b3.size)).mono b2.size)).mono b1.size)
 have R2:Hid (∀W,Below wa.heap.size wa W->W.heap[(w.heap.size+1+1)]?=some (.cells #[.slice none 0 0,.int .i64 0] 45 (0,0))):=iH fun W h=>(h.block _ (by omega)).trans e3
 have R3:Hid (∀W,Below wa.heap.size wa W->W.heap[(w.heap.size+1+1+1)]?=some (.cells #[.slice none 0 0,.slice none 0 0,.int .i64 0] 29 (0,0))):=iH fun W h=>(h.block _ (by omega)).trans q4
 have CS:Hid (∀W,Below wa.heap.size wa W->W.cell? ⟨w.heap.size,0,none⟩=some (.slice A1 k1.length d1)/\W.cell? ⟨w.heap.size,1,none⟩=some (.slice A2 k2.length d2)/\W.cell? ⟨w.heap.size,2,none⟩=some (.int .i64 n)):=iH fun W h=>(by obtain⟨a,b,c,_⟩:=j9 ((h.block w.heap.size (by omega)).trans e1);exact⟨a,b,c⟩)
 have CC:Hid (∀W,Below wa.heap.size wa W->W.cell? ⟨w.heap.size+1,0,none⟩=some (.slice A3 d.length d3)/\W.cell? ⟨w.heap.size+1,1,none⟩=some (.int .i64 st)):=iH fun W h=>(by obtain⟨a,b,_⟩:=jk ((h.block (w.heap.size+1) (by omega)).trans e2);exact⟨a,b⟩)
 have RC:Hid (∀W,Below wa.heap.size wa W->W.heap[w.heap.size+1]?=some (.cells #[.slice A3 d.length d3,.int .i64 st] 45 (0,0))):=iH fun W h=>(h.block _ (by omega)).trans e2
 have HZA:=iH za
 have HB:=iH hB;have HWS:=iH hws;have HWC:=iH hwq;have HW2:=iH hw2;have HW3:=iH hwa
 have H1:=iH (Bs.lift ha hB);have H2:=iH (Bs.lift hb hB);have H3:=iH (Bs.lift hd hB)
 have HSV:Hid (xk wa (·<wa.heap.size) (.agg #[.slice A1 k1.length d1,.slice A2 k2.length d2,.int .i64 n]) k1 k2 n):=iH ⟨_,_,rfl,H1.out,H2.out⟩
 have HCV:Hid (∀W,Below wa.heap.size wa W->Yw W (·<W.heap.size) (.agg #[.slice A3 d.length d3,.int .i64 st]) d st):=iH fun W h=>⟨_,rfl,H3.out.lift h⟩
 clear ha hb hd hws hwq hw2 hwa zs zq z2 za b1 b2 b3 b4 q1 q2 q3 q4 e1 e2 e3 hB
 by_cases v1:vS k1 k2 n=true
 ·have HVS:=iH v1
  by_cases v2:vR d st=true
  ·have HVC:=iH v2
   have VS:=iH (of_decide_eq_true v1)
   have VC:=iH (of_decide_eq_true v2)
   clear v1 v2
   by_cases g3:n=1099511627776
   ·have t3:(n==1099511627776)=true:=by simp [g3]
    have R:Hid (qa k1 k2 n d st=(3,[],0,[],[],0)):=iH (by unfold qa;rw [iF (by rw [HVS.out];simp),iF (by rw [HVC.out];simp),iT g3])
    clear g3
    go_enter Try.func18,Try.ntmps18
    go_upto_region 1 with fail
    rw [<-HWS.out,<-HWC.out,<-HW2.out,<-HW3.out]
    obtain⟨f0,f1,f2⟩:=CS.out wa iB
    go_upto_region 4 with (first
     |(go_at_call 41;have M1:=HBV;go_loud(refine(kZ _ d st wv (HCV.out wv HBV.out)).mono ?_;rw [HVC.out];rintro e wc ⟨rfl,hb⟩;have hb2:=HBV.out.trans (hb.mono HBV.out.size);have HBC:=iH hb2;clear g0 g1;obtain⟨g0,g1⟩:=CC.out wc hb2;clear f0 f1 f2;obtain⟨f0,f1,f2⟩:=CS.out wc hb2;clear hb hb2))
     |(go_at_call 25;refine(jd _ k1 k2 n _ wa HSV.out).mono ?_;rw [HVS.out];rintro e wv ⟨rfl,hb⟩;have HBV:=iH hb;obtain⟨g0,g1⟩:=CC.out wv hb;clear hb))
    clear f0 f1 f2 g0 g1
    obtain⟨r0,r1,rf⟩:=jk (R2.out wc HBC.out);have rf0:=rf 0;have rf1:=rf 1;clear rf;obtain⟨s0,s1,s2,sf⟩:=j9 (R3.out wc HBC.out);have sf0:=sf 0;have sf1:=sf 1;have sf2:=sf 2;clear sf
    go_wp2_with fail
    obtain⟨q2,q3⟩:=ju (R2.out wc HBC.out) (R3.out wc HBC.out) (.slice none 0 0) (.int .i64 0) (.slice none 0 0) (.slice none 0 0) (.int .i64 0)
    obtain⟨y0,y1,_⟩:=jk q2
    obtain⟨x0,x1,x2,_⟩:=j9 q3
    refine bodyPost_ret (v:=.tuple #[.agg #[.slice none 0 0,.int .i64 0],.agg #[.slice none 0 0,.slice none 0 0,.int .i64 0],.int .i64 3]) (by simp only [xd,set3]at y0 y1 x0 x1 x2;simp [results,Try.results18,go_sem,y0,y1,x0,x1,x2]) rfl ?_
    rw [R.out]
    exact⟨_,_,rfl,⟨_,rfl,BsS.nil0 _ _⟩,⟨_,_,rfl,BsS.nil0 _ _,BsS.nil0 _ _⟩,jo (HB.out.trans (Below.mono HBC.out HB.out.size)) (by omega)⟩
   ·have t3:(n==1099511627776)=false:=by simpa using g3
    have LK1:Hid (k1.length=16):=iH VS.out.1
    have LK2:Hid (k2.length=16):=iH VS.out.2.1
    have LD:Hid (d.length<=4096):=iH VC.out.1
    obtain⟨N,hN⟩:∃N,xF (n+1)=N:=⟨_,rfl⟩
    have LN:Hid (N.length=16):=iH (by rw [<-hN]<;>rfl)
    have HNX:Hid (∀(va vb:Value) (w:World),Bs w w.heap.size va k1->Bs w w.heap.size vb k2->Calls Try.prog 27 #[.agg #[va,vb,.int .i64 n]] w fun e w'=>∃x y z,e=.returned (.agg #[x,y,.int .i64 (n+1),z])/\Bs w' w'.heap.size x k1/\Bs w' w'.heap.size y k2/\Bs w' w'.heap.size z N/\Below w.heap.size w w'):=iH (fun va vb w h1 h2=>by rw [<-hN];exact xD va vb k1 k2 n VS.out.2.2.1 VS.out.2.2.2 w h1 h2)
    obtain⟨X2,hX2⟩:∃X,kV st=X:=⟨_,rfl⟩
    obtain⟨LC,hLC⟩:∃L,(j6 k1 N d).app (.cons 153 X2 .nil .nil)=L:=⟨_,rfl⟩
    have HLC:=iH hLC
    have HST:Hid (∀w,Calls Try.prog 42 #[.int .i64 st] w fun e w'=>∃A c,e=.returned (.agg #[.int .i64 153,.slice A X2.length c,.slice none 0 0])/\BsS w' (New w w') (.slice A X2.length c) X2/\Below w.heap.size w w'):=iH (fun w=>by rw [<-hX2];exact yd st VC.out.2.1 VC.out.2.2 w)
    have HCL:Hid ((j6 k1 N d).len<=100000000000):=iH (by unfold j6;split<;>simp [Ns.len])
    have LLA:Hid (LC.all<=10):=iH (by rw [<-hLC,Ns.all_snoc];unfold j6;split<;>simp [Ns.all])
    have LLE:Hid (LC.enc.length<=10000):=iH (by
     have h:=ZF k1 N d st LD.out
     unfold stN at h
     rwa [hX2,hLC]at h)
    obtain⟨r,hr⟩:∃r,qb k2 N [] LC=r:=⟨_,rfl⟩
    have R:Hid (qa k1 k2 n d st=UU k1 k2 n st r):=iH (by
     unfold qa
     rw [iF (by rw [HVS.out];simp),iF (by rw [HVC.out];simp),iF g3,hN]
     unfold stN
     rw [hX2,hLC,hr])
    have HRE:=iH hr
    clear hN hX2 hLC hr g3
    go_enter Try.func18,Try.ntmps18
    go_upto_region 1 with fail
    rw [<-HWS.out,<-HWC.out,<-HW2.out,<-HW3.out]
    obtain⟨f0,f1,f2⟩:=CS.out wa iB
    go_upto_region 6 with (first
     |(go_at_call 27;refine(HNX.out _ _ wc (H1.out.lift HBC.out) (H2.out.lift HBC.out)).mono ?_;rintro e wn ⟨x,y,z,rfl,hx,hy,hz,hb⟩;obtain⟨xA,xc,hp⟩:=Bs.formL hx;subst hp;obtain⟨yA,yc,hp⟩:=Bs.formL hy;subst hp;obtain⟨zA,zc,hp⟩:=Bs.formL hz;subst hp;have HX:=iH hx;have HY:=iH hy;have HZ:=iH hz;have HBN:=iH (HBC.out.trans (hb.mono HBC.out.size));obtain⟨u0,u1,u2,u3,uf⟩:=jz (qG wn);have uf0:=uf 0;have uf1:=uf 1;have uf2:=uf 2;have uf3:=uf 3;clear uf hx hy hz hb)
     |(go_at_call 41;have M1:=HBV;go_loud(refine(kZ _ d st wv (HCV.out wv HBV.out)).mono ?_;rw [HVC.out];rintro e wc ⟨rfl,hb⟩;have hb2:=HBV.out.trans (hb.mono HBV.out.size);have HBC:=iH hb2;clear g0 g1;obtain⟨g0,g1⟩:=CC.out wc hb2;clear f0 f1 f2;obtain⟨f0,f1,f2⟩:=CS.out wc hb2;clear hb hb2))
     |(go_at_call 25;refine(jd _ k1 k2 n _ wa HSV.out).mono ?_;rw [HVS.out];rintro e wv ⟨rfl,hb⟩;have HBV:=iH hb;obtain⟨g0,g1⟩:=CC.out wv hb;clear hb))
    clear u0 u1 u2 u3 uf0 uf1 uf2 uf3 g0 g1 f0 f1 f2 t3
    obtain⟨wu,hwu⟩:∃wu,wu=wn.alloc (.cells #[.slice xA k1.length xc,.slice yA k2.length yc,.int .i64 (n+1),.slice zA N.length zc] 56):=⟨_,rfl⟩
    rw [<-hwu]
    have hbu:Below wn.heap.size wn wu:=by rw [hwu];exact iA
    have hur:wu.heap[wn.heap.size]?=some (.cells #[.slice xA k1.length xc,.slice yA k2.length yc,.int .i64 (n+1),.slice zA N.length zc] 56 (0,0)):=by rw [hwu];exact iN
    have hult:=(iG hur)
    have CU:Hid (∀W,Below wu.heap.size wu W->W.cell? ⟨wn.heap.size,0,none⟩=some (.slice xA k1.length xc)/\W.cell? ⟨wn.heap.size,1,none⟩=some (.slice yA k2.length yc)/\W.cell? ⟨wn.heap.size,2,none⟩=some (.int .i64 (n+1))/\W.cell? ⟨wn.heap.size,3,none⟩=some (.slice zA N.length zc)):=iH fun W h=>(by obtain⟨a,b,c,d,_⟩:=jz ((h.block _ hult).trans hur);exact⟨a,b,c,d⟩)
    have RU:Hid (∀W,Below wu.heap.size wu W->W.heap[wn.heap.size]?=some (.cells #[.slice xA k1.length xc,.slice yA k2.length yc,.int .i64 (n+1),.slice zA N.length zc] 56 (0,0))):=iH fun W h=>(h.block _ hult).trans hur
    have HBAU:=iH (HBN.out.trans (hbu.mono HBN.out.size))
    have XU:=iH (HX.out.lift hbu);have YU:=iH (HY.out.lift hbu);have ZU:=iH (HZ.out.lift hbu);have DU:=iH (H3.out.lift HBAU.out)
    clear hwu hbu hur hult
    have HSL:Hid (∀(oA:Option Addr) (oc:Nat) (w:World),Below wu.heap.size wu w->OwnN w wu.heap.size (.slice oA LC.len oc) LC->Calls Try.prog 30 #[.agg #[.slice xA k1.length xc,.slice yA k2.length yc,.int .i64 (n+1),.slice zA N.length zc],.slice none 0 0,.slice oA LC.len oc] w (Kv r wu.heap.size (.slice oA LC.len oc) w)):=iH (fun oA oc w h1 h2=>by rw [<-HRE.out];exact K1 (.slice xA k1.length xc) (.slice yA k2.length yc) (.slice zA N.length zc) (.slice none 0 0) (.slice oA LC.len oc) (n+1) k2 N [] LC LK2.out LN.out (by simp) LLA.out LLE.out wu.heap.size w (YU.out.lift h1) (ZU.out.lift h1) (BsS.nil0 _ _) h2 h1.size)
    refine jc 16 [some 30,some 31,some 32,some 33,some 34,some 35,some 36,some 37,some 38,some 39,some 40,some 29,some 41,some 42,some 8,some 9] [[],[],[],[2],[1,2,3],[],[5],[1,2,3,4,5,6],[1,2,3,4,5,6,7],[1,2,3,4,5,6,7,8],[0,1,2,3,4,5,6,7,8,9],[0,1,2,3,4,5,6,7,8,9,10],[0,1,2,3,4,5,6,7,8,9,10,11],[0,1,2,3,4,5,6,7,8,9,10,11],[0,1,2,3,4,5,6,7,8,9,10,11,12],[0,1,2,3,4,5,6,7,8,9,10,11,12,13,14]]
     (JC [4,7,8,9,10] (fun k u w1=>Below wu.heap.size wu w1/\match k with
         |0=>True
         |1=>∃A c,u 0=.slice A (j6 k1 N d).len c/\OwnN w1 wu.heap.size (.slice A (j6 k1 N d).len c) (j6 k1 N d)
         |2=>∃A c xA xc,u 0=.slice A (j6 k1 N d).len c/\OwnN w1 wu.heap.size (.slice A (j6 k1 N d).len c) (j6 k1 N d)/\u 1=.agg #[.int .i64 153,.slice xA X2.length xc,.slice none 0 0]/\BsS w1 (zI wu.heap.size w1 (.slice A (j6 k1 N d).len c)) (.slice xA X2.length xc) X2
         |3=>∃A c xA xc W,u 0=.slice A (j6 k1 N d).len c/\OwnN W wu.heap.size (.slice A (j6 k1 N d).len c) (j6 k1 N d)/\BsS W (zI wu.heap.size W (.slice A (j6 k1 N d).len c)) (.slice xA X2.length xc) X2/\Below wu.heap.size wu W/\u 2=.slice (some ⟨W.heap.size,0,none⟩) 1 1/\w1=W.alloc (.cells #[.int .i64 153,.slice xA X2.length xc,.slice none 0 0] 63)
         |4=>∃A c,u 3=.slice A LC.len c/\OwnN w1 wu.heap.size (.slice A LC.len c) LC
         |_=>∃A c,u 4=.tuple #[.slice A (bytesOf r).length c,.int .i64 (jM r)]/\BsS w1 (New wu w1) (.slice A (bytesOf r).length c) (bytesOf r))) (fun _ _=>True)
     [fun v _=>v 0=.agg #[.slice xA k1.length xc,.slice yA k2.length yc,.int .i64 (n+1),.slice zA N.length zc],
      fun v _=>v 1=.agg #[.slice xA k1.length xc,.slice yA k2.length yc,.int .i64 (n+1),.slice zA N.length zc],
      fun v _=>v 2=.pointer (some ⟨w.heap.size+1,0,none⟩),
      fun v _=>v 3=.slice A3 d.length d3,
      fun v w1=>True,
      fun v _=>v 5=.pointer (some ⟨w.heap.size+1,1,none⟩),
      fun v _=>v 6=.int .i64 st,
      fun v w1=>True,
      fun v w1=>∃g,v 8=.slice (some ⟨g,0,none⟩) 1 1,
      fun v w1=>True,
      fun v w1=>True,
      fun v w1=>v 11=v 10,
      fun v w1=>∃a c,v 10=.tuple #[.slice a (bytesOf r).length c,.int .i64 (jM r)]/\v 12=.slice a (bytesOf r).length c,
      fun v w1=>v 13=.int .i64 (jM r),
      fun v w1=>∃a c,v 10=.tuple #[.slice a (bytesOf r).length c,.int .i64 (jM r)]/\v 14=.slice a (bytesOf r).length c,
      fun v w1=>v 15=.int .i64 (jM r)]
     (by kernel_rfl) (by kernel_rfl) (fun v=>JC.start ⟨iB.drew,trivial⟩) ?st6 ?steps6 ?tail6
    case st6=>
     exact(.cons (fun _ _ _ _ _ _ h=>h) (.cons (fun _ _ _ _ _ _ h=>h) (.cons (fun _ _ _ _ _ _ h=>h) (.cons (fun _ _ _ _ _ _ h=>h) (.cons (fun _ _ _ _ _ _ h=>h) (.cons (fun _ _ _ _ _ _ h=>h) (.cons (fun _ _ _ _ _ _ h=>h) (.cons (fun _ _ _ _ _ _ h=>h) (.cons (fun _ _ _ _ _ _ h=>h) (.cons (fun _ _ _ _ _ _ h=>h) (.cons (fun _ _ _ _ _ _ h=>h) (.cons (fun _ _ _ _ _ _ h=>h) (.cons (fun _ _ _ _ _ _ h=>h) (.cons (fun _ _ _ _ _ _ h=>h) (.cons (fun _ _ _ _ _ _ h=>h) (.cons (fun _ _ _ _ _ _ h=>h) .nil))))))))))))))))
    case steps6=>
     simp only [iI,iK]
     refine(.cons ?_ (.cons ?_ (.cons ?_ (.cons ?_ (.cons ?_ (.cons ?_ (.cons ?_ (.cons ?_ (.cons ?_ (.cons ?_ (.cons ?_ (.cons ?_ (.cons ?_ (.cons ?_ (.cons ?_ (.cons ?_ .nil))))))))))))))))
     all_goals(intro L v w1 hJ hL hA hF K hK;simp only [ja,Act.put,iM,Nat.reduceAdd,iS,iC,iD]at hK |-)
     ·have hi:Below wu.heap.size wu w1:=(JC.inv (I:=fun w1=>Below wu.heap.size wu w1) (fun k u w1 h=>h.1) hJ)
      obtain⟨c0,c1,c2,c3⟩:=CU.out _ hi
      go_simp
      refine hK _ _ (hJ.same 0 (by decide)) trivial ?_
      first|exact rfl|exact j4 _
     ·have hi:Below wu.heap.size wu w1:=(JC.inv (I:=fun w1=>Below wu.heap.size wu w1) (fun k u w1 h=>h.1) hJ)
      obtain⟨c0,c1,c2,c3⟩:=CU.out _ hi
      go_simp
      refine hK _ _ (hJ.same 1 (by decide)) trivial ?_
      first|exact rfl|exact j4 _
     ·go_simp
      refine hK _ _ (hJ.same 2 (by decide)) trivial ?_
      first|exact rfl|exact j4 _
     ·have e2:v 2=.pointer (some ⟨w.heap.size+1,0,none⟩):=hF 2 (hA 2 (by simp))
      have hi:Below wu.heap.size wu w1:=(JC.inv (I:=fun w1=>Below wu.heap.size wu w1) (fun k u w1 h=>h.1) hJ)
      obtain⟨c0,c1⟩:=CC.out _ (HBAU.out.trans (hi.mono HBAU.out.size))
      simp only [e2]at hK
      go_simp
      refine hK _ _ (hJ.same 3 (by decide)) trivial ?_
      first|exact rfl|exact j4 _
     ·have e1:v 1=.agg #[.slice xA k1.length xc,.slice yA k2.length yc,.int .i64 (n+1),.slice zA N.length zc]:=hF 1 (hA 1 (by simp))
      have e3:v 3=.slice A3 d.length d3:=hF 3 (hA 3 (by simp))
      simp only [e1,e3]at hK
      have hi:Below wu.heap.size wu w1:=(JC.inv (I:=fun w1=>Below wu.heap.size wu w1) (fun k u w1 h=>h.1) hJ)
      have hG:=hJ.at_ 0 (by decide) hL (.inl rfl)
      go_simp
      refine(yN _ _ _ _ _ k1 N d LK1.out LN.out LD.out w1 (XU.out.lift hi) (ZU.out.lift hi) (DU.out.lift hi)).mono ?_
      rintro e wk ⟨o,rfl,ho,hb⟩
      obtain⟨oA,oc,hp⟩:=ho.form
      subst hp
      refine hK _ _ (hJ.next 0 (by decide) hL (.inl rfl) (by decide) ?_) trivial trivial
      exact⟨hi.trans (hb.mono hi.size),oA,oc,rfl,ZD ho hi.size⟩
     ·go_simp
      refine hK _ _ (hJ.same 5 (by decide)) trivial ?_
      first|exact rfl|exact j4 _
     ·have e5:v 5=.pointer (some ⟨w.heap.size+1,1,none⟩):=hF 5 (hA 5 (by simp))
      have hi:Below wu.heap.size wu w1:=(JC.inv (I:=fun w1=>Below wu.heap.size wu w1) (fun k u w1 h=>h.1) hJ)
      obtain⟨c0,c1⟩:=CC.out _ (HBAU.out.trans (hi.mono HBAU.out.size))
      simp only [e5]at hK
      go_simp
      refine hK _ _ (hJ.same 6 (by decide)) trivial ?_
      first|exact rfl|exact j4 _
     ·have e6:v 6=.int .i64 st:=hF 6 (hA 6 (by simp))
      simp only [e6]at hK
      have hG:=hJ.at_ 1 (by decide) hL (.inr (hA _ (by simp)))
      obtain⟨hi,oA,oc,hu,ho⟩:=hG
      go_simp
      refine(HST.out w1).mono ?_
      rintro e wk ⟨xA,xc,rfl,hx,hb⟩
      refine hK _ _ (hJ.next 1 (by decide) hL (.inr (hA _ (by simp))) (by decide) ?_) trivial trivial
      exact⟨hi.trans (hb.mono hi.size),oA,oc,xA,xc,hu,ho.below hb,rfl,zP ho hx hb hi.size⟩
     ·have hG:=hJ.at_ 2 (by decide) hL (.inr (hA _ (by simp)))
      obtain⟨hi,oA,oc,xA,xc,hu,ho,hu1,hx⟩:=hG
      have e7:v 7=.agg #[.int .i64 153,.slice xA X2.length xc,.slice none 0 0]:=hu1
      simp only [e7]at hK
      go_simp
      refine hK _ _ (hJ.next 2 (by decide) hL (.inr (hA _ (by simp))) (by decide) ?_) trivial ⟨_,rfl⟩
      exact⟨hi.alloc hi.size _,oA,oc,xA,xc,w1,hu,ho,hx,hi,rfl,rfl⟩
     ·have hG:=hJ.at_ 3 (by decide) hL (.inr (hA _ (by simp)))
      obtain⟨hi,oA,oc,xA,xc,W,hu,ho,hx,hiW,hu2,hw⟩:=hG
      have e4:v 4=.slice oA (j6 k1 N d).len oc:=hu
      have e8:v 8=.slice (some ⟨W.heap.size,0,none⟩) 1 1:=hu2
      simp only [e4,e8]at hK |-
      have hn3:∀w2 (y:Value),(fun k u w1=>Below wu.heap.size wu w1/\match k with
       |0=>True
       |1=>∃A c,u 0=.slice A (j6 k1 N d).len c/\OwnN w1 wu.heap.size (.slice A (j6 k1 N d).len c) (j6 k1 N d)
       |2=>∃A c xA xc,u 0=.slice A (j6 k1 N d).len c/\OwnN w1 wu.heap.size (.slice A (j6 k1 N d).len c) (j6 k1 N d)/\u 1=.agg #[.int .i64 153,.slice xA X2.length xc,.slice none 0 0]/\BsS w1 (zI wu.heap.size w1 (.slice A (j6 k1 N d).len c)) (.slice xA X2.length xc) X2
       |3=>∃A c xA xc W,u 0=.slice A (j6 k1 N d).len c/\OwnN W wu.heap.size (.slice A (j6 k1 N d).len c) (j6 k1 N d)/\BsS W (zI wu.heap.size W (.slice A (j6 k1 N d).len c)) (.slice xA X2.length xc) X2/\Below wu.heap.size wu W/\u 2=.slice (some ⟨W.heap.size,0,none⟩) 1 1/\w1=W.alloc (.cells #[.int .i64 153,.slice xA X2.length xc,.slice none 0 0] 63)
       |4=>∃A c,u 3=.slice A LC.len c/\OwnN w1 wu.heap.size (.slice A LC.len c) LC
       |_=>∃A c,u 4=.tuple #[.slice A (bytesOf r).length c,.int .i64 (jM r)]/\BsS w1 (New wu w1) (.slice A (bytesOf r).length c) (bytesOf r)) 4 (fun j=>if j<3 then v ([4,7,8,9,10].getD j 0)else if j=3 then y else undef) w2->JC [4,7,8,9,10] (fun k u w1=>Below wu.heap.size wu w1/\match k with
       |0=>True
       |1=>∃A c,u 0=.slice A (j6 k1 N d).len c/\OwnN w1 wu.heap.size (.slice A (j6 k1 N d).len c) (j6 k1 N d)
       |2=>∃A c xA xc,u 0=.slice A (j6 k1 N d).len c/\OwnN w1 wu.heap.size (.slice A (j6 k1 N d).len c) (j6 k1 N d)/\u 1=.agg #[.int .i64 153,.slice xA X2.length xc,.slice none 0 0]/\BsS w1 (zI wu.heap.size w1 (.slice A (j6 k1 N d).len c)) (.slice xA X2.length xc) X2
       |3=>∃A c xA xc W,u 0=.slice A (j6 k1 N d).len c/\OwnN W wu.heap.size (.slice A (j6 k1 N d).len c) (j6 k1 N d)/\BsS W (zI wu.heap.size W (.slice A (j6 k1 N d).len c)) (.slice xA X2.length xc) X2/\Below wu.heap.size wu W/\u 2=.slice (some ⟨W.heap.size,0,none⟩) 1 1/\w1=W.alloc (.cells #[.int .i64 153,.slice xA X2.length xc,.slice none 0 0] 63)
       |4=>∃A c,u 3=.slice A LC.len c/\OwnN w1 wu.heap.size (.slice A LC.len c) LC
       |_=>∃A c,u 4=.tuple #[.slice A (bytesOf r).length c,.int .i64 (jM r)]/\BsS w1 (New wu w1) (.slice A (bytesOf r).length c) (bytesOf r)) (jl L 9) (jw v 9 y) w2:=fun w2 y hg=>(hJ.next 3 (by decide) hL (.inr (hA _ (by simp))) (by decide) hg)
      subst hw
      rw [iT (show Region.wanted _ _=true from rfl)]
      refine Ux (.tmp 34) (.tmp 38) rfl wu.heap.size (.slice oA (j6 k1 N d).len oc) (j6 k1 N d) (by simp [Act.eval]) ho 153 X2 .nil (.slice xA X2.length xc) (.slice none 0 0) _ W.heap.size (by simp [Act.eval]) rfl j19 hx (NsS.nil0 _ _) HCL.out hiW.size ?_
      intro o2 w2 hg2
      rw [HLC.out]at hg2
      obtain⟨oA2,oc2,hp⟩:=hg2.1.form
      subst hp
      exact hK _ _ (hn3 _ _ ⟨hiW.trans hg2.2.1,oA2,oc2,rfl,hg2.1⟩) trivial trivial
     ·have e0:v 0=.agg #[.slice xA k1.length xc,.slice yA k2.length yc,.int .i64 (n+1),.slice zA N.length zc]:=hF 0 (hA 0 (by simp))
      simp only [e0]at hK
      have hG:=hJ.at_ 4 (by decide) hL (.inr (hA _ (by simp)))
      obtain⟨hi,oA,oc,hu,ho⟩:=hG
      have e9:v 9=.slice oA LC.len oc:=hu
      simp only [e9]at hK |-
      go_simp
      refine(HSL.out oA oc w1 hi ho).mono ?_
      rintro e w5 ⟨v5,rfl,hs,hb,_⟩
      obtain⟨A5,C5,hv5⟩:=Bs.formL hs
      subst hv5
      refine hK _ _ (hJ.next 4 (by decide) hL (.inr (hA _ (by simp))) (by decide) ?_) trivial trivial
      exact⟨hi.trans hb,A5,C5,rfl,BsS.keep hs fun g hg _=>⟨rfl,Nat.le_trans hi.size hg.1,hg.2⟩⟩
     ·have hq:=hJ
      go_simp
      exact hK _ _ (hJ.same 11 (by decide)) trivial rfl
     ·obtain⟨_,a,c,hu,_⟩:=hJ.fin (fun j hj=>by have hj:j<5:=hj;rcases(by omega:j=0\/j=1\/j=2\/j=3\/j=4)with rfl|rfl|rfl|rfl|rfl<;>exact hA _ (by simp))
      have e10:v 10=.tuple #[.slice a (bytesOf r).length c,.int .i64 (jM r)]:=hu
      have e11:v 11=v 10:=hF 11 (hA 11 (by simp))
      rw [e10]at e11
      simp only [e10,e11]at hK
      go_simp
      exact hK _ _ (hJ.same 12 (by decide)) trivial ⟨a,c,e10,rfl⟩
     ·obtain⟨_,a,c,hu,_⟩:=hJ.fin (fun j hj=>by have hj:j<5:=hj;rcases(by omega:j=0\/j=1\/j=2\/j=3\/j=4)with rfl|rfl|rfl|rfl|rfl<;>exact hA _ (by simp))
      have e10:v 10=.tuple #[.slice a (bytesOf r).length c,.int .i64 (jM r)]:=hu
      have e11:v 11=v 10:=hF 11 (hA 11 (by simp))
      rw [e10]at e11
      simp only [e10,e11]at hK
      go_simp
      exact hK _ _ (hJ.same 13 (by decide)) trivial rfl
     ·obtain⟨a,c,e10,e12⟩:∃a c,v 10=.tuple #[.slice a (bytesOf r).length c,.int .i64 (jM r)]/\v 12=.slice a (bytesOf r).length c:=hF 12 (hA 12 (by simp))
      simp only [e10,e12]at hK
      go_simp
      exact hK _ _ (hJ.same 14 (by decide)) trivial ⟨a,c,e10,rfl⟩
     ·have e13:v 13=.int .i64 (jM r):=hF 13 (hA 13 (by simp))
      simp only [e13]at hK
      go_simp
      exact hK _ _ (hJ.same 15 (by decide)) trivial rfl
    case tail6=>
     intro v w1 hJ hF
     have e0:v 0=.agg #[.slice xA k1.length xc,.slice yA k2.length yc,.int .i64 (n+1),.slice zA N.length zc]:=hF 0 (by simp)
     have e1:v 1=.agg #[.slice xA k1.length xc,.slice yA k2.length yc,.int .i64 (n+1),.slice zA N.length zc]:=hF 1 (by simp)
     have e2:v 2=.pointer (some ⟨w.heap.size+1,0,none⟩):=hF 2 (by simp)
     have e3:v 3=.slice A3 d.length d3:=hF 3 (by simp)
     have e5:v 5=.pointer (some ⟨w.heap.size+1,1,none⟩):=hF 5 (by simp)
     have e6:v 6=.int .i64 st:=hF 6 (by simp)
     simp only [iE,iJ,ja,Act.put,iM,Nat.reduceAdd,iS,iC,iD]
     obtain⟨a10,c10,e10,e14⟩:∃a c,v 10=.tuple #[.slice a (bytesOf r).length c,.int .i64 (jM r)]/\v 14=.slice a (bytesOf r).length c:=hF 14 (by simp)
     have e15:v 15=.int .i64 (jM r):=hF 15 (by simp)
     simp only [e14,e15]
     obtain⟨hb3,A5,c5,hu,hv⟩:=hJ.fin (fun j hj=>decide_eq_true (by have hj:j<5:=hj;rcases(by omega:j=0\/j=1\/j=2\/j=3\/j=4)with rfl|rfl|rfl|rfl|rfl<;>decide))
     have hu:v 10=.tuple #[.slice A5 (bytesOf r).length c5,.int .i64 (jM r)]:=hu
     have heq:Value.slice a10 (bytesOf r).length c10=.slice A5 (bytesOf r).length c5:=Y9 (e10.symm.trans hu)
     rw [heq]
     clear heq e10 hu
     have HV3:=iH (BsS.keep hv (w':=w1) (S':=(·<w1.heap.size)) fun g hg _=>⟨rfl,hg.2⟩)
     obtain⟨w3,rfl⟩:∃w3:World,w3=w1:=⟨_,rfl⟩
     have HBU3:=iH hb3
     have HB3:=iH (HBAU.out.trans (hb3.mono HBAU.out.size))
     obtain⟨vA,hvA⟩:∃vA,vA=A5:=⟨_,rfl⟩
     obtain⟨vc,hvc⟩:∃vc,vc=c5:=⟨_,rfl⟩
     rw [<-hvA,<-hvc]at HV3 |-
     clear hvA hvc hv hb3 hJ hF e0 e1 e2 e3 e5 e6 e14 e15
     rcases r with x|b
     ·have hx:=Kj HRE.out
      have t9:(x != 0)=true:=by simpa using hx
      have R9:Hid (qa k1 k2 n d st=(x,[],0,[],[],0)):=iH R.out
      rw [show jM (.error x:Except Int (List UInt8))=x from rfl]
      clear hx
      go_upto_region 8 with fail
      obtain⟨r0,r1,rf⟩:=jk (R2.out w3 HB3.out);have rf0:=rf 0;have rf1:=rf 1;clear rf;obtain⟨s0,s1,s2,sf⟩:=j9 (R3.out w3 HB3.out);have sf0:=sf 0;have sf1:=sf 1;have sf2:=sf 2;clear sf
      go_wp2_with fail
      obtain⟨q2,q3⟩:=ju (R2.out w3 HB3.out) (R3.out w3 HB3.out) (.slice none 0 0) (.int .i64 0) (.slice none 0 0) (.slice none 0 0) (.int .i64 0)
      obtain⟨y0,y1,_⟩:=jk q2
      obtain⟨x0,x1,x2,_⟩:=j9 q3
      refine bodyPost_ret (v:=.tuple #[.agg #[.slice none 0 0,.int .i64 0],.agg #[.slice none 0 0,.slice none 0 0,.int .i64 0],.int .i64 x]) (by simp only [xd,set3]at y0 y1 x0 x1 x2;simp [results,Try.results18,go_sem,y0,y1,x0,x1,x2]) rfl ?_
      rw [R9.out]
      exact⟨_,_,rfl,⟨_,rfl,BsS.nil0 _ _⟩,⟨_,_,rfl,BsS.nil0 _ _,BsS.nil0 _ _⟩,jo (HB.out.trans (Below.mono HB3.out HB.out.size)) (by omega)⟩
     ·rw [show jM (.ok b:Except Int (List UInt8))=0 from rfl,show bytesOf (.ok b:Except Int (List UInt8))=b from rfl]
      rw [show bytesOf (.ok b:Except Int (List UInt8))=b from rfl]at HV3
      have R9:Hid (qa k1 k2 n d st=(0,b,st,k1,k2,n+1)):=iH R.out
      go_upto_region 9 with fail
      obtain⟨wd,hwd⟩:∃wd,wd=w3.drew:=⟨_,rfl⟩
      have HWD:=iH hwd
      have RC4:Hid (wd.heap[w.heap.size+1]?=some (.cells #[.slice A3 d.length d3,.int .i64 st] 45 (0,0))):=iH (by rw [hwd];exact RC.out w3 HB3.out)
      have RU4:Hid (wd.heap[wn.heap.size]?=some (.cells #[.slice xA k1.length xc,.slice yA k2.length yc,.int .i64 (n+1),.slice zA N.length zc] 56 (0,0))):=iH (by rw [hwd];exact RU.out w3 HBU3.out)
      have RR4:Hid (wd.heap[(w.heap.size+1+1)]?=some (.cells #[.slice none 0 0,.int .i64 0] 45 (0,0))):=iH (by rw [hwd];exact R2.out w3 HB3.out)
      have RS4:Hid (wd.heap[(w.heap.size+1+1+1)]?=some (.cells #[.slice none 0 0,.slice none 0 0,.int .i64 0] 29 (0,0))):=iH (by rw [hwd];exact R3.out w3 HB3.out)
      have HB4:Hid (Below w.heap.size w wd):=iH (by rw [hwd];exact(HB.out.trans (HB3.out.mono HB.out.size)).drew)
      have V4:Hid (Bs wd wd.heap.size (.slice vA b.length vc) b):=iH (by rw [hwd];exact HV3.out)
      have X4:Hid (Bs wd wd.heap.size (.slice xA k1.length xc) k1):=iH (by rw [hwd];exact XU.out.lift HBU3.out.drew)
      have Y4:Hid (Bs wd wd.heap.size (.slice yA k2.length yc) k2):=iH (by rw [hwd];exact YU.out.lift HBU3.out.drew)
      have NE1:Hid (w.heap.size+1≠(w.heap.size+1+1)):=iH (by omega)
      have NE3:Hid (wn.heap.size≠(w.heap.size+1+1)):=iH (by have:=HZA.out;have:=HBN.out.size;omega)
      clear hwd
      refine jc 7 [some 48,some 49,some 50,some 51,some 52,some 53,none] [[],[],[1],[0,1,2],[],[4],[0,1,2,3]]
       (J2 wd (w.heap.size+1+1) 6 (.slice vA b.length vc) (.int .i64 st)) (fun _ _=>True)
       [fun v _=>v 0=.slice vA b.length vc,
        fun v _=>v 1=.pointer (some ⟨w.heap.size+1,1,none⟩),
        fun v _=>v 2=.int .i64 st,
        fun v _=>v 3=.agg #[.slice vA b.length vc,.int .i64 st],
        fun v _=>v 4=.pointer (some ⟨wn.heap.size,0,none⟩),
        fun v _=>v 5=.agg #[.slice xA k1.length xc,.slice yA k2.length yc,.int .i64 (n+1)],
        fun v w1=>True]
       (by kernel_rfl) (by kernel_rfl) (fun _=>HWD.out.symm.trans (iF (by decide)).symm) ?st9 ?steps9 ?tail9
      case st9=>
       exact(.cons (fun _ _ _ _ _ _ h=>h) (.cons (fun _ _ _ _ _ _ h=>h) (.cons (fun _ _ _ _ _ _ h=>h) (.cons (fun _ _ _ _ _ _ h=>h) (.cons (fun _ _ _ _ _ _ h=>h) (.cons (fun _ _ _ _ _ _ h=>h) (.cons (fun _ _ _ _ _ _ h=>h) .nil)))))))
      case steps9=>
       simp only [iI,iK]
       refine(.cons ?_ (.cons ?_ (.cons ?_ (.cons ?_ (.cons ?_ (.cons ?_ (.cons ?_ .nil)))))))
       all_goals(intro L v w1 hJ hL hA hF K hK;simp only [ja,Act.put,iM,Nat.reduceAdd,iS,iC,iD]at hK |-)
       ·go_simp
        refine hK _ _ (J2.step hJ 0 (by decide)) trivial ?_
        first|exact rfl|exact j4 _
       ·go_simp
        refine hK _ _ (J2.step hJ 1 (by decide)) trivial ?_
        first|exact rfl|exact j4 _
       ·have e1:v 1=.pointer (some ⟨w.heap.size+1,1,none⟩):=hF 1 (hA 1 (by simp))
        obtain⟨c0,c1,_⟩:=jk ((J2.row hJ NE1.out).trans RC4.out)
        simp only [e1]at hK
        go_simp
        refine hK _ _ (J2.step hJ 2 (by decide)) trivial ?_
        first|exact rfl|exact j4 _
       ·have e0:v 0=.slice vA b.length vc:=hF 0 (hA 0 (by simp))
        have e2:v 2=.int .i64 st:=hF 2 (hA 2 (by simp))
        simp only [e0,e2]at hK
        go_simp
        refine hK _ _ (J2.step hJ 3 (by decide)) trivial ?_
        first|exact rfl|exact j4 _
       ·go_simp
        refine hK _ _ (J2.step hJ 4 (by decide)) trivial ?_
        first|exact rfl|exact j4 _
       ·have e4:v 4=.pointer (some ⟨wn.heap.size,0,none⟩):=hF 4 (hA 4 (by simp))
        obtain⟨c0,c1,c2,c3,_⟩:=jz ((J2.row hJ NE3.out).trans RU4.out)
        simp only [e4]at hK
        go_simp
        refine hK _ _ (J2.step hJ 5 (by decide)) trivial ?_
        first|exact rfl|exact j4 _
       ·have e3:v 3=.agg #[.slice vA b.length vc,.int .i64 st]:=hF 3 (hA 3 (by simp))
        simp only [e3]at hK
        obtain rfl:=J2.old hJ hL
        obtain⟨r0,r1,rf⟩:=jk RR4.out
        have rf0:=rf 0;have rf1:=rf 1;clear rf
        have e3:v 3=.agg #[.slice vA b.length vc,.int .i64 st]:=hF 3 (hA 3 (by simp))
        simp only [e3]at hK |-
        have hJ2:=iH hJ;have hL2:=iH hL
        clear hJ hL hF hA e3
        go_simp
        exact hK undef _ (J2.store hJ2.out hL2.out) trivial trivial
      case tail9=>
       intro v w1 hJ hF
       have e0:v 0=.slice vA b.length vc:=hF 0 (by simp)
       have e1:v 1=.pointer (some ⟨w.heap.size+1,1,none⟩):=hF 1 (by simp)
       have e2:v 2=.int .i64 st:=hF 2 (by simp)
       have e3:v 3=.agg #[.slice vA b.length vc,.int .i64 st]:=hF 3 (by simp)
       have e4:v 4=.pointer (some ⟨wn.heap.size,0,none⟩):=hF 4 (by simp)
       have e5:v 5=.agg #[.slice xA k1.length xc,.slice yA k2.length yc,.int .i64 (n+1)]:=hF 5 (by simp)
       simp only [iE,iJ,ja,Act.put,iM,Nat.reduceAdd,iS,iC,iD]
       simp only [e5]
       clear e0 e1 e2 e3 e4 e5 hF
       obtain rfl:=J2.all hJ rfl
       have RS5:Hid ((xd wd (w.heap.size+1+1) (.slice vA b.length vc) (.int .i64 st)).heap[(w.heap.size+1+1+1)]?=some (.cells #[.slice none 0 0,.slice none 0 0,.int .i64 0] 29 (0,0))):=iH ((qc (by omega)).trans RS4.out)
       obtain⟨s0,s1,s2,sf⟩:=j9 RS5.out
       have sf0:=sf 0;have sf1:=sf 1;have sf2:=sf 2;clear sf
       obtain⟨w5,hw5⟩:∃w5,w5=xd wd (w.heap.size+1+1) (.slice vA b.length vc) (.int .i64 st):=⟨_,rfl⟩
       rw [<-hw5]at s0 s1 s2 sf0 sf1 sf2 |-
       have HW5:=iH hw5
       clear hw5 hJ
       go_wp2_with fail
       have q:=ju (W:=wd) RR4.out RS4.out (.slice vA b.length vc) (.int .i64 st) (.slice xA k1.length xc) (.slice yA k2.length yc) (.int .i64 (n+1))
       rw [<-HW5.out]at q
       obtain⟨q2,q3⟩:=q
       obtain⟨y0,y1,_⟩:=jk q2
       obtain⟨x0,x1,x2,_⟩:=j9 q3
       refine bodyPost_ret (v:=.tuple #[.agg #[.slice vA b.length vc,.int .i64 st],.agg #[.slice xA k1.length xc,.slice yA k2.length yc,.int .i64 (n+1)],.int .i64 0]) (by simp only [set3]at y0 y1 x0 x1 x2;simp [results,Try.results18,go_sem,y0,y1,x0,x1,x2]) rfl ?_
       rw [R9.out]
       have hk:=fun(v:Value) (L:List UInt8) (h:Bs wd wd.heap.size v L)=>Km (W:=wd) RR4.out RS4.out (.slice vA b.length vc) (.int .i64 st) (.slice xA k1.length xc) (.slice yA k2.length yc) (.int .i64 (n+1)) h
       rw [<-HW5.out]at hk
       have hbw:=jo (p:=(w.heap.size+1+1)) (a:=.slice vA b.length vc) (b:=.int .i64 st) (x:=.slice xA k1.length xc) (y:=.slice yA k2.length yc) (z:=.int .i64 (n+1)) HB4.out (by omega)
       rw [<-HW5.out]at hbw
       exact⟨_,_,rfl,⟨_,rfl,hk _ _ V4.out⟩,⟨_,_,rfl,hk _ _ X4.out,hk _ _ Y4.out⟩,hbw⟩
  ·have HVC:Hid (vR d st=false):=iH (by simpa using v2)
   have R:Hid (qa k1 k2 n d st=(14,[],0,[],[],0)):=iH (by unfold qa;rw [iF (by rw [v1];simp),iT HVC.out])
   clear v1 v2
   go_enter Try.func18,Try.ntmps18
   go_upto_region 1 with fail
   rw [<-HWS.out,<-HWC.out,<-HW2.out,<-HW3.out]
   obtain⟨f0,f1,f2⟩:=CS.out wa iB
   go_upto_region 2 with (first
    |(go_at_call 41;have M1:=HBV;go_loud(refine(kZ _ d st wv (HCV.out wv HBV.out)).mono ?_;rw [HVC.out];rintro e wc ⟨rfl,hb⟩;have hb2:=HBV.out.trans (hb.mono HBV.out.size);have HBC:=iH hb2;clear g0 g1;obtain⟨g0,g1⟩:=CC.out wc hb2;clear f0 f1 f2;obtain⟨f0,f1,f2⟩:=CS.out wc hb2;clear hb hb2))
    |(go_at_call 25;refine(jd _ k1 k2 n _ wa HSV.out).mono ?_;rw [HVS.out];rintro e wv ⟨rfl,hb⟩;have HBV:=iH hb;obtain⟨g0,g1⟩:=CC.out wv hb;clear hb))
   clear f0 f1 f2 g0 g1
   obtain⟨r0,r1,rf⟩:=jk (R2.out wc HBC.out);have rf0:=rf 0;have rf1:=rf 1;clear rf;obtain⟨s0,s1,s2,sf⟩:=j9 (R3.out wc HBC.out);have sf0:=sf 0;have sf1:=sf 1;have sf2:=sf 2;clear sf
   go_wp2_with fail
   obtain⟨q2,q3⟩:=ju (R2.out wc HBC.out) (R3.out wc HBC.out) (.slice none 0 0) (.int .i64 0) (.slice none 0 0) (.slice none 0 0) (.int .i64 0)
   obtain⟨y0,y1,_⟩:=jk q2
   obtain⟨x0,x1,x2,_⟩:=j9 q3
   refine bodyPost_ret (v:=.tuple #[.agg #[.slice none 0 0,.int .i64 0],.agg #[.slice none 0 0,.slice none 0 0,.int .i64 0],.int .i64 14]) (by simp only [xd,set3]at y0 y1 x0 x1 x2;simp [results,Try.results18,go_sem,y0,y1,x0,x1,x2]) rfl ?_
   rw [R.out]
   exact⟨_,_,rfl,⟨_,rfl,BsS.nil0 _ _⟩,⟨_,_,rfl,BsS.nil0 _ _,BsS.nil0 _ _⟩,jo (HB.out.trans (Below.mono HBC.out HB.out.size)) (by omega)⟩
 ·have HVS:Hid (vS k1 k2 n=false):=iH (by simpa using v1)
  have R:Hid (qa k1 k2 n d st=(14,[],0,[],[],0)):=iH (by unfold qa;rw [iT HVS.out])
  clear v1
  go_enter Try.func18,Try.ntmps18
  go_upto_region 1 with fail
  rw [<-HWS.out,<-HWC.out,<-HW2.out,<-HW3.out]
  obtain⟨f0,f1,f2⟩:=CS.out wa iB
  go_upto_region 2 with (go_at_call 25;refine(jd _ k1 k2 n _ wa HSV.out).mono ?_;rw [HVS.out];rintro e wv ⟨rfl,hb⟩;have HBV:=iH hb;obtain⟨g0,g1⟩:=CC.out wv hb;clear hb)
  clear f0 f1 f2 g0 g1
  obtain⟨r0,r1,rf⟩:=jk (R2.out wv HBV.out);have rf0:=rf 0;have rf1:=rf 1;clear rf;obtain⟨s0,s1,s2,sf⟩:=j9 (R3.out wv HBV.out);have sf0:=sf 0;have sf1:=sf 1;have sf2:=sf 2;clear sf
  go_wp2_with fail
  obtain⟨q2,q3⟩:=ju (R2.out wv HBV.out) (R3.out wv HBV.out) (.slice none 0 0) (.int .i64 0) (.slice none 0 0) (.slice none 0 0) (.int .i64 0)
  obtain⟨y0,y1,_⟩:=jk q2
  obtain⟨x0,x1,x2,_⟩:=j9 q3
  refine bodyPost_ret (v:=.tuple #[.agg #[.slice none 0 0,.int .i64 0],.agg #[.slice none 0 0,.slice none 0 0,.int .i64 0],.int .i64 14]) (by simp only [xd,set3]at y0 y1 x0 x1 x2;simp [results,Try.results18,go_sem,y0,y1,x0,x1,x2]) rfl ?_
  rw [R.out]
  exact⟨_,_,rfl,⟨_,rfl,BsS.nil0 _ _⟩,⟨_,_,rfl,BsS.nil0 _ _,BsS.nil0 _ _⟩,jo (HB.out.trans (Below.mono HBV.out HB.out.size)) (by omega)⟩
section
variable {ch:List Nat} {G:Nat->(Nat->Value)->World->Prop} {L:Nat->Bool} {v:Nat->Value} {w1 w2:World} {y:Value} {X2:List UInt8}
end
def j0w(k1 k2 N:List UInt8)(n st:Int):Except Int (List (List UInt8)×Ns)->Int×List UInt8×Int×List UInt8×List UInt8×Int
 |.error e=>(e,[],0,[],[],0)
 |.ok (vs,P)=>
  if ¬ki k2 N [] P.enc=gl vs 2 then(20,[],0,[],[],0)
  else if ¬kV st=gl vs 1 then(23,[],0,[],[],0)
  else if ¬kM k1 N ((gl vs 0).drop 1)=0 then(kM k1 N ((gl vs 0).drop 1),[],0,[],[],0)
  else(0,qY k1 N ((gl vs 0).drop 1),st,k1,k2,n+1)
def qk(k1 k2:List UInt8)(n:Int)(d:List UInt8)(st:Int):Int×List UInt8×Int×List UInt8×List UInt8×Int:=
 if vS k1 k2 n=false then(14,[],0,[],[],0)
 else if vR d st=false then(14,[],0,[],[],0)
 else if n=1099511627776 then(3,[],0,[],[],0)
 else j0w k1 k2 (xF (n+1)) n st (kB [142,153] (qu 153 2 true) d)
theorem YN(w:World)(g h:Int)(hg:jW g)(hh:jW h)(t:TypeId):IntL (w.alloc (.cells #[.int .i64 g,.int .i64 h] t)) (·<(w.alloc (.cells #[.int .i64 g,.int .i64 h] t)).heap.size) (.slice (some ⟨w.heap.size,0,none⟩) 2 2) [g,h]:=by
 refine⟨_,2,rfl,by simp,by decide,by simp,fun z hz=> ?_,fun _=>⟨w.heap.size,0,rfl,by simp,by simp,fun j hj=> ?_⟩⟩
 ·simp only [List.mem_cons,List.not_mem_nil,or_false]at hz
  rcases hz with rfl|rfl
  ·exact hg
  ·exact hh
 ·have hj:j<2:=hj
  rw [cell_of_row _ _ _ _ _ _ (iN)]
  obtain rfl|rfl:j=0\/j=1:=by omega
  ·rfl
  ·rfl
theorem not_not{p:Prop}:¬¬p↔p:=Classical.not_not
theorem Zo(vs vc:Value)(k1 k2:List UInt8)(n:Int)(d:List UInt8)(st:Int)(w:World)(hs:xk w (·<w.heap.size) vs k1 k2 n)(hc:Yw w (·<w.heap.size) vc d st):
 Calls Try.prog 19 #[vs,vc] w (UE (qk k1 k2 n d st) w):=by
 obtain⟨ua,ub,rfl,ha,hb⟩:=hs
 obtain⟨ud,rfl,hd⟩:=hc
 obtain⟨A1,n1,d1,rfl⟩:=ha.form
 obtain⟨A2,n2,d2,rfl⟩:=hb.form
 obtain⟨A3,n3,d3,rfl⟩:=hd.form
 obtain rfl:=Bs.lenEq ha
 obtain rfl:=Bs.lenEq hb
 obtain rfl:=Bs.lenEq hd
 obtain⟨ws,hws⟩:∃ws,ws=w.alloc (.cells #[.slice A1 k1.length d1,.slice A2 k2.length d2,.int .i64 n] 29):=⟨_,rfl⟩
 obtain⟨wq,hwq⟩:∃wq,wq=ws.alloc (.cells #[.slice A3 d.length d3,.int .i64 st] 45):=⟨_,rfl⟩
 obtain⟨w2,hw2⟩:∃w2,w2=wq.alloc (.cells #[.slice none 0 0,.int .i64 0] 45):=⟨_,rfl⟩
 obtain⟨wa,hwa⟩:∃wa,wa=w2.alloc (.cells #[.slice none 0 0,.slice none 0 0,.int .i64 0] 29):=⟨_,rfl⟩
 have zs:ws.heap.size=w.heap.size+1:=by rw [hws];simp
 have zq:wq.heap.size=w.heap.size+1+1:=by rw [hwq];simp [zs]
 have z2:w2.heap.size=w.heap.size+1+1+1:=by rw [hw2];simp [zq]
 have za:wa.heap.size=w.heap.size+1+1+1+1:=by rw [hwa];simp [z2]
 have b1:Below w.heap.size w ws:=by rw [hws];exact iA
 have b2:Below ws.heap.size ws wq:=by rw [hwq];exact iA
 have b3:Below wq.heap.size wq w2:=by rw [hw2];exact iA
 have b4:Below w2.heap.size w2 wa:=by rw [hwa];exact iA
 have q1:ws.heap[w.heap.size]?=some (.cells #[.slice A1 k1.length d1,.slice A2 k2.length d2,.int .i64 n] 29 (0,0)):=by rw [hws];exact iN
 have q2:wq.heap[w.heap.size+1]?=some (.cells #[.slice A3 d.length d3,.int .i64 st] 45 (0,0)):=by rw [hwq,<-zs];exact iN
 have q3:w2.heap[(w.heap.size+1+1)]?=some (.cells #[.slice none 0 0,.int .i64 0] 45 (0,0)):=by rw [hw2,<-zq];exact iN
 have q4:wa.heap[(w.heap.size+1+1+1)]?=some (.cells #[.slice none 0 0,.slice none 0 0,.int .i64 0] 29 (0,0)):=by rw [hwa,<-z2];exact iN
 have e3:=(b4.block (w.heap.size+1+1) (by omega)).trans q3
 have e2:=(b4.block (w.heap.size+1) (by omega)).trans ((b3.block (w.heap.size+1) (by omega)).trans q2)
 have e1:=(b4.block w.heap.size (by omega)).trans ((b3.block w.heap.size (by omega)).trans ((b2.block w.heap.size (by omega)).trans q1))
 have hB:Below w.heap.size w wa:=b1.trans ((b2.trans ((b3.trans (b4.mono b3.size)).mono b2.size)).mono b1.size)
 have R2:Hid (∀W,Below wa.heap.size wa W->W.heap[(w.heap.size+1+1)]?=some (.cells #[.slice none 0 0,.int .i64 0] 45 (0,0))):=iH fun W h=>(h.block _ (by omega)).trans e3
 have R3:Hid (∀W,Below wa.heap.size wa W->W.heap[(w.heap.size+1+1+1)]?=some (.cells #[.slice none 0 0,.slice none 0 0,.int .i64 0] 29 (0,0))):=iH fun W h=>(h.block _ (by omega)).trans q4
 have CS:Hid (∀W,Below wa.heap.size wa W->W.cell? ⟨w.heap.size,0,none⟩=some (.slice A1 k1.length d1)/\W.cell? ⟨w.heap.size,1,none⟩=some (.slice A2 k2.length d2)/\W.cell? ⟨w.heap.size,2,none⟩=some (.int .i64 n)):=iH fun W h=>(by obtain⟨a,b,c,_⟩:=j9 ((h.block w.heap.size (by omega)).trans e1);exact⟨a,b,c⟩)
 have CC:Hid (∀W,Below wa.heap.size wa W->W.cell? ⟨w.heap.size+1,0,none⟩=some (.slice A3 d.length d3)/\W.cell? ⟨w.heap.size+1,1,none⟩=some (.int .i64 st)):=iH fun W h=>(by obtain⟨a,b,_⟩:=jk ((h.block (w.heap.size+1) (by omega)).trans e2);exact⟨a,b⟩)
 have RC:Hid (∀W,Below wa.heap.size wa W->W.heap[w.heap.size+1]?=some (.cells #[.slice A3 d.length d3,.int .i64 st] 45 (0,0))):=iH fun W h=>(h.block _ (by omega)).trans e2
 have HZA:=iH za
 have HB:=iH hB;have HWS:=iH hws;have HWC:=iH hwq;have HW2:=iH hw2;have HW3:=iH hwa
 have H1:=iH (Bs.lift ha hB);have H2:=iH (Bs.lift hb hB);have H3:=iH (Bs.lift hd hB)
 have HSV:Hid (xk wa (·<wa.heap.size) (.agg #[.slice A1 k1.length d1,.slice A2 k2.length d2,.int .i64 n]) k1 k2 n):=iH ⟨_,_,rfl,H1.out,H2.out⟩
 have HCV:Hid (∀W,Below wa.heap.size wa W->Yw W (·<W.heap.size) (.agg #[.slice A3 d.length d3,.int .i64 st]) d st):=iH fun W h=>⟨_,rfl,H3.out.lift h⟩
 clear ha hb hd hws hwq hw2 hwa zs zq z2 za b1 b2 b3 b4 q1 q2 q3 q4 e1 e2 e3 hB
 by_cases v1:vS k1 k2 n=true
 ·have HVS:=iH v1
  by_cases v2:vR d st=true
  ·have HVC:=iH v2
   have VS:=iH (of_decide_eq_true v1)
   have VC:=iH (of_decide_eq_true v2)
   clear v1 v2
   by_cases g3:n=1099511627776
   ·have t3:(n==1099511627776)=true:=by simp [g3]
    have R:Hid (qk k1 k2 n d st=(3,[],0,[],[],0)):=iH (by unfold qk;rw [iF (by rw [HVS.out];simp),iF (by rw [HVC.out];simp),iT g3])
    clear g3
    go_enter Try.func19,Try.ntmps19
    go_upto_region 1 with fail
    rw [<-HWS.out,<-HWC.out,<-HW2.out,<-HW3.out]
    obtain⟨f0,f1,f2⟩:=CS.out wa iB
    go_wp2_with(first
     |(go_at_call 43;refine(km 3 wc).mono ?_;rintro e wf ⟨rfl,hb⟩;have HBF:=iH (HBC.out.trans (hb.mono HBC.out.size));obtain⟨r0,r1,rf⟩:=jk (R2.out wf HBF.out);have rf0:=rf 0;have rf1:=rf 1;clear rf;obtain⟨s0,s1,s2,sf⟩:=j9 (R3.out wf HBF.out);have sf0:=sf 0;have sf1:=sf 1;have sf2:=sf 2;clear sf;clear hb)
     |(go_at_call 41;have M1:=HBV;go_loud(refine(kZ _ d st wv (HCV.out wv HBV.out)).mono ?_;rw [HVC.out];rintro e wc ⟨rfl,hb⟩;have hb2:=HBV.out.trans (hb.mono HBV.out.size);have HBC:=iH hb2;clear g0 g1;obtain⟨g0,g1⟩:=CC.out wc hb2;clear f0 f1 f2;obtain⟨f0,f1,f2⟩:=CS.out wc hb2;clear hb hb2))
     |(go_at_call 25;refine(jd _ k1 k2 n _ wa HSV.out).mono ?_;rw [HVS.out];rintro e wv ⟨rfl,hb⟩;have HBV:=iH hb;obtain⟨g0,g1⟩:=CC.out wv hb;clear hb))
    obtain⟨q2,q3⟩:=ju (R2.out wf HBF.out) (R3.out wf HBF.out) (.slice none 0 0) (.int .i64 0) (.slice none 0 0) (.slice none 0 0) (.int .i64 0)
    obtain⟨y0,y1,_⟩:=jk q2
    obtain⟨x0,x1,x2,_⟩:=j9 q3
    refine bodyPost_ret (v:=.tuple #[.agg #[.slice none 0 0,.int .i64 0],.agg #[.slice none 0 0,.slice none 0 0,.int .i64 0],.int .i64 3]) (by simp only [xd,set3]at y0 y1 x0 x1 x2;simp [results,Try.results19,go_sem,y0,y1,x0,x1,x2]) rfl ?_
    rw [R.out]
    exact⟨_,_,rfl,⟨_,rfl,BsS.nil0 _ _⟩,⟨_,_,rfl,BsS.nil0 _ _,BsS.nil0 _ _⟩,jo (HB.out.trans (Below.mono HBF.out HB.out.size)) (by omega)⟩
   ·have t3:(n==1099511627776)=false:=by simpa using g3
    have LK1:Hid (k1.length=16):=iH VS.out.1
    have LK2:Hid (k2.length=16):=iH VS.out.2.1
    have LD:Hid (d.length<=4096):=iH VC.out.1
    obtain⟨N,hN⟩:∃N,xF (n+1)=N:=⟨_,rfl⟩
    have LN:Hid (N.length=16):=iH (by rw [<-hN]<;>rfl)
    have HNX:Hid (∀(va vb:Value) (w:World),Bs w w.heap.size va k1->Bs w w.heap.size vb k2->Calls Try.prog 27 #[.agg #[va,vb,.int .i64 n]] w fun e w'=>∃x y z,e=.returned (.agg #[x,y,.int .i64 (n+1),z])/\Bs w' w'.heap.size x k1/\Bs w' w'.heap.size y k2/\Bs w' w'.heap.size z N/\Below w.heap.size w w'):=iH (fun va vb w h1 h2=>by rw [<-hN];exact xD va vb k1 k2 n VS.out.2.2.1 VS.out.2.2.2 w h1 h2)
    obtain⟨rr,hrr⟩:∃r,kB [142,153] (qu 153 2 true) d=r:=⟨_,rfl⟩
    have R:Hid (qk k1 k2 n d st=j0w k1 k2 N n st rr):=iH (by subst hN;subst hrr;unfold qk;rw [iF (by rw [HVS.out];simp),iF (by rw [HVC.out];simp),iF g3])
    have HRR:=iH hrr
    obtain⟨X2,hX2⟩:∃X,kV st=X:=⟨_,rfl⟩
    have HX2:=iH hX2
    have HST:Hid (∀w,Calls Try.prog 42 #[.int .i64 st] w fun e w'=>∃A c,e=.returned (.agg #[.int .i64 153,.slice A X2.length c,.slice none 0 0])/\BsS w' (New w w') (.slice A X2.length c) X2/\Below w.heap.size w w'):=iH (fun w=>by rw [<-hX2];exact yd st VC.out.2.1 VC.out.2.2 w)
    clear hN g3 hrr hX2
    go_enter Try.func19,Try.ntmps19
    go_upto_region 1 with fail
    rw [<-HWS.out,<-HWC.out,<-HW2.out,<-HW3.out]
    obtain⟨f0,f1,f2⟩:=CS.out wa iB
    go_upto_region 7 with (first
     |(go_at_call 41;have M1:=HBV;go_loud(refine(kZ _ d st wv (HCV.out wv HBV.out)).mono ?_;rw [HVC.out];rintro e wc ⟨rfl,hb⟩;have hb2:=HBV.out.trans (hb.mono HBV.out.size);have HBC:=iH hb2;clear g0 g1;obtain⟨g0,g1⟩:=CC.out wc hb2;clear f0 f1 f2;obtain⟨f0,f1,f2⟩:=CS.out wc hb2;clear hb hb2))
     |(go_at_call 25;refine(jd _ k1 k2 n _ wa HSV.out).mono ?_;rw [HVS.out];rintro e wv ⟨rfl,hb⟩;have HBV:=iH hb;obtain⟨g0,g1⟩:=CC.out wv hb;clear hb))
    clear f0 f1 f2 g0 g1 t3
    obtain⟨w8,hw8⟩:∃w8,w8=wc.alloc (.cells #[.int .i64 135,.int .i64 2,.int .i64 4096,.bool false,.int .i64 153,.int .i64 2,.int .i64 2,.bool true,.int .i64 142,.int .i64 8,.int .i64 8,.bool true] 71):=⟨_,rfl⟩
    rw [<-hw8]
    have hb8:Below wc.heap.size wc w8:=by rw [hw8];exact iA
    have hf8:FldAt w8 (qu 153 2 true) wc.heap.size 0:=by
     rw [hw8]
     have k:∀o,(wc.alloc (.cells #[.int .i64 135,.int .i64 2,.int .i64 4096,.bool false,.int .i64 153,.int .i64 2,.int .i64 2,.bool true,.int .i64 142,.int .i64 8,.int .i64 8,.bool true] 71)).cell? ⟨wc.heap.size,o,none⟩=(#[.int .i64 135,.int .i64 2,.int .i64 4096,.bool false,.int .i64 153,.int .i64 2,.int .i64 2,.bool true,.int .i64 142,.int .i64 8,.int .i64 8,.bool true]:Array Value)[o]? :=fun o=>cell_of_row _ _ _ _ _ _ (iN)
     exact⟨k 0,k 1,k 2,k 3,k 4,k 5,k 6,k 7,k 8,k 9,k 10,k 11,trivial⟩
    obtain⟨wi,hwi⟩:∃wi,wi=w8.alloc (.cells #[.int .i64 142,.int .i64 153] 3):=⟨_,rfl⟩
    have hbi:Below w8.heap.size w8 wi:=by rw [hwi];exact iA
    have hpi:IntL wi (·<wi.heap.size) (.slice (some ⟨w8.heap.size,0,none⟩) 2 2) [142,153]:=by rw [hwi];exact YN w8 142 153 ⟨by decide,by decide⟩ ⟨by decide,by decide⟩ 3
    have hw8z:wc.heap.size<w8.heap.size:=by rw [hw8];simp
    have HB8:=iH (HBC.out.trans (hb8.mono HBC.out.size))
    have HBI:=iH (HB8.out.trans (hbi.mono HB8.out.size))
    have HOB:=zx d [142,153] (qu 153 2 true) (.slice A3 d.length d3) (.slice (some ⟨w8.heap.size,0,none⟩) 2 2) wc.heap.size 0 3 rfl (fun L vs n R h=>Qj L vs n R h) wi (H3.out.lift HBI.out) hpi (iZ hw8z hbi.size) (hf8.below hbi hw8z) ⟨by decide,by decide⟩
    rw [HRR.out]at HOB
    have HOB:=iH HOB
    have HWI:=iH hwi
    clear hw8 hb8 hf8 hbi hpi hwi hw8z
    obtain⟨g0,g1⟩:=CC.out w8 HB8.out
    cases rr with
    |error er=>
     have R:Hid (qk k1 k2 n d st=(er,[],0,[],[],0)):=R
     have tne:(er != 0)=true:=by simpa using Qs HRR.out
     go_wp2_with(first
      |(go_at_call 43;refine(km er wo).mono ?_;rintro e wf ⟨rfl,hb⟩;have HBF:=iH (HBO.out.trans (hb.mono HBO.out.size));obtain⟨r0,r1,rf⟩:=jk (R2.out wf HBF.out);have rf0:=rf 0;have rf1:=rf 1;clear rf;obtain⟨s0,s1,s2,sf⟩:=j9 (R3.out wf HBF.out);have sf0:=sf 0;have sf1:=sf 1;have sf2:=sf 2;clear sf;clear hb)
      |(go_at_call 36;rw [<-HWI.out];refine HOB.out.mono ?_;rintro e wo ⟨rfl,hb⟩;have HBO:=iH (HBI.out.trans (hb.mono HBI.out.size));clear hb g0 g1))
     obtain⟨q2,q3⟩:=ju (R2.out wf HBF.out) (R3.out wf HBF.out) (.slice none 0 0) (.int .i64 0) (.slice none 0 0) (.slice none 0 0) (.int .i64 0)
     obtain⟨y0,y1,_⟩:=jk q2
     obtain⟨x0,x1,x2,_⟩:=j9 q3
     refine bodyPost_ret (v:=.tuple #[.agg #[.slice none 0 0,.int .i64 0],.agg #[.slice none 0 0,.slice none 0 0,.int .i64 0],.int .i64 er]) (by simp only [xd,set3]at y0 y1 x0 x1 x2;simp [results,Try.results19,go_sem,y0,y1,x0,x1,x2]) rfl ?_
     rw [R.out]
     exact⟨_,_,rfl,⟨_,rfl,BsS.nil0 _ _⟩,⟨_,_,rfl,BsS.nil0 _ _,BsS.nil0 _ _⟩,jo (HB.out.trans (Below.mono HBF.out HB.out.size)) (by omega)⟩
    |ok vp=>
     obtain⟨us,P⟩:=vp
     obtain⟨V,M,C,LL,hus,hsh,hpp,heP,haP,hlP,hP⟩:=Zv (by decide) (by decide) (by decide) (by decide) (by decide) HRR.out
     subst hus
     have HVV:Hid (V= []\/jE V=true):=iH (hsh.v.imp id fun h=>h.1)
     have HEP:=iH heP;have HAP:=iH haP;have HLP:=iH hlP
     have R1X:Hid (qk k1 k2 n d st=if ¬ki k2 N [] P.enc=C then(20,[],0,[],[],0)
      else if ¬X2=M then(23,[],0,[],[],0)
      else if ¬kM k1 N (V.drop 1)=0 then(kM k1 N (V.drop 1),[],0,[],[],0)
      else(0,qY k1 N (V.drop 1),st,k1,k2,n+1)):=iH (by rw [<-HX2.out];exact R.out)
     clear hsh hpp heP haP hlP hP R
     go_upto_region 11 with (first
      |(go_at_call 27;refine(HNX.out _ _ wo (H1.out.lift HBO.out) (H2.out.lift HBO.out)).mono ?_;rintro e wn ⟨x,y,z,rfl,hx,hy,hz,hb⟩;obtain⟨xA,xc,hp⟩:=Bs.formL hx;subst hp;obtain⟨yA,yc,hp⟩:=Bs.formL hy;subst hp;obtain⟨zA,zc,hp⟩:=Bs.formL hz;subst hp;have HX:=iH hx;have HY:=iH hy;have HZ:=iH hz;have HBN2:=iH hb;have HBN:=iH (HBO.out.trans (hb.mono HBO.out.size));obtain⟨u0,u1,u2,u3,uf⟩:=jz (qG wn);have uf0:=uf 0;have uf1:=uf 1;have uf2:=uf 2;have uf3:=uf 3;clear uf hx hy hz hb)
      |(go_at_call 36;rw [<-HWI.out];refine HOB.out.mono ?_;intro e wo h;obtain⟨g,PA,pc,rfl,hvr,hgg,hPn,hb⟩:=h;have HVR:=iH hvr;have HGG:=iH hgg;have HPN:=iH hPn;have HBO:=iH (HBI.out.trans (hb.mono HBI.out.size));clear hb hvr hgg hPn g0 g1;obtain⟨f0,f1,f2⟩:=CS.out wo HBO.out))
     clear u0 u1 u2 u3 uf0 uf1 uf2 uf3 f0 f1 f2
     obtain⟨wu,hwu⟩:∃wu,wu=wn.alloc (.cells #[.slice xA k1.length xc,.slice yA k2.length yc,.int .i64 (n+1),.slice zA N.length zc] 56):=⟨_,rfl⟩
     rw [<-hwu]
     have hbu:Below wn.heap.size wn wu:=by rw [hwu];exact iA
     have hur:wu.heap[wn.heap.size]?=some (.cells #[.slice xA k1.length xc,.slice yA k2.length yc,.int .i64 (n+1),.slice zA N.length zc] 56 (0,0)):=by rw [hwu];exact iN
     have hult:=(iG hur)
     have CU:Hid (∀W,Below wu.heap.size wu W->W.cell? ⟨wn.heap.size,0,none⟩=some (.slice xA k1.length xc)/\W.cell? ⟨wn.heap.size,1,none⟩=some (.slice yA k2.length yc)/\W.cell? ⟨wn.heap.size,2,none⟩=some (.int .i64 (n+1))/\W.cell? ⟨wn.heap.size,3,none⟩=some (.slice zA N.length zc)):=iH fun W h=>(by obtain⟨a,b,c,d,_⟩:=jz ((h.block _ hult).trans hur);exact⟨a,b,c,d⟩)
     have RU:Hid (∀W,Below wu.heap.size wu W->W.heap[wn.heap.size]?=some (.cells #[.slice xA k1.length xc,.slice yA k2.length yc,.int .i64 (n+1),.slice zA N.length zc] 56 (0,0))):=iH fun W h=>(h.block _ hult).trans hur
     have HBAU:=iH (HBN.out.trans (hbu.mono HBN.out.size))
     have hou:=HBN2.out.trans (hbu.mono HBN2.out.size)
     have HVU:=iH (HVR.out.below hou)
     have HPU:=iH (HPN.out.keep (w':=wu) (S':=(·<wu.heap.size)) fun b hs hl=>⟨hou.block b hl,iZ hl hou.size⟩)
     have XU:=iH (HX.out.lift hbu);have YU:=iH (HY.out.lift hbu);have ZU:=iH (HZ.out.lift hbu)
     clear hwu hbu hur hult hou
     obtain⟨C9,hC9⟩:∃C,ki k2 N [] P.enc=C:=⟨_,rfl⟩
     have HCO:Hid (Calls Try.prog 37 #[.agg #[.slice xA k1.length xc,.slice yA k2.length yc,.int .i64 (n+1),.slice zA N.length zc],.slice none 0 0,.slice PA P.len pc] wu fun e w'=>∃v',e=.returned (.tuple #[v',.int .i64 0])/\BsS w' (New wu w') v' C9/\Below wu.heap.size wu w'):=iH ((Jh (.slice xA k1.length xc) (.slice yA k2.length yc) (.slice zA N.length zc) (.slice none 0 0) (.slice PA P.len pc) (n+1) k2 N [] P LK2.out LN.out (by simp) HAP.out HLP.out P.enc HEP.out wu YU.out ZU.out (BsS.nil0 _ _) HPU.out).mono fun e w' h=>by obtain⟨A,c,he,hx,hb⟩:=h;rw [hC9]at he hx;exact⟨_,he,hx,hb⟩)
     rw [hC9]at R1X
     clear hC9
     obtain⟨u0,u1,u2,u3⟩:=CU.out wu iB
     go_upto_region 12 with (go_at_call 37;refine HCO.out.mono ?_;rintro e w3 ⟨v3,rfl,hv,hb⟩;obtain⟨kA,kc,hp⟩:=Bs.formL hv;subst hp;have HK3:=iH (BsS.keep hv (w':=w3) (S':=(·<w3.heap.size)) fun g hg _=>⟨rfl,hg.2⟩);have HBU3:=iH hb;have HB3:=iH (HBAU.out.trans (hb.mono HBAU.out.size));have HVR3:=iH (HVU.out.below hb);clear hv hb u0 u1 u2 u3)
     obtain⟨v2A,v2c,z2,hz2⟩:=HVR3.out.cell 2 (by decide)
     rw [show gl [V,M,C] 2=C from rfl]at z2 hz2
     obtain⟨v1A,v1c,z1,hz1⟩:=HVR3.out.cell 1 (by decide)
     rw [show gl [V,M,C] 1=M from rfl]at z1 hz1
     obtain⟨v0A,v0c,z0,hz0⟩:=HVR3.out.cell 0 (by decide)
     rw [show gl [V,M,C] 0=V from rfl]at z0 hz0
     have Z0:=iH z0;have Z1:=iH z1
     have LTG3:=iH HVR3.out.lt
     have HM3:Hid (∀W,Below w3.heap.size w3 W->BsS W (·<g) (.slice v1A M.length v1c) M):=iH (fun W h=>BsS.keep hz1 fun b hs hl=>⟨h.block b hl,hs⟩)
     have HM0:Hid (BsS w3 (·<g) (.slice v0A V.length v0c) V):=iH hz0
     have HEQ:=iH (xW _ _ C9 C _ _ w3 HK3.out hz2)
     clear hz2 hz1 hz0 z0 z1
     by_cases hcc:C9=C
     ·rw [decide_eq_true hcc]at HEQ
      have R2X:Hid (qk k1 k2 n d st=if ¬X2=M then(23,[],0,[],[],0)
       else if ¬kM k1 N (V.drop 1)=0 then(kM k1 N (V.drop 1),[],0,[],[],0)
       else(0,qY k1 N (V.drop 1),st,k1,k2,n+1)):=iH (by rw [R1X.out];exact iF (not_not.2 hcc))
      clear hcc R1X
      obtain⟨oq,hoq⟩:∃o,decide (X2=M)=o:=⟨_,rfl⟩
      have OQ:=iH hoq
      clear hoq
      go_upto_region 14 with (go_at_call 38;refine HEQ.out.mono ?_;rintro e w' ⟨rfl,hw'⟩;rw [hw'];clear hw' w')
      clear z2
      refine jc 9 [some 79,some 80,some 81,some 82,some 83,some 84,some 85,some 86,some 87] [[],[0],[0,1],[0,1,2],[],[4],[4,5],[0,1,2,3,4,5,6],[0,1,2,3,4,5,6,7]]
       (fun _ _ w1=>Below w3.heap.size w3 w1) (fun w1 w2=>Below w1.heap.size w1 w2)
       [fun v _=>v 0=.pointer (some ⟨w.heap.size+1,1,none⟩),
        fun v _=>v 1=.int .i64 st,
        fun v w1=>∃a c,v 2=.agg #[.int .i64 153,.slice a X2.length c,.slice none 0 0]/\BsS w1 (New w3 w1) (.slice a X2.length c) X2,
        fun v w1=>∃a c,v 3=.slice a (X2).length c/\BsS w1 (New w3 w1) (.slice a (X2).length c) (X2),
        fun v _=>v 4=.slice (some ⟨g,0,none⟩) 3 3,
        fun v _=>v 5=.pointer (some ⟨g,1,none⟩),
        fun v _=>v 6=.slice v1A M.length v1c,
        fun v w1=>v 7=.bool oq,
        fun v w1=>v 8=.bool (!oq)]
       (by kernel_rfl) (by kernel_rfl) (fun _=>iB.drew) ?st14 ?steps14 ?tail14
      case st14=>
       exact(.cons (fun _ _ _ _ _ _ h=>h) (.cons (fun _ _ _ _ _ _ h=>h) (.cons (fun _ _ _ _ _ hr ⟨a,c,e,h⟩=>⟨a,c,e,BsS.keep h fun g hg hl=>⟨hr.block g hl,hg.1,iZ hl hr.size⟩⟩) (.cons (fun _ _ _ _ _ hr ⟨a,c,e,h⟩=>⟨a,c,e,BsS.keep h fun g hg hl=>⟨hr.block g hl,hg.1,iZ hl hr.size⟩⟩) (.cons (fun _ _ _ _ _ _ h=>h) (.cons (fun _ _ _ _ _ _ h=>h) (.cons (fun _ _ _ _ _ _ h=>h) (.cons (fun _ _ _ _ _ _ h=>h) (.cons (fun _ _ _ _ _ _ h=>h) .nil)))))))))
      case steps14=>
       simp only [iI,iK]
       refine(.cons ?_ (.cons ?_ (.cons ?_ (.cons ?_ (.cons ?_ (.cons ?_ (.cons ?_ (.cons ?_ (.cons ?_ .nil)))))))))
       all_goals(intro L v w1 hJ hL hA hF K hK;simp only [ja,Act.put,iM,Nat.reduceAdd,iS,iC,iD]at hK |-)
       ·go_simp
        refine hK _ _ hJ iB ?_
        first|exact rfl|exact j4 _
       ·have e0:v 0=.pointer (some ⟨w.heap.size+1,1,none⟩):=hF 0 (hA 0 (by simp))
        obtain⟨c0,c1⟩:=CC.out _ (HB3.out.trans (hJ.mono HB3.out.size))
        simp only [e0]at hK
        go_simp
        refine hK _ _ hJ iB ?_
        first|exact rfl|exact j4 _
       ·have e1:v 1=.int .i64 st:=hF 1 (hA 1 (by simp))
        simp only [e1]at hK
        go_simp
        refine(HST.out w1).mono ?_
        rintro e w5 ⟨xA,xc,rfl,hx,hb⟩
        exact hK _ _ (hJ.trans (hb.mono hJ.size)) hb ⟨_,_,rfl,BsS.keep hx fun g hg _=>⟨rfl,Nat.le_trans hJ.size hg.1,hg.2⟩⟩
       ·obtain⟨a2,c2,e2,h2⟩:∃a c,v 2=.agg #[.int .i64 153,.slice a X2.length c,.slice none 0 0]/\BsS w1 (New w3 w1) (.slice a X2.length c) X2:=hF 2 (hA 2 (by simp))
        simp only [e2]at hK
        go_simp
        exact hK _ _ hJ iB ⟨_,_,rfl,h2⟩
       ·go_simp
        refine hK _ _ hJ iB ?_
        first|exact rfl|exact j4 _
       ·have e4:v 4=.slice (some ⟨g,0,none⟩) 3 3:=hF 4 (hA 4 (by simp))
        simp only [e4]at hK
        go_simp
        refine hK _ _ hJ iB ?_
        first|exact rfl|exact j4 _
       ·have e5:v 5=.pointer (some ⟨g,1,none⟩):=hF 5 (hA 5 (by simp))
        have c0:w1.cell? ⟨g,1,none⟩=some (.slice v1A M.length v1c):=(hJ.cell (p:=⟨g,1,none⟩) LTG3.out).trans Z1.out
        simp only [e5]at hK
        go_simp
        refine hK _ _ hJ iB ?_
        first|exact rfl|exact j4 _
       ·have e6:v 6=.slice v1A M.length v1c:=hF 6 (hA 6 (by simp))
        simp only [e6]at hK
        obtain⟨a3,c3,e3,h3⟩:∃a c,v 3=.slice a (X2).length c/\BsS w1 (New w3 w1) (.slice a (X2).length c) (X2):=hF 3 (hA 3 (by simp))
        simp only [e3]at hK
        go_simp
        refine(xW _ _ X2 M _ _ w1 h3 (HM3.out w1 hJ)).mono ?_
        rintro e w5 ⟨rfl,hw5⟩
        rw [OQ.out]
        rw [hw5]
        exact hK _ _ hJ iB rfl
       ·have e7:v 7=.bool oq:=hF 7 (hA 7 (by simp))
        simp only [e7]at hK
        go_simp
        exact hK _ _ hJ iB rfl
      case tail14=>
       intro v w1 hJ hF
       have e0:v 0=.pointer (some ⟨w.heap.size+1,1,none⟩):=hF 0 (by simp)
       have e1:v 1=.int .i64 st:=hF 1 (by simp)
       have e4:v 4=.slice (some ⟨g,0,none⟩) 3 3:=hF 4 (by simp)
       have e5:v 5=.pointer (some ⟨g,1,none⟩):=hF 5 (by simp)
       have e6:v 6=.slice v1A M.length v1c:=hF 6 (by simp)
       have e7:v 7=.bool oq:=hF 7 (by simp)
       have e8:v 8=.bool (!oq):=hF 8 (by simp)
       simp only [iE,iJ,ja,Act.put,iM,Nat.reduceAdd,iS,iC,iD]
       simp only [e7,e8]
       obtain⟨w4,rfl⟩:∃w4:World,w4=w1:=⟨_,rfl⟩
       have H34:=iH hJ
       have HBU4:=iH (HBU3.out.trans (hJ.mono HBU3.out.size))
       have HB4:=iH (HB3.out.trans (hJ.mono HB3.out.size))
       clear e0 e1 e4 e5 e6 e7 e8 hJ hF
       cases oq with
       |true=>
        have R3X:Hid (qk k1 k2 n d st=if ¬kM k1 N (V.drop 1)=0 then(kM k1 N (V.drop 1),[],0,[],[],0)else(0,qY k1 N (V.drop 1),st,k1,k2,n+1)):=iH (by rw [R2X.out];exact iF (not_not.2 (of_decide_eq_true OQ.out)))
        obtain⟨b,hD⟩:∃D,qY k1 N (V.drop 1)=D:=⟨_,rfl⟩
        obtain⟨E,hE⟩:∃E,kM k1 N (V.drop 1)=E:=⟨_,rfl⟩
        rw [hD,hE]at R3X
        have HUO:Hid (∀W,Below w4.heap.size w4 W->Calls Try.prog 39 #[.agg #[.slice xA k1.length xc,.slice yA k2.length yc,.int .i64 (n+1),.slice zA N.length zc],.slice v0A V.length v0c] W (J0 W b E)):=iH (fun W h=>by
         have h4:=HBU4.out.trans (h.mono HBU4.out.size)
         have h3:=H34.out.trans (h.mono H34.out.size)
         rw [<-hD,<-hE]
         exact Kp _ _ _ _ (n+1) k1 N V LK1.out LN.out HVV.out W (XU.out.lift h4) (ZU.out.lift h4) (BsS.keep HM0.out fun b hs hl=>⟨h3.block b hl,iZ hl h3.size⟩))
        clear hD hE
        go_upto_region 16 with fail
        refine jc 10 [some 94,some 95,some 96,some 97,some 98,some 93,some 99,some 100,some 15,some 11] [[],[],[1],[1,2],[0,1,2,3],[0,1,2,3,4],[0,1,2,3,4,5],[0,1,2,3,4,5],[0,1,2,3,4,5,6],[0,1,2,3,4,5,6,7,8]]
         (fun _ _ w1=>Below w4.heap.size w4 w1) (fun w1 w2=>Below w1.heap.size w1 w2)
         [fun v _=>v 0=.agg #[.slice xA k1.length xc,.slice yA k2.length yc,.int .i64 (n+1),.slice zA N.length zc],
          fun v _=>v 1=.slice (some ⟨g,0,none⟩) 3 3,
          fun v _=>v 2=.pointer (some ⟨g,0,none⟩),
          fun v _=>v 3=.slice v0A V.length v0c,
          fun v w1=>∃a c,v 4=.tuple #[.slice a (b).length c,.int .i64 E]/\Bs w1 w1.heap.size (.slice a (b).length c) (b),
          fun v w1=>∃a c,v 5=.tuple #[.slice a (b).length c,.int .i64 E]/\Bs w1 w1.heap.size (.slice a (b).length c) (b),
          fun v w1=>∃a c,v 6=.slice a (b).length c/\Bs w1 w1.heap.size (.slice a (b).length c) (b),
          fun v _=>v 7=.int .i64 E,
          fun v w1=>∃a c,v 8=.slice a (b).length c/\Bs w1 w1.heap.size (.slice a (b).length c) (b),
          fun v _=>v 9=.int .i64 E]
         (by kernel_rfl) (by kernel_rfl) (fun _=>iB.drew) ?st16 ?steps16 ?tail16
        case st16=>
         exact(.cons (fun _ _ _ _ _ _ h=>h) (.cons (fun _ _ _ _ _ _ h=>h) (.cons (fun _ _ _ _ _ _ h=>h) (.cons (fun _ _ _ _ _ _ h=>h) (.cons (fun _ _ _ _ _ hr ⟨a,c,e,h⟩=>⟨a,c,e,h.lift hr⟩) (.cons (fun _ _ _ _ _ hr ⟨a,c,e,h⟩=>⟨a,c,e,h.lift hr⟩) (.cons (fun _ _ _ _ _ hr ⟨a,c,e,h⟩=>⟨a,c,e,h.lift hr⟩) (.cons (fun _ _ _ _ _ _ h=>h) (.cons (fun _ _ _ _ _ hr ⟨a,c,e,h⟩=>⟨a,c,e,h.lift hr⟩) (.cons (fun _ _ _ _ _ _ h=>h) .nil))))))))))
        case steps16=>
         simp only [iI,iK]
         refine(.cons ?_ (.cons ?_ (.cons ?_ (.cons ?_ (.cons ?_ (.cons ?_ (.cons ?_ (.cons ?_ (.cons ?_ (.cons ?_ .nil))))))))))
         all_goals(intro L v w1 hJ hL hA hF K hK;simp only [ja,Act.put,iM,Nat.reduceAdd,iS,iC,iD]at hK |-)
         ·obtain⟨c0,c1,c2,c3⟩:=CU.out _ (HBU4.out.trans (hJ.mono HBU4.out.size))
          go_simp
          refine hK _ _ hJ iB ?_
          first|exact rfl|exact j4 _
         ·go_simp
          refine hK _ _ hJ iB ?_
          first|exact rfl|exact j4 _
         ·have e1:v 1=.slice (some ⟨g,0,none⟩) 3 3:=hF 1 (hA 1 (by simp))
          simp only [e1]at hK
          go_simp
          refine hK _ _ hJ iB ?_
          first|exact rfl|exact j4 _
         ·have e2:v 2=.pointer (some ⟨g,0,none⟩):=hF 2 (hA 2 (by simp))
          have c0:w1.cell? ⟨g,0,none⟩=some (.slice v0A V.length v0c):=((H34.out.trans (hJ.mono H34.out.size)).cell (p:=⟨g,0,none⟩) LTG3.out).trans Z0.out
          simp only [e2]at hK
          go_simp
          refine hK _ _ hJ iB ?_
          first|exact rfl|exact j4 _
         ·have e0:v 0=.agg #[.slice xA k1.length xc,.slice yA k2.length yc,.int .i64 (n+1),.slice zA N.length zc]:=hF 0 (hA 0 (by simp))
          have e3:v 3=.slice v0A V.length v0c:=hF 3 (hA 3 (by simp))
          simp only [e0,e3]at hK
          go_simp
          refine(HUO.out w1 hJ).mono ?_
          rintro e w5 ⟨v5,rfl,ho,hb⟩
          have hx:Bs w5 w5.heap.size v5 (b):=ho
          obtain⟨A5,C5,hv5⟩:=Bs.formL hx
          subst hv5
          exact hK _ _ (hJ.trans (hb.mono hJ.size)) hb ⟨_,_,rfl,hx⟩
         ·obtain⟨a4,c4,e4,h4⟩:∃a c,v 4=.tuple #[.slice a (b).length c,.int .i64 E]/\Bs w1 w1.heap.size (.slice a (b).length c) (b):=hF 4 (hA 4 (by simp))
          simp only [e4]at hK
          go_simp
          exact hK _ _ hJ iB ⟨_,_,rfl,h4⟩
         ·obtain⟨a5,c5,e5,h5⟩:∃a c,v 5=.tuple #[.slice a (b).length c,.int .i64 E]/\Bs w1 w1.heap.size (.slice a (b).length c) (b):=hF 5 (hA 5 (by simp))
          simp only [e5]at hK
          go_simp
          exact hK _ _ hJ iB ⟨_,_,rfl,h5⟩
         ·obtain⟨a5,c5,e5,h5⟩:∃a c,v 5=.tuple #[.slice a (b).length c,.int .i64 E]/\Bs w1 w1.heap.size (.slice a (b).length c) (b):=hF 5 (hA 5 (by simp))
          simp only [e5]at hK
          go_simp
          exact hK _ _ hJ iB rfl
         ·obtain⟨a6,c6,e6,h6⟩:∃a c,v 6=.slice a (b).length c/\Bs w1 w1.heap.size (.slice a (b).length c) (b):=hF 6 (hA 6 (by simp))
          simp only [e6]at hK
          go_simp
          exact hK _ _ hJ iB ⟨_,_,rfl,h6⟩
         ·have e7:v 7=.int .i64 E:=hF 7 (hA 7 (by simp))
          simp only [e7]at hK
          go_simp
          refine hK _ _ hJ iB ?_
          first|exact rfl|exact j4 _
        case tail16=>
         intro v w1 hJ hF
         have e0:v 0=.agg #[.slice xA k1.length xc,.slice yA k2.length yc,.int .i64 (n+1),.slice zA N.length zc]:=hF 0 (by simp)
         have e1:v 1=.slice (some ⟨g,0,none⟩) 3 3:=hF 1 (by simp)
         have e2:v 2=.pointer (some ⟨g,0,none⟩):=hF 2 (by simp)
         have e3:v 3=.slice v0A V.length v0c:=hF 3 (by simp)
         have e7:v 7=.int .i64 E:=hF 7 (by simp)
         have e9:v 9=.int .i64 E:=hF 9 (by simp)
         obtain⟨a8,c8,e8,h8⟩:∃a c,v 8=.slice a (b).length c/\Bs w1 w1.heap.size (.slice a (b).length c) (b):=hF 8 (by simp)
         simp only [iE,iJ,ja,Act.put,iM,Nat.reduceAdd,iS,iC,iD]
         simp only [e8,e9]
         have HV3:=iH h8
         obtain⟨w5,rfl⟩:∃w5:World,w5=w1:=⟨_,rfl⟩
         have HBU3:=iH (HBU4.out.trans (hJ.mono HBU4.out.size))
         have HB5:=iH (HB4.out.trans (hJ.mono HB4.out.size))
         obtain⟨vA,hvA⟩:∃vA,vA=a8:=⟨_,rfl⟩
         obtain⟨vc,hvc⟩:∃vc,vc=c8:=⟨_,rfl⟩
         rw [<-hvA,<-hvc]at HV3 |-
         clear hvA hvc h8 hJ hF e0 e1 e2 e3 e7 e8 e9
         by_cases hE:E=0
         ·subst hE
          have R9:Hid (qk k1 k2 n d st=(0,b,st,k1,k2,n+1)):=iH (by rw [R3X.out];exact iF (by simp))
          go_upto_region 19 with fail
          obtain⟨wd,hwd⟩:∃wd,wd=w5.drew:=⟨_,rfl⟩
          have HWD:=iH hwd
          have RC4:Hid (wd.heap[w.heap.size+1]?=some (.cells #[.slice A3 d.length d3,.int .i64 st] 45 (0,0))):=iH (by rw [hwd];exact RC.out w5 HB5.out)
          have RU4:Hid (wd.heap[wn.heap.size]?=some (.cells #[.slice xA k1.length xc,.slice yA k2.length yc,.int .i64 (n+1),.slice zA N.length zc] 56 (0,0))):=iH (by rw [hwd];exact RU.out w5 HBU3.out)
          have RR4:Hid (wd.heap[(w.heap.size+1+1)]?=some (.cells #[.slice none 0 0,.int .i64 0] 45 (0,0))):=iH (by rw [hwd];exact R2.out w5 HB5.out)
          have RS4:Hid (wd.heap[(w.heap.size+1+1+1)]?=some (.cells #[.slice none 0 0,.slice none 0 0,.int .i64 0] 29 (0,0))):=iH (by rw [hwd];exact R3.out w5 HB5.out)
          have HB4:Hid (Below w.heap.size w wd):=iH (by rw [hwd];exact(HB.out.trans (HB5.out.mono HB.out.size)).drew)
          have V4:Hid (Bs wd wd.heap.size (.slice vA b.length vc) b):=iH (by rw [hwd];exact HV3.out)
          have X4:Hid (Bs wd wd.heap.size (.slice xA k1.length xc) k1):=iH (by rw [hwd];exact XU.out.lift HBU3.out.drew)
          have Y4:Hid (Bs wd wd.heap.size (.slice yA k2.length yc) k2):=iH (by rw [hwd];exact YU.out.lift HBU3.out.drew)
          have NE1:Hid (w.heap.size+1≠(w.heap.size+1+1)):=iH (by omega)
          have NE3:Hid (wn.heap.size≠(w.heap.size+1+1)):=iH (by have:=HZA.out;have:=HBN.out.size;omega)
          clear hwd
          refine jc 7 [some 109,some 110,some 111,some 112,some 113,some 114,none] [[],[],[1],[0,1,2],[],[4],[0,1,2,3]]
           (J2 wd (w.heap.size+1+1) 6 (.slice vA b.length vc) (.int .i64 st)) (fun _ _=>True)
           [fun v _=>v 0=.slice vA b.length vc,
            fun v _=>v 1=.pointer (some ⟨w.heap.size+1,1,none⟩),
            fun v _=>v 2=.int .i64 st,
            fun v _=>v 3=.agg #[.slice vA b.length vc,.int .i64 st],
            fun v _=>v 4=.pointer (some ⟨wn.heap.size,0,none⟩),
            fun v _=>v 5=.agg #[.slice xA k1.length xc,.slice yA k2.length yc,.int .i64 (n+1)],
            fun v w1=>True]
           (by kernel_rfl) (by kernel_rfl) (fun _=>HWD.out.symm.trans (iF (by decide)).symm) ?st9 ?steps9 ?tail9
          case st9=>
           exact(.cons (fun _ _ _ _ _ _ h=>h) (.cons (fun _ _ _ _ _ _ h=>h) (.cons (fun _ _ _ _ _ _ h=>h) (.cons (fun _ _ _ _ _ _ h=>h) (.cons (fun _ _ _ _ _ _ h=>h) (.cons (fun _ _ _ _ _ _ h=>h) (.cons (fun _ _ _ _ _ _ h=>h) .nil)))))))
          case steps9=>
           simp only [iI,iK]
           refine(.cons ?_ (.cons ?_ (.cons ?_ (.cons ?_ (.cons ?_ (.cons ?_ (.cons ?_ .nil)))))))
           all_goals(intro L v w1 hJ hL hA hF K hK;simp only [ja,Act.put,iM,Nat.reduceAdd,iS,iC,iD]at hK |-)
           ·go_simp
            refine hK _ _ (J2.step hJ 0 (by decide)) trivial ?_
            first|exact rfl|exact j4 _
           ·go_simp
            refine hK _ _ (J2.step hJ 1 (by decide)) trivial ?_
            first|exact rfl|exact j4 _
           ·have e1:v 1=.pointer (some ⟨w.heap.size+1,1,none⟩):=hF 1 (hA 1 (by simp))
            obtain⟨c0,c1,_⟩:=jk ((J2.row hJ NE1.out).trans RC4.out)
            simp only [e1]at hK
            go_simp
            refine hK _ _ (J2.step hJ 2 (by decide)) trivial ?_
            first|exact rfl|exact j4 _
           ·have e0:v 0=.slice vA b.length vc:=hF 0 (hA 0 (by simp))
            have e2:v 2=.int .i64 st:=hF 2 (hA 2 (by simp))
            simp only [e0,e2]at hK
            go_simp
            refine hK _ _ (J2.step hJ 3 (by decide)) trivial ?_
            first|exact rfl|exact j4 _
           ·go_simp
            refine hK _ _ (J2.step hJ 4 (by decide)) trivial ?_
            first|exact rfl|exact j4 _
           ·have e4:v 4=.pointer (some ⟨wn.heap.size,0,none⟩):=hF 4 (hA 4 (by simp))
            obtain⟨c0,c1,c2,c3,_⟩:=jz ((J2.row hJ NE3.out).trans RU4.out)
            simp only [e4]at hK
            go_simp
            refine hK _ _ (J2.step hJ 5 (by decide)) trivial ?_
            first|exact rfl|exact j4 _
           ·have e3:v 3=.agg #[.slice vA b.length vc,.int .i64 st]:=hF 3 (hA 3 (by simp))
            simp only [e3]at hK
            obtain rfl:=J2.old hJ hL
            obtain⟨r0,r1,rf⟩:=jk RR4.out
            have rf0:=rf 0;have rf1:=rf 1;clear rf
            have e3:v 3=.agg #[.slice vA b.length vc,.int .i64 st]:=hF 3 (hA 3 (by simp))
            simp only [e3]at hK |-
            have hJ2:=iH hJ;have hL2:=iH hL
            clear hJ hL hF hA e3
            go_simp
            exact hK undef _ (J2.store hJ2.out hL2.out) trivial trivial
          case tail9=>
           intro v w1 hJ hF
           have e0:v 0=.slice vA b.length vc:=hF 0 (by simp)
           have e1:v 1=.pointer (some ⟨w.heap.size+1,1,none⟩):=hF 1 (by simp)
           have e2:v 2=.int .i64 st:=hF 2 (by simp)
           have e3:v 3=.agg #[.slice vA b.length vc,.int .i64 st]:=hF 3 (by simp)
           have e4:v 4=.pointer (some ⟨wn.heap.size,0,none⟩):=hF 4 (by simp)
           have e5:v 5=.agg #[.slice xA k1.length xc,.slice yA k2.length yc,.int .i64 (n+1)]:=hF 5 (by simp)
           simp only [iE,iJ,ja,Act.put,iM,Nat.reduceAdd,iS,iC,iD]
           simp only [e5]
           clear e0 e1 e2 e3 e4 e5 hF
           obtain rfl:=J2.all hJ rfl
           have RS5:Hid ((xd wd (w.heap.size+1+1) (.slice vA b.length vc) (.int .i64 st)).heap[(w.heap.size+1+1+1)]?=some (.cells #[.slice none 0 0,.slice none 0 0,.int .i64 0] 29 (0,0))):=iH ((qc (by omega)).trans RS4.out)
           obtain⟨s0,s1,s2,sf⟩:=j9 RS5.out
           have sf0:=sf 0;have sf1:=sf 1;have sf2:=sf 2;clear sf
           obtain⟨w5,hw5⟩:∃w5,w5=xd wd (w.heap.size+1+1) (.slice vA b.length vc) (.int .i64 st):=⟨_,rfl⟩
           rw [<-hw5]at s0 s1 s2 sf0 sf1 sf2 |-
           have HW5:=iH hw5
           clear hw5 hJ
           go_wp2_with fail
           have q:=ju (W:=wd) RR4.out RS4.out (.slice vA b.length vc) (.int .i64 st) (.slice xA k1.length xc) (.slice yA k2.length yc) (.int .i64 (n+1))
           rw [<-HW5.out]at q
           obtain⟨q2,q3⟩:=q
           obtain⟨y0,y1,_⟩:=jk q2
           obtain⟨x0,x1,x2,_⟩:=j9 q3
           refine bodyPost_ret (v:=.tuple #[.agg #[.slice vA b.length vc,.int .i64 st],.agg #[.slice xA k1.length xc,.slice yA k2.length yc,.int .i64 (n+1)],.int .i64 0]) (by simp only [set3]at y0 y1 x0 x1 x2;simp [results,Try.results19,go_sem,y0,y1,x0,x1,x2]) rfl ?_
           rw [R9.out]
           have hk:=fun(v:Value) (L:List UInt8) (h:Bs wd wd.heap.size v L)=>Km (W:=wd) RR4.out RS4.out (.slice vA b.length vc) (.int .i64 st) (.slice xA k1.length xc) (.slice yA k2.length yc) (.int .i64 (n+1)) h
           rw [<-HW5.out]at hk
           have hbw:=jo (p:=(w.heap.size+1+1)) (a:=.slice vA b.length vc) (b:=.int .i64 st) (x:=.slice xA k1.length xc) (y:=.slice yA k2.length yc) (z:=.int .i64 (n+1)) HB4.out (by omega)
           rw [<-HW5.out]at hbw
           exact⟨_,_,rfl,⟨_,rfl,hk _ _ V4.out⟩,⟨_,_,rfl,hk _ _ X4.out,hk _ _ Y4.out⟩,hbw⟩
         ·have tE:(E != 0)=true:=by simpa using hE
          have R9:Hid (qk k1 k2 n d st=(E,[],0,[],[],0)):=iH (by rw [R3X.out];exact iT hE)
          clear hE
          go_wp2_with(go_at_call 43;refine(km E w5).mono ?_;rintro e wf ⟨rfl,hb⟩;have HBF:=iH (HB5.out.trans (hb.mono HB5.out.size));obtain⟨r0,r1,rf⟩:=jk (R2.out wf HBF.out);have rf0:=rf 0;have rf1:=rf 1;clear rf;obtain⟨s0,s1,s2,sf⟩:=j9 (R3.out wf HBF.out);have sf0:=sf 0;have sf1:=sf 1;have sf2:=sf 2;clear sf;clear hb)
          obtain⟨q2,q3⟩:=ju (R2.out wf HBF.out) (R3.out wf HBF.out) (.slice none 0 0) (.int .i64 0) (.slice none 0 0) (.slice none 0 0) (.int .i64 0)
          obtain⟨y0,y1,_⟩:=jk q2
          obtain⟨x0,x1,x2,_⟩:=j9 q3
          refine bodyPost_ret (v:=.tuple #[.agg #[.slice none 0 0,.int .i64 0],.agg #[.slice none 0 0,.slice none 0 0,.int .i64 0],.int .i64 E]) (by simp only [xd,set3]at y0 y1 x0 x1 x2;simp [results,Try.results19,go_sem,y0,y1,x0,x1,x2]) rfl ?_
          rw [R9.out]
          exact⟨_,_,rfl,⟨_,rfl,BsS.nil0 _ _⟩,⟨_,_,rfl,BsS.nil0 _ _,BsS.nil0 _ _⟩,jo (HB.out.trans (Below.mono HBF.out HB.out.size)) (by omega)⟩
       |false=>
        have R9:Hid (qk k1 k2 n d st=(23,[],0,[],[],0)):=iH (by rw [R2X.out];exact iT (of_decide_eq_false OQ.out))
        go_wp2_with(go_at_call 43;refine(km 23 w4).mono ?_;rintro e wf ⟨rfl,hb⟩;have HBF:=iH (HB4.out.trans (hb.mono HB4.out.size));obtain⟨r0,r1,rf⟩:=jk (R2.out wf HBF.out);have rf0:=rf 0;have rf1:=rf 1;clear rf;obtain⟨s0,s1,s2,sf⟩:=j9 (R3.out wf HBF.out);have sf0:=sf 0;have sf1:=sf 1;have sf2:=sf 2;clear sf;clear hb)
        obtain⟨q2,q3⟩:=ju (R2.out wf HBF.out) (R3.out wf HBF.out) (.slice none 0 0) (.int .i64 0) (.slice none 0 0) (.slice none 0 0) (.int .i64 0)
        obtain⟨y0,y1,_⟩:=jk q2
        obtain⟨x0,x1,x2,_⟩:=j9 q3
        refine bodyPost_ret (v:=.tuple #[.agg #[.slice none 0 0,.int .i64 0],.agg #[.slice none 0 0,.slice none 0 0,.int .i64 0],.int .i64 23]) (by simp only [xd,set3]at y0 y1 x0 x1 x2;simp [results,Try.results19,go_sem,y0,y1,x0,x1,x2]) rfl ?_
        rw [R9.out]
        exact⟨_,_,rfl,⟨_,rfl,BsS.nil0 _ _⟩,⟨_,_,rfl,BsS.nil0 _ _,BsS.nil0 _ _⟩,jo (HB.out.trans (Below.mono HBF.out HB.out.size)) (by omega)⟩
     ·rw [decide_eq_false hcc]at HEQ
      have R9:Hid (qk k1 k2 n d st=(20,[],0,[],[],0)):=iH (by rw [R1X.out];exact iT hcc)
      clear hcc R1X
      go_wp2_with(first
       |(go_at_call 43;refine(km 20 w3).mono ?_;rintro e wf ⟨rfl,hb⟩;have HBF:=iH (HB3.out.trans (hb.mono HB3.out.size));obtain⟨r0,r1,rf⟩:=jk (R2.out wf HBF.out);have rf0:=rf 0;have rf1:=rf 1;clear rf;obtain⟨s0,s1,s2,sf⟩:=j9 (R3.out wf HBF.out);have sf0:=sf 0;have sf1:=sf 1;have sf2:=sf 2;clear sf;clear hb)
       |(go_at_call 38;refine HEQ.out.mono ?_;rintro e w' ⟨rfl,hw'⟩;rw [hw'];clear hw' w' z2))
      obtain⟨q2,q3⟩:=ju (R2.out wf HBF.out) (R3.out wf HBF.out) (.slice none 0 0) (.int .i64 0) (.slice none 0 0) (.slice none 0 0) (.int .i64 0)
      obtain⟨y0,y1,_⟩:=jk q2
      obtain⟨x0,x1,x2,_⟩:=j9 q3
      refine bodyPost_ret (v:=.tuple #[.agg #[.slice none 0 0,.int .i64 0],.agg #[.slice none 0 0,.slice none 0 0,.int .i64 0],.int .i64 20]) (by simp only [xd,set3]at y0 y1 x0 x1 x2;simp [results,Try.results19,go_sem,y0,y1,x0,x1,x2]) rfl ?_
      rw [R9.out]
      exact⟨_,_,rfl,⟨_,rfl,BsS.nil0 _ _⟩,⟨_,_,rfl,BsS.nil0 _ _,BsS.nil0 _ _⟩,jo (HB.out.trans (Below.mono HBF.out HB.out.size)) (by omega)⟩
  ·have HVC:Hid (vR d st=false):=iH (by simpa using v2)
   have R:Hid (qk k1 k2 n d st=(14,[],0,[],[],0)):=iH (by unfold qk;rw [iF (by rw [v1];simp),iT HVC.out])
   clear v1 v2
   go_enter Try.func19,Try.ntmps19
   go_upto_region 1 with fail
   rw [<-HWS.out,<-HWC.out,<-HW2.out,<-HW3.out]
   obtain⟨f0,f1,f2⟩:=CS.out wa iB
   go_wp2_with(first
    |(go_at_call 43;refine(km 14 wc).mono ?_;rintro e wf ⟨rfl,hb⟩;have HBF:=iH (HBC.out.trans (hb.mono HBC.out.size));obtain⟨r0,r1,rf⟩:=jk (R2.out wf HBF.out);have rf0:=rf 0;have rf1:=rf 1;clear rf;obtain⟨s0,s1,s2,sf⟩:=j9 (R3.out wf HBF.out);have sf0:=sf 0;have sf1:=sf 1;have sf2:=sf 2;clear sf;clear hb)
    |(go_at_call 41;have M1:=HBV;go_loud(refine(kZ _ d st wv (HCV.out wv HBV.out)).mono ?_;rw [HVC.out];rintro e wc ⟨rfl,hb⟩;have hb2:=HBV.out.trans (hb.mono HBV.out.size);have HBC:=iH hb2;clear g0 g1;obtain⟨g0,g1⟩:=CC.out wc hb2;clear f0 f1 f2;obtain⟨f0,f1,f2⟩:=CS.out wc hb2;clear hb hb2))
    |(go_at_call 25;refine(jd _ k1 k2 n _ wa HSV.out).mono ?_;rw [HVS.out];rintro e wv ⟨rfl,hb⟩;have HBV:=iH hb;obtain⟨g0,g1⟩:=CC.out wv hb;clear hb))
   obtain⟨q2,q3⟩:=ju (R2.out wf HBF.out) (R3.out wf HBF.out) (.slice none 0 0) (.int .i64 0) (.slice none 0 0) (.slice none 0 0) (.int .i64 0)
   obtain⟨y0,y1,_⟩:=jk q2
   obtain⟨x0,x1,x2,_⟩:=j9 q3
   refine bodyPost_ret (v:=.tuple #[.agg #[.slice none 0 0,.int .i64 0],.agg #[.slice none 0 0,.slice none 0 0,.int .i64 0],.int .i64 14]) (by simp only [xd,set3]at y0 y1 x0 x1 x2;simp [results,Try.results19,go_sem,y0,y1,x0,x1,x2]) rfl ?_
   rw [R.out]
   exact⟨_,_,rfl,⟨_,rfl,BsS.nil0 _ _⟩,⟨_,_,rfl,BsS.nil0 _ _,BsS.nil0 _ _⟩,jo (HB.out.trans (Below.mono HBF.out HB.out.size)) (by omega)⟩
 ·have HVS:Hid (vS k1 k2 n=false):=iH (by simpa using v1)
  have R:Hid (qk k1 k2 n d st=(14,[],0,[],[],0)):=iH (by unfold qk;rw [iT HVS.out])
  clear v1
  go_enter Try.func19,Try.ntmps19
  go_upto_region 1 with fail
  rw [<-HWS.out,<-HWC.out,<-HW2.out,<-HW3.out]
  obtain⟨f0,f1,f2⟩:=CS.out wa iB
  go_wp2_with(first
   |(go_at_call 43;refine(km 14 wv).mono ?_;rintro e wf ⟨rfl,hb⟩;have HBF:=iH (HBV.out.trans (hb.mono HBV.out.size));obtain⟨r0,r1,rf⟩:=jk (R2.out wf HBF.out);have rf0:=rf 0;have rf1:=rf 1;clear rf;obtain⟨s0,s1,s2,sf⟩:=j9 (R3.out wf HBF.out);have sf0:=sf 0;have sf1:=sf 1;have sf2:=sf 2;clear sf;clear hb)
   |(go_at_call 25;refine(jd _ k1 k2 n _ wa HSV.out).mono ?_;rw [HVS.out];rintro e wv ⟨rfl,hb⟩;have HBV:=iH hb;obtain⟨g0,g1⟩:=CC.out wv hb;clear hb))
  obtain⟨q2,q3⟩:=ju (R2.out wf HBF.out) (R3.out wf HBF.out) (.slice none 0 0) (.int .i64 0) (.slice none 0 0) (.slice none 0 0) (.int .i64 0)
  obtain⟨y0,y1,_⟩:=jk q2
  obtain⟨x0,x1,x2,_⟩:=j9 q3
  refine bodyPost_ret (v:=.tuple #[.agg #[.slice none 0 0,.int .i64 0],.agg #[.slice none 0 0,.slice none 0 0,.int .i64 0],.int .i64 14]) (by simp only [xd,set3]at y0 y1 x0 x1 x2;simp [results,Try.results19,go_sem,y0,y1,x0,x1,x2]) rfl ?_
  rw [R.out]
  exact⟨_,_,rfl,⟨_,rfl,BsS.nil0 _ _⟩,⟨_,_,rfl,BsS.nil0 _ _,BsS.nil0 _ _⟩,jo (HB.out.trans (Below.mono HBF.out HB.out.size)) (by omega)⟩
theorem Vx{M:List UInt8}(h:M.length=2){st:Int}(h0:0<=st)(h1:st<=65535):K4 M=st↔kV st=M:=by
 obtain⟨a,b,rfl⟩:∃a b,M= [a,b]:=by
  rcases M with _|⟨a,_|⟨b,_|⟨c,M⟩⟩⟩
  ·simp at h
  ·simp at h
  ·exact⟨a,b,rfl⟩
  ·simp at h
 have e2:K4 [a,b]=256*(256*0+bv a)+bv b:=rfl
 rw [e2]
 have a0:=jF a;have a1:=jJ a;have b0:=jF b;have b1:=jJ b
 unfold kV
 constructor
 ·intro e
  have x1:ofI (st / 256)=a:=qn (by rw [kd];omega)
  have x2:ofI st=b:=qn (by rw [kd];omega)
  rw [x1,x2]
 ·intro e
  simp only [List.cons.injEq,and_true]at e
  obtain⟨e1,e2⟩:=e
  rw [<-e1,<-e2,kd,kd]
  omega
def xq(k N d:List UInt8):List UInt8:=if d= []then []else 1 :: kR k (qZ k N) (xI d)
theorem kI(k N d:List UInt8):j6 k N d=k9 135 (xq k N d):=by
 unfold j6 xq k9
 split
 ·rfl
 ·rw [iF (by simp)]
def exV(ex:Int):List UInt8:=if ex= -1 then []else if 256<ex then kV (ex % 65536)else XE (ex % 256)
theorem zL(ex:Int):x6 ex=k9 151 (exV ex):=by
 unfold x6 exV k9
 split
 ·rfl
 ·exact(iF (by split<;>simp [XE,kV])).symm
theorem ZN(k N d:List UInt8):(kR k (qZ k N) (xI d)).length=16*((d.length+1+zG d.length) / 16):=zl k _ d
theorem yI(k N d:List UInt8)(hd:d.length<=4000):xq k N d= []\/(jE (xq k N d)=true/\(xq k N d).length<=4096):=by
 unfold xq
 split
 ·exact .inl rfl
 ·rename_i h
  right
  have hl:=ZN k N d
  have hp:16<=d.length+1+zG d.length/\(d.length+1+zG d.length) % 16=0/\zG d.length<=15:=by
   have:=kT d;have h2:=kt d;have:=kP d.length;unfold zG at*;omega
  refine⟨?_,by simp;omega⟩
  unfold jE
  simp only [List.length_cons,Bool.and_eq_true,decide_eq_true_eq]
  exact⟨by omega,rfl,by omega⟩
theorem Qg(k N d:List UInt8):qY k N ((xq k N d).drop 1)=d/\kM k N ((xq k N d).drop 1)=0:=by
 unfold xq
 split
 ·rename_i h;subst h;exact⟨rfl,rfl⟩
 ·have hl:=ZN k N d
  have hp:16<=d.length+1+zG d.length/\(d.length+1+zG d.length) % 16=0:=by
   have:=kT d;have h2:=kt d;unfold zG at*;omega
  have hne:¬kR k (qZ k N) (xI d)= []:=fun e=>by rw [e]at hl;simp at hl;omega
  have ho:=ZA k (qZ k N) (xI d) _ (kT d)
  simp only [iE,iJ]
  unfold qY kM
  rw [iF hne,iF hne,ho]
  exact⟨Yc d,Yb d⟩
theorem Qi(ex:Int)(h:ex= -1\/(1<=ex/\ex<=65536)):(exV ex= []/\ex= -1)\/((1:Int)<=((exV ex).length:Int)/\(exV ex).length<=2/\exV ex≠ []):=by
 unfold exV
 split
 ·rename_i h;exact .inl ⟨rfl,h⟩
 ·right;split<;>simp [XE,kV]
theorem Vj(ex:Int)(h:ex= -1\/(1<=ex/\ex<=65536)):exW (exV ex)=ex:=by
 unfold exV
 by_cases h1:ex= -1
 ·rw [iT h1];unfold exW;rw [iT rfl];exact h1.symm
 ·rw [iF h1]
  have hr:=h.resolve_left h1
  by_cases h2:256<ex
  ·rw [iT h2]
   have e:K4 (kV (ex % 65536))=ex % 65536:=(Vx (M:=kV (ex % 65536)) rfl (by omega) (by omega)).2 rfl
   unfold exW
   rw [iF (by simp [kV]),e]
   split
   ·rw [iF (by simp [kV])];omega
   ·omega
  ·rw [iF h2]
   have e:K4 (XE (ex % 256))=ex % 256:=by
    show 256*0+bv (ofI (ex % 256))=_
    rw [kd];omega
   unfold exW
   rw [iF (by simp [XE]),e]
   split
   ·rw [iT (by simp [XE])];omega
   ·omega
theorem Kf(L:Ns)(v:List UInt8)(k:Ns):((L.app (.cons 142 v k .nil)).pick 142).isSome=true:=by
 induction L with
 |nil=>rfl
 |cons t x y r _ ih=>
  rw [Ns.app,Ns.pick]
  split
  ·rfl
  ·exact ih
theorem Uj(L M:Ns)(g:Int)(h:(M.pick g).isSome=true):((L.app M).pick g).isSome=true:=by
 induction L with
 |nil=>exact h
 |cons t x y r _ ih=>
  rw [Ns.app,Ns.pick]
  split
  ·rfl
  ·exact ih
theorem Kk{tg lo:Int}{mu:Bool}(ht:¬tg=135)(h142:¬tg=142)(hlo:1<=lo)(hv:xe tg=true)(hp:jV tg=false)(k2 N head V M:List UInt8)(hk2:k2.length=16)(hV:V= []\/(jE V=true/\V.length<=4096))(hM:(M= []/\mu=false)\/(lo<=(M.length:Int)/\M.length<=2/\M≠ []))(ts:List Int)(hts:∀t∈ts,t=142\/(t=tg/\M≠ []))
 (b:List UInt8) (hb:qb k2 N head ((k9 135 V).app (k9 tg M))=.ok b):
 kB ts (qu tg lo mu) b=.ok ([V,M,ki k2 N head ((k9 135 V).app (k9 tg M)).enc],(k9 135 V).app (k9 tg M))/\b.length<=4096:=by
 obtain⟨L,hL⟩:∃L,(k9 135 V).app (k9 tg M)=L:=⟨_,rfl⟩
 have hLc:L.chk 1=0:=by rw [<-hL];exact qO _ _ (by decide) (by decide) _ (by have:=qO tg M hv hp .nil rfl;rwa [Ns.app_nil]at this)
 have hLa:L.all<=2:=by rw [<-hL];have:=qN 135 V (k9 tg M);have h9:=qN tg M .nil;rw [Ns.app_nil]at h9;simp only [Ns.all]at h9;omega
 rw [hL]at hb |-
 obtain⟨C,hC⟩:∃C,ki k2 N head L.enc=C:=⟨_,rfl⟩
 have hLe:=qv hLc (by omega)
 have hlt:¬4096<L.enc.length:=fun h=>by
  unfold qb at hb
  rw [hLe,iT h]at hb
  cases hb
 rw [iF hlt]at hLe
 have hsl:=yR k2 N head hLc (by omega)
 rw [hLe]at hsl
 rw [show bytesOf (.ok L.enc:Except Int (List UInt8))=L.enc from rfl,hC]at hsl
 rw [hsl,yo C hLc (by omega)]at hb
 split at hb
 ·cases hb
 ·rename_i hle
  injection hb with hb
  have hlb:b.length<=4096:=by rw [<-hb];omega
  have hpp:jB b true=.ok (L.app (.cons 142 C .nil .nil)):=by
   rw [<-hb]
   exact JK true _ _ (Zb true _ (by omega)) (Qd L C 1 (by omega) hLc) (by rw [Ns.all_snoc];omega) (by omega)
  have hcl:C.length=8:=by
   rw [<-hC];unfold ki;rw [List.length_take]
   have:=zX hk2 (N++(head++L.enc));omega
  have hsh:Yx tg lo mu (L.app (.cons 142 C .nil .nil)) V M C:=⟨by rw [<-hL,Ns.app_assoc],hV,hM,hcl⟩
  obtain⟨n,hf⟩:=Xw ht h142 hsh
  have hall:(ts.all fun t=>((L.app (.cons 142 C .nil .nil)).pick t).isSome)=true:=by
   rw [List.all_eq_true]
   intro t htm
   rcases hts t htm with rfl|⟨rfl,hne⟩
   ·exact Kf _ _ _
   ·rw [<-hL,Ns.app_assoc,kW hne]
    exact Uj _ _ _ (by rw [Ns.app,Ns.pick,iT rfl]<;>rfl)
  refine⟨?_,hlb⟩
  rw [Qt hpp hall hf]
  obtain⟨V',M',C',hvs,_,h3⟩:=yK ht h142 hlo hp (j0v hpp) hf
  simp only [List.cons.injEq,and_true]at hvs
  obtain⟨rfl,rfl,rfl⟩:=hvs
  rw [h3,hL,hC]
theorem yq{k1 k2:List UInt8}{n:Int}{c:Cm}(h1:vS k1 k2 n=true)(h2:vC c=true)(hg:yE c.cl=true)(hn:n≠1099511627776)(hd:c.data.length<=4000){b:List UInt8}(hb:qb k2 (xF (n+1)) (xh (c.cl+12) c.ins c.p1 c.p2) ((j6 k1 (xF (n+1)) c.data).app (x6 c.ex))=.ok b):
 jD k1 k2 n ⟨c.cl+12,c.ins,c.p1,c.p2,b,65536⟩=(0,c,k1,k2,n+1):=by
 have hv:=of_decide_eq_true h2
 have hs:=of_decide_eq_true h1
 unfold yE at hg
 rw [Bool.and_eq_true,decide_eq_true_eq,decide_eq_true_eq]at hg
 obtain⟨N,hN⟩:∃N,xF (n+1)=N:=⟨_,rfl⟩
 rw [hN,kI,zL]at hb
 obtain⟨ho,hlb⟩:=Kk (tg:=151) (lo:=1) (mu:=false) (by decide) (by decide) (by decide) (by decide) (by decide) k2 N _ (xq k1 N c.data) (exV c.ex) hs.2.1 (yI k1 N c.data hd) ((Qi c.ex hv.2.2.2.2.2.2).imp (fun h=>⟨h.1,rfl⟩) id) [142] (fun t h=>by simp at h;exact .inl h) b hb
 have hvc:vC ⟨c.cl+12,c.ins,c.p1,c.p2,b,65536⟩=true:=decide_eq_true ⟨by simp only;omega,by simp only;omega,hv.2.2.1,hv.2.2.2.1,hv.2.2.2.2.1,hlb,.inr (by simp only;omega)⟩
 unfold jD
 rw [iF (by rw [h1];simp),iF (by rw [hvc];simp),iF hn,iF (by simp only;omega),hN]
 simp only
 rw [ho]
 have e:=Qg k1 N c.data
 show(if ¬ki k2 N (xh (c.cl+12) c.ins c.p1 c.p2) ((k9 135 (xq k1 N c.data)).app (k9 151 (exV c.ex))).enc=ki k2 N (xh (c.cl+12) c.ins c.p1 c.p2) ((k9 135 (xq k1 N c.data)).app (k9 151 (exV c.ex))).enc then _
  else if ¬kM k1 N ((xq k1 N c.data).drop 1)=0 then _ else _)=_
 rw [iF (fun h=>h rfl),iF (fun h=>h e.2)]
 show(0,(⟨c.cl+12 - 12,c.ins,c.p1,c.p2,qY k1 N ((xq k1 N c.data).drop 1),exW (exV c.ex)⟩:Cm),k1,k2,n+1)=_
 rw [e.1,Vj c.ex hv.2.2.2.2.2.2,show c.cl+12 - 12=c.cl by omega]
theorem Xk{k1 k2:List UInt8}{n:Int}{d:List UInt8}{st:Int}(h1:vS k1 k2 n=true)(h2:vR d st=true)(hn:n≠1099511627776)(hd:d.length<=4000){b:List UInt8}(hb:qb k2 (xF (n+1)) [] ((j6 k1 (xF (n+1)) d).app (stN st))=.ok b):
 qk k1 k2 n b st=(0,d,st,k1,k2,n+1):=by
 have hv:=of_decide_eq_true h2
 have hs:=of_decide_eq_true h1
 obtain⟨N,hN⟩:∃N,xF (n+1)=N:=⟨_,rfl⟩
 have hst:stN st=k9 153 (kV st):=(iF (by simp [kV])).symm
 rw [hN,kI,hst]at hb
 obtain⟨ho,hlb⟩:=Kk (tg:=153) (lo:=2) (mu:=true) (by decide) (by decide) (by decide) (by decide) (by decide) k2 N _ (xq k1 N d) (kV st) hs.2.1 (yI k1 N d hd) (.inr ⟨by simp [kV],by simp [kV],by simp [kV]⟩) [142,153] (fun t h=>by
  simp only [List.mem_cons,List.not_mem_nil,or_false]at h
  rcases h with rfl|rfl
  ·exact .inl rfl
  ·exact .inr ⟨rfl,by simp [kV]⟩) b hb
 have hvr:vR b st=true:=decide_eq_true ⟨hlb,hv.2⟩
 unfold qk
 rw [iF (by rw [h1];simp),iF (by rw [hvr];simp),iF hn,hN,ho]
 have e:=Qg k1 N d
 show(if ¬ki k2 N [] ((k9 135 (xq k1 N d)).app (k9 153 (kV st))).enc=ki k2 N [] ((k9 135 (xq k1 N d)).app (k9 153 (kV st))).enc then _
  else if ¬kV st=kV st then _ else if ¬kM k1 N ((xq k1 N d).drop 1)=0 then _ else(0,qY k1 N ((xq k1 N d).drop 1),st,k1,k2,n+1))=_
 rw [iF (fun h=>h rfl),iF (fun h=>h rfl),iF (fun h=>h e.2),e.1]
theorem Jt{k2 N head V M:List UInt8}{tg:Int}(hk2:k2.length=16)(hv:xe tg=true)(hp:jV tg=false)(ht:tg<=255)(hV:V.length<=4000)(hM:M.length<=2):
 ∃b,qb k2 N head ((k9 135 V).app (k9 tg M))=.ok b/\b.length=(k9 135 V).enc.length+((k9 tg M).enc.length+10):=by
 obtain⟨L,hL⟩:∃L,(k9 135 V).app (k9 tg M)=L:=⟨_,rfl⟩
 have hLc:L.chk 1=0:=by rw [<-hL];exact qO _ _ (by decide) (by decide) _ (by have:=qO tg M hv hp .nil rfl;rwa [Ns.app_nil]at this)
 have hLa:L.all<=2:=by rw [<-hL];have:=qN 135 V (k9 tg M);have h9:=qN tg M .nil;rw [Ns.app_nil]at h9;simp only [Ns.all]at h9;omega
 have hle:L.enc.length=(k9 135 V).enc.length+(k9 tg M).enc.length:=by rw [<-hL,qj,List.length_append]
 have hl1:(k9 135 V).enc.length<=4+V.length:=by
  unfold k9
  split
  ·simp [Ns.enc]
  ·have:=qP 135 V .nil (by decide) (by decide) (by omega)
   simpa [Ns.enc]using this
 have hl2:(k9 tg M).enc.length<=4+M.length:=by
  unfold k9
  split
  ·simp [Ns.enc]
  ·have:=qP tg M .nil hp ht (by omega)
   simpa [Ns.enc]using this
 rw [hL,yR k2 N head hLc (by omega)]
 have hLe:=qv hLc (by omega)
 rw [iF (by omega)]at hLe
 rw [hLe,show bytesOf (.ok L.enc:Except Int (List UInt8))=L.enc from rfl]
 obtain⟨C,hC⟩:∃C,ki k2 N head L.enc=C:=⟨_,rfl⟩
 have hcl:C.length=8:=by
  rw [<-hC];unfold ki;rw [List.length_take]
  have:=zX hk2 (N++(head++L.enc));omega
 have hce:(Ns.cons 142 C .nil .nil).enc.length=10:=by
  have h1:jV 142=false:=by decide
  have h2:(qq 8).length=1:=rfl
  have h3:(ke 142).length=1:=by decide
  simp [Ns.enc,h1,h2,h3,hcl]
 rw [hC,yo C hLc (by omega),qj,iF (by rw [List.length_append,hce];omega)]
 exact⟨_,rfl,by rw [List.length_append,hce,hle];omega⟩
end Go.Proofs.Ytadndhgebgjlaaa
