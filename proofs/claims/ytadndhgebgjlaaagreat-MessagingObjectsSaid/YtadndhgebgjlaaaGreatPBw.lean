/- The worlds behind the entry of Reply and Open; messaging.Reply; The reference's Reply -/
import Derived.Test.YtadndhgebgjlaaaGreatPBk
import Derived.Test.YtadndhgebgjlaaaGreatPBn
import Derived.Test.YtadndhgebgjlaaaGreatPBq
set_option linter.all false
set_option maxRecDepth 100000
set_option maxHeartbeats 4000000
namespace Go.Proofs.YtadndhgebgjlaaaGreat
open Go.RowKit Go.Deep
theorem mp{P:Prop}(h:P:=by
 rw [R.out]
 exact⟨_,_,rfl,⟨_,rfl,BsS.nil0 _ _⟩,⟨_,_,rfl,BsS.nil0 _ _,BsS.nil0 _ _⟩,jj (HB.out.trans (Below.mono HBC.out HB.out.size)) (by omega)⟩):P:=h
theorem mz{P:Prop}(h:P:=by
 rw [R9.out]
 have hk:=fun(v:Value) (L:List UInt8) (h:Bs wd wd.heap.size v L)=>yG (W:=wd) RR4.out RS4.out (.slice vA b.length vc) (.int .i64 st) (.slice xA k1.length xc) (.slice yA k2.length yc) (.int .i64 (n+1)) h
 rw [<-HW5.out]at hk
 have hbw:=jj (p:=(w.heap.size+1+1)) (a:=.slice vA b.length vc) (b:=.int .i64 st) (x:=.slice xA k1.length xc) (y:=.slice yA k2.length yc) (z:=.int .i64 (n+1)) HB4.out (by omega)
 rw [<-HW5.out]at hbw
 exact⟨_,_,rfl,⟨_,rfl,hk _ _ V4.out⟩,⟨_,_,rfl,hk _ _ X4.out,hk _ _ Y4.out⟩,hbw⟩):P:=h
theorem mW{P:Prop}(h:P:=by
 rw [R.out]
 exact⟨_,_,rfl,⟨_,rfl,BsS.nil0 _ _⟩,⟨_,_,rfl,BsS.nil0 _ _,BsS.nil0 _ _⟩,jj (HB.out.trans (Below.mono HBV.out HB.out.size)) (by omega)⟩):P:=h
theorem m0i{P:Prop}(h:P:=by
 simp only [List.take_succ_cons,List.take_zero]
 refine(.cons ?_ (.cons ?_ (.cons ?_ (.cons ?_ (.cons ?_ (.cons ?_ (.cons ?_ .nil)))))))
 all_goals(intro L v w1 hJ hL hA hF K hK;simp only [jf,Act.put,Nat.zero_add,Nat.reduceAdd,List.setIfInBounds_toArray,List.set_cons_zero,List.set_cons_succ]at hK |-)
 ·go_simp
  refine hK _ _ (J2.step hJ 0 (by decide)) trivial ?_
  first|exact rfl|exact j5 _
 ·go_simp
  refine hK _ _ (J2.step hJ 1 (by decide)) trivial ?_
  first|exact rfl|exact j5 _
 ·have e1:v 1=_:=hF 1 (hA 1 (by simp))
  obtain⟨c0,c1,_⟩:=jd ((J2.row hJ NE1.out).trans RC4.out)
  simp only [e1]at hK
  go_simp
  refine hK _ _ (J2.step hJ 2 (by decide)) trivial ?_
  first|exact rfl|exact j5 _
 ·have e0:v 0=_:=hF 0 (hA 0 (by simp))
  have e2:v 2=_:=hF 2 (hA 2 (by simp))
  simp only [e0,e2]at hK
  go_simp
  refine hK _ _ (J2.step hJ 3 (by decide)) trivial ?_
  first|exact rfl|exact j5 _
 ·go_simp
  refine hK _ _ (J2.step hJ 4 (by decide)) trivial ?_
  first|exact rfl|exact j5 _
 ·have e4:v 4=_:=hF 4 (hA 4 (by simp))
  obtain⟨c0,c1,c2,c3,_⟩:=ki ((J2.row hJ NE3.out).trans RU4.out)
  simp only [e4]at hK
  go_simp
  refine hK _ _ (J2.step hJ 5 (by decide)) trivial ?_
  first|exact rfl|exact j5 _
 ·have e3:v 3=_:=hF 3 (hA 3 (by simp))
  simp only [e3]at hK
  obtain rfl:=J2.old hJ hL
  obtain⟨r0,r1,rf⟩:=jd RR4.out
  have rf0:=rf 0;have rf1:=rf 1;clear rf
  have e3:v 3=_:=hF 3 (hA 3 (by simp))
  simp only [e3]at hK |-
  have hJ2:=iH hJ;have hL2:=iH hL
  clear hJ hL hF hA e3
  go_simp
  exact hK undef _ (J2.store hJ2.out hL2.out) trivial trivial):P:=h
theorem m10{P:Prop}(h:P:=by
 exact(.cons (fun _ _ _ _ _ _ h=>h) (.cons (fun _ _ _ _ _ _ h=>h) (.cons (fun _ _ _ _ _ _ h=>h) (.cons (fun _ _ _ _ _ _ h=>h) (.cons (fun _ _ _ _ _ _ h=>h) (.cons (fun _ _ _ _ _ _ h=>h) (.cons (fun _ _ _ _ _ _ h=>h) (.cons (fun _ _ _ _ _ _ h=>h) (.cons (fun _ _ _ _ _ _ h=>h) (.cons (fun _ _ _ _ _ _ h=>h) (.cons (fun _ _ _ _ _ _ h=>h) (.cons (fun _ _ _ _ _ _ h=>h) (.cons (fun _ _ _ _ _ _ h=>h) (.cons (fun _ _ _ _ _ _ h=>h) (.cons (fun _ _ _ _ _ _ h=>h) (.cons (fun _ _ _ _ _ _ h=>h) .nil))))))))))))))))):P:=h
theorem m1n{P:Prop}(h:P:=by
 go_simp
 refine hK _ _ (J2.step hJ 0 (by decide)) trivial ?_
 first|exact rfl|exact j5 _):P:=h
theorem m1o{P:Prop}(h:P:=by
 go_simp
 refine hK _ _ (J2.step hJ 1 (by decide)) trivial ?_
 first|exact rfl|exact j5 _):P:=h
theorem m1r{P:Prop}(h:P:=by
 exact(.cons (fun _ _ _ _ _ _ h=>h) (.cons (fun _ _ _ _ _ _ h=>h) (.cons (fun _ _ _ _ _ _ h=>h) (.cons (fun _ _ _ _ _ _ h=>h) (.cons (fun _ _ _ _ _ _ h=>h) (.cons (fun _ _ _ _ _ _ h=>h) (.cons (fun _ _ _ _ _ _ h=>h) .nil)))))))):P:=h
theorem m20{P:Prop}(h:P:=by
 go_simp
 exact hK undef _ (J2.store hJ2.out hL2.out) trivial trivial):P:=h
theorem m26{P:Prop}(h:P:=by
 rw [R9.out]
 exact⟨_,_,rfl,⟨_,rfl,BsS.nil0 _ _⟩,⟨_,_,rfl,BsS.nil0 _ _,BsS.nil0 _ _⟩,jj (HB.out.trans (Below.mono HB3.out HB.out.size)) (by omega)⟩):P:=h
theorem m3q{P:Prop}(h:P:=by
 exact⟨hi.trans (hb.mono hi.size),oA,oc,xA,xc,hu,ho.below hb,rfl,qW ho hx hb hi.size⟩):P:=h
theorem j7b{w:World}{vs vc:Value}{k1 k2:List UInt8}{n st:Int}{d:List UInt8}(hs:qs w (·<w.heap.size) vs k1 k2 n)(hc:QU w (·<w.heap.size) vc d st):
 ∃A1 d1 A2 d2 A3 d3 ws wq w2 wa,vs=.agg #[.slice A1 k1.length d1,.slice A2 k2.length d2,.int .i64 n]/\vc=.agg #[.slice A3 d.length d3,.int .i64 st]/\Hid (∀W,Below wa.heap.size wa W->W.heap[(w.heap.size+1+1)]?=some (.cells #[.slice none 0 0,.int .i64 0] 44 (0,0)))/\Hid (∀W,Below wa.heap.size wa W->W.heap[(w.heap.size+1+1+1)]?=some (.cells #[.slice none 0 0,.slice none 0 0,.int .i64 0] 29 (0,0)))/\Hid (∀W,Below wa.heap.size wa W->W.cell? ⟨w.heap.size,0,none⟩=some (.slice A1 k1.length d1)/\W.cell? ⟨w.heap.size,1,none⟩=some (.slice A2 k2.length d2)/\W.cell? ⟨w.heap.size,2,none⟩=some (.int .i64 n))/\Hid (∀W,Below wa.heap.size wa W->W.cell? ⟨w.heap.size+1,0,none⟩=some (.slice A3 d.length d3)/\W.cell? ⟨w.heap.size+1,1,none⟩=some (.int .i64 st))/\Hid (∀W,Below wa.heap.size wa W->W.heap[w.heap.size+1]?=some (.cells #[.slice A3 d.length d3,.int .i64 st] 44 (0,0)))/\Hid (wa.heap.size=w.heap.size+1+1+1+1)/\Hid (Below w.heap.size w wa)/\Hid (ws=w.alloc (.cells #[.slice A1 k1.length d1,.slice A2 k2.length d2,.int .i64 n] 29))/\Hid (wq=ws.alloc (.cells #[.slice A3 d.length d3,.int .i64 st] 44))/\Hid (w2=wq.alloc (.cells #[.slice none 0 0,.int .i64 0] 44))/\Hid (wa=w2.alloc (.cells #[.slice none 0 0,.slice none 0 0,.int .i64 0] 29))/\Hid (Bs wa wa.heap.size (.slice A1 k1.length d1) k1)/\Hid (Bs wa wa.heap.size (.slice A2 k2.length d2) k2)/\Hid (Bs wa wa.heap.size (.slice A3 d.length d3) d)/\Hid (qs wa (·<wa.heap.size) (.agg #[.slice A1 k1.length d1,.slice A2 k2.length d2,.int .i64 n]) k1 k2 n)/\Hid (∀W,Below wa.heap.size wa W->QU W (·<W.heap.size) (.agg #[.slice A3 d.length d3,.int .i64 st]) d st):=by
 obtain⟨ua,ub,rfl,ha,hb⟩:=hs
 obtain⟨ud,rfl,hd⟩:=hc
 obtain⟨A1,n1,d1,rfl⟩:=ha.form
 obtain⟨A2,n2,d2,rfl⟩:=hb.form
 obtain⟨A3,n3,d3,rfl⟩:=hd.form
 obtain rfl:=Bs.lenEq ha
 obtain rfl:=Bs.lenEq hb
 obtain rfl:=Bs.lenEq hd
 obtain⟨ws,hws⟩:∃ws,ws=w.alloc (.cells #[.slice A1 k1.length d1,.slice A2 k2.length d2,.int .i64 n] 29):=⟨_,rfl⟩
 obtain⟨wq,hwq⟩:∃wq,wq=ws.alloc (.cells #[.slice A3 d.length d3,.int .i64 st] 44):=⟨_,rfl⟩
 obtain⟨w2,hw2⟩:∃w2,w2=wq.alloc (.cells #[.slice none 0 0,.int .i64 0] 44):=⟨_,rfl⟩
 obtain⟨wa,hwa⟩:∃wa,wa=w2.alloc (.cells #[.slice none 0 0,.slice none 0 0,.int .i64 0] 29):=⟨_,rfl⟩
 have zs:ws.heap.size=w.heap.size+1:=by rw [hws];simp
 have zq:wq.heap.size=w.heap.size+1+1:=by rw [hwq];simp [zs]
 have z2:w2.heap.size=w.heap.size+1+1+1:=by rw [hw2];simp [zq]
 have za:wa.heap.size=w.heap.size+1+1+1+1:=by rw [hwa];simp [z2]
 have b1:Below w.heap.size w ws:=by rw [hws];exact iA
 have b2:Below ws.heap.size ws wq:=by rw [hwq];exact iA
 have b3:Below wq.heap.size wq w2:=by rw [hw2];exact iA
 have b4:Below w2.heap.size w2 wa:=by rw [hwa];exact iA
 have q1:ws.heap[w.heap.size]?=some (.cells #[.slice A1 k1.length d1,.slice A2 k2.length d2,.int .i64 n] 29 (0,0)):=by rw [hws];exact iN
 have q2:wq.heap[w.heap.size+1]?=some (.cells #[.slice A3 d.length d3,.int .i64 st] 44 (0,0)):=by rw [hwq,<-zs];exact iN
 have q3:w2.heap[(w.heap.size+1+1)]?=some (.cells #[.slice none 0 0,.int .i64 0] 44 (0,0)):=by rw [hw2,<-zq];exact iN
 have q4:wa.heap[(w.heap.size+1+1+1)]?=some (.cells #[.slice none 0 0,.slice none 0 0,.int .i64 0] 29 (0,0)):=by rw [hwa,<-z2];exact iN
 have e3:=(b4.block (w.heap.size+1+1) (by omega)).trans q3
 have e2:=(b4.block (w.heap.size+1) (by omega)).trans ((b3.block (w.heap.size+1) (by omega)).trans q2)
 have e1:=(b4.block w.heap.size (by omega)).trans ((b3.block w.heap.size (by omega)).trans ((b2.block w.heap.size (by omega)).trans q1))
 have hB:Below w.heap.size w wa:=b1.trans ((b2.trans ((b3.trans (b4.mono b3.size)).mono b2.size)).mono b1.size)
 have R2:Hid (∀W,Below wa.heap.size wa W->W.heap[(w.heap.size+1+1)]?=some (.cells #[.slice none 0 0,.int .i64 0] 44 (0,0))):=iH fun W h=>(h.block _ (by omega)).trans e3
 have R3:Hid (∀W,Below wa.heap.size wa W->W.heap[(w.heap.size+1+1+1)]?=some (.cells #[.slice none 0 0,.slice none 0 0,.int .i64 0] 29 (0,0))):=iH fun W h=>(h.block _ (by omega)).trans q4
 have CS:Hid (∀W,Below wa.heap.size wa W->W.cell? ⟨w.heap.size,0,none⟩=some (.slice A1 k1.length d1)/\W.cell? ⟨w.heap.size,1,none⟩=some (.slice A2 k2.length d2)/\W.cell? ⟨w.heap.size,2,none⟩=some (.int .i64 n)):=iH fun W h=>(by obtain⟨a,b,c,_⟩:=j7 ((h.block w.heap.size (by omega)).trans e1);exact⟨a,b,c⟩)
 have CC:Hid (∀W,Below wa.heap.size wa W->W.cell? ⟨w.heap.size+1,0,none⟩=some (.slice A3 d.length d3)/\W.cell? ⟨w.heap.size+1,1,none⟩=some (.int .i64 st)):=iH fun W h=>(by obtain⟨a,b,_⟩:=jd ((h.block (w.heap.size+1) (by omega)).trans e2);exact⟨a,b⟩)
 have RC:Hid (∀W,Below wa.heap.size wa W->W.heap[w.heap.size+1]?=some (.cells #[.slice A3 d.length d3,.int .i64 st] 44 (0,0))):=iH fun W h=>(h.block _ (by omega)).trans e2
 have HZA:=iH za
 have HB:=iH hB;have HWS:=iH hws;have HWC:=iH hwq;have HW2:=iH hw2;have HW3:=iH hwa
 have H1:=iH (Bs.lift ha hB);have H2:=iH (Bs.lift hb hB);have H3:=iH (Bs.lift hd hB)
 have HSV:Hid (qs wa (·<wa.heap.size) (.agg #[.slice A1 k1.length d1,.slice A2 k2.length d2,.int .i64 n]) k1 k2 n):=iH ⟨_,_,rfl,H1.out,H2.out⟩
 have HCV:Hid (∀W,Below wa.heap.size wa W->QU W (·<W.heap.size) (.agg #[.slice A3 d.length d3,.int .i64 st]) d st):=iH fun W h=>⟨_,rfl,H3.out.lift h⟩
 exact⟨A1,d1,A2,d2,A3,d3,ws,wq,w2,wa,rfl,rfl,R2,R3,CS,CC,RC,HZA,HB,HWS,HWC,HW2,HW3,H1,H2,H3,HSV,HCV⟩
def stN(st:Int):Ns:=.cons 153 (zI st) .nil .nil
def j0d(k1 k2:List UInt8)(n st:Int):Except Int (List UInt8)->Int×List UInt8×Int×List UInt8×List UInt8×Int
 |.error e=>(e,[],0,[],[],0)
 |.ok b=>(0,b,st,k1,k2,n+1)
def kK(k1 k2:List UInt8)(n:Int)(d:List UInt8)(st:Int):Int×List UInt8×Int×List UInt8×List UInt8×Int:=
 if vS k1 k2 n=false then(14,[],0,[],[],0)
 else if vR d st=false then(14,[],0,[],[],0)
 else if n=1099511627776 then(3,[],0,[],[],0)
 else j0d k1 k2 n st (x6 k2 (Jh (n+1)) [] ((j6 k1 (Jh (n+1)) d).app (stN st)))
theorem j6s:kB 153:=⟨by decide,by decide⟩
theorem j0f(k1 N d:List UInt8)(st:Int)(hd:d.length<=4096):((j6 k1 N d).app (stN st)).enc.length<=10000:=by
 rw [xz,List.length_append]
 have h1:(stN st).enc.length<=100:=by
  refine Nat.le_trans (zw 153 _ .nil (by decide) (by decide) (by simp [zI])) ?_
  simp [zI,Ns.enc]
 have h2:(j6 k1 N d).enc.length<=5000:=by
  unfold j6
  split
  ·simp [Ns.enc]
  ·have hl:=J5 k1 (qS k1 N) d
   have hp:=q7 d.length
   exact m3l
 omega
theorem j19{a b c d:Value}(h:Value.tuple #[a,b]=.tuple #[c,d]):a=c:=by
 injection h with h
 have:=congrArg (fun x:Array Value=>x[0]?) h
 simpa using this
theorem XG{w:World}{base base':Nat}{o:Value}{L:Ns}(h:OwnN w base' o L)(hb:base<=base'):OwnN w base o L:=by
 obtain⟨xs,h1,h2⟩:=h
 refine⟨xs,⟨h1.1,?_⟩,h2.keep (fun b hs _=>⟨rfl,hs.1,hs.2.1,Nat.le_trans hb hs.2.2⟩) L xs⟩
 rcases h1.2 with h0|⟨g,cap,cur,hv,hb',r⟩
 ·exact .inl h0
 ·exact .inr ⟨g,cap,cur,hv,Nat.le_trans hb hb',r⟩
theorem YT{op:Oper}{a:Act}{w:World}{K:Act->World->Prop}{Q:Exit->Act->World->Prop}(s x:Operand)(ho:op.op=.call {callee:=.builtin .append,args:=#[s,x],argTypes:=#[58,58]})(base:Nat)(o:Value)(L:Ns)(hs:a.eval s=o)(hown:OwnN w base o L)(t:Int)(v:List UInt8)(k:Ns)(xv yv:Value)(ty:TypeId)(g:Nat)(hx:a.eval x=.slice (some ⟨g,0,none⟩) 1 1)(hg:g=w.heap.size)(hi:kB t)(hv:BsS w (xM base w o) xv v)(hk:NsS w (xM base w o) yv k)(hb:L.len<=100000000000)(hbase:base<=w.heap.size)(h:∀o' w',j1q w w' base o o' (L.app (.cons t v k .nil))->K (a.put op.dst o') w'):Oper.wp Tryz.prog op a (w.alloc (.cells #[.int .i64 t,xv,yv] ty)) K Q:=by
 subst hg
 have hkX:∀b,xM base w o b->b<w.heap.size->(w.alloc (.cells #[.int .i64 t,xv,yv] ty)).heap[b]?=w.heap[b]?/\j4j base (fun _=>False) (w.alloc (.cells #[.int .i64 t,xv,yv] ty)) o b:=fun b hs hl=>
  ⟨Below.heap_alloc w _ b hl,⟨iZ hl (by simp),hs.2⟩,fun h=>h⟩
 have hX:OwnX (w.alloc (.cells #[.int .i64 t,xv,yv] ty)) base (fun _=>False) o L:=by
  obtain⟨xs,h1,h2⟩:=hown
  exact⟨xs,World.ownsRow.alloc h1 _,h2.keep hkX L xs⟩
 have hE:EachN (w.alloc (.cells #[.int .i64 t,xv,yv] ty)) (j4j base (fun _=>False) (w.alloc (.cells #[.int .i64 t,xv,yv] ty)) o) (.cons t v k .nil) [.int .i64 t,xv,yv]:=⟨xv,yv,[],rfl,hi,hv.keep hkX,hk.keep hkX,rfl⟩
 refine j3p s x ho base (fun _=>False) o L (.cons t v k .nil) hs hX w.heap.size 1 [.int .i64 t,xv,yv] #[.int .i64 t,xv,yv] ty (0,0) hx rfl (iN) rfl hE (by simp [Ns.len];omega) (Nat.le_trans hbase (by simp)) (fun h=>h) fun o' w' hG=>h o' w' ⟨hG.1.own,(iB.alloc hbase _).trans hG.2.1,?_⟩
 exact⟨hG.2.2.1.os,hG.2.2.1.tape,hG.2.2.1.output,Nat.le_trans (by simp) hG.2.2.1.size,fun b hb' hne=>(hG.2.2.1.block b (by simp;omega) hne).trans (Below.heap_alloc w _ b hb')⟩
theorem Uo(vs vc:Value)(k1 k2:List UInt8)(n:Int)(d:List UInt8)(st:Int)(w:World)(hs:qs w (·<w.heap.size) vs k1 k2 n)(hc:QU w (·<w.heap.size) vc d st):
 Calls Tryz.prog 40 #[vs,vc] w (Y8 (kK k1 k2 n d st) w):=by
 obtain⟨A1,d1,A2,d2,A3,d3,ws,wq,w2,wa,rfl,rfl,R2,R3,CS,CC,RC,HZA,HB,HWS,HWC,HW2,HW3,H1,H2,H3,HSV,HCV⟩:=j7b hs hc
 clear hs hc
 by_cases v1:vS k1 k2 n=true
 ·have HVS:=iH v1
  by_cases v2:vR d st=true
  ·have HVC:=iH v2
   have VS:=iH (of_decide_eq_true v1)
   have VC:=iH (of_decide_eq_true v2)
   clear v1 v2
   by_cases g3:n=1099511627776
   ·have t3:(n==1099511627776)=true:=by simp [g3]
    have R:Hid (kK k1 k2 n d st=(3,[],0,[],[],0)):=iH (by unfold kK;rw [iF (by rw [HVS.out];simp),iF (by rw [HVC.out];simp),iT g3])
    clear g3
    go_enter Tryz.func40,Tryz.ntmps40
    go_upto_region 1 with fail
    rw [<-HWS.out,<-HWC.out,<-HW2.out,<-HW3.out]
    obtain⟨f0,f1,f2⟩:=CS.out wa iB
    go_upto_region 4 with (first
     |(go_at_call 76;have M1:=HBV;go_loud(refine(xj _ d st wv (HCV.out wv HBV.out)).mono ?_;rw [HVC.out];rintro e wc ⟨rfl,hb⟩;have hb2:=HBV.out.trans (hb.mono HBV.out.size);have HBC:=iH hb2;clear g0 g1;obtain⟨g0,g1⟩:=CC.out wc hb2;clear f0 f1 f2;obtain⟨f0,f1,f2⟩:=CS.out wc hb2;clear hb hb2))
     |(go_at_call 47;refine(js _ k1 k2 n _ wa HSV.out).mono ?_;rw [HVS.out];rintro e wv ⟨rfl,hb⟩;have HBV:=iH hb;obtain⟨g0,g1⟩:=CC.out wv hb;clear hb))
    clear f0 f1 f2 g0 g1
    obtain⟨r0,r1,rf⟩:=jd (R2.out wc HBC.out);have rf0:=rf 0;have rf1:=rf 1;clear rf;obtain⟨s0,s1,s2,sf⟩:=j7 (R3.out wc HBC.out);have sf0:=sf 0;have sf1:=sf 1;have sf2:=sf 2;clear sf
    go_wp2_with fail
    obtain⟨q2,q3⟩:=jo (R2.out wc HBC.out) (R3.out wc HBC.out) (.slice none 0 0) (.int .i64 0) (.slice none 0 0) (.slice none 0 0) (.int .i64 0)
    obtain⟨y0,y1,_⟩:=jd q2
    obtain⟨x0,x1,x2,_⟩:=j7 q3
    refine bodyPost_ret (v:=.tuple #[.agg #[.slice none 0 0,.int .i64 0],.agg #[.slice none 0 0,.slice none 0 0,.int .i64 0],.int .i64 3]) (by simp only [qm,set3]at y0 y1 x0 x1 x2;simp [results,Tryz.results40,go_sem,y0,y1,x0,x1,x2]) rfl ?_
    exact mp
   ·have t3:(n==1099511627776)=false:=by simpa using g3
    have LK1:Hid (k1.length=16):=iH VS.out.1
    have LK2:Hid (k2.length=16):=iH VS.out.2.1
    have LD:Hid (d.length<=4096):=iH VC.out.1
    obtain⟨N,hN⟩:∃N,Jh (n+1)=N:=⟨_,rfl⟩
    have LN:Hid (N.length=16):=iH (by rw [<-hN]<;>rfl)
    have HNX:Hid (∀(va vb:Value) (w:World),Bs w w.heap.size va k1->Bs w w.heap.size vb k2->Calls Tryz.prog 49 #[.agg #[va,vb,.int .i64 n]] w fun e w'=>∃x y z,e=.returned (.agg #[x,y,.int .i64 (n+1),z])/\Bs w' w'.heap.size x k1/\Bs w' w'.heap.size y k2/\Bs w' w'.heap.size z N/\Below w.heap.size w w'):=iH (fun va vb w h1 h2=>by rw [<-hN];exact yo va vb k1 k2 n VS.out.2.2.1 VS.out.2.2.2 w h1 h2)
    obtain⟨X2,hX2⟩:∃X,zI st=X:=⟨_,rfl⟩
    obtain⟨LC,hLC⟩:∃L,(j6 k1 N d).app (.cons 153 X2 .nil .nil)=L:=⟨_,rfl⟩
    have HLC:=iH hLC
    have HST:Hid (∀w,Calls Tryz.prog 77 #[.int .i64 st] w fun e w'=>∃A c,e=.returned (.agg #[.int .i64 153,.slice A X2.length c,.slice none 0 0])/\BsS w' (New w w') (.slice A X2.length c) X2/\Below w.heap.size w w'):=iH (fun w=>by rw [<-hX2];exact JT st VC.out.2.1 VC.out.2.2 w)
    have HCL:Hid ((j6 k1 N d).len<=100000000000):=iH (by unfold j6;split<;>simp [Ns.len])
    have LLA:Hid (LC.all<=10):=iH (by rw [<-hLC,Ns.all_snoc];unfold j6;split<;>simp [Ns.all])
    have LLE:Hid (LC.enc.length<=10000):=iH (by
     have h:=j0f k1 N d st LD.out
     unfold stN at h
     rwa [hX2,hLC]at h)
    obtain⟨r,hr⟩:∃r,x6 k2 N [] LC=r:=⟨_,rfl⟩
    have R:Hid (kK k1 k2 n d st=j0d k1 k2 n st r):=iH (by
     unfold kK
     rw [iF (by rw [HVS.out];simp),iF (by rw [HVC.out];simp),iF g3,hN]
     unfold stN
     rw [hX2,hLC,hr])
    have HRE:=iH hr
    clear hN hX2 hLC hr g3
    go_enter Tryz.func40,Tryz.ntmps40
    go_upto_region 1 with fail
    rw [<-HWS.out,<-HWC.out,<-HW2.out,<-HW3.out]
    obtain⟨f0,f1,f2⟩:=CS.out wa iB
    go_upto_region 6 with (first
     |(go_at_call 49;refine(HNX.out _ _ wc (H1.out.lift HBC.out) (H2.out.lift HBC.out)).mono ?_;rintro e wn ⟨x,y,z,rfl,hx,hy,hz,hb⟩;obtain⟨xA,xc,hp⟩:=Bs.formL hx;subst hp;obtain⟨yA,yc,hp⟩:=Bs.formL hy;subst hp;obtain⟨zA,zc,hp⟩:=Bs.formL hz;subst hp;have HX:=iH hx;have HY:=iH hy;have HZ:=iH hz;have HBN:=iH (HBC.out.trans (hb.mono HBC.out.size));obtain⟨u0,u1,u2,u3,uf⟩:=ki (zj wn);have uf0:=uf 0;have uf1:=uf 1;have uf2:=uf 2;have uf3:=uf 3;clear uf hx hy hz hb)
     |(go_at_call 76;have M1:=HBV;go_loud(refine(xj _ d st wv (HCV.out wv HBV.out)).mono ?_;rw [HVC.out];rintro e wc ⟨rfl,hb⟩;have hb2:=HBV.out.trans (hb.mono HBV.out.size);have HBC:=iH hb2;clear g0 g1;obtain⟨g0,g1⟩:=CC.out wc hb2;clear f0 f1 f2;obtain⟨f0,f1,f2⟩:=CS.out wc hb2;clear hb hb2))
     |(go_at_call 47;refine(js _ k1 k2 n _ wa HSV.out).mono ?_;rw [HVS.out];rintro e wv ⟨rfl,hb⟩;have HBV:=iH hb;obtain⟨g0,g1⟩:=CC.out wv hb;clear hb))
    clear u0 u1 u2 u3 uf0 uf1 uf2 uf3 g0 g1 f0 f1 f2 t3
    obtain⟨wu,hwu⟩:∃wu,wu=wn.alloc (.cells #[.slice xA k1.length xc,.slice yA k2.length yc,.int .i64 (n+1),.slice zA N.length zc] 77):=⟨_,rfl⟩
    rw [<-hwu]
    have hbu:Below wn.heap.size wn wu:=by rw [hwu];exact iA
    have hur:wu.heap[wn.heap.size]?=some (.cells #[.slice xA k1.length xc,.slice yA k2.length yc,.int .i64 (n+1),.slice zA N.length zc] 77 (0,0)):=by rw [hwu];exact iN
    have hult:=(iG hur)
    have CU:Hid (∀W,Below wu.heap.size wu W->W.cell? ⟨wn.heap.size,0,none⟩=some (.slice xA k1.length xc)/\W.cell? ⟨wn.heap.size,1,none⟩=some (.slice yA k2.length yc)/\W.cell? ⟨wn.heap.size,2,none⟩=some (.int .i64 (n+1))/\W.cell? ⟨wn.heap.size,3,none⟩=some (.slice zA N.length zc)):=iH fun W h=>(by obtain⟨a,b,c,d,_⟩:=ki ((h.block _ hult).trans hur);exact⟨a,b,c,d⟩)
    have RU:Hid (∀W,Below wu.heap.size wu W->W.heap[wn.heap.size]?=some (.cells #[.slice xA k1.length xc,.slice yA k2.length yc,.int .i64 (n+1),.slice zA N.length zc] 77 (0,0))):=iH fun W h=>(h.block _ hult).trans hur
    have HBAU:=iH (HBN.out.trans (hbu.mono HBN.out.size))
    have XU:=iH (HX.out.lift hbu);have YU:=iH (HY.out.lift hbu);have ZU:=iH (HZ.out.lift hbu);have DU:=iH (H3.out.lift HBAU.out)
    clear hwu hbu hur hult
    have HSL:Hid (∀(oA:Option Addr) (oc:Nat) (w:World),Below wu.heap.size wu w->OwnN w wu.heap.size (.slice oA LC.len oc) LC->Calls Tryz.prog 52 #[.agg #[.slice xA k1.length xc,.slice yA k2.length yc,.int .i64 (n+1),.slice zA N.length zc],.slice none 0 0,.slice oA LC.len oc] w (Zf r wu.heap.size (.slice oA LC.len oc) w)):=iH (fun oA oc w h1 h2=>by rw [<-HRE.out];exact Xx (.slice xA k1.length xc) (.slice yA k2.length yc) (.slice zA N.length zc) (.slice none 0 0) (.slice oA LC.len oc) (n+1) k2 N [] LC LK2.out LN.out (by simp) LLA.out LLE.out wu.heap.size w (YU.out.lift h1) (ZU.out.lift h1) (BsS.nil0 _ _) h2 h1.size)
    refine jc 16 [some 30,some 31,some 32,some 33,some 34,some 35,some 36,some 37,some 38,some 39,some 40,some 29,some 41,some 42,some 8,some 9] [[],[],[],[2],[1,2,3],[],[5],[1,2,3,4,5,6],[1,2,3,4,5,6,7],[1,2,3,4,5,6,7,8],[0,1,2,3,4,5,6,7,8,9],[0,1,2,3,4,5,6,7,8,9,10],[0,1,2,3,4,5,6,7,8,9,10,11],[0,1,2,3,4,5,6,7,8,9,10,11],[0,1,2,3,4,5,6,7,8,9,10,11,12],[0,1,2,3,4,5,6,7,8,9,10,11,12,13,14]]
     (JC [4,7,8,9,10] (fun k u w1=>Below wu.heap.size wu w1/\match k with
         |0=>True
         |1=>∃A c,u 0=.slice A (j6 k1 N d).len c/\OwnN w1 wu.heap.size (.slice A (j6 k1 N d).len c) (j6 k1 N d)
         |2=>∃A c xA xc,u 0=.slice A (j6 k1 N d).len c/\OwnN w1 wu.heap.size (.slice A (j6 k1 N d).len c) (j6 k1 N d)/\u 1=.agg #[.int .i64 153,.slice xA X2.length xc,.slice none 0 0]/\BsS w1 (xM wu.heap.size w1 (.slice A (j6 k1 N d).len c)) (.slice xA X2.length xc) X2
         |3=>∃A c xA xc W,u 0=.slice A (j6 k1 N d).len c/\OwnN W wu.heap.size (.slice A (j6 k1 N d).len c) (j6 k1 N d)/\BsS W (xM wu.heap.size W (.slice A (j6 k1 N d).len c)) (.slice xA X2.length xc) X2/\Below wu.heap.size wu W/\u 2=.slice (some ⟨W.heap.size,0,none⟩) 1 1/\w1=W.alloc (.cells #[.int .i64 153,.slice xA X2.length xc,.slice none 0 0] 61)
         |4=>∃A c,u 3=.slice A LC.len c/\OwnN w1 wu.heap.size (.slice A LC.len c) LC
         |_=>∃A c,u 4=.tuple #[.slice A (bytesOf r).length c,.int .i64 (jV r)]/\BsS w1 (New wu w1) (.slice A (bytesOf r).length c) (bytesOf r))) (fun _ _=>True)
     [fun v _=>v 0=.agg #[.slice xA k1.length xc,.slice yA k2.length yc,.int .i64 (n+1),.slice zA N.length zc],
      fun v _=>v 1=.agg #[.slice xA k1.length xc,.slice yA k2.length yc,.int .i64 (n+1),.slice zA N.length zc],
      fun v _=>v 2=.pointer (some ⟨w.heap.size+1,0,none⟩),
      fun v _=>v 3=.slice A3 d.length d3,
      fun v w1=>True,
      fun v _=>v 5=.pointer (some ⟨w.heap.size+1,1,none⟩),
      fun v _=>v 6=.int .i64 st,
      fun v w1=>True,
      fun v w1=>∃g,v 8=.slice (some ⟨g,0,none⟩) 1 1,
      fun v w1=>True,
      fun v w1=>True,
      fun v w1=>v 11=v 10,
      fun v w1=>∃a c,v 10=.tuple #[.slice a (bytesOf r).length c,.int .i64 (jV r)]/\v 12=.slice a (bytesOf r).length c,
      fun v w1=>v 13=.int .i64 (jV r),
      fun v w1=>∃a c,v 10=.tuple #[.slice a (bytesOf r).length c,.int .i64 (jV r)]/\v 14=.slice a (bytesOf r).length c,
      fun v w1=>v 15=.int .i64 (jV r)]
     (by kernel_rfl) (by kernel_rfl) (fun v=>JC.start ⟨iB.drew,trivial⟩) ?st6 ?steps6 ?tail6
    case st6=>
     exact m10
    case steps6=>
     simp only [List.take_succ_cons,List.take_zero]
     refine(.cons ?_ (.cons ?_ (.cons ?_ (.cons ?_ (.cons ?_ (.cons ?_ (.cons ?_ (.cons ?_ (.cons ?_ (.cons ?_ (.cons ?_ (.cons ?_ (.cons ?_ (.cons ?_ (.cons ?_ (.cons ?_ .nil))))))))))))))))
     all_goals(intro L v w1 hJ hL hA hF K hK;simp only [jf,Act.put,Nat.zero_add,Nat.reduceAdd,List.setIfInBounds_toArray,List.set_cons_zero,List.set_cons_succ]at hK |-)
     ·have hi:Below wu.heap.size wu w1:=(JC.inv (I:=fun w1=>Below wu.heap.size wu w1) (fun k u w1 h=>h.1) hJ)
      obtain⟨c0,c1,c2,c3⟩:=CU.out _ hi
      go_simp
      refine hK _ _ (hJ.same 0 (by decide)) trivial ?_
      first|exact rfl|exact j5 _
     ·have hi:Below wu.heap.size wu w1:=(JC.inv (I:=fun w1=>Below wu.heap.size wu w1) (fun k u w1 h=>h.1) hJ)
      obtain⟨c0,c1,c2,c3⟩:=CU.out _ hi
      go_simp
      refine hK _ _ (hJ.same 1 (by decide)) trivial ?_
      first|exact rfl|exact j5 _
     ·go_simp
      refine hK _ _ (hJ.same 2 (by decide)) trivial ?_
      first|exact rfl|exact j5 _
     ·have e2:v 2=_:=hF 2 (hA 2 (by simp))
      have hi:Below wu.heap.size wu w1:=(JC.inv (I:=fun w1=>Below wu.heap.size wu w1) (fun k u w1 h=>h.1) hJ)
      obtain⟨c0,c1⟩:=CC.out _ (HBAU.out.trans (hi.mono HBAU.out.size))
      simp only [e2]at hK
      go_simp
      refine hK _ _ (hJ.same 3 (by decide)) trivial ?_
      first|exact rfl|exact j5 _
     ·have e1:v 1=_:=hF 1 (hA 1 (by simp))
      have e3:v 3=_:=hF 3 (hA 3 (by simp))
      simp only [e1,e3]at hK
      have hi:Below wu.heap.size wu w1:=(JC.inv (I:=fun w1=>Below wu.heap.size wu w1) (fun k u w1 h=>h.1) hJ)
      have hG:=hJ.at_ 0 (by decide) hL (.inl rfl)
      go_simp
      refine(KN _ _ _ _ _ k1 N d LK1.out LN.out LD.out w1 (XU.out.lift hi) (ZU.out.lift hi) (DU.out.lift hi)).mono ?_
      rintro e wk ⟨o,rfl,ho,hb⟩
      obtain⟨oA,oc,hp⟩:=ho.form
      subst hp
      refine hK _ _ (hJ.next 0 (by decide) hL (.inl rfl) (by decide) ?_) trivial trivial
      exact⟨hi.trans (hb.mono hi.size),oA,oc,rfl,XG ho hi.size⟩
     ·go_simp
      refine hK _ _ (hJ.same 5 (by decide)) trivial ?_
      first|exact rfl|exact j5 _
     ·have e5:v 5=_:=hF 5 (hA 5 (by simp))
      have hi:Below wu.heap.size wu w1:=(JC.inv (I:=fun w1=>Below wu.heap.size wu w1) (fun k u w1 h=>h.1) hJ)
      obtain⟨c0,c1⟩:=CC.out _ (HBAU.out.trans (hi.mono HBAU.out.size))
      simp only [e5]at hK
      go_simp
      refine hK _ _ (hJ.same 6 (by decide)) trivial ?_
      first|exact rfl|exact j5 _
     ·have e6:v 6=_:=hF 6 (hA 6 (by simp))
      simp only [e6]at hK
      have hG:=hJ.at_ 1 (by decide) hL (.inr (hA _ (by simp)))
      obtain⟨hi,oA,oc,hu,ho⟩:=hG
      go_simp
      refine(HST.out w1).mono ?_
      rintro e wk ⟨xA,xc,rfl,hx,hb⟩
      refine hK _ _ (hJ.next 1 (by decide) hL (.inr (hA _ (by simp))) (by decide) ?_) trivial trivial
      exact m3q
     ·have hG:=hJ.at_ 2 (by decide) hL (.inr (hA _ (by simp)))
      obtain⟨hi,oA,oc,xA,xc,hu,ho,hu1,hx⟩:=hG
      have e7:v 7=.agg #[.int .i64 153,.slice xA X2.length xc,.slice none 0 0]:=hu1
      simp only [e7]at hK
      go_simp
      refine hK _ _ (hJ.next 2 (by decide) hL (.inr (hA _ (by simp))) (by decide) ?_) trivial ⟨_,rfl⟩
      exact⟨hi.alloc hi.size _,oA,oc,xA,xc,w1,hu,ho,hx,hi,rfl,rfl⟩
     ·have hG:=hJ.at_ 3 (by decide) hL (.inr (hA _ (by simp)))
      obtain⟨hi,oA,oc,xA,xc,W,hu,ho,hx,hiW,hu2,hw⟩:=hG
      have e4:v 4=.slice oA (j6 k1 N d).len oc:=hu
      have e8:v 8=.slice (some ⟨W.heap.size,0,none⟩) 1 1:=hu2
      simp only [e4,e8]at hK |-
      have hn3:∀w2 (y:Value),(fun k u w1=>Below wu.heap.size wu w1/\match k with
       |0=>True
       |1=>∃A c,u 0=.slice A (j6 k1 N d).len c/\OwnN w1 wu.heap.size (.slice A (j6 k1 N d).len c) (j6 k1 N d)
       |2=>∃A c xA xc,u 0=.slice A (j6 k1 N d).len c/\OwnN w1 wu.heap.size (.slice A (j6 k1 N d).len c) (j6 k1 N d)/\u 1=.agg #[.int .i64 153,.slice xA X2.length xc,.slice none 0 0]/\BsS w1 (xM wu.heap.size w1 (.slice A (j6 k1 N d).len c)) (.slice xA X2.length xc) X2
       |3=>∃A c xA xc W,u 0=.slice A (j6 k1 N d).len c/\OwnN W wu.heap.size (.slice A (j6 k1 N d).len c) (j6 k1 N d)/\BsS W (xM wu.heap.size W (.slice A (j6 k1 N d).len c)) (.slice xA X2.length xc) X2/\Below wu.heap.size wu W/\u 2=.slice (some ⟨W.heap.size,0,none⟩) 1 1/\w1=W.alloc (.cells #[.int .i64 153,.slice xA X2.length xc,.slice none 0 0] 61)
       |4=>∃A c,u 3=.slice A LC.len c/\OwnN w1 wu.heap.size (.slice A LC.len c) LC
       |_=>∃A c,u 4=.tuple #[.slice A (bytesOf r).length c,.int .i64 (jV r)]/\BsS w1 (New wu w1) (.slice A (bytesOf r).length c) (bytesOf r)) 4 (fun j=>if j<3 then v ([4,7,8,9,10].getD j 0)else if j=3 then y else undef) w2->JC [4,7,8,9,10] (fun k u w1=>Below wu.heap.size wu w1/\match k with
       |0=>True
       |1=>∃A c,u 0=.slice A (j6 k1 N d).len c/\OwnN w1 wu.heap.size (.slice A (j6 k1 N d).len c) (j6 k1 N d)
       |2=>∃A c xA xc,u 0=.slice A (j6 k1 N d).len c/\OwnN w1 wu.heap.size (.slice A (j6 k1 N d).len c) (j6 k1 N d)/\u 1=.agg #[.int .i64 153,.slice xA X2.length xc,.slice none 0 0]/\BsS w1 (xM wu.heap.size w1 (.slice A (j6 k1 N d).len c)) (.slice xA X2.length xc) X2
       |3=>∃A c xA xc W,u 0=.slice A (j6 k1 N d).len c/\OwnN W wu.heap.size (.slice A (j6 k1 N d).len c) (j6 k1 N d)/\BsS W (xM wu.heap.size W (.slice A (j6 k1 N d).len c)) (.slice xA X2.length xc) X2/\Below wu.heap.size wu W/\u 2=.slice (some ⟨W.heap.size,0,none⟩) 1 1/\w1=W.alloc (.cells #[.int .i64 153,.slice xA X2.length xc,.slice none 0 0] 61)
       |4=>∃A c,u 3=.slice A LC.len c/\OwnN w1 wu.heap.size (.slice A LC.len c) LC
       |_=>∃A c,u 4=.tuple #[.slice A (bytesOf r).length c,.int .i64 (jV r)]/\BsS w1 (New wu w1) (.slice A (bytesOf r).length c) (bytesOf r)) (ji L 9) (jy v 9 y) w2:=fun w2 y hg=>(hJ.next 3 (by decide) hL (.inr (hA _ (by simp))) (by decide) hg)
      subst hw
      rw [iT (show Region.wanted _ _=true from rfl)]
      refine YT (.tmp 34) (.tmp 38) rfl wu.heap.size (.slice oA (j6 k1 N d).len oc) (j6 k1 N d) (by simp [Act.eval]) ho 153 X2 .nil (.slice xA X2.length xc) (.slice none 0 0) _ W.heap.size (by simp [Act.eval]) rfl j6s hx (NsS.nil0 _ _) HCL.out hiW.size ?_
      intro o2 w2 hg2
      rw [HLC.out]at hg2
      obtain⟨oA2,oc2,hp⟩:=hg2.1.form
      subst hp
      exact hK _ _ (hn3 _ _ ⟨hiW.trans hg2.2.1,oA2,oc2,rfl,hg2.1⟩) trivial trivial
     ·have e0:v 0=_:=hF 0 (hA 0 (by simp))
      simp only [e0]at hK
      have hG:=hJ.at_ 4 (by decide) hL (.inr (hA _ (by simp)))
      obtain⟨hi,oA,oc,hu,ho⟩:=hG
      have e9:v 9=.slice oA LC.len oc:=hu
      simp only [e9]at hK |-
      go_simp
      refine(HSL.out oA oc w1 hi ho).mono ?_
      rintro e w5 ⟨v5,rfl,hs,hb,_⟩
      obtain⟨A5,C5,hv5⟩:=Bs.formL hs
      subst hv5
      refine hK _ _ (hJ.next 4 (by decide) hL (.inr (hA _ (by simp))) (by decide) ?_) trivial trivial
      exact⟨hi.trans hb,A5,C5,rfl,BsS.keep hs fun g hg _=>⟨rfl,Nat.le_trans hi.size hg.1,hg.2⟩⟩
     ·have hq:=hJ
      go_simp
      exact hK _ _ (hJ.same 11 (by decide)) trivial rfl
     ·obtain⟨_,a,c,hu,_⟩:=hJ.fin (fun j hj=>by have hj:j<5:=hj;rcases(by omega:j=0\/j=1\/j=2\/j=3\/j=4)with rfl|rfl|rfl|rfl|rfl<;>exact hA _ (by simp))
      have e10:v 10=.tuple #[.slice a (bytesOf r).length c,.int .i64 (jV r)]:=hu
      have e11:v 11=v 10:=hF 11 (hA 11 (by simp))
      rw [e10]at e11
      simp only [e10,e11]at hK
      go_simp
      exact hK _ _ (hJ.same 12 (by decide)) trivial ⟨a,c,e10,rfl⟩
     ·obtain⟨_,a,c,hu,_⟩:=hJ.fin (fun j hj=>by have hj:j<5:=hj;rcases(by omega:j=0\/j=1\/j=2\/j=3\/j=4)with rfl|rfl|rfl|rfl|rfl<;>exact hA _ (by simp))
      have e10:v 10=.tuple #[.slice a (bytesOf r).length c,.int .i64 (jV r)]:=hu
      have e11:v 11=v 10:=hF 11 (hA 11 (by simp))
      rw [e10]at e11
      simp only [e10,e11]at hK
      go_simp
      exact hK _ _ (hJ.same 13 (by decide)) trivial rfl
     ·obtain⟨a,c,e10,e12⟩:∃a c,v 10=_/\v 12=_:=hF 12 (hA 12 (by simp))
      simp only [e10,e12]at hK
      go_simp
      exact hK _ _ (hJ.same 14 (by decide)) trivial ⟨a,c,e10,rfl⟩
     ·have e13:v 13=_:=hF 13 (hA 13 (by simp))
      simp only [e13]at hK
      go_simp
      exact hK _ _ (hJ.same 15 (by decide)) trivial rfl
    case tail6=>
     intro v w1 hJ hF
     have e0:v 0=_:=hF 0 (by simp)
     have e1:v 1=_:=hF 1 (by simp)
     have e2:v 2=_:=hF 2 (by simp)
     have e3:v 3=_:=hF 3 (by simp)
     have e5:v 5=_:=hF 5 (by simp)
     have e6:v 6=_:=hF 6 (by simp)
     simp only [List.drop_succ_cons,List.drop_zero,jf,Act.put,Nat.zero_add,Nat.reduceAdd,List.setIfInBounds_toArray,List.set_cons_zero,List.set_cons_succ]
     obtain⟨a10,c10,e10,e14⟩:∃a c,v 10=_/\v 14=_:=hF 14 (by simp)
     have e15:v 15=_:=hF 15 (by simp)
     simp only [e14,e15]
     obtain⟨hb3,A5,c5,hu,hv⟩:=hJ.fin (fun j hj=>decide_eq_true (by have hj:j<5:=hj;rcases(by omega:j=0\/j=1\/j=2\/j=3\/j=4)with rfl|rfl|rfl|rfl|rfl<;>decide))
     have hu:v 10=.tuple #[.slice A5 (bytesOf r).length c5,.int .i64 (jV r)]:=hu
     have heq:Value.slice a10 (bytesOf r).length c10=.slice A5 (bytesOf r).length c5:=j19 (e10.symm.trans hu)
     rw [heq]
     clear heq e10 hu
     have HV3:=iH (BsS.keep hv (w':=w1) (S':=(·<w1.heap.size)) fun g hg _=>⟨rfl,hg.2⟩)
     obtain⟨w3,rfl⟩:∃w3:World,w3=w1:=⟨_,rfl⟩
     have HBU3:=iH hb3
     have HB3:=iH (HBAU.out.trans (hb3.mono HBAU.out.size))
     obtain⟨vA,hvA⟩:∃vA,vA=A5:=⟨_,rfl⟩
     obtain⟨vc,hvc⟩:∃vc,vc=c5:=⟨_,rfl⟩
     rw [<-hvA,<-hvc]at HV3 |-
     clear hvA hvc hv hb3 hJ hF e0 e1 e2 e3 e5 e6 e14 e15
     rcases r with x|b
     ·have hx:=XW HRE.out
      have t9:(x != 0)=true:=by simpa using hx
      have R9:Hid (kK k1 k2 n d st=(x,[],0,[],[],0)):=iH R.out
      rw [show jV (.error x:Except Int (List UInt8))=x from rfl]
      clear hx
      go_upto_region 8 with fail
      obtain⟨r0,r1,rf⟩:=jd (R2.out w3 HB3.out);have rf0:=rf 0;have rf1:=rf 1;clear rf;obtain⟨s0,s1,s2,sf⟩:=j7 (R3.out w3 HB3.out);have sf0:=sf 0;have sf1:=sf 1;have sf2:=sf 2;clear sf
      go_wp2_with fail
      obtain⟨q2,q3⟩:=jo (R2.out w3 HB3.out) (R3.out w3 HB3.out) (.slice none 0 0) (.int .i64 0) (.slice none 0 0) (.slice none 0 0) (.int .i64 0)
      obtain⟨y0,y1,_⟩:=jd q2
      obtain⟨x0,x1,x2,_⟩:=j7 q3
      refine bodyPost_ret (v:=.tuple #[.agg #[.slice none 0 0,.int .i64 0],.agg #[.slice none 0 0,.slice none 0 0,.int .i64 0],.int .i64 x]) (by simp only [qm,set3]at y0 y1 x0 x1 x2;simp [results,Tryz.results40,go_sem,y0,y1,x0,x1,x2]) rfl ?_
      exact m26
     ·rw [show jV (.ok b:Except Int (List UInt8))=0 from rfl,show bytesOf (.ok b:Except Int (List UInt8))=b from rfl]
      rw [show bytesOf (.ok b:Except Int (List UInt8))=b from rfl]at HV3
      have R9:Hid (kK k1 k2 n d st=(0,b,st,k1,k2,n+1)):=iH R.out
      go_upto_region 9 with fail
      obtain⟨wd,hwd⟩:∃wd,wd=w3.drew:=⟨_,rfl⟩
      have HWD:=iH hwd
      have RC4:Hid (wd.heap[w.heap.size+1]?=some (.cells #[.slice A3 d.length d3,.int .i64 st] 44 (0,0))):=iH (by rw [hwd];exact RC.out w3 HB3.out)
      have RU4:Hid (wd.heap[wn.heap.size]?=some (.cells #[.slice xA k1.length xc,.slice yA k2.length yc,.int .i64 (n+1),.slice zA N.length zc] 77 (0,0))):=iH (by rw [hwd];exact RU.out w3 HBU3.out)
      have RR4:Hid (wd.heap[(w.heap.size+1+1)]?=some (.cells #[.slice none 0 0,.int .i64 0] 44 (0,0))):=iH (by rw [hwd];exact R2.out w3 HB3.out)
      have RS4:Hid (wd.heap[(w.heap.size+1+1+1)]?=some (.cells #[.slice none 0 0,.slice none 0 0,.int .i64 0] 29 (0,0))):=iH (by rw [hwd];exact R3.out w3 HB3.out)
      have HB4:Hid (Below w.heap.size w wd):=iH (by rw [hwd];exact(HB.out.trans (HB3.out.mono HB.out.size)).drew)
      have V4:Hid (Bs wd wd.heap.size (.slice vA b.length vc) b):=iH (by rw [hwd];exact HV3.out)
      have X4:Hid (Bs wd wd.heap.size (.slice xA k1.length xc) k1):=iH (by rw [hwd];exact XU.out.lift HBU3.out.drew)
      have Y4:Hid (Bs wd wd.heap.size (.slice yA k2.length yc) k2):=iH (by rw [hwd];exact YU.out.lift HBU3.out.drew)
      have NE1:Hid (w.heap.size+1≠(w.heap.size+1+1)):=iH (by omega)
      have NE3:Hid (wn.heap.size≠(w.heap.size+1+1)):=iH (by have:=HZA.out;have:=HBN.out.size;omega)
      clear hwd
      refine jc 7 [some 48,some 49,some 50,some 51,some 52,some 53,none] [[],[],[1],[0,1,2],[],[4],[0,1,2,3]]
       (J2 wd (w.heap.size+1+1) 6 (.slice vA b.length vc) (.int .i64 st)) (fun _ _=>True)
       [fun v _=>v 0=.slice vA b.length vc,
        fun v _=>v 1=.pointer (some ⟨w.heap.size+1,1,none⟩),
        fun v _=>v 2=.int .i64 st,
        fun v _=>v 3=.agg #[.slice vA b.length vc,.int .i64 st],
        fun v _=>v 4=.pointer (some ⟨wn.heap.size,0,none⟩),
        fun v _=>v 5=.agg #[.slice xA k1.length xc,.slice yA k2.length yc,.int .i64 (n+1)],
        fun v w1=>True]
       (by kernel_rfl) (by kernel_rfl) (fun _=>HWD.out.symm.trans (iF (by decide)).symm) ?st9 ?steps9 ?tail9
      case st9=>
       exact m1r
      case steps9=>
       exact m0i
      case tail9=>
       intro v w1 hJ hF
       have e0:v 0=_:=hF 0 (by simp)
       have e1:v 1=_:=hF 1 (by simp)
       have e2:v 2=_:=hF 2 (by simp)
       have e3:v 3=_:=hF 3 (by simp)
       have e4:v 4=_:=hF 4 (by simp)
       have e5:v 5=_:=hF 5 (by simp)
       simp only [List.drop_succ_cons,List.drop_zero,jf,Act.put,Nat.zero_add,Nat.reduceAdd,List.setIfInBounds_toArray,List.set_cons_zero,List.set_cons_succ]
       simp only [e5]
       clear e0 e1 e2 e3 e4 e5 hF
       obtain rfl:=J2.all hJ rfl
       have RS5:Hid ((qm wd (w.heap.size+1+1) (.slice vA b.length vc) (.int .i64 st)).heap[(w.heap.size+1+1+1)]?=some (.cells #[.slice none 0 0,.slice none 0 0,.int .i64 0] 29 (0,0))):=iH ((kz (by omega)).trans RS4.out)
       obtain⟨s0,s1,s2,sf⟩:=j7 RS5.out
       have sf0:=sf 0;have sf1:=sf 1;have sf2:=sf 2;clear sf
       obtain⟨w5,hw5⟩:∃w5,w5=qm wd (w.heap.size+1+1) (.slice vA b.length vc) (.int .i64 st):=⟨_,rfl⟩
       rw [<-hw5]at s0 s1 s2 sf0 sf1 sf2 |-
       have HW5:=iH hw5
       clear hw5 hJ
       go_wp2_with fail
       have q:=jo (W:=wd) RR4.out RS4.out (.slice vA b.length vc) (.int .i64 st) (.slice xA k1.length xc) (.slice yA k2.length yc) (.int .i64 (n+1))
       rw [<-HW5.out]at q
       obtain⟨q2,q3⟩:=q
       obtain⟨y0,y1,_⟩:=jd q2
       obtain⟨x0,x1,x2,_⟩:=j7 q3
       refine bodyPost_ret (v:=.tuple #[.agg #[.slice vA b.length vc,.int .i64 st],.agg #[.slice xA k1.length xc,.slice yA k2.length yc,.int .i64 (n+1)],.int .i64 0]) (by simp only [set3]at y0 y1 x0 x1 x2;simp [results,Tryz.results40,go_sem,y0,y1,x0,x1,x2]) rfl ?_
       exact mz
  ·have HVC:Hid (vR d st=false):=iH (by simpa using v2)
   have R:Hid (kK k1 k2 n d st=(14,[],0,[],[],0)):=iH (by unfold kK;rw [iF (by rw [v1];simp),iT HVC.out])
   clear v1 v2
   go_enter Tryz.func40,Tryz.ntmps40
   go_upto_region 1 with fail
   rw [<-HWS.out,<-HWC.out,<-HW2.out,<-HW3.out]
   obtain⟨f0,f1,f2⟩:=CS.out wa iB
   go_upto_region 2 with (first
    |(go_at_call 76;have M1:=HBV;go_loud(refine(xj _ d st wv (HCV.out wv HBV.out)).mono ?_;rw [HVC.out];rintro e wc ⟨rfl,hb⟩;have hb2:=HBV.out.trans (hb.mono HBV.out.size);have HBC:=iH hb2;clear g0 g1;obtain⟨g0,g1⟩:=CC.out wc hb2;clear f0 f1 f2;obtain⟨f0,f1,f2⟩:=CS.out wc hb2;clear hb hb2))
    |(go_at_call 47;refine(js _ k1 k2 n _ wa HSV.out).mono ?_;rw [HVS.out];rintro e wv ⟨rfl,hb⟩;have HBV:=iH hb;obtain⟨g0,g1⟩:=CC.out wv hb;clear hb))
   clear f0 f1 f2 g0 g1
   obtain⟨r0,r1,rf⟩:=jd (R2.out wc HBC.out);have rf0:=rf 0;have rf1:=rf 1;clear rf;obtain⟨s0,s1,s2,sf⟩:=j7 (R3.out wc HBC.out);have sf0:=sf 0;have sf1:=sf 1;have sf2:=sf 2;clear sf
   go_wp2_with fail
   obtain⟨q2,q3⟩:=jo (R2.out wc HBC.out) (R3.out wc HBC.out) (.slice none 0 0) (.int .i64 0) (.slice none 0 0) (.slice none 0 0) (.int .i64 0)
   obtain⟨y0,y1,_⟩:=jd q2
   obtain⟨x0,x1,x2,_⟩:=j7 q3
   refine bodyPost_ret (v:=.tuple #[.agg #[.slice none 0 0,.int .i64 0],.agg #[.slice none 0 0,.slice none 0 0,.int .i64 0],.int .i64 14]) (by simp only [qm,set3]at y0 y1 x0 x1 x2;simp [results,Tryz.results40,go_sem,y0,y1,x0,x1,x2]) rfl ?_
   exact mp
 ·have HVS:Hid (vS k1 k2 n=false):=iH (by simpa using v1)
  have R:Hid (kK k1 k2 n d st=(14,[],0,[],[],0)):=iH (by unfold kK;rw [iT HVS.out])
  clear v1
  go_enter Tryz.func40,Tryz.ntmps40
  go_upto_region 1 with fail
  rw [<-HWS.out,<-HWC.out,<-HW2.out,<-HW3.out]
  obtain⟨f0,f1,f2⟩:=CS.out wa iB
  go_upto_region 2 with (go_at_call 47;refine(js _ k1 k2 n _ wa HSV.out).mono ?_;rw [HVS.out];rintro e wv ⟨rfl,hb⟩;have HBV:=iH hb;obtain⟨g0,g1⟩:=CC.out wv hb;clear hb)
  clear f0 f1 f2 g0 g1
  obtain⟨r0,r1,rf⟩:=jd (R2.out wv HBV.out);have rf0:=rf 0;have rf1:=rf 1;clear rf;obtain⟨s0,s1,s2,sf⟩:=j7 (R3.out wv HBV.out);have sf0:=sf 0;have sf1:=sf 1;have sf2:=sf 2;clear sf
  go_wp2_with fail
  obtain⟨q2,q3⟩:=jo (R2.out wv HBV.out) (R3.out wv HBV.out) (.slice none 0 0) (.int .i64 0) (.slice none 0 0) (.slice none 0 0) (.int .i64 0)
  obtain⟨y0,y1,_⟩:=jd q2
  obtain⟨x0,x1,x2,_⟩:=j7 q3
  refine bodyPost_ret (v:=.tuple #[.agg #[.slice none 0 0,.int .i64 0],.agg #[.slice none 0 0,.slice none 0 0,.int .i64 0],.int .i64 14]) (by simp only [qm,set3]at y0 y1 x0 x1 x2;simp [results,Tryz.results40,go_sem,y0,y1,x0,x1,x2]) rfl ?_
  exact mW
theorem j0e(k1 N d:List UInt8)(st:Int):((j6 k1 N d).app (stN st)).chk 1=0:=by
 have h1:qX 135=true:=by decide
 have h2:jY 135=false:=by decide
 have h3:qX 153=true:=by decide
 have h4:jY 153=false:=by decide
 unfold j6 stN
 split<;>simp [Ns.app,Ns.chk,Ns.len,h1,h2,h3,h4]
theorem Xr{L:Nat->Bool}{i k:Nat}(h:L k=true):ji L i k=true:=by
 unfold ji
 split
 ·rfl
 ·exact h
theorem j84{L:Nat->Bool}{i:Nat}(h:L 13=true->L 12=true)(h1:13≠i)(h2:12≠i):ji L i 13=true->ji L i 12=true:=by
 unfold ji
 rw [iF h1,iF h2]
 exact h
theorem j85{L:Nat->Bool}{i:Nat}{v:Nat->Value}{y:Value}{w1 w2:World}{X2:List UInt8}(h:L 12=true->L 13=false->∃g,v 12=.slice (some ⟨g,0,none⟩) 2 2/\Bs w1 w1.heap.size (.slice (some ⟨g,0,none⟩) 2 2) X2)(h1:13≠i)(h2:12≠i)(hb:Below w1.heap.size w1 w2):
 ji L i 12=true->ji L i 13=false->∃g,jy v i y 12=.slice (some ⟨g,0,none⟩) 2 2/\Bs w2 w2.heap.size (.slice (some ⟨g,0,none⟩) 2 2) X2:=by
 unfold ji jy
 rw [iF h1,iF h2,iF h2]
 intro a b
 obtain⟨g,e,hx⟩:=h a b
 exact⟨g,e,hx.lift hb⟩
section
variable {ch:List Nat} {G:Nat->(Nat->Value)->World->Prop} {L:Nat->Bool} {v:Nat->Value} {w1 w2:World} {y:Value} {X2:List UInt8}
theorem qM(h:JC ch G L v w1/\(L 13=true->L 12=true)/\(L 12=true->L 13=false->∃g,v 12=.slice (some ⟨g,0,none⟩) 2 2/\Bs w1 w1.heap.size (.slice (some ⟨g,0,none⟩) 2 2) X2))(i:Nat)(hi:ch.contains i=false)(h1:13≠i)(h2:12≠i):
 JC ch G (ji L i) (jy v i y) w1/\(ji L i 13=true->ji L i 12=true)/\(ji L i 12=true->ji L i 13=false->∃g,jy v i y 12=.slice (some ⟨g,0,none⟩) 2 2/\Bs w1 w1.heap.size (.slice (some ⟨g,0,none⟩) 2 2) X2):=
 ⟨h.1.same i hi,j84 h.2.1 h1 h2,j85 h.2.2 h1 h2 iB⟩
theorem j2f(h:G 0 (fun _=>undef) w1):JC ch G (fun _=>false) v w1/\((fun _:Nat=>false) 13=true->(fun _:Nat=>false) 12=true)/\((fun _:Nat=>false) 12=true->(fun _:Nat=>false) 13=false->∃g,v 12=.slice (some ⟨g,0,none⟩) 2 2/\Bs w1 w1.heap.size (.slice (some ⟨g,0,none⟩) 2 2) X2):=
 ⟨JC.start h,fun h=>absurd h (by simp),fun h=>absurd h (by simp)⟩
theorem j7g{c0:Nat}{r:List Nat}(h:JC (c0 :: 13 :: r) G L v w1/\(L 13=true->L 12=true)/\(L 12=true->L 13=false->∃g,v 12=.slice (some ⟨g,0,none⟩) 2 2/\Bs w1 w1.heap.size (.slice (some ⟨g,0,none⟩) 2 2) X2))(hL:L 12=false)(_:Below w1.heap.size w1 w2)(hx:∃g,y=.slice (some ⟨g,0,none⟩) 2 2/\Bs w2 w2.heap.size (.slice (some ⟨g,0,none⟩) 2 2) X2)(s0:∀u,G 0 u w1->G 0 u w2)(s1:∀u,G 1 u w1->G 1 u w2)(hn:(c0 :: 13 :: r).contains 12=false:=by decide):
 JC (c0 :: 13 :: r) G (ji L 12) (jy v 12 y) w2/\(ji L 12 13=true->ji L 12 12=true)/\(ji L 12 12=true->ji L 12 13=false->∃g,jy v 12 y 12=.slice (some ⟨g,0,none⟩) 2 2/\Bs w2 w2.heap.size (.slice (some ⟨g,0,none⟩) 2 2) X2):=by
 have h13:L 13=false:=by
  cases h':L 13 with
  |false=>rfl
  |true=>rw [h.2.1 h']at hL;cases hL
 obtain⟨k,h1,h2,h3⟩:=h.1.same (y:=y) 12 hn
 have e:=h2 1 (by simp)
 have e:ji L 12 13=decide (1<k):=e
 have e13:ji L 12 13=false:=by unfold ji;rw [iF (by decide)];exact h13
 rw [e13]at e
 have hk:=of_decide_eq_false e.symm
 refine⟨⟨k,h1,h2,?_⟩,fun hh=> ?_,fun _ _=> ?_⟩
 ·rcases(by omega:k=0\/k=1)with rfl|rfl
  ·exact s0 _ h3
  ·exact s1 _ h3
 ·unfold ji;rw [iT rfl]
 ·obtain⟨g,hy,hb⟩:=hx
  exact⟨g,by unfold jy;rw [iT rfl];exact hy,hb⟩
end
theorem Q0(vs vc:Value)(k1 k2:List UInt8)(n:Int)(d:List UInt8)(st:Int)(w:World)(hs:qs w (·<w.heap.size) vs k1 k2 n)(hc:QU w (·<w.heap.size) vc d st):
 Calls Tryz.prog 21 #[vs,vc] w (Y8 (kK k1 k2 n d st) w):=by
 obtain⟨A1,d1,A2,d2,A3,d3,ws,wq,w2,wa,rfl,rfl,R2,R3,CS,CC,RC,HZA,HB,HWS,HWC,HW2,HW3,H1,H2,H3,HSV,HCV⟩:=j7b hs hc
 clear hs hc
 by_cases v1:vS k1 k2 n=true
 ·have HVS:=iH v1
  by_cases v2:vR d st=true
  ·have HVC:=iH v2
   have VS:=iH (of_decide_eq_true v1)
   have VC:=iH (of_decide_eq_true v2)
   clear v1 v2
   by_cases g3:n=1099511627776
   ·have t3:(n==1099511627776)=true:=by simp [g3]
    have R:Hid (kK k1 k2 n d st=(3,[],0,[],[],0)):=iH (by unfold kK;rw [iF (by rw [HVS.out];simp),iF (by rw [HVC.out];simp),iT g3])
    clear g3
    go_enter Tryz.func21,Tryz.ntmps21
    go_upto_region 1 with fail
    rw [<-HWS.out,<-HWC.out,<-HW2.out,<-HW3.out]
    obtain⟨f0,f1,f2⟩:=CS.out wa iB
    go_upto_region 4 with (first
     |(go_at_call 44;have M1:=HBV;go_loud(refine(xp _ d st wv (HCV.out wv HBV.out)).mono ?_;rw [HVC.out];rintro e wc ⟨rfl,hb⟩;have hb2:=HBV.out.trans (hb.mono HBV.out.size);have HBC:=iH hb2;clear g0 g1;obtain⟨g0,g1⟩:=CC.out wc hb2;clear f0 f1 f2;obtain⟨f0,f1,f2⟩:=CS.out wc hb2;clear hb hb2))
     |(go_at_call 28;refine(jt _ k1 k2 n _ wa HSV.out).mono ?_;rw [HVS.out];rintro e wv ⟨rfl,hb⟩;have HBV:=iH hb;obtain⟨g0,g1⟩:=CC.out wv hb;clear hb))
    clear f0 f1 f2 g0 g1
    obtain⟨r0,r1,rf⟩:=jd (R2.out wc HBC.out);have rf0:=rf 0;have rf1:=rf 1;clear rf;obtain⟨s0,s1,s2,sf⟩:=j7 (R3.out wc HBC.out);have sf0:=sf 0;have sf1:=sf 1;have sf2:=sf 2;clear sf
    go_wp2_with fail
    obtain⟨q2,q3⟩:=jo (R2.out wc HBC.out) (R3.out wc HBC.out) (.slice none 0 0) (.int .i64 0) (.slice none 0 0) (.slice none 0 0) (.int .i64 0)
    obtain⟨y0,y1,_⟩:=jd q2
    obtain⟨x0,x1,x2,_⟩:=j7 q3
    refine bodyPost_ret (v:=.tuple #[.agg #[.slice none 0 0,.int .i64 0],.agg #[.slice none 0 0,.slice none 0 0,.int .i64 0],.int .i64 3]) (by simp only [qm,set3]at y0 y1 x0 x1 x2;simp [results,Tryz.results21,go_sem,y0,y1,x0,x1,x2]) rfl ?_
    exact mp
   ·have t3:(n==1099511627776)=false:=by simpa using g3
    have LK1:Hid (k1.length=16):=iH VS.out.1
    have LK2:Hid (k2.length=16):=iH VS.out.2.1
    have LD:Hid (d.length<=4096):=iH VC.out.1
    have ST0:Hid (0<=st):=iH VC.out.2.1
    have ST1:Hid (st<=65535):=iH VC.out.2.2
    obtain⟨N,hN⟩:∃N,Jh (n+1)=N:=⟨_,rfl⟩
    have LN:Hid (N.length=16):=iH (by rw [<-hN]<;>rfl)
    have HNX:Hid (∀(va vb:Value) (w:World),Bs w w.heap.size va k1->Bs w w.heap.size vb k2->Calls Tryz.prog 30 #[.agg #[va,vb,.int .i64 n]] w fun e w'=>∃x y z,e=.returned (.tuple #[.agg #[x,y,.int .i64 (n+1)],z])/\Bs w' w'.heap.size x k1/\Bs w' w'.heap.size y k2/\Bs w' w'.heap.size z N/\Below w.heap.size w w'):=iH (fun va vb w h1 h2=>by rw [<-hN];exact yx va vb k1 k2 VS.out.1 VS.out.2.1 n VS.out.2.2.1 (by have:=VS.out.2.2.2;omega) w h1 h2)
    obtain⟨X2,hX2⟩:∃X,zI st=X:=⟨_,rfl⟩
    have HX2:Hid ([ofI (st / 256),ofI st]=X2):=iH hX2
    obtain⟨LC,hLC⟩:∃L,(j6 k1 N d).app (.cons 153 X2 .nil .nil)=L:=⟨_,rfl⟩
    have HLC:=iH hLC
    have HCL:Hid ((j6 k1 N d).len<=100000000000):=iH (by unfold j6;split<;>simp [Ns.len])
    have hla:LC.all<=10:=by rw [<-hLC,Ns.all_snoc];unfold j6;split<;>simp [Ns.all]
    have hlc:LC.chk 1=0:=by
     have h:=j0e k1 N d st
     unfold stN at h
     rwa [hX2,hLC]at h
    have hsa:=xq k2 N [] hlc hla
    obtain⟨LD9,hLD⟩:∃L,LC.app (.cons 142 (kC k2 N [] (bytesOf (qG LC))) .nil .nil)=L:=⟨_,rfl⟩
    rw [hLD]at hsa
    have hld:LD9.all<=20:=by rw [<-hLD,Ns.all_snoc];omega
    obtain⟨r,hr⟩:∃r,qG LD9=r:=⟨_,rfl⟩
    rw [hr]at hsa
    have HTWO:Hid (∀x,r=.error x->x=2):=iH (fun x h=>XX (k2:=k2) (N:=N) (head:=[]) hlc hla (by rw [hsa];exact h))
    have HEN:Hid (∀(v:Value) (w:World),NsS w (·<w.heap.size) v LD9->Calls Tryz.prog 33 #[v] w fun e w'=>∃v',e=.returned (.tuple #[v',.int .i64 (jV r)])/\BsS w' (New w w') v' (bytesOf r)/\Below w.heap.size w w'):=iH (fun v w h=>by rw [<-hr];exact xC LD9 v w h (by omega))
    have HL2:Hid (LC.len<=2513169434843):=iH (by have:=Ns.len_all LC;omega)
    have R:Hid (kK k1 k2 n d st=j0d k1 k2 n st r):=iH (by
     unfold kK
     rw [iF (by rw [HVS.out];simp),iF (by rw [HVC.out];simp),iF g3,hN]
     unfold stN
     rw [hX2,hLC,hsa])
    have HLA:=iH hla;have HLDE:=iH hLD
    clear hN hX2 hLC hr g3 hsa hlc hla hld hLD
    go_enter Tryz.func21,Tryz.ntmps21
    go_upto_region 1 with fail
    rw [<-HWS.out,<-HWC.out,<-HW2.out,<-HW3.out]
    obtain⟨f0,f1,f2⟩:=CS.out wa iB
    go_upto_region 6 with (first
     |(go_at_call 30;refine(HNX.out _ _ wc (H1.out.lift HBC.out) (H2.out.lift HBC.out)).mono ?_;rintro e wn ⟨x,y,z,rfl,hx,hy,hz,hb⟩;obtain⟨xA,xc,hp⟩:=Bs.formL hx;subst hp;obtain⟨yA,yc,hp⟩:=Bs.formL hy;subst hp;obtain⟨zA,zc,hp⟩:=Bs.formL hz;subst hp;have HX:=iH hx;have HY:=iH hy;have HZ:=iH hz;have HBN:=iH (HBC.out.trans (hb.mono HBC.out.size));obtain⟨u0,u1,u2,uf⟩:=j7 (xP wn);have uf0:=uf 0;have uf1:=uf 1;have uf2:=uf 2;clear uf hx hy hz hb)
     |(go_at_call 44;have M1:=HBV;go_loud(refine(xp _ d st wv (HCV.out wv HBV.out)).mono ?_;rw [HVC.out];rintro e wc ⟨rfl,hb⟩;have hb2:=HBV.out.trans (hb.mono HBV.out.size);have HBC:=iH hb2;clear g0 g1;obtain⟨g0,g1⟩:=CC.out wc hb2;clear f0 f1 f2;obtain⟨f0,f1,f2⟩:=CS.out wc hb2;clear hb hb2))
     |(go_at_call 28;refine(jt _ k1 k2 n _ wa HSV.out).mono ?_;rw [HVS.out];rintro e wv ⟨rfl,hb⟩;have HBV:=iH hb;obtain⟨g0,g1⟩:=CC.out wv hb;clear hb))
    clear u0 u1 u2 uf0 uf1 uf2 g0 g1 f0 f1 f2 t3
    obtain⟨wu,hwu⟩:∃wu,wu=wn.alloc (.cells #[.slice xA k1.length xc,.slice yA k2.length yc,.int .i64 (n+1)] 29):=⟨_,rfl⟩
    rw [<-hwu]
    have hbu:Below wn.heap.size wn wu:=by rw [hwu];exact iA
    have hur:wu.heap[wn.heap.size]?=some (.cells #[.slice xA k1.length xc,.slice yA k2.length yc,.int .i64 (n+1)] 29 (0,0)):=by rw [hwu];exact iN
    have hult:=(iG hur)
    have RU:Hid (∀W,Below wu.heap.size wu W->W.heap[wn.heap.size]?=some (.cells #[.slice xA k1.length xc,.slice yA k2.length yc,.int .i64 (n+1)] 29 (0,0))):=iH fun W h=>(h.block _ hult).trans hur
    have HBAU:=iH (HBN.out.trans (hbu.mono HBN.out.size))
    have XU:=iH (HX.out.lift hbu);have YU:=iH (HY.out.lift hbu);have ZU:=iH (HZ.out.lift hbu);have DU:=iH (H3.out.lift HBAU.out);have KU:=iH (H1.out.lift HBAU.out);have MU:=iH (H2.out.lift HBAU.out)
    clear hwu hbu hur hult
    have HCD:Hid (∀(o:Value) (w:World),Bs w w.heap.size (.slice A2 k2.length d2) k2->Bs w w.heap.size (.slice zA N.length zc) N->NsS w (·<w.heap.size) o LC->Calls Tryz.prog 34 #[.agg #[.slice A1 k1.length d1,.slice A2 k2.length d2,.int .i64 n],.slice zA N.length zc,.slice none 0 0,o] w fun e w'=>∃o',e=.returned o'/\NsS w' (·<w'.heap.size) o' LD9/\Below w.heap.size w w'):=iH (fun o w h1 h2 h4=>by rw [<-HLDE.out];exact XM _ _ _ (.slice none 0 0) o n k2 N [] LC LK2.out LN.out (by simp) HLA.out w h1 h2 (BsS.nil0 _ _) h4)
    refine jc 16 [some 32,some 33,some 34,some 35,some 36,some 37,some 38,some 39,some 40,some 41,some 42,some 43,some 44,some 45,some 46,some 47] [[],[],[],[2],[0,1,2,3],[],[5],[5,6],[5,6,7],[],[9],[9,10],[5,6,7,8,9,10,11],[0,1,2,3,4,5,6,7,8,9,10,11,12],[0,1,2,3,4,5,6,7,8,9,10,11,12,13],[0,1,2,3,4,5,6,7,8,9,10,11,12,13,14]]
     (fun L v w1=>JC [4,13,14,15] (fun k u w1=>Below wu.heap.size wu w1/\match k with
       |0=>True
       |1=>∃A c,u 0=.slice A (j6 k1 N d).len c/\OwnN w1 wu.heap.size (.slice A (j6 k1 N d).len c) (j6 k1 N d)
       |2=>∃A c xA xc,u 0=.slice A (j6 k1 N d).len c/\OwnN w1 wu.heap.size (.slice A (j6 k1 N d).len c) (j6 k1 N d)/\u 1=.agg #[.int .i64 153,.slice xA X2.length xc,.slice none 0 0]/\BsS w1 (xM wu.heap.size w1 (.slice A (j6 k1 N d).len c)) (.slice xA X2.length xc) X2
       |3=>∃A c xA xc W,u 0=.slice A (j6 k1 N d).len c/\OwnN W wu.heap.size (.slice A (j6 k1 N d).len c) (j6 k1 N d)/\BsS W (xM wu.heap.size W (.slice A (j6 k1 N d).len c)) (.slice xA X2.length xc) X2/\Below wu.heap.size wu W/\u 2=.slice (some ⟨W.heap.size,0,none⟩) 1 1/\w1=W.alloc (.cells #[.int .i64 153,.slice xA X2.length xc,.slice none 0 0] 61)
       |_=>∃A c,u 3=.slice A LC.len c/\OwnN w1 wu.heap.size (.slice A LC.len c) LC) L v w1/\(L 13=true->L 12=true)/\(L 12=true->L 13=false->∃g,v 12=.slice (some ⟨g,0,none⟩) 2 2/\Bs w1 w1.heap.size (.slice (some ⟨g,0,none⟩) 2 2) X2)) (fun _ _=>True)
     [fun v _=>v 0=.agg #[.slice A1 k1.length d1,.slice A2 k2.length d2,.int .i64 n],
      fun v _=>v 1=.slice zA N.length zc,
      fun v _=>v 2=.pointer (some ⟨w.heap.size+1,0,none⟩),
      fun v _=>v 3=.slice A3 d.length d3,
      fun v w1=>True,
      fun v _=>v 5=.pointer (some ⟨w.heap.size+1,1,none⟩),
      fun v _=>v 6=.int .i64 st,
      fun v _=>v 7=.int .i64 (st / 256),
      fun v _=>v 8=U8 (ofI (st / 256)),
      fun v _=>v 9=.pointer (some ⟨w.heap.size+1,1,none⟩),
      fun v _=>v 10=.int .i64 st,
      fun v _=>v 11=U8 (ofI st),
      fun v w1=>True,
      fun v w1=>True,
      fun v w1=>∃g,v 14=.slice (some ⟨g,0,none⟩) 1 1,
      fun v w1=>∃a c,v 15=.slice a LC.len c]
     (by kernel_rfl) (by kernel_rfl) (fun v=>j2f ⟨iB.drew,trivial⟩) ?st6 ?steps6 ?tail6
    case st6=>
     exact m10
    case steps6=>
     simp only [List.take_succ_cons,List.take_zero]
     refine(.cons ?_ (.cons ?_ (.cons ?_ (.cons ?_ (.cons ?_ (.cons ?_ (.cons ?_ (.cons ?_ (.cons ?_ (.cons ?_ (.cons ?_ (.cons ?_ (.cons ?_ (.cons ?_ (.cons ?_ (.cons ?_ .nil))))))))))))))))
     all_goals(intro L v w1 hJ hL hA hF K hK;simp only [jf,Act.put,Nat.zero_add,Nat.reduceAdd,List.setIfInBounds_toArray,List.set_cons_zero,List.set_cons_succ]at hK |-)
     ·have hi:Below wu.heap.size wu w1:=(JC.inv (I:=fun w1=>Below wu.heap.size wu w1) (fun k u w1 h=>h.1) hJ.1)
      obtain⟨c0,c1,c2⟩:=CS.out _ (HBAU.out.trans (hi.mono HBAU.out.size))
      go_simp
      refine hK _ _ (qM hJ 0 (by decide) (by decide) (by decide)) trivial ?_
      first|exact rfl|exact j5 _
     ·go_simp
      refine hK _ _ (qM hJ 1 (by decide) (by decide) (by decide)) trivial ?_
      first|exact rfl|exact j5 _
     ·go_simp
      refine hK _ _ (qM hJ 2 (by decide) (by decide) (by decide)) trivial ?_
      first|exact rfl|exact j5 _
     ·have e2:v 2=_:=hF 2 (hA 2 (by simp))
      have hi:Below wu.heap.size wu w1:=(JC.inv (I:=fun w1=>Below wu.heap.size wu w1) (fun k u w1 h=>h.1) hJ.1)
      obtain⟨c0,c1⟩:=CC.out _ (HBAU.out.trans (hi.mono HBAU.out.size))
      simp only [e2]at hK
      go_simp
      refine hK _ _ (qM hJ 3 (by decide) (by decide) (by decide)) trivial ?_
      first|exact rfl|exact j5 _
     ·have e0:v 0=_:=hF 0 (hA 0 (by simp))
      have e1:v 1=_:=hF 1 (hA 1 (by simp))
      have e3:v 3=_:=hF 3 (hA 3 (by simp))
      simp only [e0,e1,e3]at hK
      have hi:Below wu.heap.size wu w1:=(JC.inv (I:=fun w1=>Below wu.heap.size wu w1) (fun k u w1 h=>h.1) hJ.1)
      have hG:=hJ.1.at_ 0 (by decide) hL (.inl rfl)
      go_simp
      refine(KT _ _ _ _ n k1 N d LK1.out LN.out LD.out w1 (KU.out.lift hi) (ZU.out.lift hi) (DU.out.lift hi)).mono ?_
      rintro e wk ⟨o,rfl,ho,hb⟩
      obtain⟨oA,oc,hp⟩:=ho.form
      subst hp
      refine hK _ _ ⟨(hJ.1.next 0 (by decide) hL (.inl rfl) (by decide) ?_),j84 hJ.2.1 (by decide) (by decide),j85 hJ.2.2 (by decide) (by decide) hb⟩ trivial trivial
      exact⟨hi.trans (hb.mono hi.size),oA,oc,rfl,XG ho hi.size⟩
     ·go_simp
      refine hK _ _ (qM hJ 5 (by decide) (by decide) (by decide)) trivial ?_
      first|exact rfl|exact j5 _
     ·have e5:v 5=_:=hF 5 (hA 5 (by simp))
      have hi:Below wu.heap.size wu w1:=(JC.inv (I:=fun w1=>Below wu.heap.size wu w1) (fun k u w1 h=>h.1) hJ.1)
      obtain⟨c0,c1⟩:=CC.out _ (HBAU.out.trans (hi.mono HBAU.out.size))
      simp only [e5]at hK
      go_simp
      refine hK _ _ (qM hJ 6 (by decide) (by decide) (by decide)) trivial ?_
      first|exact rfl|exact j5 _
     ·have e6:v 6=_:=hF 6 (hA 6 (by simp))
      have hs0:=ST0.out;have hs1:=ST1.out
      simp only [e6]at hK
      go_simp
      refine hK _ _ (qM hJ 7 (by decide) (by decide) (by decide)) trivial ?_
      first|exact rfl|exact j5 _
     ·have e7:v 7=_:=hF 7 (hA 7 (by simp))
      simp only [e7]at hK
      go_simp
      refine hK _ _ (qM hJ 8 (by decide) (by decide) (by decide)) trivial ?_
      first|exact rfl|exact j5 _
     ·go_simp
      refine hK _ _ (qM hJ 9 (by decide) (by decide) (by decide)) trivial ?_
      first|exact rfl|exact j5 _
     ·have e9:v 9=_:=hF 9 (hA 9 (by simp))
      have hi:Below wu.heap.size wu w1:=(JC.inv (I:=fun w1=>Below wu.heap.size wu w1) (fun k u w1 h=>h.1) hJ.1)
      obtain⟨c0,c1⟩:=CC.out _ (HBAU.out.trans (hi.mono HBAU.out.size))
      simp only [e9]at hK
      go_simp
      refine hK _ _ (qM hJ 10 (by decide) (by decide) (by decide)) trivial ?_
      first|exact rfl|exact j5 _
     ·have e10:v 10=_:=hF 10 (hA 10 (by simp))
      simp only [e10]at hK
      go_simp
      refine hK _ _ (qM hJ 11 (by decide) (by decide) (by decide)) trivial ?_
      first|exact rfl|exact j5 _
     ·have e8:v 8=_:=hF 8 (hA 8 (by simp))
      have e11:v 11=_:=hF 11 (hA 11 (by simp))
      simp only [e8,e11]at hK
      have hi:Below wu.heap.size wu w1:=(JC.inv (I:=fun w1=>Below wu.heap.size wu w1) (fun k u w1 h=>h.1) hJ.1)
      have hb:=(Below.refl w1.heap.size w1).alloc iL (.cells #[U8 (ofI (st / 256)),U8 (ofI st)] 5)
      have hbs:Bs (w1.alloc (.cells #[U8 (ofI (st / 256)),U8 (ofI st)] 5)) (w1.alloc (.cells #[U8 (ofI (st / 256)),U8 (ofI st)] 5)).heap.size (.slice (some ⟨w1.heap.size,0,none⟩) 2 2) [ofI (st / 256),ofI st]:=BsS.fresh w1 [ofI (st / 256),ofI st] #[U8 (ofI (st / 256)),U8 (ofI st)] 5 rfl (·<(w1.alloc (.cells #[U8 (ofI (st / 256)),U8 (ofI st)] 5)).heap.size) (by simp) (by simp)
      rw [HX2.out]at hbs
      have hJ2:=j7g (y:=.slice (some ⟨w1.heap.size,0,none⟩) 2 2) hJ hL hb ⟨_,rfl,hbs⟩ (fun u h=>⟨h.1.trans (hb.mono h.1.size),trivial⟩) (fun u ⟨h,A,c,hu,ho⟩=>⟨h.trans (hb.mono h.size),A,c,hu,ho.below hb⟩)
      go_simp
      exact hK _ _ hJ2 trivial trivial
     ·have hG:=hJ.1.at_ 1 (by decide) hL (.inr (hA _ (by simp)))
      obtain⟨hi,oA,oc,hu,ho⟩:=hG
      obtain⟨g,e12,hx12⟩:=hJ.2.2 (hA 12 (by simp)) hL
      simp only [e12]at hK
      go_simp
      refine(xm 153 _ X2 w1 hx12).mono ?_
      rintro e wk ⟨xA,xc,rfl,hx,hb⟩
      refine hK _ _ ⟨(hJ.1.next 1 (by decide) hL (.inr (hA _ (by simp))) (by decide) ?_),fun _=>Xr (hA 12 (by simp)),fun _ h=>absurd h (by simp [ji])⟩ trivial trivial
      exact m3q
     ·have hG:=hJ.1.at_ 2 (by decide) hL (.inr (hA _ (by simp)))
      obtain⟨hi,oA,oc,xA,xc,hu,ho,hu1,hx⟩:=hG
      have e13:v 13=.agg #[.int .i64 153,.slice xA X2.length xc,.slice none 0 0]:=hu1
      simp only [e13]at hK
      go_simp
      refine hK _ _ ⟨(hJ.1.next 2 (by decide) hL (.inr (hA _ (by simp))) (by decide) ?_),fun _=>Xr (hA 12 (by simp)),fun _ h=>absurd (Xr (i:=14) (hA 13 (by simp))) (by rw [h];simp)⟩ trivial ⟨_,rfl⟩
      exact⟨hi.alloc hi.size _,oA,oc,xA,xc,w1,hu,ho,hx,hi,rfl,rfl⟩
     ·have hG:=hJ.1.at_ 3 (by decide) hL (.inr (hA _ (by simp)))
      obtain⟨hi,oA,oc,xA,xc,W,hu,ho,hx,hiW,hu2,hw⟩:=hG
      have e4:v 4=.slice oA (j6 k1 N d).len oc:=hu
      have e14:v 14=.slice (some ⟨W.heap.size,0,none⟩) 1 1:=hu2
      simp only [e4,e14]at hK |-
      have hn3:∀w2 (y:Value),(fun k u w1=>Below wu.heap.size wu w1/\match k with
       |0=>True
       |1=>∃A c,u 0=.slice A (j6 k1 N d).len c/\OwnN w1 wu.heap.size (.slice A (j6 k1 N d).len c) (j6 k1 N d)
       |2=>∃A c xA xc,u 0=.slice A (j6 k1 N d).len c/\OwnN w1 wu.heap.size (.slice A (j6 k1 N d).len c) (j6 k1 N d)/\u 1=.agg #[.int .i64 153,.slice xA X2.length xc,.slice none 0 0]/\BsS w1 (xM wu.heap.size w1 (.slice A (j6 k1 N d).len c)) (.slice xA X2.length xc) X2
       |3=>∃A c xA xc W,u 0=.slice A (j6 k1 N d).len c/\OwnN W wu.heap.size (.slice A (j6 k1 N d).len c) (j6 k1 N d)/\BsS W (xM wu.heap.size W (.slice A (j6 k1 N d).len c)) (.slice xA X2.length xc) X2/\Below wu.heap.size wu W/\u 2=.slice (some ⟨W.heap.size,0,none⟩) 1 1/\w1=W.alloc (.cells #[.int .i64 153,.slice xA X2.length xc,.slice none 0 0] 61)
       |_=>∃A c,u 3=.slice A LC.len c/\OwnN w1 wu.heap.size (.slice A LC.len c) LC) 4 (fun j=>if j<3 then v ([4,13,14,15].getD j 0)else if j=3 then y else undef) w2->(fun(L:Nat->Bool) (v:Nat->Value) (w1:World)=>JC [4,13,14,15] (fun k u w1=>Below wu.heap.size wu w1/\match k with
       |0=>True
       |1=>∃A c,u 0=.slice A (j6 k1 N d).len c/\OwnN w1 wu.heap.size (.slice A (j6 k1 N d).len c) (j6 k1 N d)
       |2=>∃A c xA xc,u 0=.slice A (j6 k1 N d).len c/\OwnN w1 wu.heap.size (.slice A (j6 k1 N d).len c) (j6 k1 N d)/\u 1=.agg #[.int .i64 153,.slice xA X2.length xc,.slice none 0 0]/\BsS w1 (xM wu.heap.size w1 (.slice A (j6 k1 N d).len c)) (.slice xA X2.length xc) X2
       |3=>∃A c xA xc W,u 0=.slice A (j6 k1 N d).len c/\OwnN W wu.heap.size (.slice A (j6 k1 N d).len c) (j6 k1 N d)/\BsS W (xM wu.heap.size W (.slice A (j6 k1 N d).len c)) (.slice xA X2.length xc) X2/\Below wu.heap.size wu W/\u 2=.slice (some ⟨W.heap.size,0,none⟩) 1 1/\w1=W.alloc (.cells #[.int .i64 153,.slice xA X2.length xc,.slice none 0 0] 61)
       |_=>∃A c,u 3=.slice A LC.len c/\OwnN w1 wu.heap.size (.slice A LC.len c) LC) L v w1/\(L 13=true->L 12=true)/\(L 12=true->L 13=false->∃g,v 12=.slice (some ⟨g,0,none⟩) 2 2/\Bs w1 w1.heap.size (.slice (some ⟨g,0,none⟩) 2 2) X2)) (ji L 15) (jy v 15 y) w2:=fun w2 y hg=>⟨(hJ.1.next 3 (by decide) hL (.inr (hA _ (by simp))) (by decide) hg),fun _=>Xr (hA 12 (by simp)),fun _ h=>absurd (Xr (i:=15) (hA 13 (by simp))) (by rw [h];simp)⟩
      subst hw
      rw [iT (show Region.wanted _ _=true from rfl)]
      refine YT (.tmp 36) (.tmp 46) rfl wu.heap.size (.slice oA (j6 k1 N d).len oc) (j6 k1 N d) (by simp [Act.eval]) ho 153 X2 .nil (.slice xA X2.length xc) (.slice none 0 0) _ W.heap.size (by simp [Act.eval]) rfl j6s hx (NsS.nil0 _ _) HCL.out hiW.size ?_
      intro o2 w2 hg2
      rw [HLC.out]at hg2
      obtain⟨oA2,oc2,hp⟩:=hg2.1.form
      subst hp
      exact hK _ _ (hn3 _ _ ⟨hiW.trans hg2.2.1,oA2,oc2,rfl,hg2.1⟩) trivial ⟨_,_,rfl⟩
    case tail6=>
     intro v w1 hJ hF
     have e0:v 0=_:=hF 0 (by simp)
     have e1:v 1=_:=hF 1 (by simp)
     have e2:v 2=_:=hF 2 (by simp)
     have e3:v 3=_:=hF 3 (by simp)
     have e5:v 5=_:=hF 5 (by simp)
     have e6:v 6=_:=hF 6 (by simp)
     have e7:v 7=_:=hF 7 (by simp)
     have e8:v 8=_:=hF 8 (by simp)
     have e9:v 9=_:=hF 9 (by simp)
     have e10:v 10=_:=hF 10 (by simp)
     have e11:v 11=_:=hF 11 (by simp)
     simp only [List.drop_succ_cons,List.drop_zero,jf,Act.put,Nat.zero_add,Nat.reduceAdd,List.setIfInBounds_toArray,List.set_cons_zero,List.set_cons_succ]
     obtain⟨hb3,A5,c5,hu,ho⟩:=hJ.1.fin (fun j hj=>decide_eq_true (by have hj:j<4:=hj;rcases(by omega:j=0\/j=1\/j=2\/j=3)with rfl|rfl|rfl|rfl<;>decide))
     have hu:v 15=.slice A5 LC.len c5:=hu
     simp only [hu]
     have HO3:=iH ho
     obtain⟨w3,rfl⟩:∃w3:World,w3=w1:=⟨_,rfl⟩
     have HBU1:=iH hb3
     have HB1:=iH (HBAU.out.trans (hb3.mono HBAU.out.size))
     have hnl:=(ho.nss HL2.out).keep (w':=w3) (S':=(·<w3.heap.size)) fun g hg _=>⟨rfl,hg.2⟩
     have HCO:=iH (HCD.out (.slice A5 LC.len c5) w3 (MU.out.lift hb3) (ZU.out.lift hb3) hnl)
     obtain⟨f0,f1,f2⟩:=CS.out w3 HB1.out
     clear hu ho hb3 hnl hJ hF e0 e1 e2 e3 e5 e6 e7 e8 e9 e10 e11
     go_upto_region 8 with (first
      |(go_at_call 33;refine(HEN.out _ w4 HL4.out).mono ?_;rintro e w5 ⟨v5,rfl,hv,hb⟩;obtain⟨vA,vc,hp⟩:=Bs.formL hv;subst hp;have HV3:=iH (BsS.keep hv (w':=w5) (S':=(·<w5.heap.size)) fun g hg _=>⟨rfl,hg.2⟩);have HBU3:=iH (HBU4.out.trans (hb.mono HBU4.out.size));have HB3:=iH (HBAU.out.trans (HBU3.out.mono HBAU.out.size));clear hv hb)
      |(go_at_call 34;refine HCO.out.mono ?_;rintro e w4 ⟨o4,rfl,ho,hb⟩;obtain⟨oA4,oc4,hp⟩:=ho.form3;subst hp;have HL4:=iH ho;have HBU4:=iH (HBU1.out.trans (hb.mono HBU1.out.size));clear ho hb f0 f1 f2))
     rcases r with x|b
     ·have hx2:=HTWO.out x rfl
      subst hx2
      have R9:Hid (kK k1 k2 n d st=(2,[],0,[],[],0)):=iH R.out
      rw [show jV (.error 2:Except Int (List UInt8))=2 from rfl]
      go_upto_region 9 with fail
      obtain⟨r0,r1,rf⟩:=jd (R2.out w5 HB3.out);have rf0:=rf 0;have rf1:=rf 1;clear rf;obtain⟨s0,s1,s2,sf⟩:=j7 (R3.out w5 HB3.out);have sf0:=sf 0;have sf1:=sf 1;have sf2:=sf 2;clear sf
      go_wp2_with fail
      obtain⟨q2,q3⟩:=jo (R2.out w5 HB3.out) (R3.out w5 HB3.out) (.slice none 0 0) (.int .i64 0) (.slice none 0 0) (.slice none 0 0) (.int .i64 0)
      obtain⟨y0,y1,_⟩:=jd q2
      obtain⟨x0,x1,x2,_⟩:=j7 q3
      refine bodyPost_ret (v:=.tuple #[.agg #[.slice none 0 0,.int .i64 0],.agg #[.slice none 0 0,.slice none 0 0,.int .i64 0],.int .i64 2]) (by simp only [qm,set3]at y0 y1 x0 x1 x2;simp [results,Tryz.results21,go_sem,y0,y1,x0,x1,x2]) rfl ?_
      exact m26
     ·rw [show jV (.ok b:Except Int (List UInt8))=0 from rfl,show bytesOf (.ok b:Except Int (List UInt8))=b from rfl]
      rw [show bytesOf (.ok b:Except Int (List UInt8))=b from rfl]at HV3
      have R9:Hid (kK k1 k2 n d st=(0,b,st,k1,k2,n+1)):=iH R.out
      go_upto_region 10 with fail
      obtain⟨wd,hwd⟩:∃wd,wd=w5.drew:=⟨_,rfl⟩
      have HWD:=iH hwd
      have RC4:Hid (wd.heap[w.heap.size+1]?=some (.cells #[.slice A3 d.length d3,.int .i64 st] 44 (0,0))):=iH (by rw [hwd];exact RC.out w5 HB3.out)
      have RU4:Hid (wd.heap[wn.heap.size]?=some (.cells #[.slice xA k1.length xc,.slice yA k2.length yc,.int .i64 (n+1)] 29 (0,0))):=iH (by rw [hwd];exact RU.out w5 HBU3.out)
      have RR4:Hid (wd.heap[(w.heap.size+1+1)]?=some (.cells #[.slice none 0 0,.int .i64 0] 44 (0,0))):=iH (by rw [hwd];exact R2.out w5 HB3.out)
      have RS4:Hid (wd.heap[(w.heap.size+1+1+1)]?=some (.cells #[.slice none 0 0,.slice none 0 0,.int .i64 0] 29 (0,0))):=iH (by rw [hwd];exact R3.out w5 HB3.out)
      have HB4:Hid (Below w.heap.size w wd):=iH (by rw [hwd];exact(HB.out.trans (HB3.out.mono HB.out.size)).drew)
      have V4:Hid (Bs wd wd.heap.size (.slice vA b.length vc) b):=iH (by rw [hwd];exact HV3.out)
      have X4:Hid (Bs wd wd.heap.size (.slice xA k1.length xc) k1):=iH (by rw [hwd];exact XU.out.lift HBU3.out.drew)
      have Y4:Hid (Bs wd wd.heap.size (.slice yA k2.length yc) k2):=iH (by rw [hwd];exact YU.out.lift HBU3.out.drew)
      have NE1:Hid (w.heap.size+1≠(w.heap.size+1+1)):=iH (by omega)
      have NE3:Hid (wn.heap.size≠(w.heap.size+1+1)):=iH (by have:=HZA.out;have:=HBN.out.size;omega)
      clear hwd
      refine jc 6 [some 60,some 61,some 62,some 63,some 64,none] [[],[],[1],[0,1,2],[],[0,1,2,3]]
       (J2 wd (w.heap.size+1+1) 5 (.slice vA b.length vc) (.int .i64 st)) (fun _ _=>True)
       [fun v _=>v 0=.slice vA b.length vc,
        fun v _=>v 1=.pointer (some ⟨w.heap.size+1,1,none⟩),
        fun v _=>v 2=.int .i64 st,
        fun v _=>v 3=.agg #[.slice vA b.length vc,.int .i64 st],
        fun v _=>v 4=.agg #[.slice xA k1.length xc,.slice yA k2.length yc,.int .i64 (n+1)],
        fun v w1=>True]
       (by kernel_rfl) (by kernel_rfl) (fun _=>HWD.out.symm.trans (iF (by decide)).symm) ?st9 ?steps9 ?tail9
      case st9=>
       exact(.cons (fun _ _ _ _ _ _ h=>h) (.cons (fun _ _ _ _ _ _ h=>h) (.cons (fun _ _ _ _ _ _ h=>h) (.cons (fun _ _ _ _ _ _ h=>h) (.cons (fun _ _ _ _ _ _ h=>h) (.cons (fun _ _ _ _ _ _ h=>h) .nil))))))
      case steps9=>
       simp only [List.take_succ_cons,List.take_zero]
       refine(.cons ?_ (.cons ?_ (.cons ?_ (.cons ?_ (.cons ?_ (.cons ?_ .nil))))))
       all_goals(intro L v w1 hJ hL hA hF K hK;simp only [jf,Act.put,Nat.zero_add,Nat.reduceAdd,List.setIfInBounds_toArray,List.set_cons_zero,List.set_cons_succ]at hK |-)
       ·exact m1n
       ·exact m1o
       ·have e1:v 1=_:=hF 1 (hA 1 (by simp))
        obtain⟨c0,c1,_⟩:=jd ((J2.row hJ NE1.out).trans RC4.out)
        simp only [e1]at hK
        go_simp
        refine hK _ _ (J2.step hJ 2 (by decide)) trivial ?_
        first|exact rfl|exact j5 _
       ·have e0:v 0=_:=hF 0 (hA 0 (by simp))
        have e2:v 2=_:=hF 2 (hA 2 (by simp))
        simp only [e0,e2]at hK
        go_simp
        refine hK _ _ (J2.step hJ 3 (by decide)) trivial ?_
        first|exact rfl|exact j5 _
       ·obtain⟨c0,c1,c2,_⟩:=j7 ((J2.row hJ NE3.out).trans RU4.out)
        go_simp
        refine hK _ _ (J2.step hJ 4 (by decide)) trivial ?_
        first|exact rfl|exact j5 _
       ·have e3:v 3=_:=hF 3 (hA 3 (by simp))
        simp only [e3]at hK
        obtain rfl:=J2.old hJ hL
        obtain⟨r0,r1,rf⟩:=jd RR4.out
        have rf0:=rf 0;have rf1:=rf 1;clear rf
        have e3:v 3=_:=hF 3 (hA 3 (by simp))
        simp only [e3]at hK |-
        have hJ2:=iH hJ;have hL2:=iH hL
        clear hJ hL hF hA e3
        exact m20
      case tail9=>
       intro v w1 hJ hF
       have e0:v 0=_:=hF 0 (by simp)
       have e1:v 1=_:=hF 1 (by simp)
       have e2:v 2=_:=hF 2 (by simp)
       have e3:v 3=_:=hF 3 (by simp)
       have e4:v 4=_:=hF 4 (by simp)
       simp only [List.drop_succ_cons,List.drop_zero,jf,Act.put,Nat.zero_add,Nat.reduceAdd,List.setIfInBounds_toArray,List.set_cons_zero,List.set_cons_succ]
       simp only [e4]
       clear e0 e1 e2 e3 e4 hF
       obtain rfl:=J2.all hJ rfl
       have RS5:Hid ((qm wd (w.heap.size+1+1) (.slice vA b.length vc) (.int .i64 st)).heap[(w.heap.size+1+1+1)]?=some (.cells #[.slice none 0 0,.slice none 0 0,.int .i64 0] 29 (0,0))):=iH ((kz (by omega)).trans RS4.out)
       obtain⟨s0,s1,s2,sf⟩:=j7 RS5.out
       have sf0:=sf 0;have sf1:=sf 1;have sf2:=sf 2;clear sf
       obtain⟨w5,hw5⟩:∃w5,w5=qm wd (w.heap.size+1+1) (.slice vA b.length vc) (.int .i64 st):=⟨_,rfl⟩
       rw [<-hw5]at s0 s1 s2 sf0 sf1 sf2 |-
       have HW5:=iH hw5
       clear hw5 hJ
       go_wp2_with fail
       have q:=jo (W:=wd) RR4.out RS4.out (.slice vA b.length vc) (.int .i64 st) (.slice xA k1.length xc) (.slice yA k2.length yc) (.int .i64 (n+1))
       rw [<-HW5.out]at q
       obtain⟨q2,q3⟩:=q
       obtain⟨y0,y1,_⟩:=jd q2
       obtain⟨x0,x1,x2,_⟩:=j7 q3
       refine bodyPost_ret (v:=.tuple #[.agg #[.slice vA b.length vc,.int .i64 st],.agg #[.slice xA k1.length xc,.slice yA k2.length yc,.int .i64 (n+1)],.int .i64 0]) (by simp only [set3]at y0 y1 x0 x1 x2;simp [results,Tryz.results21,go_sem,y0,y1,x0,x1,x2]) rfl ?_
       exact mz
  ·have HVC:Hid (vR d st=false):=iH (by simpa using v2)
   have R:Hid (kK k1 k2 n d st=(14,[],0,[],[],0)):=iH (by unfold kK;rw [iF (by rw [v1];simp),iT HVC.out])
   clear v1 v2
   go_enter Tryz.func21,Tryz.ntmps21
   go_upto_region 1 with fail
   rw [<-HWS.out,<-HWC.out,<-HW2.out,<-HW3.out]
   obtain⟨f0,f1,f2⟩:=CS.out wa iB
   go_upto_region 2 with (first
    |(go_at_call 44;have M1:=HBV;go_loud(refine(xp _ d st wv (HCV.out wv HBV.out)).mono ?_;rw [HVC.out];rintro e wc ⟨rfl,hb⟩;have hb2:=HBV.out.trans (hb.mono HBV.out.size);have HBC:=iH hb2;clear g0 g1;obtain⟨g0,g1⟩:=CC.out wc hb2;clear f0 f1 f2;obtain⟨f0,f1,f2⟩:=CS.out wc hb2;clear hb hb2))
    |(go_at_call 28;refine(jt _ k1 k2 n _ wa HSV.out).mono ?_;rw [HVS.out];rintro e wv ⟨rfl,hb⟩;have HBV:=iH hb;obtain⟨g0,g1⟩:=CC.out wv hb;clear hb))
   clear f0 f1 f2 g0 g1
   obtain⟨r0,r1,rf⟩:=jd (R2.out wc HBC.out);have rf0:=rf 0;have rf1:=rf 1;clear rf;obtain⟨s0,s1,s2,sf⟩:=j7 (R3.out wc HBC.out);have sf0:=sf 0;have sf1:=sf 1;have sf2:=sf 2;clear sf
   go_wp2_with fail
   obtain⟨q2,q3⟩:=jo (R2.out wc HBC.out) (R3.out wc HBC.out) (.slice none 0 0) (.int .i64 0) (.slice none 0 0) (.slice none 0 0) (.int .i64 0)
   obtain⟨y0,y1,_⟩:=jd q2
   obtain⟨x0,x1,x2,_⟩:=j7 q3
   refine bodyPost_ret (v:=.tuple #[.agg #[.slice none 0 0,.int .i64 0],.agg #[.slice none 0 0,.slice none 0 0,.int .i64 0],.int .i64 14]) (by simp only [qm,set3]at y0 y1 x0 x1 x2;simp [results,Tryz.results21,go_sem,y0,y1,x0,x1,x2]) rfl ?_
   exact mp
 ·have HVS:Hid (vS k1 k2 n=false):=iH (by simpa using v1)
  have R:Hid (kK k1 k2 n d st=(14,[],0,[],[],0)):=iH (by unfold kK;rw [iT HVS.out])
  clear v1
  go_enter Tryz.func21,Tryz.ntmps21
  go_upto_region 1 with fail
  rw [<-HWS.out,<-HWC.out,<-HW2.out,<-HW3.out]
  obtain⟨f0,f1,f2⟩:=CS.out wa iB
  go_upto_region 2 with (go_at_call 28;refine(jt _ k1 k2 n _ wa HSV.out).mono ?_;rw [HVS.out];rintro e wv ⟨rfl,hb⟩;have HBV:=iH hb;obtain⟨g0,g1⟩:=CC.out wv hb;clear hb)
  clear f0 f1 f2 g0 g1
  obtain⟨r0,r1,rf⟩:=jd (R2.out wv HBV.out);have rf0:=rf 0;have rf1:=rf 1;clear rf;obtain⟨s0,s1,s2,sf⟩:=j7 (R3.out wv HBV.out);have sf0:=sf 0;have sf1:=sf 1;have sf2:=sf 2;clear sf
  go_wp2_with fail
  obtain⟨q2,q3⟩:=jo (R2.out wv HBV.out) (R3.out wv HBV.out) (.slice none 0 0) (.int .i64 0) (.slice none 0 0) (.slice none 0 0) (.int .i64 0)
  obtain⟨y0,y1,_⟩:=jd q2
  obtain⟨x0,x1,x2,_⟩:=j7 q3
  refine bodyPost_ret (v:=.tuple #[.agg #[.slice none 0 0,.int .i64 0],.agg #[.slice none 0 0,.slice none 0 0,.int .i64 0],.int .i64 14]) (by simp only [qm,set3]at y0 y1 x0 x1 x2;simp [results,Tryz.results21,go_sem,y0,y1,x0,x1,x2]) rfl ?_
  exact mW
end Go.Proofs.YtadndhgebgjlaaaGreat
