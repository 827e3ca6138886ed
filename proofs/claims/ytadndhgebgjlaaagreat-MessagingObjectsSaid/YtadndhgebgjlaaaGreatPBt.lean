/- messaging.Unwrap -/
import Derived.Test.YtadndhgebgjlaaaGreatPBn
import Derived.Test.YtadndhgebgjlaaaGreatPBr
import Derived.Test.YtadndhgebgjlaaaGreatPBs
set_option linter.all false
set_option maxRecDepth 100000
set_option maxHeartbeats 4000000
namespace Go.Proofs.YtadndhgebgjlaaaGreat
open Go.RowKit Go.Deep
theorem mo{P:Prop}(h:P:=by
 rw [R.out]
 exact⟨_,_,rfl,⟨_,rfl,BsS.nil0 _ _⟩,⟨_,_,rfl,BsS.nil0 _ _,BsS.nil0 _ _⟩,jk (HB.out.trans (Below.mono HBF.out HB.out.size)) (by omega)⟩):P:=h
theorem m1b{P:Prop}(h:P:=by
 go_wp2_with(go_at_call 59;refine iR HNB.out ?_)
 go_meet
 exact⟨jg (o:=5) (jg (o:=5) RP7.out),⟨HG7.out.os,HG7.out.tape,HG7.out.output,by simpa using HG7.out.size,fun b hb hne=>by rw [iO (by intro e;exact hne (congrArg some e)),iO (by intro e;exact hne (congrArg some e))];exact HG7.out.block b hb hne⟩⟩):P:=h
theorem m2v{P:Prop}(h:P:=by
 obtain⟨a4,c4,e4,h4⟩:∃a c,v 4=_/\_:=hF 4 (hA 4 (by simp))
 simp only [e4]at hK
 go_simp
 exact hK _ _ hJ iB ⟨_,_,rfl,h4⟩):P:=h
theorem m2w{P:Prop}(h:P:=by
 obtain⟨a5,c5,e5,h5⟩:∃a c,v 5=_/\_:=hF 5 (hA 5 (by simp))
 simp only [e5]at hK
 go_simp
 exact hK _ _ hJ iB ⟨_,_,rfl,h5⟩):P:=h
theorem m2y{P:Prop}(h:P:=by
 split at h
 ·cases h
 ·obtain⟨y,hy,he⟩:=Option.map_eq_some_iff.1 h
  have:=two hy
  simp only [Prod.mk.injEq]at he
  omega):P:=h
theorem m3a{P:Prop}(h:P:=by
 obtain⟨a5,c5,e5,h5⟩:∃a c,v 5=_/\_:=hF 5 (hA 5 (by simp))
 simp only [e5]at hK
 go_simp
 exact hK _ _ hJ iB rfl):P:=h
theorem m3j{P:Prop}(h:P:=by
 split at h
 ·cases h
 ·obtain⟨y,hy,he⟩:=Option.map_eq_some_iff.1 h
  rw [<-he];exact one (x:=y) hy):P:=h
theorem m43{P:Prop}(h:P:=by
 unfold qG at e1
 split at e1
 ·cases e1
 ·rename_i hh;simpa using hh):P:=h
def exW(M:List UInt8):Int:=if M= []then -1 else if JZ M=0 then(if M.length=1 then 256 else 65536)else JZ M
def ZW(k1 k2 N:List UInt8)(n:Int)(c:Cm):Except Int (List (List UInt8)×Ns)->Int×Cm×List UInt8×List UInt8×Int
 |.error e=>(e,zC,[],[],0)
 |.ok (vs,P)=>
  if ¬kC k2 N (xB c.cl c.ins c.p1 c.p2) P.enc=gl vs 2 then(20,zC,[],[],0)
  else if ¬kD k1 N ((gl vs 0).drop 1)=0 then(kD k1 N ((gl vs 0).drop 1),zC,[],[],0)
  else(0,⟨c.cl - 12,c.ins,c.p1,c.p2,qt k1 N ((gl vs 0).drop 1),exW (gl vs 1)⟩,k1,k2,n+1)
def jr(k1 k2:List UInt8)(n:Int)(c:Cm):Int×Cm×List UInt8×List UInt8×Int:=
 if vS k1 k2 n=false then(14,zC,[],[],0)
 else if vC c=false then(14,zC,[],[],0)
 else if n=1099511627776 then(3,zC,[],[],0)
 else if ¬c.cl / 4 % 4=3 then(23,zC,[],[],0)
 else ZW k1 k2 (Jh (n+1)) n c (kZ [142] (qZ 151 1 false) c.data)
theorem zv(t:Int)(v:List UInt8)(ht:qX t=true)(hc:jY t=false)(M:Ns)(hM:M.chk 1=0):((qe t v).app M).chk 1=0:=by
 unfold qe
 split
 ·exact hM
 ·simp [Ns.app,Ns.chk,ht,hc,Ns.len,hM]
theorem zu(t:Int)(v:List UInt8)(M:Ns):((qe t v).app M).all<=M.all+1:=by
 unfold qe
 split
 ·exact Nat.le_succ _
 ·simp [Ns.app,Ns.all];omega
theorem Qv{tg lo:Int}{mu:Bool}(ht:¬tg=135)(h142:¬tg=142)(hlo:1<=lo)(hv:qX tg=true)(hp:jY tg=false){ts:List Int}{data:List UInt8}{vs:List (List UInt8)}{P:Ns}(h:kZ ts (qZ tg lo mu) data=.ok (vs,P)):
 ∃V M C L,vs= [V,M,C]/\Zg tg lo mu L V M C/\jK data true=.ok L/\qG P=.ok P.enc/\P.all<=10/\P.enc.length<=10000/\P=(qe 135 V).app (qe tg M):=by
 unfold kZ at h
 cases hpp:jK data true with
 |error e=>rw [hpp]at h;cases h
 |ok L=>
  rw [hpp]at h
  simp only at h
  split at h
  ·cases h
  ·cases hf:jI (qZ tg lo mu) L with
   |none=>rw [hf]at h;cases h
   |some x=>
    obtain⟨us,n,M⟩:=x
    rw [hf]at h
    cases M with
    |cons=>cases h
    |nil=>
     injection h with h
     injection h with h1 h2
     obtain⟨e1,_,e3,e4,e5⟩:=kX hpp
     have hc:L.chk 1=0:=by
      exact m43
     obtain⟨V,M,C,g1,g2,g3⟩:=zi ht h142 hlo hp hc hf
     rw [h2]at g3
     have hPC:P.chk 1=0:=by rw [g3];exact zv _ _ (by decide) (by decide) _ (by have:=zv tg M hv hp .nil rfl;rwa [Ns.app_nil]at this)
     have hPA:P.all<=2:=by rw [g3];have:=zu 135 V (qe tg M);have h9:=zu tg M .nil;rw [Ns.app_nil]at h9;simp only [Ns.all]at h9;omega
     have hPE:P.enc.length<=4096:=by
      have e6:=g2.l
      rw [<-Ns.app_assoc,<-g3]at e6
      have:L.enc.length=P.enc.length+(Ns.cons 142 C .nil .nil).enc.length:=by rw [e6,xz,List.length_append]
      rw [e4]at this
      omega
     refine⟨V,M,C,L,h1.symm.trans g1,g2,rfl,?_,by omega,by omega,g3⟩
     rw [xS hPC (by omega),iF (by omega)]
theorem Yx{ts:List Int}{fs:List Fld}{data:List UInt8}{e:Int}(h:kZ ts fs data=.error e):e≠0:=by
 unfold kZ at h
 split at h
 ·injection h with h;omega
 ·split at h
  ·injection h with h;omega
  ·exact mJ
def JS(w0:World)(p s q o:Nat)(dl:List Nat)(C:Array Value)(t:TypeId)(L:Nat->Bool)(v:Nat->Value)(w1:World):Prop:=
 w0.grownBy w1 (some p)/\(L s=true->∀k∈dl,L k=true)/\w1.heap[p]?=some (.cells (if L s=true then C.set! o (v q)else C) t (0,0))
section
variable {w0 w1 w2:World} {p s q o:Nat} {dl:List Nat} {C:Array Value} {t:TypeId} {L:Nat->Bool} {v:Nat->Value} {y:Value}
section
variable(h:JS w0 p s q o dl C t L v w1)
include h
theorem JS.step(hq:q∈dl)(i:Nat)(hs:s≠i)(hL:L i=false)(hb:Below w1.heap.size w1 w2):JS w0 p s q o dl C t (ji L i) (jy v i y) w2:=by
 have e1:ji L i s=L s:=by unfold ji;exact iF hs
 refine⟨kT h.1 (jD hb _),fun h1 k hk=> ?_,?_⟩
 ·rw [e1]at h1
  have:=h.2.1 h1 k hk
  unfold ji
  split
  ·rfl
  ·exact this
 ·rw [e1,hb.block p (iG h.2.2),h.2.2]
  cases hs2:L s with
  |false=>rfl
  |true=>
   have hq:=h.2.1 hs2 q hq
   have:q≠i:=fun e=>by subst e;rw [hq]at hL;cases hL
   have e2:jy v i y q=v q:=by unfold jy;exact iF this
   rw [e2]
theorem JS.same(hq:q∈dl)(i:Nat)(hs:s≠i)(hL:L i=false):JS w0 p s q o dl C t (ji L i) (jy v i y) w1:=h.step hq i hs hL iB
theorem JS.old{i:Nat}(hi:i∈dl)(hL:L i=false):w1.heap[p]?=some (.cells C t (0,0)):=by
 have h3:=h.2.2
 cases hs:L s with
 |false=>rw [hs]at h3;exact h3
 |true=>have:=h.2.1 hs i hi;rw [hL]at this;cases this
theorem JS.store(hL:L s=false)(hq:∀k∈dl,L k=true)(hqs:q≠s):JS w0 p s q o dl C t (ji L s) (jy v s y) (w1.setCell ⟨p,o,none⟩ (v q)):=by
 have e1:ji L s s=true:=by unfold ji;exact iT rfl
 have e2:jy v s y q=v q:=by unfold jy;exact iF hqs
 have h3:=h.2.2
 rw [hL]at h3
 refine⟨⟨h.1.os,h.1.tape,h.1.output,by simpa using h.1.size,fun b hb hne=>(iO (by show b≠p;intro e;subst e;exact hne rfl)).trans (h.1.block b hb hne)⟩,fun _ k hk=> ?_,?_⟩
 ·unfold ji
  split
  ·rfl
  ·exact hq k hk
 ·rw [e1,e2]
  exact jg h3
theorem JS.row{b:Nat}(hb:b<w0.heap.size)(hne:b≠p):w1.heap[b]?=w0.heap[b]? :=h.1.block b hb (by intro e;injection e;exact hne ‹_›)
end
theorem JS.start(w0:World)(p s q o:Nat)(dl:List Nat)(C:Array Value)(t:TypeId)(v:Nat->Value)(h:w0.heap[p]?=some (.cells C t (0,0))):JS w0 p s q o dl C t (fun _=>false) v w0.drew:=by
 refine⟨km (World.grownBy.refl _ _),fun h=> ?_,h⟩
 exact absurd h (by simp)
theorem JS.fin(h:JS w0 p s q o dl C t L v w1)(hL:L s=true):w1.heap[p]?=some (.cells (C.set! o (v q)) t (0,0)):=by
 have h3:=h.2.2
 rw [hL]at h3
 exact h3
end
theorem Yk{tg lo:Int}{mu:Bool}(L:Ns)(vs:List (List UInt8))(n:Nat)(R:Ns)(h:jI (qZ tg lo mu) L=some (vs,n,R)):1<=n:=by
 have one:∀ {L:Ns} {x:List (List UInt8)×Nat×Ns},jI [⟨142,8,8,true⟩] L=some x->1<=x.2.1:=fun {L x} h=>by
  obtain⟨C,k,_,_,_,hn⟩:=yg (L:=L) (vs:=x.1) (n:=x.2.1) (R:=x.2.2) h
  omega
 have two:∀ {L:Ns} {x:List (List UInt8)×Nat×Ns},jI [⟨tg,lo,2,mu⟩,⟨142,8,8,true⟩] L=some x->1<=x.2.1:=fun {L x} h=>by
  cases L with
  |nil=>
   rw [jI]at h
   exact m3j
  |cons t v k r=>
   rw [jI]at h
   split at h
   ·split at h
    ·cases h
    ·obtain⟨y,hy,he⟩:=Option.map_eq_some_iff.1 h
     rw [<-he];exact Nat.le_add_left _ _
   ·exact m3j
 unfold qZ at h
 cases L with
 |nil=>
  rw [jI]at h
  exact m2y
 |cons t v k r=>
  rw [jI]at h
  split at h
  ·split at h
   ·cases h
   ·obtain⟨y,hy,he⟩:=Option.map_eq_some_iff.1 h
    simp only [Prod.mk.injEq]at he
    omega
  ·exact m2y
def j6i(n:Nat):Bool:=decide (n / 4 % 4=3->bits BinOp.andNot IntKind.i64 (n:Int) 12=(n:Int) - 12)
theorem Vc:((List.range 256).all j6i)=true:=by decide+kernel
theorem Zk(n:Nat)(h:n<256)(h3:n / 4 % 4=3):bits BinOp.andNot IntKind.i64 (n:Int) 12=(n:Int) - 12:=by
 have:=List.all_eq_true.1 Vc n (List.mem_range.2 h)
 unfold j6i at this
 exact of_decide_eq_true this h3
theorem qN(err:Int)(w:World):Calls Tryz.prog 54 #[.int .i64 err] w fun e w'=>e=.returned (.tuple #[.agg #[.int .i64 0,.int .i64 0,.int .i64 0,.int .i64 0,.slice none 0 0,.int .i64 0],.agg #[.slice none 0 0,.slice none 0 0,.int .i64 0],.int .i64 err])/\Below w.heap.size w w':=by
 obtain⟨w1,hw1⟩:∃w1,w1=w.alloc (.cells #[.int .i64 0,.int .i64 0,.int .i64 0,.int .i64 0,.slice none 0 0,.int .i64 0] 32):=⟨_,rfl⟩
 obtain⟨wa,hwa⟩:∃wa,wa=w1.alloc (.cells #[.slice none 0 0,.slice none 0 0,.int .i64 0] 29):=⟨_,rfl⟩
 have hz1:w1.heap.size=w.heap.size+1:=by rw [hw1];simp
 have b1:Below w.heap.size w w1:=by rw [hw1];exact iA
 have b2:Below w1.heap.size w1 wa:=by rw [hwa];exact iA
 have h2:wa.heap[w.heap.size]?=some (.cells #[.int .i64 0,.int .i64 0,.int .i64 0,.int .i64 0,.slice none 0 0,.int .i64 0] 32 (0,0)):=by rw [b2.block _ (by omega),hw1];exact iN
 have h3:wa.heap[w.heap.size+1]?=some (.cells #[.slice none 0 0,.slice none 0 0,.int .i64 0] 29 (0,0)):=by rw [hwa,<-hz1];exact iN
 have HB:=iH (b1.trans (b2.mono b1.size));have H2:=iH h2;have H3:=iH h3;have HW1:=iH hw1;have HWA:=iH hwa
 obtain⟨r0,r1,r2,r3,r4,r5,rf⟩:=j8 h2
 have rf0:=rf 0;have rf1:=rf 1;have rf2:=rf 2;have rf3:=rf 3;have rf4:=rf 4;have rf5:=rf 5
 obtain⟨s0,s1,s2,sf⟩:=j7 h3
 have sf0:=sf 0;have sf1:=sf 1;have sf2:=sf 2
 clear rf sf h2 h3 b1 b2 hw1 hwa hz1
 go_enter Tryz.func54,Tryz.ntmps54
 go_upto_region 1 with fail
 rw [<-HW1.out,<-HWA.out]
 go_wp2_with fail
 obtain⟨q2,q3⟩:=jq H2.out H3.out (.int .i64 0) (.int .i64 0) (.int .i64 0) (.int .i64 0) (.slice none 0 0) (.int .i64 0) (.slice none 0 0) (.slice none 0 0) (.int .i64 0)
 obtain⟨y0,y1,y2,y3,y4,y5,_⟩:=j8 q2
 obtain⟨x0,x1,x2,_⟩:=j7 q3
 refine bodyPost_ret (v:=.tuple #[.agg #[.int .i64 0,.int .i64 0,.int .i64 0,.int .i64 0,.slice none 0 0,.int .i64 0],.agg #[.slice none 0 0,.slice none 0 0,.int .i64 0],.int .i64 err]) (by simp only [set6,set3]at y0 y1 y2 y3 y4 y5 x0 x1 x2;simp [results,Tryz.results54,go_sem,y0,y1,y2,y3,y4,y5,x0,x1,x2]) rfl ?_
 exact⟨rfl,jk HB.out iL⟩
theorem JU(vs vc:Value)(k1 k2:List UInt8)(n:Int)(c:Cm)(w:World)(hs:qs w (·<w.heap.size) vs k1 k2 n)(hc:Jm w (·<w.heap.size) vc c):
 Calls Tryz.prog 25 #[vs,vc] w (yN (jr k1 k2 n c) w):=by
 obtain⟨cl,ins,p1,p2,data,ex⟩:=c
 obtain⟨A1,d1,A2,d2,A3,d3,ws,wq,w2,wa,rfl,rfl,R2,R3,CS,CC,HZA,HB,HWS,HWC,HW2,HW3,H1,H2,H3,HSV,HCV⟩:=j7a hs hc
 clear hs hc
 by_cases v1:vS k1 k2 n=true
 ·have HVS:=iH v1
  by_cases v2:vC ⟨cl,ins,p1,p2,data,ex⟩=true
  ·have HVC:=iH v2
   have VS:=iH (of_decide_eq_true v1)
   have VC:=iH (of_decide_eq_true v2)
   clear v1 v2
   obtain⟨m,hm⟩:∃m:Nat,cl=m:=⟨cl.toNat,by have:=VC.out;simp only at this;omega⟩
   subst hm
   have hm:m<255:=by have:=VC.out;simp only at this;omega
   have a1:=Jr m (by omega)
   by_cases g3:n=1099511627776
   ·have t3:(n==1099511627776)=true:=by simp [g3]
    have R:Hid (jr k1 k2 n ⟨m,ins,p1,p2,data,ex⟩=(3,zC,[],[],0)):=iH (by unfold jr;rw [iF (by rw [HVS.out];simp),iF (by rw [HVC.out];simp),iT g3])
    clear g3 a1 hm
    go_enter Tryz.func25,Tryz.ntmps25
    go_upto_region 1 with fail
    rw [<-HWS.out,<-HWC.out,<-HW2.out,<-HW3.out]
    obtain⟨f0,f1,f2⟩:=CS.out wa iB
    go_wp2_with(first
     |(go_at_call 54;refine(qN 3 wc).mono ?_;rintro e wf ⟨rfl,hb⟩;have HBF:=iH (HBC.out.trans (hb.mono HBC.out.size));obtain⟨r0,r1,r2,r3,r4,r5,rf⟩:=j8 (R2.out wf HBF.out);have rf0:=rf 0;have rf1:=rf 1;have rf2:=rf 2;have rf3:=rf 3;have rf4:=rf 4;have rf5:=rf 5;clear rf;obtain⟨s0,s1,s2,sf⟩:=j7 (R3.out wf HBF.out);have sf0:=sf 0;have sf1:=sf 1;have sf2:=sf 2;clear sf;clear hb)
     |(go_at_call 48;have M1:=HBV;go_loud(refine(kN _ _ _ wv (HCV.out wv HBV.out)).mono ?_;rw [HVC.out];rintro e wc ⟨rfl,hb⟩;have hb2:=HBV.out.trans (hb.mono HBV.out.size);have HBC:=iH hb2;clear g0 g1 g2 g3 g4 g5;obtain⟨g0,g1,g2,g3,g4,g5⟩:=CC.out wc hb2;clear f0 f1 f2;obtain⟨f0,f1,f2⟩:=CS.out wc hb2;clear hb hb2))
     |(go_at_call 47;refine(js _ k1 k2 n _ wa HSV.out).mono ?_;rw [HVS.out];rintro e wv ⟨rfl,hb⟩;have HBV:=iH hb;obtain⟨g0,g1,g2,g3,g4,g5⟩:=CC.out wv hb;clear hb))
    obtain⟨q2,q3⟩:=jq (R2.out wf HBF.out) (R3.out wf HBF.out) (.int .i64 0) (.int .i64 0) (.int .i64 0) (.int .i64 0) (.slice none 0 0) (.int .i64 0) (.slice none 0 0) (.slice none 0 0) (.int .i64 0)
    obtain⟨y0,y1,y2,y3,y4,y5,_⟩:=j8 q2
    obtain⟨x0,x1,x2,_⟩:=j7 q3
    refine bodyPost_ret (v:=.tuple #[.agg #[.int .i64 0,.int .i64 0,.int .i64 0,.int .i64 0,.slice none 0 0,.int .i64 0],.agg #[.slice none 0 0,.slice none 0 0,.int .i64 0],.int .i64 3]) (by simp only [set6,set3]at y0 y1 y2 y3 y4 y5 x0 x1 x2;simp [results,Tryz.results25,go_sem,y0,y1,y2,y3,y4,y5,x0,x1,x2]) rfl ?_
    exact mo
   ·have t3:(n==1099511627776)=false:=by simpa using g3
    by_cases g1:m / 4 % 4=3
    ·have a2:bits BinOp.and IntKind.i64 (m:Int) 12=12:=by rw [a1,g1]<;>rfl
     have an:=Zk m (by omega) g1
     have HM:Hid (m<255/\m / 4 % 4=3):=iH ⟨hm,g1⟩
     clear a1
     have LK1:Hid (k1.length=16):=iH VS.out.1
     have LK2:Hid (k2.length=16):=iH VS.out.2.1
     have LD:Hid (data.length<=4096):=iH VC.out.2.2.2.2.2.1
     have OCI:Hid (ql (m:Int)=true/\ql ins=true/\ql p1=true/\ql p2=true):=iH ⟨decide_eq_true ⟨by omega,by omega⟩,decide_eq_true VC.out.2.2.1,decide_eq_true VC.out.2.2.2.1,decide_eq_true VC.out.2.2.2.2.1⟩
     obtain⟨N,hN⟩:∃N,Jh (n+1)=N:=⟨_,rfl⟩
     have LN:Hid (N.length=16):=iH (by rw [<-hN]<;>rfl)
     have HNX:Hid (∀(va vb:Value) (w:World),Bs w w.heap.size va k1->Bs w w.heap.size vb k2->Calls Tryz.prog 49 #[.agg #[va,vb,.int .i64 n]] w fun e w'=>∃x y z,e=.returned (.agg #[x,y,.int .i64 (n+1),z])/\Bs w' w'.heap.size x k1/\Bs w' w'.heap.size y k2/\Bs w' w'.heap.size z N/\Below w.heap.size w w'):=iH (fun va vb w h1 h2=>by rw [<-hN];exact yo va vb k1 k2 n VS.out.2.2.1 VS.out.2.2.2 w h1 h2)
     obtain⟨rr,hrr⟩:∃r,kZ [142] (qZ 151 1 false) data=r:=⟨_,rfl⟩
     have R:Hid (jr k1 k2 n ⟨m,ins,p1,p2,data,ex⟩=ZW k1 k2 N n ⟨m,ins,p1,p2,data,ex⟩ rr):=iH (by subst hN;subst hrr;unfold jr;rw [iF (by rw [HVS.out];simp),iF (by rw [HVC.out];simp),iF g3,iF (by simp only;omega)])
     have HRR:=iH hrr
     clear hN g1 g3 hm hrr
     go_enter Tryz.func25,Tryz.ntmps25
     go_upto_region 1 with fail
     rw [<-HWS.out,<-HWC.out,<-HW2.out,<-HW3.out]
     obtain⟨f0,f1,f2⟩:=CS.out wa iB
     go_upto_region 9 with (first
      |(go_at_call 48;have M1:=HBV;go_loud(refine(kN _ _ _ wv (HCV.out wv HBV.out)).mono ?_;rw [HVC.out];rintro e wc ⟨rfl,hb⟩;have hb2:=HBV.out.trans (hb.mono HBV.out.size);have HBC:=iH hb2;clear g0 g1 g2 g3 g4 g5;obtain⟨g0,g1,g2,g3,g4,g5⟩:=CC.out wc hb2;clear f0 f1 f2;obtain⟨f0,f1,f2⟩:=CS.out wc hb2;clear hb hb2))
      |(go_at_call 47;refine(js _ k1 k2 n _ wa HSV.out).mono ?_;rw [HVS.out];rintro e wv ⟨rfl,hb⟩;have HBV:=iH hb;obtain⟨g0,g1,g2,g3,g4,g5⟩:=CC.out wv hb;clear hb))
     clear f0 f1 f2 g0 g1 g2 g3 g4 g5 a2 t3
     obtain⟨w8,hw8⟩:∃w8,w8=wc.alloc (.cells #[.int .i64 135,.int .i64 2,.int .i64 4096,.bool false,.int .i64 151,.int .i64 1,.int .i64 2,.bool false,.int .i64 142,.int .i64 8,.int .i64 8,.bool true] 84):=⟨_,rfl⟩
     rw [<-hw8]
     have hb8:Below wc.heap.size wc w8:=by rw [hw8];exact iA
     have hf8:FldAt w8 (qZ 151 1 false) wc.heap.size 0:=by
      rw [hw8]
      have k:∀o,(wc.alloc (.cells #[.int .i64 135,.int .i64 2,.int .i64 4096,.bool false,.int .i64 151,.int .i64 1,.int .i64 2,.bool false,.int .i64 142,.int .i64 8,.int .i64 8,.bool true] 84)).cell? ⟨wc.heap.size,o,none⟩=(#[.int .i64 135,.int .i64 2,.int .i64 4096,.bool false,.int .i64 151,.int .i64 1,.int .i64 2,.bool false,.int .i64 142,.int .i64 8,.int .i64 8,.bool true]:Array Value)[o]? :=fun o=>cell_of_row _ _ _ _ _ _ (iN)
      exact⟨k 0,k 1,k 2,k 3,k 4,k 5,k 6,k 7,k 8,k 9,k 10,k 11,trivial⟩
     obtain⟨wi,hwi⟩:∃wi,wi=w8.alloc (.cells #[.int .i64 142] 3):=⟨_,rfl⟩
     have hbi:Below w8.heap.size w8 wi:=by rw [hwi];exact iA
     have hpi:IntL wi (·<wi.heap.size) (.slice (some ⟨w8.heap.size,0,none⟩) 1 1) [142]:=by rw [hwi];exact Yp w8 142 ⟨by decide,by decide⟩ 3
     have hw8z:wc.heap.size<w8.heap.size:=by rw [hw8];simp
     have HB8:=iH (HBC.out.trans (hb8.mono HBC.out.size))
     have HBI:=iH (HB8.out.trans (hbi.mono HB8.out.size))
     have HOB:=Jf data [142] (qZ 151 1 false) (.slice A3 data.length d3) (.slice (some ⟨w8.heap.size,0,none⟩) 1 1) wc.heap.size 0 3 rfl (fun L vs n R h=>Yk L vs n R h) wi (H3.out.lift HBI.out) hpi (iZ hw8z hbi.size) (hf8.below hbi hw8z) ⟨by decide,by decide⟩
     rw [HRR.out]at HOB
     have HOB:=iH HOB
     have HWI:=iH hwi
     clear hw8 hb8 hf8 hbi hpi hwi hw8z
     obtain⟨g0,g1,g2,g3,g4,g5⟩:=CC.out w8 HB8.out
     cases rr with
     |error er=>
      have R:Hid (jr k1 k2 n ⟨m,ins,p1,p2,data,ex⟩=(er,zC,[],[],0)):=R
      have tne:(er != 0)=true:=by simpa using Yx HRR.out
      go_wp2_with(first
       |(go_at_call 54;refine(qN er wo).mono ?_;rintro e wf ⟨rfl,hb⟩;have HBF:=iH (HBO.out.trans (hb.mono HBO.out.size));obtain⟨r0,r1,r2,r3,r4,r5,rf⟩:=j8 (R2.out wf HBF.out);have rf0:=rf 0;have rf1:=rf 1;have rf2:=rf 2;have rf3:=rf 3;have rf4:=rf 4;have rf5:=rf 5;clear rf;obtain⟨s0,s1,s2,sf⟩:=j7 (R3.out wf HBF.out);have sf0:=sf 0;have sf1:=sf 1;have sf2:=sf 2;clear sf;clear hb)
       |(go_at_call 55;rw [<-HWI.out];refine HOB.out.mono ?_;rintro e wo ⟨rfl,hb⟩;have HBO:=iH (HBI.out.trans (hb.mono HBI.out.size));clear hb g0 g1 g2 g3 g4 g5))
      obtain⟨q2,q3⟩:=jq (R2.out wf HBF.out) (R3.out wf HBF.out) (.int .i64 0) (.int .i64 0) (.int .i64 0) (.int .i64 0) (.slice none 0 0) (.int .i64 0) (.slice none 0 0) (.slice none 0 0) (.int .i64 0)
      obtain⟨y0,y1,y2,y3,y4,y5,_⟩:=j8 q2
      obtain⟨x0,x1,x2,_⟩:=j7 q3
      refine bodyPost_ret (v:=.tuple #[.agg #[.int .i64 0,.int .i64 0,.int .i64 0,.int .i64 0,.slice none 0 0,.int .i64 0],.agg #[.slice none 0 0,.slice none 0 0,.int .i64 0],.int .i64 er]) (by simp only [set6,set3]at y0 y1 y2 y3 y4 y5 x0 x1 x2;simp [results,Tryz.results25,go_sem,y0,y1,y2,y3,y4,y5,x0,x1,x2]) rfl ?_
      exact mo
     |ok vp=>
      obtain⟨us,P⟩:=vp
      obtain⟨V,M,C,LL,hus,hsh,hpp,heP,haP,hlP,hP⟩:=Qv (by decide) (by decide) (by decide) (by decide) (by decide) HRR.out
      subst hus
      have HVV:Hid (V= []\/kf V=true):=iH (hsh.v.imp id fun h=>h.1)
      have HMM:Hid ((M= []\/M.length=1\/M.length=2)):=iH (by
       rcases hsh.m with h|h
       ·exact .inl h.1
       ·have:=h.1;exact .inr (by omega))
      have HEP:=iH heP;have HAP:=iH haP;have HLP:=iH hlP
      have R:Hid (jr k1 k2 n ⟨m,ins,p1,p2,data,ex⟩=if ¬kC k2 N (xB (m:Int) ins p1 p2) P.enc=C then(20,zC,[],[],0)
       else if ¬kD k1 N (V.drop 1)=0 then(kD k1 N (V.drop 1),zC,[],[],0)
       else(0,⟨(m:Int) - 12,ins,p1,p2,qt k1 N (V.drop 1),exW M⟩,k1,k2,n+1)):=R
      clear hsh hpp heP haP hlP hP
      go_upto_region 13 with (first
       |(go_at_call 49;refine(HNX.out _ _ wo (H1.out.lift HBO.out) (H2.out.lift HBO.out)).mono ?_;rintro e wn ⟨x,y,z,rfl,hx,hy,hz,hb⟩;obtain⟨xA,xc,hp⟩:=Bs.formL hx;subst hp;obtain⟨yA,yc,hp⟩:=Bs.formL hy;subst hp;obtain⟨zA,zc,hp⟩:=Bs.formL hz;subst hp;have HX:=iH hx;have HY:=iH hy;have HZ:=iH hz;have HBN2:=iH hb;have HBN:=iH (HBO.out.trans (hb.mono HBO.out.size));obtain⟨u0,u1,u2,u3,uf⟩:=ki (zj wn);have uf0:=uf 0;have uf1:=uf 1;have uf2:=uf 2;have uf3:=uf 3;clear uf hx hy hz hb)
       |(go_at_call 55;rw [<-HWI.out];refine HOB.out.mono ?_;intro e wo h;obtain⟨g,PA,pc,rfl,hvr,hgg,hPn,hb⟩:=h;have HVR:=iH hvr;have HGG:=iH hgg;have HPN:=iH hPn;have HBO:=iH (HBI.out.trans (hb.mono HBI.out.size));clear hb hvr hgg hPn g0 g1 g2 g3 g4 g5;obtain⟨f0,f1,f2⟩:=CS.out wo HBO.out))
      clear u0 u1 u2 u3 uf0 uf1 uf2 uf3 f0 f1 f2
      obtain⟨wu,hwu⟩:∃wu,wu=wn.alloc (.cells #[.slice xA k1.length xc,.slice yA k2.length yc,.int .i64 (n+1),.slice zA N.length zc] 77):=⟨_,rfl⟩
      rw [<-hwu]
      have hbu:Below wn.heap.size wn wu:=by rw [hwu];exact iA
      have hur:wu.heap[wn.heap.size]?=some (.cells #[.slice xA k1.length xc,.slice yA k2.length yc,.int .i64 (n+1),.slice zA N.length zc] 77 (0,0)):=by rw [hwu];exact iN
      have hult:=(iG hur)
      have CU:Hid (∀W,Below wu.heap.size wu W->W.cell? ⟨wn.heap.size,0,none⟩=some (.slice xA k1.length xc)/\W.cell? ⟨wn.heap.size,1,none⟩=some (.slice yA k2.length yc)/\W.cell? ⟨wn.heap.size,2,none⟩=some (.int .i64 (n+1))/\W.cell? ⟨wn.heap.size,3,none⟩=some (.slice zA N.length zc)):=iH fun W h=>(by obtain⟨a,b,c,d,_⟩:=ki ((h.block _ hult).trans hur);exact⟨a,b,c,d⟩)
      have RU:Hid (∀W,Below wu.heap.size wu W->W.heap[wn.heap.size]?=some (.cells #[.slice xA k1.length xc,.slice yA k2.length yc,.int .i64 (n+1),.slice zA N.length zc] 77 (0,0))):=iH fun W h=>(h.block _ hult).trans hur
      have HULT:=iH hult
      have HBAU:=iH (HBN.out.trans (hbu.mono HBN.out.size))
      have hou:=HBN2.out.trans (hbu.mono HBN2.out.size)
      have HVU:=iH (HVR.out.below hou)
      have HPU:=iH (HPN.out.keep (w':=wu) (S':=(·<wu.heap.size)) fun b hs hl=>⟨hou.block b hl,iZ hl hou.size⟩)
      have HGN:Hid (g<wn.heap.size):=iH (iZ HVR.out.lt HBN2.out.size)
      have HGA:Hid (wa.heap.size<=g):=iH (Nat.le_trans HBI.out.size HGG.out)
      have XU:=iH (HX.out.lift hbu);have YU:=iH (HY.out.lift hbu);have ZU:=iH (HZ.out.lift hbu);have DU:=iH (H3.out.lift HBAU.out)
      clear hwu hbu hur hult hou
      obtain⟨H9,hH9⟩:∃H,xB (m:Int) ins p1 p2=H:=⟨_,rfl⟩
      have LH:Hid (H9.length<=100):=iH (by rw [<-hH9,yj];decide)
      have HHD:Hid (∀(v:Value) (w:World),Jm w (·<w.heap.size) v ⟨(m:Int),ins,p1,p2,data,ex⟩->Calls Tryz.prog 53 #[v] w fun e w'=>∃v',e=.returned v'/\BsS w' (New w w') v' H9/\Below w.heap.size w w'):=iH (fun v w h=>by have hq:=Yt v (m:Int) ins p1 p2 data ex _ w h OCI.out.1 OCI.out.2.1 OCI.out.2.2.1 OCI.out.2.2.2;rw [hH9]at hq;exact hq)
      rw [hH9]at R
      obtain⟨C9,hC9⟩:∃C,kC k2 N H9 P.enc=C:=⟨_,rfl⟩
      have HCO:Hid (∀(hA:Option Addr) (hc:Nat) (w:World),Below wu.heap.size wu w->Bs w w.heap.size (.slice hA H9.length hc) H9->Calls Tryz.prog 56 #[.agg #[.slice xA k1.length xc,.slice yA k2.length yc,.int .i64 (n+1),.slice zA N.length zc],.slice hA H9.length hc,.slice PA P.len pc] w fun e w'=>∃v',e=.returned (.tuple #[v',.int .i64 0])/\BsS w' (New w w') v' C9/\Below w.heap.size w w'):=iH (fun hA hc w h1 h2=>(Qr (.slice xA k1.length xc) (.slice yA k2.length yc) (.slice zA N.length zc) (.slice hA H9.length hc) (.slice PA P.len pc) (n+1) k2 N H9 P LK2.out LN.out LH.out HAP.out HLP.out P.enc HEP.out w (YU.out.lift h1) (ZU.out.lift h1) h2 (HPU.out.keep fun b hs _=>⟨h1.block b hs,iZ hs h1.size⟩)).mono fun e w' h=>by obtain⟨A,c,he,hx,hb⟩:=h;rw [hC9]at he hx;exact⟨_,he,hx,hb⟩)
      rw [hC9]at R
      clear hH9 hC9
      refine jc 10 [some 74,some 75,some 76,some 77,some 78,some 73,some 79,some 80,some 13,some 14] [[],[],[1],[],[0,1,2,3],[0,1,2,3,4],[0,1,2,3,4,5],[0,1,2,3,4,5],[0,1,2,3,4,5,6],[0,1,2,3,4,5,6,7,8]]
       (fun _ _ w1=>Below wu.heap.size wu w1) (fun w1 w2=>Below w1.heap.size w1 w2)
       [fun v _=>v 0=.agg #[.slice xA k1.length xc,.slice yA k2.length yc,.int .i64 (n+1),.slice zA N.length zc],
        fun v _=>v 1=.agg #[.int .i64 (m:Int),.int .i64 ins,.int .i64 p1,.int .i64 p2,.slice A3 data.length d3,.int .i64 ex],
        fun v w1=>∃a c,v 2=.slice a (H9).length c/\BsS w1 (New wu w1) (.slice a (H9).length c) (H9),
        fun v _=>v 3=.slice PA P.len pc,
        fun v w1=>∃a c,v 4=.tuple #[.slice a (C9).length c,.int .i64 0]/\BsS w1 (New wu w1) (.slice a (C9).length c) (C9),
        fun v w1=>∃a c,v 5=.tuple #[.slice a (C9).length c,.int .i64 0]/\BsS w1 (New wu w1) (.slice a (C9).length c) (C9),
        fun v w1=>∃a c,v 6=.slice a (C9).length c/\BsS w1 (New wu w1) (.slice a (C9).length c) (C9),
        fun v _=>v 7=.int .i64 0,
        fun v w1=>∃a c,v 8=.slice a (C9).length c/\BsS w1 (New wu w1) (.slice a (C9).length c) (C9),
        fun v _=>v 9=.int .i64 0]
       (by kernel_rfl) (by kernel_rfl) (fun _=>iB.drew) ?st13 ?steps13 ?tail13
      case st13=>
       exact(.cons (fun _ _ _ _ _ _ h=>h) (.cons (fun _ _ _ _ _ _ h=>h) (.cons (fun _ _ _ _ _ hr ⟨a,c,e,h⟩=>⟨a,c,e,BsS.keep h fun g hg hl=>⟨hr.block g hl,hg.1,iZ hl hr.size⟩⟩) (.cons (fun _ _ _ _ _ _ h=>h) (.cons (fun _ _ _ _ _ hr ⟨a,c,e,h⟩=>⟨a,c,e,BsS.keep h fun g hg hl=>⟨hr.block g hl,hg.1,iZ hl hr.size⟩⟩) (.cons (fun _ _ _ _ _ hr ⟨a,c,e,h⟩=>⟨a,c,e,BsS.keep h fun g hg hl=>⟨hr.block g hl,hg.1,iZ hl hr.size⟩⟩) (.cons (fun _ _ _ _ _ hr ⟨a,c,e,h⟩=>⟨a,c,e,BsS.keep h fun g hg hl=>⟨hr.block g hl,hg.1,iZ hl hr.size⟩⟩) (.cons (fun _ _ _ _ _ _ h=>h) (.cons (fun _ _ _ _ _ hr ⟨a,c,e,h⟩=>⟨a,c,e,BsS.keep h fun g hg hl=>⟨hr.block g hl,hg.1,iZ hl hr.size⟩⟩) (.cons (fun _ _ _ _ _ _ h=>h) .nil))))))))))
      case steps13=>
       simp only [List.take_succ_cons,List.take_zero]
       refine(.cons ?_ (.cons ?_ (.cons ?_ (.cons ?_ (.cons ?_ (.cons ?_ (.cons ?_ (.cons ?_ (.cons ?_ (.cons ?_ .nil))))))))))
       all_goals(intro L v w1 hJ hL hA hF K hK;simp only [jf,Act.put,Nat.zero_add,Nat.reduceAdd,List.setIfInBounds_toArray,List.set_cons_zero,List.set_cons_succ]at hK |-)
       ·obtain⟨c0,c1,c2,c3⟩:=CU.out _ hJ
        exact m6
       ·obtain⟨c0,c1,c2,c3,c4,c5⟩:=CC.out _ (HBAU.out.trans (hJ.mono HBAU.out.size))
        exact m6
       ·have e1:v 1=_:=hF 1 (hA 1 (by simp))
        simp only [e1]at hK
        go_simp
        refine(HHD.out (.agg #[.int .i64 (m:Int),.int .i64 ins,.int .i64 p1,.int .i64 p2,.slice A3 data.length d3,.int .i64 ex]) w1 ⟨_,rfl,DU.out.lift hJ⟩).mono ?_
        rintro e w5 ⟨v5,rfl,ho,hb⟩
        have hx:BsS w5 (New wu w5) v5 (H9):=ho.keep fun g hg _=>⟨rfl,Nat.le_trans hJ.size hg.1,hg.2⟩
        exact m7
       ·exact m6
       ·have e0:v 0=_:=hF 0 (hA 0 (by simp))
        have e3:v 3=_:=hF 3 (hA 3 (by simp))
        simp only [e0,e3]at hK
        obtain⟨a2,c2,e2,h2⟩:∃a c,v 2=_/\_:=hF 2 (hA 2 (by simp))
        simp only [e2]at hK
        go_simp
        refine(HCO.out _ _ w1 hJ (BsS.keep h2 fun g hg _=>⟨rfl,hg.2⟩)).mono ?_
        rintro e w5 ⟨v5,rfl,ho,hb⟩
        have hx:BsS w5 (New wu w5) v5 C9:=ho.keep fun g hg _=>⟨rfl,Nat.le_trans hJ.size hg.1,hg.2⟩
        exact m7
       ·exact m2v
       ·exact m2w
       ·exact m3a
       ·exact mE
       ·have e7:v 7=_:=hF 7 (hA 7 (by simp))
        simp only [e7]at hK
        exact m6
      case tail13=>
       intro v w1 hJ hF
       have e0:v 0=_:=hF 0 (by simp)
       have e1:v 1=_:=hF 1 (by simp)
       have e3:v 3=_:=hF 3 (by simp)
       have e7:v 7=_:=hF 7 (by simp)
       have e9:v 9=_:=hF 9 (by simp)
       obtain⟨a8,c8,e8,h8⟩:∃a c,v 8=_/\_:=hF 8 (by simp)
       simp only [List.drop_succ_cons,List.drop_zero,jf,Act.put,Nat.zero_add,Nat.reduceAdd,List.setIfInBounds_toArray,List.set_cons_zero,List.set_cons_succ]
       simp only [e8,e9]
       clear e0 e1 e3 e7 e8 e9
       have HV3:=iH (BsS.keep h8 (w':=w1) (S':=(·<w1.heap.size)) fun g hg _=>⟨rfl,hg.2⟩)
       obtain⟨w3,rfl⟩:∃w3:World,w3=w1:=⟨_,rfl⟩
       have HBU3:=iH hJ
       have HB3:=iH (HBAU.out.trans (hJ.mono HBAU.out.size))
       have HVR3:=iH (HVU.out.below hJ)
       obtain⟨kA,hkA⟩:∃vA,vA=a8:=⟨_,rfl⟩
       obtain⟨kc,hkc⟩:∃vc,vc=c8:=⟨_,rfl⟩
       rw [<-hkA,<-hkc]at HV3 |-
       clear hkA hkc h8 hJ hF
       obtain⟨v2A,v2c,z2,hz2⟩:=HVR3.out.cell 2 (by decide)
       rw [show gl [V,M,C] 2=C from rfl]at z2 hz2
       have HEQ:=iH (yO _ _ C9 C _ _ w3 HV3.out hz2)
       clear hz2
       by_cases hcc:C9=C
       ·rw [decide_eq_true hcc]at HEQ
        have R:Hid (jr k1 k2 n ⟨m,ins,p1,p2,data,ex⟩=if ¬kD k1 N (V.drop 1)=0 then(kD k1 N (V.drop 1),zC,[],[],0)
         else(0,⟨(m:Int) - 12,ins,p1,p2,qt k1 N (V.drop 1),exW M⟩,k1,k2,n+1)):=iH (by rw [R.out];simp only [hcc,not_true,if_false])
        clear hcc
        obtain⟨g0,g1,g2,g3,g4,g5⟩:=CC.out w3 HB3.out
        obtain⟨n0,n1,n2,n3,n4,n5,nf⟩:=j8 (x9 w3)
        have nf0:=nf 0;have nf1:=nf 1;have nf2:=nf 2;have nf3:=nf 3;have nf4:=nf 4;have nf5:=nf 5
        clear nf
        go_upto_region 18 with (go_at_call 57;refine iR HEQ.out ?_)
        clear g0 g1 g2 g3 g4 g5 n0 n1 n2 n3 n4 n5 nf0 nf1 nf2 nf3 nf4 nf5 z2 an
        obtain⟨wq,hwq⟩:∃wq,wq=w3.alloc (.cells #[.int .i64 ((m:Int) - 12),.int .i64 ins,.int .i64 p1,.int .i64 p2,.slice A3 data.length d3,.int .i64 ex] 32):=⟨_,rfl⟩
        rw [<-hwq]
        have hbq:Below w3.heap.size w3 wq:=by rw [hwq];exact iA
        have RPQ:Hid (wq.heap[w3.heap.size]?=some (.cells #[.int .i64 ((m:Int) - 12),.int .i64 ins,.int .i64 p1,.int .i64 p2,.slice A3 data.length d3,.int .i64 ex] 32 (0,0))):=iH (by rw [hwq];exact iN)
        have HQ3:=iH hbq
        have LTU:Hid (wn.heap.size<wq.heap.size):=iH (iZ (iZ HULT.out HBU3.out.size) hbq.size)
        have NEU:Hid (wn.heap.size≠w3.heap.size):=iH (by have:=HULT.out;have:=HBU3.out.size;omega)
        have NEG:Hid (g≠w3.heap.size):=iH (by have:=HGN.out;have:=HULT.out;have:=HBU3.out.size;omega)
        have LTG:Hid (g<wq.heap.size):=iH (iZ HVR3.out.lt hbq.size)
        have RUQ:Hid (wq.heap[wn.heap.size]?=some (.cells #[.slice xA k1.length xc,.slice yA k2.length yc,.int .i64 (n+1),.slice zA N.length zc] 77 (0,0))):=iH (RU.out wq (HBU3.out.trans (hbq.mono HBU3.out.size)))
        obtain⟨v0A,v0c,z0,hz0⟩:=(HVR3.out.below hbq).cell 0 (by decide)
        rw [show gl [V,M,C] 0=V from rfl]at z0 hz0
        have Z0:=iH z0
        obtain⟨v1A,v1c,z1,hz1⟩:=(HVR3.out.below hbq).cell 1 (by decide)
        rw [show gl [V,M,C] 1=M from rfl]at z1 hz1
        have Z1:=iH z1
        have HM1:Hid (∀W,wq.grownBy W (some w3.heap.size)->BsS W (·<g) (.slice v1A M.length v1c) M):=iH (fun W h=>BsS.keep hz1 fun b hs hl=>⟨h.block b hl (by intro e;injection e with e;have:=HVR3.out.lt;omega),hs⟩)
        obtain⟨D,hD⟩:∃D,qt k1 N (V.drop 1)=D:=⟨_,rfl⟩
        obtain⟨E,hE⟩:∃E,kD k1 N (V.drop 1)=E:=⟨_,rfl⟩
        rw [hD,hE]at R
        have HUO:Hid (∀W,wq.grownBy W (some w3.heap.size)->Calls Tryz.prog 58 #[.agg #[.slice xA k1.length xc,.slice yA k2.length yc,.int .i64 (n+1),.slice zA N.length zc],.slice v0A V.length v0c] W (zg W D E)):=iH (fun W h=>by
         have kp:∀ {v:Value} {l:List UInt8},Bs wu wu.heap.size v l->Bs W W.heap.size v l:=fun hv=>BsS.keep hv fun b hs _=>⟨(h.block b (iZ hs (Nat.le_trans HBU3.out.size HQ3.out.size)) (by intro e;injection e with e;have:=HBU3.out.size;omega)).trans ((HQ3.out.block b (iZ hs HBU3.out.size)).trans (HBU3.out.block b hs)),iZ hs (Nat.le_trans HBU3.out.size (Nat.le_trans HQ3.out.size h.size))⟩
         rw [<-hD,<-hE]
         exact Z6 _ _ _ _ (n+1) k1 N V LK1.out LN.out HVV.out W (kp XU.out) (kp ZU.out) (BsS.keep hz0 fun b hs hl=>⟨h.block b hl (by intro e;injection e with e;have:=HVR3.out.lt;omega),iZ hl h.size⟩))
        clear hwq hbq z0 hz0 z1 hz1 hD hE
        refine jc 11 [some 98,some 99,some 100,some 101,some 102,some 97,some 103,some 104,some 105,none,some 11] [[],[],[1],[1,2],[0,1,2,3],[0,1,2,3,4],[0,1,2,3,4,5],[0,1,2,3,4,5],[0,1,2,3,4,5,6],[0,1,2,3,4,5,6,8],[0,1,2,3,4,5,6,7,8,9]]
         (JS wq w3.heap.size 9 6 4 [0,1,2,3,4,5,6] #[.int .i64 ((m:Int) - 12),.int .i64 ins,.int .i64 p1,.int .i64 p2,.slice A3 data.length d3,.int .i64 ex] 32) (fun w1 w2=>w1.grownBy w2 (some w3.heap.size))
         [fun v _=>v 0=.agg #[.slice xA k1.length xc,.slice yA k2.length yc,.int .i64 (n+1),.slice zA N.length zc],
          fun v _=>v 1=.slice (some ⟨g,0,none⟩) 3 3,
          fun v _=>v 2=.pointer (some ⟨g,0,none⟩),
          fun v _=>v 3=.slice v0A V.length v0c,
          fun v w1=>∃a c,v 4=.tuple #[.slice a D.length c,.int .i64 E]/\BsS w1 (fun b=>b<w1.heap.size/\b≠w3.heap.size) (.slice a D.length c) D,
          fun v w1=>∃a c,v 5=.tuple #[.slice a D.length c,.int .i64 E]/\BsS w1 (fun b=>b<w1.heap.size/\b≠w3.heap.size) (.slice a D.length c) D,
          fun v w1=>∃a c,v 6=.slice a D.length c/\BsS w1 (fun b=>b<w1.heap.size/\b≠w3.heap.size) (.slice a D.length c) D,
          fun v _=>v 7=.int .i64 E,
          fun v _=>v 8=.pointer (some ⟨w3.heap.size,4,none⟩),
          fun v w1=>True,
          fun v _=>v 10=.int .i64 E]
         (by kernel_rfl) (by kernel_rfl) (fun v=>JS.start _ _ _ _ _ _ _ _ v RPQ.out) ?st18 ?steps18 ?tail18
        case st18=>
         exact(.cons (fun _ _ _ _ _ _ h=>h) (.cons (fun _ _ _ _ _ _ h=>h) (.cons (fun _ _ _ _ _ _ h=>h) (.cons (fun _ _ _ _ _ _ h=>h) (.cons (fun _ _ _ _ _ hr ⟨a,c,e,h⟩=>⟨a,c,e,BsS.keep h fun g hg hl=>⟨hr.block g hl (by intro e;injection e with e;exact hg.2 e),iZ hl hr.size,hg.2⟩⟩) (.cons (fun _ _ _ _ _ hr ⟨a,c,e,h⟩=>⟨a,c,e,BsS.keep h fun g hg hl=>⟨hr.block g hl (by intro e;injection e with e;exact hg.2 e),iZ hl hr.size,hg.2⟩⟩) (.cons (fun _ _ _ _ _ hr ⟨a,c,e,h⟩=>⟨a,c,e,BsS.keep h fun g hg hl=>⟨hr.block g hl (by intro e;injection e with e;exact hg.2 e),iZ hl hr.size,hg.2⟩⟩) (.cons (fun _ _ _ _ _ _ h=>h) (.cons (fun _ _ _ _ _ _ h=>h) (.cons (fun _ _ _ _ _ _ h=>h) (.cons (fun _ _ _ _ _ _ h=>h) .nil)))))))))))
        case steps18=>
         simp only [List.take_succ_cons,List.take_zero]
         refine(.cons ?_ (.cons ?_ (.cons ?_ (.cons ?_ (.cons ?_ (.cons ?_ (.cons ?_ (.cons ?_ (.cons ?_ (.cons ?_ (.cons ?_ .nil)))))))))))
         all_goals(intro L v w1 hJ hL hA hF K hK;simp only [jf,Act.put,Nat.zero_add,Nat.reduceAdd,List.setIfInBounds_toArray,List.set_cons_zero,List.set_cons_succ]at hK |-)
         ·obtain⟨c0,c1,c2,c3,_⟩:=ki ((JS.row hJ LTU.out NEU.out).trans RUQ.out)
          go_simp
          refine hK _ _ (hJ.same (by simp) 0 (by decide) hL) (World.grownBy.refl _ _) ?_
          first|exact rfl|exact j5 _
         ·go_simp
          refine hK _ _ (hJ.same (by simp) 1 (by decide) hL) (World.grownBy.refl _ _) ?_
          first|exact rfl|exact j5 _
         ·have e1:v 1=_:=hF 1 (hA 1 (by simp))
          simp only [e1]at hK
          go_simp
          refine hK _ _ (hJ.same (by simp) 2 (by decide) hL) (World.grownBy.refl _ _) ?_
          first|exact rfl|exact j5 _
         ·have e2:v 2=_:=hF 2 (hA 2 (by simp))
          have c0:w1.cell? ⟨g,0,none⟩=some (.slice v0A V.length v0c):=(World.cell?_of_block (w:=wq) (JS.row hJ LTG.out NEG.out)).trans Z0.out
          simp only [e2]at hK
          go_simp
          refine hK _ _ (hJ.same (by simp) 3 (by decide) hL) (World.grownBy.refl _ _) ?_
          first|exact rfl|exact j5 _
         ·have e0:v 0=_:=hF 0 (hA 0 (by simp))
          have e3:v 3=_:=hF 3 (hA 3 (by simp))
          simp only [e0,e3]at hK
          go_simp
          refine(HUO.out w1 hJ.1).mono ?_
          rintro e w5 ⟨v5,rfl,ho,hb⟩
          have hx:=BsS.off ho ((hb.block _ (Array.getElem?_eq_some_iff.1 (hJ.old (i:=4) (by simp) hL)).1).trans (hJ.old (i:=4) (by simp) hL)) ZB
          obtain⟨A5,C5,hv5⟩:=Bs.formL hx
          subst hv5
          exact hK _ _ (hJ.step (by simp) 4 (by decide) hL hb) (jD hb _) ⟨_,_,rfl,hx⟩
         ·obtain⟨a4,c4,e4,h4⟩:∃a c,v 4=.tuple #[.slice a D.length c,.int .i64 E]/\BsS w1 (fun b=>b<w1.heap.size/\b≠w3.heap.size) (.slice a D.length c) D:=hF 4 (hA 4 (by simp))
          simp only [e4]at hK
          go_simp
          exact hK _ _ (hJ.same (by simp) 5 (by decide) hL) (World.grownBy.refl _ _) ⟨_,_,rfl,h4⟩
         ·obtain⟨a5,c5,e5,h5⟩:∃a c,v 5=.tuple #[.slice a D.length c,.int .i64 E]/\BsS w1 (fun b=>b<w1.heap.size/\b≠w3.heap.size) (.slice a D.length c) D:=hF 5 (hA 5 (by simp))
          simp only [e5]at hK
          go_simp
          exact hK _ _ (hJ.same (by simp) 6 (by decide) hL) (World.grownBy.refl _ _) ⟨_,_,rfl,h5⟩
         ·obtain⟨a5,c5,e5,h5⟩:∃a c,v 5=.tuple #[.slice a D.length c,.int .i64 E]/\BsS w1 (fun b=>b<w1.heap.size/\b≠w3.heap.size) (.slice a D.length c) D:=hF 5 (hA 5 (by simp))
          simp only [e5]at hK
          go_simp
          exact hK _ _ (hJ.same (by simp) 7 (by decide) hL) (World.grownBy.refl _ _) rfl
         ·go_simp
          refine hK _ _ (hJ.same (by simp) 8 (by decide) hL) (World.grownBy.refl _ _) ?_
          first|exact rfl|exact j5 _
         ·have e8:v 8=_:=hF 8 (hA 8 (by simp))
          simp only [e8]at hK
          obtain⟨a6,c6,e6,h6⟩:∃a c,v 6=.slice a D.length c/\BsS w1 (fun b=>b<w1.heap.size/\b≠w3.heap.size) (.slice a D.length c) D:=hF 6 (hA 6 (by simp))
          have hold:=hJ.2.2
          have hall:∀k∈ [0,1,2,3,4,5,6],L k=true:=fun k hk=>hA k (by simp only [List.mem_cons,List.not_mem_nil,or_false]at hk;rcases hk with rfl|rfl|rfl|rfl|rfl|rfl|rfl<;>simp)
          have hst:=hJ.store (y:=undef) hL hall (by decide)
          rw [e6]at hst
          have HST:=iH hst;have HGR:=iH hJ.1
          rw [hL]at hold
          obtain⟨r0,r1,r2,r3,r4,r5,rf⟩:=j8 hold
          have rf4:=rf 4
          have e8:v 8=_:=hF 8 (hA 8 (by simp))
          simp only [e6,e8]at hK |-
          clear rf hJ hst hall hold e6 e8 h6 hF
          go_simp
          exact hK _ _ HST.out ⟨rfl,rfl,rfl,by simp,fun b _ hne=>iO (by intro e;exact hne (congrArg some e))⟩ trivial
         ·have e7:v 7=_:=hF 7 (hA 7 (by simp))
          simp only [e7]at hK
          go_simp
          refine hK _ _ (hJ.same (by simp) 10 (by decide) hL) (World.grownBy.refl _ _) ?_
          first|exact rfl|exact j5 _
        case tail18=>
         intro v w1 hJ hF
         have e0:v 0=_:=hF 0 (by simp)
         have e1:v 1=_:=hF 1 (by simp)
         have e2:v 2=_:=hF 2 (by simp)
         have e3:v 3=_:=hF 3 (by simp)
         have e7:v 7=_:=hF 7 (by simp)
         have e8:v 8=_:=hF 8 (by simp)
         have e10:v 10=_:=hF 10 (by simp)
         obtain⟨a6,c6,e6,h6⟩:∃a c,v 6=.slice a D.length c/\BsS w1 (fun b=>b<w1.heap.size/\b≠w3.heap.size) (.slice a D.length c) D:=hF 6 (by simp)
         simp only [List.drop_succ_cons,List.drop_zero,jf,Act.put,Nat.zero_add,Nat.reduceAdd,List.setIfInBounds_toArray,List.set_cons_zero,List.set_cons_succ]
         simp only [e10]
         obtain⟨vA,hvA⟩:∃vA,vA=a6:=⟨_,rfl⟩
         obtain⟨vc,hvc⟩:∃vc,vc=c6:=⟨_,rfl⟩
         rw [<-hvA,<-hvc]at h6 e6
         have HD6:=iH h6
         have hr6:=hJ.fin rfl
         rw [e6]at hr6
         have RP6:Hid (w1.heap[w3.heap.size]?=some (.cells #[.int .i64 ((m:Int) - 12),.int .i64 ins,.int .i64 p1,.int .i64 p2,.slice vA D.length vc,.int .i64 ex] 32 (0,0))):=iH hr6
         have HG6:=iH hJ.1
         obtain⟨w6,rfl⟩:∃w6:World,w6=w1:=⟨_,rfl⟩
         have HB6:Hid (Below wa.heap.size wa w6):=iH (HB3.out.trans ((HQ3.out.trans (j9 HG6.out HQ3.out.size iL)).mono HB3.out.size))
         clear e0 e1 e2 e3 e6 e7 e8 e10 h6 hvA hvc hr6 hJ hF
         by_cases hE:E=0
         ·subst hE
          obtain⟨X9,hX9⟩:∃X,exW M=X:=⟨_,rfl⟩
          have R9:Hid (jr k1 k2 n ⟨m,ins,p1,p2,data,ex⟩=(0,⟨(m:Int) - 12,ins,p1,p2,D,X9⟩,k1,k2,n+1)):=iH (by rw [R.out,<-hX9];exact iF (by simp))
          clear R
          obtain⟨i0,i1,i2,i3,i4,i5,fi⟩:=j8 RP6.out
          have fi5:=fi 5
          clear fi
          go_upto_region 22 with fail
          obtain⟨w7,hw7⟩:∃w7,w7=w6.setCell ⟨w3.heap.size,5,none⟩ (.int .i64 (-1)):=⟨_,rfl⟩
          rw [<-hw7]
          have RP7:Hid (w7.heap[w3.heap.size]?=some (.cells #[.int .i64 ((m:Int) - 12),.int .i64 ins,.int .i64 p1,.int .i64 p2,.slice vA D.length vc,.int .i64 (-1)] 32 (0,0))):=iH (by rw [hw7];exact jg (o:=5) RP6.out)
          have HG7:Hid (w6.grownBy w7 (some w3.heap.size)):=iH (by rw [hw7];exact⟨rfl,rfl,rfl,by simp,fun b _ hne=>iO (by intro e;exact hne (congrArg some e))⟩)
          have z1:w7.cell? ⟨g,1,none⟩=some (.slice v1A M.length v1c):=(World.cell?_of_block (w:=wq) ((kT HG6.out HG7.out).block g LTG.out (by intro e;injection e with e;exact NEG.out e))).trans Z1.out
          have HNB:=iH (Zm M _ _ w7 (HM1.out w7 (kT HG6.out HG7.out)))
          clear i0 i1 i2 i3 i4 i5 fi5 hw7
          obtain⟨l,hl⟩:∃l,M.length=l:=⟨_,rfl⟩
          have HL:=iH hl
          rw [hl]at z1 HNB
          clear hl
          obtain⟨oM,hoM⟩:∃o,decide (0<l)=o:=⟨_,rfl⟩
          have HOM:=iH hoM
          go_upto_if 120 with fail
          clear z1 hoM
          go_cut [] from 118 to 135 (fun wx=>wx.heap[w3.heap.size]?=some (.cells #[.int .i64 ((m:Int) - 12),.int .i64 ins,.int .i64 p1,.int .i64 p2,.slice vA D.length vc,.int .i64 X9] 32 (0,0))/\w6.grownBy wx (some w3.heap.size))
          case first=>
           obtain⟨i0,i1,i2,i3,i4,i5,fi⟩:=j8 RP7.out
           have fi5:=fi 5
           clear fi
           by_cases hM0:M= []
           ·obtain rfl:oM=false:=by rw [<-HOM.out,<-HL.out,hM0]<;>rfl
            have HX:Hid (X9= -1):=iH (by rw [<-hX9,hM0]<;>rfl)
            clear hX9 hM0
            go_wp2_with fail
            go_meet
            exact⟨by rw [HX.out];exact RP7.out,HG7.out⟩
           ·have hlen:M.length=1\/M.length=2:=HMM.out.resolve_left hM0
            obtain rfl:oM=true:=by rw [<-HOM.out,<-HL.out];exact decide_eq_true (by omega)
            obtain⟨Z,hZ⟩:∃Z,JZ M=Z:=⟨_,rfl⟩
            have hnq:xJ M=(Z,0):=by unfold xJ;rw [iF (by omega),hZ]
            rw [hnq]at HNB
            have HXZ:Hid (X9=if Z=0 then(if M.length=1 then 256 else 65536)else Z):=iH (by rw [<-hX9];unfold exW;rw [iF hM0,hZ])
            have HLEN:=iH hlen
            clear hM0 hnq hZ hX9 hlen
            by_cases hz:Z=0
            ·have tz:(Z==0)=true:=by simp [hz]
             have HX:Hid (X9=if M.length=1 then 256 else 65536):=iH (by rw [HXZ.out,iT hz])
             clear hz
             rw [HL.out]at HX HLEN
             rcases HLEN.out with rfl|rfl
             ·obtain rfl:X9=256:=HX.out
              exact m1b
             ·obtain rfl:X9=65536:=HX.out
              exact m1b
            ·have tz:(Z==0)=false:=by simp [hz]
             have HX:Hid (X9=Z):=iH (by rw [HXZ.out,iF hz])
             go_wp2_with(go_at_call 59;refine iR HNB.out ?_)
             go_meet
             exact⟨by rw [HX.out];exact jg (o:=5) RP7.out,⟨HG7.out.os,HG7.out.tape,HG7.out.output,by simpa using HG7.out.size,fun b hb hne=>by rw [iO (by intro e;exact hne (congrArg some e))];exact HG7.out.block b hb hne⟩⟩
          case rest=>
           obtain⟨wx,rfl⟩:∃wx:World,wx=wc:=⟨_,rfl⟩
           have HRX:=iH hcut.1;have HGX:=iH hcut.2
           clear hcut hX9 HNB HOM
           go_upto_region 27 with fail
           have hwx:Below w3.heap.size w3 wx:=HQ3.out.trans (j9 (kT HG6.out HGX.out) HQ3.out.size iL)
           have hax:Below wa.heap.size wa wx:=HB3.out.trans (hwx.mono HB3.out.size)
           have hux:Below wu.heap.size wu wx:=HBU3.out.trans (hwx.mono HBU3.out.size)
           obtain⟨wd,hwd⟩:∃wd,wd=wx.drew:=⟨_,rfl⟩
           have HWD:=iH hwd
           have RL4:Hid (wd.heap[w3.heap.size]?=some (.cells #[.int .i64 ((m:Int) - 12),.int .i64 ins,.int .i64 p1,.int .i64 p2,.slice vA D.length vc,.int .i64 X9] 32 (0,0))):=iH (by rw [hwd];exact HRX.out)
           have RU4:Hid (wd.heap[wn.heap.size]?=some (.cells #[.slice xA k1.length xc,.slice yA k2.length yc,.int .i64 (n+1),.slice zA N.length zc] 77 (0,0))):=iH (by rw [hwd];exact RU.out wx hux)
           have RR4:Hid (wd.heap[(w.heap.size+1+1)]?=some (.cells #[.int .i64 0,.int .i64 0,.int .i64 0,.int .i64 0,.slice none 0 0,.int .i64 0] 32 (0,0))):=iH (by rw [hwd];exact R2.out wx hax)
           have RS4:Hid (wd.heap[(w.heap.size+1+1+1)]?=some (.cells #[.slice none 0 0,.slice none 0 0,.int .i64 0] 29 (0,0))):=iH (by rw [hwd];exact R3.out wx hax)
           have HB4:Hid (Below w.heap.size w wd):=iH (by rw [hwd];exact(HB.out.trans (hax.mono HB.out.size)).drew)
           have V4:Hid (Bs wd wd.heap.size (.slice vA D.length vc) D):=iH (by rw [hwd];exact BsS.keep HD6.out fun b hs hl=>⟨HGX.out.block b hl (by intro e;injection e with e;exact hs.2 e),iZ hl HGX.out.size⟩)
           have X4:Hid (Bs wd wd.heap.size (.slice xA k1.length xc) k1):=iH (by rw [hwd];exact XU.out.lift hux.drew)
           have Y4:Hid (Bs wd wd.heap.size (.slice yA k2.length yc) k2):=iH (by rw [hwd];exact YU.out.lift hux.drew)
           have NE2:Hid (w3.heap.size≠(w.heap.size+1+1)):=iH (by have:=HZA.out;have:=HB3.out.size;omega)
           have NE3:Hid (wn.heap.size≠(w.heap.size+1+1)):=iH (by have:=HZA.out;have:=HBN.out.size;omega)
           clear hwx hax hux hwd
           refine jc 4 [some 135,some 136,some 137,none] [[],[],[1],[0]]
            (J6 wd (w.heap.size+1+1) 3 (.int .i64 ((m:Int) - 12)) (.int .i64 ins) (.int .i64 p1) (.int .i64 p2) (.slice vA D.length vc) (.int .i64 X9)) (fun _ _=>True)
            [fun v _=>v 0=.agg #[.int .i64 ((m:Int) - 12),.int .i64 ins,.int .i64 p1,.int .i64 p2,.slice vA D.length vc,.int .i64 X9],
             fun v _=>v 1=.pointer (some ⟨wn.heap.size,0,none⟩),
             fun v _=>v 2=.agg #[.slice xA k1.length xc,.slice yA k2.length yc,.int .i64 (n+1)],
             fun v w1=>True]
            (by kernel_rfl) (by kernel_rfl) (fun _=>HWD.out.symm.trans (iF (by decide)).symm) ?st27 ?steps27 ?tail27
           case st27=>
            exact m2p
           case steps27=>
            simp only [List.take_succ_cons,List.take_zero]
            refine(.cons ?_ (.cons ?_ (.cons ?_ (.cons ?_ .nil))))
            all_goals(intro L v w1 hJ hL hA hF K hK;simp only [jf,Act.put,Nat.zero_add,Nat.reduceAdd,List.setIfInBounds_toArray,List.set_cons_zero,List.set_cons_succ]at hK |-)
            ·exact m13
            ·exact m1m
            ·exact m1t
            ·have e0:v 0=_:=hF 0 (hA 0 (by simp))
             simp only [e0]at hK
             obtain rfl:=J6.old hJ hL
             obtain⟨r0,r1,r2,r3,r4,r5,rf⟩:=j8 RR4.out
             have rf0:=rf 0;have rf1:=rf 1;have rf2:=rf 2;have rf3:=rf 3;have rf4:=rf 4;have rf5:=rf 5;clear rf
             have e0:v 0=_:=hF 0 (hA 0 (by simp))
             simp only [e0]at hK |-
             have hJ2:=iH hJ;have hL2:=iH hL
             clear hJ hL hF hA e0
             exact m1z
           case tail27=>
            intro v w1 hJ hF
            have e0:v 0=_:=hF 0 (by simp)
            have e1:v 1=_:=hF 1 (by simp)
            have e2:v 2=_:=hF 2 (by simp)
            simp only [List.drop_succ_cons,List.drop_zero,jf,Act.put,Nat.zero_add,Nat.reduceAdd,List.setIfInBounds_toArray,List.set_cons_zero,List.set_cons_succ]
            simp only [e2]
            clear e0 e1 e2 hF
            obtain rfl:=J6.all hJ rfl
            have RS5:Hid ((set6 wd (w.heap.size+1+1) (.int .i64 ((m:Int) - 12)) (.int .i64 ins) (.int .i64 p1) (.int .i64 p2) (.slice vA D.length vc) (.int .i64 X9)).heap[(w.heap.size+1+1+1)]?=some (.cells #[.slice none 0 0,.slice none 0 0,.int .i64 0] 29 (0,0))):=iH ((jQ (by omega)).trans RS4.out)
            obtain⟨s0,s1,s2,sf⟩:=j7 RS5.out
            have sf0:=sf 0;have sf1:=sf 1;have sf2:=sf 2;clear sf
            obtain⟨w5,hw5⟩:∃w5,w5=set6 wd (w.heap.size+1+1) (.int .i64 ((m:Int) - 12)) (.int .i64 ins) (.int .i64 p1) (.int .i64 p2) (.slice vA D.length vc) (.int .i64 X9):=⟨_,rfl⟩
            rw [<-hw5]at s0 s1 s2 sf0 sf1 sf2 |-
            have HW5:=iH hw5
            clear hw5 hJ
            go_wp2_with fail
            have q:=jq (W:=wd) RR4.out RS4.out (.int .i64 ((m:Int) - 12)) (.int .i64 ins) (.int .i64 p1) (.int .i64 p2) (.slice vA D.length vc) (.int .i64 X9) (.slice xA k1.length xc) (.slice yA k2.length yc) (.int .i64 (n+1))
            rw [<-HW5.out]at q
            obtain⟨q2,q3⟩:=q
            obtain⟨y0,y1,y2,y3,y4,y5,_⟩:=j8 q2
            obtain⟨x0,x1,x2,_⟩:=j7 q3
            refine bodyPost_ret (v:=.tuple #[.agg #[.int .i64 ((m:Int) - 12),.int .i64 ins,.int .i64 p1,.int .i64 p2,.slice vA D.length vc,.int .i64 X9],.agg #[.slice xA k1.length xc,.slice yA k2.length yc,.int .i64 (n+1)],.int .i64 0]) (by simp only [set3]at y0 y1 y2 y3 y4 y5 x0 x1 x2;simp [results,Tryz.results25,go_sem,y0,y1,y2,y3,y4,y5,x0,x1,x2]) rfl ?_
            rw [R9.out]
            have hk:=fun(v:Value) (L:List UInt8) (h:Bs wd wd.heap.size v L)=>JA (W:=wd) RR4.out RS4.out (.int .i64 ((m:Int) - 12)) (.int .i64 ins) (.int .i64 p1) (.int .i64 p2) (.slice vA D.length vc) (.int .i64 X9) (.slice xA k1.length xc) (.slice yA k2.length yc) (.int .i64 (n+1)) h
            rw [<-HW5.out]at hk
            have hbw:=jk (p:=(w.heap.size+1+1)) (a:=.int .i64 ((m:Int) - 12)) (b:=.int .i64 ins) (c:=.int .i64 p1) (d:=.int .i64 p2) (e:=.slice vA D.length vc) (f:=.int .i64 X9) (x:=.slice xA k1.length xc) (y:=.slice yA k2.length yc) (z:=.int .i64 (n+1)) HB4.out (by omega)
            exact mB
         ·have tE:(E != 0)=true:=by simpa using hE
          have R:Hid (jr k1 k2 n ⟨m,ins,p1,p2,data,ex⟩=(E,zC,[],[],0)):=iH (by rw [R.out];exact iT hE)
          clear hE
          go_wp2_with(go_at_call 54;refine(qN E w6).mono ?_;rintro e wf ⟨rfl,hb⟩;have HBF:=iH (HB6.out.trans (hb.mono HB6.out.size));obtain⟨r0,r1,r2,r3,r4,r5,rf⟩:=j8 (R2.out wf HBF.out);have rf0:=rf 0;have rf1:=rf 1;have rf2:=rf 2;have rf3:=rf 3;have rf4:=rf 4;have rf5:=rf 5;clear rf;obtain⟨s0,s1,s2,sf⟩:=j7 (R3.out wf HBF.out);have sf0:=sf 0;have sf1:=sf 1;have sf2:=sf 2;clear sf;clear hb)
          obtain⟨q2,q3⟩:=jq (R2.out wf HBF.out) (R3.out wf HBF.out) (.int .i64 0) (.int .i64 0) (.int .i64 0) (.int .i64 0) (.slice none 0 0) (.int .i64 0) (.slice none 0 0) (.slice none 0 0) (.int .i64 0)
          obtain⟨y0,y1,y2,y3,y4,y5,_⟩:=j8 q2
          obtain⟨x0,x1,x2,_⟩:=j7 q3
          refine bodyPost_ret (v:=.tuple #[.agg #[.int .i64 0,.int .i64 0,.int .i64 0,.int .i64 0,.slice none 0 0,.int .i64 0],.agg #[.slice none 0 0,.slice none 0 0,.int .i64 0],.int .i64 E]) (by simp only [set6,set3]at y0 y1 y2 y3 y4 y5 x0 x1 x2;simp [results,Tryz.results25,go_sem,y0,y1,y2,y3,y4,y5,x0,x1,x2]) rfl ?_
          exact mo
       ·rw [decide_eq_false hcc]at HEQ
        have R:Hid (jr k1 k2 n ⟨m,ins,p1,p2,data,ex⟩=(20,zC,[],[],0)):=iH (by rw [R.out];simp only [hcc,not_false_iff,if_true])
        clear hcc
        go_wp2_with(first
         |(go_at_call 54;refine(qN 20 w3).mono ?_;rintro e wf ⟨rfl,hb⟩;have HBF:=iH (HB3.out.trans (hb.mono HB3.out.size));obtain⟨r0,r1,r2,r3,r4,r5,rf⟩:=j8 (R2.out wf HBF.out);have rf0:=rf 0;have rf1:=rf 1;have rf2:=rf 2;have rf3:=rf 3;have rf4:=rf 4;have rf5:=rf 5;clear rf;obtain⟨s0,s1,s2,sf⟩:=j7 (R3.out wf HBF.out);have sf0:=sf 0;have sf1:=sf 1;have sf2:=sf 2;clear sf;clear hb)
         |(go_at_call 57;refine iR HEQ.out ?_;clear z2))
        obtain⟨q2,q3⟩:=jq (R2.out wf HBF.out) (R3.out wf HBF.out) (.int .i64 0) (.int .i64 0) (.int .i64 0) (.int .i64 0) (.slice none 0 0) (.int .i64 0) (.slice none 0 0) (.slice none 0 0) (.int .i64 0)
        obtain⟨y0,y1,y2,y3,y4,y5,_⟩:=j8 q2
        obtain⟨x0,x1,x2,_⟩:=j7 q3
        refine bodyPost_ret (v:=.tuple #[.agg #[.int .i64 0,.int .i64 0,.int .i64 0,.int .i64 0,.slice none 0 0,.int .i64 0],.agg #[.slice none 0 0,.slice none 0 0,.int .i64 0],.int .i64 20]) (by simp only [set6,set3]at y0 y1 y2 y3 y4 y5 x0 x1 x2;simp [results,Tryz.results25,go_sem,y0,y1,y2,y3,y4,y5,x0,x1,x2]) rfl ?_
        exact mo
    ·have a2:(((m / 4 % 4*4:Nat):Int) != 12)=true:=by simp;omega
     have R:Hid (jr k1 k2 n ⟨m,ins,p1,p2,data,ex⟩=(23,zC,[],[],0)):=iH (by unfold jr;rw [iF (by rw [HVS.out];simp),iF (by rw [HVC.out];simp),iF g3,iT (by simp only;omega)])
     obtain⟨z,hz⟩:∃z:Int,((m / 4 % 4*4:Nat):Int)=z:=⟨_,rfl⟩
     rw [hz]at a1 a2
     clear g1 hm hz g3
     go_enter Tryz.func25,Tryz.ntmps25
     go_upto_region 1 with fail
     rw [<-HWS.out,<-HWC.out,<-HW2.out,<-HW3.out]
     obtain⟨f0,f1,f2⟩:=CS.out wa iB
     go_wp2_with(first
      |(go_at_call 54;refine(qN 23 wc).mono ?_;rintro e wf ⟨rfl,hb⟩;have HBF:=iH (HBC.out.trans (hb.mono HBC.out.size));obtain⟨r0,r1,r2,r3,r4,r5,rf⟩:=j8 (R2.out wf HBF.out);have rf0:=rf 0;have rf1:=rf 1;have rf2:=rf 2;have rf3:=rf 3;have rf4:=rf 4;have rf5:=rf 5;clear rf;obtain⟨s0,s1,s2,sf⟩:=j7 (R3.out wf HBF.out);have sf0:=sf 0;have sf1:=sf 1;have sf2:=sf 2;clear sf;clear hb)
      |(go_at_call 48;have M1:=HBV;go_loud(refine(kN _ _ _ wv (HCV.out wv HBV.out)).mono ?_;rw [HVC.out];rintro e wc ⟨rfl,hb⟩;have hb2:=HBV.out.trans (hb.mono HBV.out.size);have HBC:=iH hb2;clear g0 g1 g2 g3 g4 g5;obtain⟨g0,g1,g2,g3,g4,g5⟩:=CC.out wc hb2;clear f0 f1 f2;obtain⟨f0,f1,f2⟩:=CS.out wc hb2;clear hb hb2))
      |(go_at_call 47;refine(js _ k1 k2 n _ wa HSV.out).mono ?_;rw [HVS.out];rintro e wv ⟨rfl,hb⟩;have HBV:=iH hb;obtain⟨g0,g1,g2,g3,g4,g5⟩:=CC.out wv hb;clear hb))
     obtain⟨q2,q3⟩:=jq (R2.out wf HBF.out) (R3.out wf HBF.out) (.int .i64 0) (.int .i64 0) (.int .i64 0) (.int .i64 0) (.slice none 0 0) (.int .i64 0) (.slice none 0 0) (.slice none 0 0) (.int .i64 0)
     obtain⟨y0,y1,y2,y3,y4,y5,_⟩:=j8 q2
     obtain⟨x0,x1,x2,_⟩:=j7 q3
     refine bodyPost_ret (v:=.tuple #[.agg #[.int .i64 0,.int .i64 0,.int .i64 0,.int .i64 0,.slice none 0 0,.int .i64 0],.agg #[.slice none 0 0,.slice none 0 0,.int .i64 0],.int .i64 23]) (by simp only [set6,set3]at y0 y1 y2 y3 y4 y5 x0 x1 x2;simp [results,Tryz.results25,go_sem,y0,y1,y2,y3,y4,y5,x0,x1,x2]) rfl ?_
     rw [R.out]
     exact⟨_,_,rfl,⟨_,rfl,BsS.nil0 _ _⟩,⟨_,_,rfl,BsS.nil0 _ _,BsS.nil0 _ _⟩,jk (HB.out.trans (Below.mono HBF.out HB.out.size)) (by omega)⟩
  ·have HVC:Hid (vC ⟨cl,ins,p1,p2,data,ex⟩=false):=iH (by simpa using v2)
   have R:Hid (jr k1 k2 n ⟨cl,ins,p1,p2,data,ex⟩=(14,zC,[],[],0)):=iH (by unfold jr;rw [iF (by rw [v1];simp),iT HVC.out])
   clear v1 v2
   go_enter Tryz.func25,Tryz.ntmps25
   go_upto_region 1 with fail
   rw [<-HWS.out,<-HWC.out,<-HW2.out,<-HW3.out]
   obtain⟨f0,f1,f2⟩:=CS.out wa iB
   go_wp2_with(first
    |(go_at_call 54;refine(qN 14 wc).mono ?_;rintro e wf ⟨rfl,hb⟩;have HBF:=iH (HBC.out.trans (hb.mono HBC.out.size));obtain⟨r0,r1,r2,r3,r4,r5,rf⟩:=j8 (R2.out wf HBF.out);have rf0:=rf 0;have rf1:=rf 1;have rf2:=rf 2;have rf3:=rf 3;have rf4:=rf 4;have rf5:=rf 5;clear rf;obtain⟨s0,s1,s2,sf⟩:=j7 (R3.out wf HBF.out);have sf0:=sf 0;have sf1:=sf 1;have sf2:=sf 2;clear sf;clear hb)
    |(go_at_call 48;have M1:=HBV;go_loud(refine(kN _ _ _ wv (HCV.out wv HBV.out)).mono ?_;rw [HVC.out];rintro e wc ⟨rfl,hb⟩;have hb2:=HBV.out.trans (hb.mono HBV.out.size);have HBC:=iH hb2;clear g0 g1 g2 g3 g4 g5;obtain⟨g0,g1,g2,g3,g4,g5⟩:=CC.out wc hb2;clear f0 f1 f2;obtain⟨f0,f1,f2⟩:=CS.out wc hb2;clear hb hb2))
    |(go_at_call 47;refine(js _ k1 k2 n _ wa HSV.out).mono ?_;rw [HVS.out];rintro e wv ⟨rfl,hb⟩;have HBV:=iH hb;obtain⟨g0,g1,g2,g3,g4,g5⟩:=CC.out wv hb;clear hb))
   obtain⟨q2,q3⟩:=jq (R2.out wf HBF.out) (R3.out wf HBF.out) (.int .i64 0) (.int .i64 0) (.int .i64 0) (.int .i64 0) (.slice none 0 0) (.int .i64 0) (.slice none 0 0) (.slice none 0 0) (.int .i64 0)
   obtain⟨y0,y1,y2,y3,y4,y5,_⟩:=j8 q2
   obtain⟨x0,x1,x2,_⟩:=j7 q3
   refine bodyPost_ret (v:=.tuple #[.agg #[.int .i64 0,.int .i64 0,.int .i64 0,.int .i64 0,.slice none 0 0,.int .i64 0],.agg #[.slice none 0 0,.slice none 0 0,.int .i64 0],.int .i64 14]) (by simp only [set6,set3]at y0 y1 y2 y3 y4 y5 x0 x1 x2;simp [results,Tryz.results25,go_sem,y0,y1,y2,y3,y4,y5,x0,x1,x2]) rfl ?_
   exact mo
 ·have HVS:Hid (vS k1 k2 n=false):=iH (by simpa using v1)
  have R:Hid (jr k1 k2 n ⟨cl,ins,p1,p2,data,ex⟩=(14,zC,[],[],0)):=iH (by unfold jr;rw [iT HVS.out])
  clear v1
  go_enter Tryz.func25,Tryz.ntmps25
  go_upto_region 1 with fail
  rw [<-HWS.out,<-HWC.out,<-HW2.out,<-HW3.out]
  obtain⟨f0,f1,f2⟩:=CS.out wa iB
  go_wp2_with(first
   |(go_at_call 54;refine(qN 14 wv).mono ?_;rintro e wf ⟨rfl,hb⟩;have HBF:=iH (HBV.out.trans (hb.mono HBV.out.size));obtain⟨r0,r1,r2,r3,r4,r5,rf⟩:=j8 (R2.out wf HBF.out);have rf0:=rf 0;have rf1:=rf 1;have rf2:=rf 2;have rf3:=rf 3;have rf4:=rf 4;have rf5:=rf 5;clear rf;obtain⟨s0,s1,s2,sf⟩:=j7 (R3.out wf HBF.out);have sf0:=sf 0;have sf1:=sf 1;have sf2:=sf 2;clear sf;clear hb)
   |(go_at_call 47;refine(js _ k1 k2 n _ wa HSV.out).mono ?_;rw [HVS.out];rintro e wv ⟨rfl,hb⟩;have HBV:=iH hb;obtain⟨g0,g1,g2,g3,g4,g5⟩:=CC.out wv hb;clear hb))
  obtain⟨q2,q3⟩:=jq (R2.out wf HBF.out) (R3.out wf HBF.out) (.int .i64 0) (.int .i64 0) (.int .i64 0) (.int .i64 0) (.slice none 0 0) (.int .i64 0) (.slice none 0 0) (.slice none 0 0) (.int .i64 0)
  obtain⟨y0,y1,y2,y3,y4,y5,_⟩:=j8 q2
  obtain⟨x0,x1,x2,_⟩:=j7 q3
  refine bodyPost_ret (v:=.tuple #[.agg #[.int .i64 0,.int .i64 0,.int .i64 0,.int .i64 0,.slice none 0 0,.int .i64 0],.agg #[.slice none 0 0,.slice none 0 0,.int .i64 0],.int .i64 14]) (by simp only [set6,set3]at y0 y1 y2 y3 y4 y5 x0 x1 x2;simp [results,Tryz.results25,go_sem,y0,y1,y2,y3,y4,y5,x0,x1,x2]) rfl ?_
  exact mo
end Go.Proofs.YtadndhgebgjlaaaGreat
