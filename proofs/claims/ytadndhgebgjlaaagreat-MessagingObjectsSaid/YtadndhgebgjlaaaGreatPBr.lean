/- Layer 2, plain: bytes that are read strictly are the encoding of their objects, and are read otherwise in the same way. No program is named here; Plain: the ... -/
import Derived.Test.YtadndhgebgjlaaaGreatPBq
set_option linter.all false
set_option maxRecDepth 100000
set_option maxHeartbeats 4000000
namespace Go.Proofs.YtadndhgebgjlaaaGreat
open Go.RowKit Go.Deep
theorem my{P:Prop}(h:P:=by
 go_enter Tryz.func72,Tryz.ntmps72
 go_wp2_with fail
 go_ret
 exact⟨rfl,HB.out⟩):P:=h
theorem mH{P:Prop}(h:P:=by
 cases q with
 |nil=>simp at hq;omega
 |cons y p=>exact⟨y,p,rfl⟩):P:=h
theorem mP{P:Prop}(h:P:=by
 go_enter Tryz.func98,Tryz.ntmps98
 go_upto_region 1 with fail
 rw [<-HW0.out]
 obtain⟨c0,c1,c2⟩:=CS.out w0 iB
 go_wp2_with(go_at_call 72;refine HPR.out.mono ?_;rintro e w1 ⟨rfl,hb⟩;have HB1:=iH hb;clear c0 c1 c2;obtain⟨c0,c1,c2⟩:=CS.out w1 hb;clear hb)
 go_ret
 rw [RQ.out]
 exact⟨rfl,HB.out.trans (HB1.out.mono HB.out.size)⟩):P:=h
theorem mR{P:Prop}(h:P:=by
 go_wp2_with(go_at_call 87;refine HZB.out.mono ?_;rintro e w9 ⟨rfl,hw9⟩;rw [hw9];clear hw9 w9)
 go_ret3
 rw [R.out]
 exact⟨rfl,HBG.out.trans (HBQ.out.mono HBG.out.size)⟩):P:=h
theorem m00{P:Prop}(h:P:=by
 go_enter Tryz.func87,Tryz.ntmps87
 go_wp2_with fail
 all_goals(go_ret;rw [R.out];exact⟨by first|rfl|simp [*],rfl⟩)):P:=h
theorem m15{P:Prop}(h:P:=by
 have HF2:Hid (jI fs L=zG (vs++ [v]) (at_+1) (jI fr r)):=iH (by rw [HEQ.out,iF (by rw [HBD.out,t1,t3];simp)];exact y9 vs at_ 1 v _)
 clear t3
 go_wp2_with(go_at_call 87;refine HZB.out.mono ?_;rintro e w9 ⟨rfl,hw9⟩;rw [hw9];clear hw9 w9)
 go_roundg fr.length
 case measure=>simp
 case rel=>exact⟨i+1,at_+1,vs++ [v],r,fr,rfl,by omega,by go_num,by go_num,hfr2,HM2,by omega,hvs2,HF2,HVQ,HBQ⟩):P:=h
theorem m1c{P:Prop}(h:P:=by
 intro i
 induction i with
 |zero=>intro L M t v k h;cases L with|nil=>cases h|cons t' v' k' r'=>rw [show(Ns.cons t' v' k' r').dropN 0=.cons t' v' k' r' from rfl]at h;injection h with _ _ _ h;subst h;cases M<;>rfl
 |succ i ih=>intro L M t v k h;cases L with|nil=>cases h|cons t' v' k' r'=>exact ih r' M t v k h):P:=h
theorem m2k{P:Prop}(h:P:=by
 go_upto_region 21 with (go_quiet (fail))
 go_wp2_with fail
 go_ret3
 rw [R.out]
 exact⟨rfl,j4 (HBG.out.trans (HBS.out.mono HBG.out.size)) _⟩):P:=h
theorem m2m{P:Prop}(h:P:=by
 obtain⟨x,y,h4,h5⟩:=h3 j hj
 exact⟨x,y,by rw [Array.set!_eq_setIfInBounds,Array.getElem?_setIfInBounds_ne (by omega)];exact h4,hk h5⟩):P:=h
theorem m3d{P:Prop}(h:P:=by
 rcases h1 with ⟨hM,hmu,_,_⟩|⟨j,h2,h3,hM,_,_⟩
 ·exact .inl ⟨hM,hmu⟩
 ·exact .inr ⟨h2,h3,hM⟩):P:=h
theorem m3e{P:Prop}(h:P:=by
 go_upto_region 1 with fail
 rw [<-HW0.out]
 go_wp2_with fail
 go_ret2
 exact⟨_,rfl,BsS.nil0 _ _,HB.out⟩):P:=h
theorem m3m{P:Prop}(h:P:=by
 rw [kx (u:=0) rfl]at h
 injection h with h
 subst h
 exact⟨rfl,rfl,rfl,rfl,hc,kx (u:=0) rfl⟩):P:=h
theorem m48{P:Prop}(h:P:=by
 go_ret2
 rw [EO.out,EE.out]
 exact⟨_,rfl,HO3.out,HB3.out⟩):P:=h
theorem m4b{P:Prop}(h:P:=by
 go_wp2_with fail
 go_ret
 rw [HR.out]
 exact⟨rfl,rfl⟩):P:=h
theorem UL{b:List UInt8}{t:Int}{k:Nat}(h:qg b=.ok (t,k)):qX t=true/\b.take k=ku t/\1<=k/\k<=b.length:=by
 obtain⟨g1,g2,g3⟩:=zU h
 refine⟨g1,?_,g2,g3⟩
 unfold qg at h
 split at h
 ·cases h
 ·rename_i h0
  obtain⟨x0,q,rfl⟩:∃x q,b=x :: q:=by
   cases b with
   |nil=>simp at h0
   |cons x q=>exact⟨x,q,rfl⟩
  have n0:=jU x0
  have l0:=jX x0
  rw [bvc]at h
  split at h
  ·rename_i h1
   split at h
   ·cases h
   ·rename_i h2
    obtain⟨x1,q,rfl⟩:∃x p,q=x :: p:=by
     cases q with
     |nil=>simp at h2
     |cons x p=>exact⟨x,p,rfl⟩
    rw [gbs,bvc]at h
    have n1:=jU x1
    have l1:=jX x1
    split at h
    ·injection h with h;injection h with e1 e2
     subst e1 e2
     unfold ku
     rw [iT (by omega)]
     have a1:ofI ((256*bv x0+bv x1) / 256)=x0:=by rw [show(256*bv x0+bv x1) / 256=bv x0 by omega,yp]
     have a2:ofI (256*bv x0+bv x1)=x1:=by rw [xk (show(256*bv x0+bv x1) % 256=bv x1 % 256 by omega),yp]
     rw [a1,a2]<;>rfl
    ·cases h
  ·split at h
   ·injection h with h;injection h with e1 e2
    subst e1 e2
    unfold ku
    rw [iF (by omega),yp]<;>rfl
   ·cases h
theorem ZO{x:List UInt8}{m:Int}{j:Nat}(h:jG x false true=.ok (m,j))(hm:m<=65535):x.take j=xu m.toNat/\0<=m/\1<=j/\j<=x.length/\∀o,jG x o false=.ok (m,j):=by
 unfold jG at h
 split at h
 ·cases h
 ·rename_i h0
  obtain⟨x0,q,rfl⟩:∃y q,x=y :: q:=by
   cases x with
   |nil=>simp at h0
   |cons y q=>exact⟨y,q,rfl⟩
  have n0:=jU x0
  have l0:=jX x0
  rw [bvc]at h
  split at h
  ·rename_i h1
   injection h with h;injection h with e1 e2
   subst e1 e2
   refine⟨?_,n0,by omega,by simp,fun o=> ?_⟩
   ·rw [xh (by omega),iT (by omega),show(((bv x0).toNat:Nat):Int)=bv x0 by omega,yp]<;>rfl
   ·unfold jG;rw [iF h0,bvc,iT h1]
  ·rename_i h1
   split at h
   ·cases h
   ·rename_i h2
    split at h
    ·simp at h
    ·rename_i h3
     split at h
     ·cases h
     ·rename_i h4
      split at h
      ·cases h
      ·rename_i h5
       obtain⟨kk,hkk⟩:∃kk,kk=(gb (x0 :: q) 0).toNat - 128:=⟨_,rfl⟩
       rw [bvc]at hkk
       have hb0:bv x0=(x0.toNat:Int):=rfl
       have hk1:1<=kk:=by omega
       rw [<-hkk]at h h5 h4
       injection h with h;injection h with e1 e2
       subst e2
       have hs:∀o,jG (x0 :: q) o false=.ok (m,1+kk):=fun o=>by
        unfold jG
        rw [iF h0,bvc,iF h1,iF h2,iF h3,<-hkk,iF h4,iF (by simp),e1]
       simp only [true_and,not_or,not_and]at h5
       obtain⟨h6,h7⟩:=h5
       have hx0:x0=ofI (128+kk:Nat):=by rw [<-yp x0];congr 1;omega
       have hq:kk<=q.length:=by simp at h4;omega
       refine⟨?_,by omega,by omega,by simp;omega,hs⟩
       obtain⟨x1,q,rfl⟩:∃y p,q=y :: p:=by
        exact mH
       have n1:=jU x1
       have l1:=jX x1
       have n1z:bv x1=0->x1=0:=fun e=>x8 (by rw [e]<;>rfl)
       rcases Nat.lt_or_ge 1 kk with hk2|hk2
       ·have hne:¬bv x1=0:=fun e=>h7 hk2 (n1z e)
        obtain⟨x2,q,rfl⟩:∃y p,q=y :: p:=by
         exact mH
        have n2:=jU x2
        have l2:=jX x2
        rcases Nat.lt_or_ge 2 kk with hk3|hk3
        ·exfalso
         obtain⟨x3,q,rfl⟩:∃y p,q=y :: p:=by
          exact mH
         have n3:=jU x3
         rcases Nat.lt_or_ge 3 kk with hk4|hk4
         ·have hk5:kk=4:=by omega
          obtain⟨x4,q,rfl⟩:∃y p,q=y :: p:=by
           exact mH
          have n4:=jU x4
          rw [hk5]at e1
          have:=be4 x0 x1 x2 x3 x4 q
          rw [show(x0 :: x1 :: x2 :: x3 :: x4 :: q)= [x0,x1,x2,x3,x4]++q from rfl,this]at e1
          omega
         ·have hk5:kk=3:=by omega
          rw [hk5]at e1
          have:=be3 x0 x1 x2 x3 q
          rw [show(x0 :: x1 :: x2 :: x3 :: q)= [x0,x1,x2,x3]++q from rfl,this]at e1
          omega
        ·have hk5:kk=2:=by omega
         rw [hk5]at e1 hx0 |-
         have:=be2 x0 x1 x2 q
         rw [show(x0 :: x1 :: x2 :: q)= [x0,x1,x2]++q from rfl,this]at e1
         rw [xh (by omega),iF (by omega),iF (by omega),show((m.toNat:Nat):Int)=m by omega,<-e1]
         have a1:ofI ((256*bv x1+bv x2) / 256)=x1:=by rw [show(256*bv x1+bv x2) / 256=bv x1 by omega,yp]
         have a2:ofI (256*bv x1+bv x2)=x2:=by rw [xk (show(256*bv x1+bv x2) % 256=bv x2 % 256 by omega),yp]
         rw [a1,a2,hx0]<;>rfl
       ·have hk5:kk=1:=by omega
        rw [hk5]at e1 hx0 h6 |-
        have:=be1 x0 x1 q
        rw [show(x0 :: x1 :: q)= [x0,x1]++q from rfl,this]at e1 h6
        rw [xh (by omega),iF (by omega),iT (by omega),show((m.toNat:Nat):Int)=m by omega,<-e1,yp,hx0]<;>rfl
theorem UM(b:List UInt8)(i j n:Nat):b=b.take i++((b.drop i).take j++((b.drop (i+j)).take n++b.drop (i+j+n))):=by
 have e1:=List.take_append_drop i b
 have e2:=List.take_append_drop j (b.drop i)
 have e3:=List.take_append_drop n (b.drop (i+j))
 rw [List.drop_drop]at e2 e3
 rw [e3,e2,e1]
theorem Uu{n:Nat}{b:List UInt8}{d c:Nat}{o:j3x}(h:kP true n b d c=.ok o):∃t k m j,qg b=.ok (t,k)/\jG (b.drop k) false true=.ok (m,j)/\¬8<d/\¬256<c+1/\¬(((b.drop (k+j)).length:Nat):Int)<m/\0<=m/\
 ((jY t=true/\∃r,jh true n ((b.drop (k+j)).take m.toNat) (d+1) (c+1) false=.ok r/\o=⟨t,[],r.list,k+j+m.toNat,r.count⟩)\/(jY t=false/\o=⟨t,(b.drop (k+j)).take m.toNat,.nil,k+j+m.toNat,c+1⟩)):=by
 unfold kP yL at h
 split at h
 ·cases h
 ·rename_i t k ht
  split at h
  ·cases h
  ·rename_i m j hs
   rw [show(jY t&& !true)=false by simp]at hs
   have hm0:0<=m:=(xF hs).2.2.2.elim id fun h=>by cases h.2
   split at h
   ·cases h
   ·rename_i h1
    split at h
    ·cases h
    ·rename_i h2
     split at h
     ·cases h
     ·rename_i h3
      rw [iF (by omega)]at h
      split at h
      ·rename_i h4
       split at h
       ·cases h
       ·rename_i r hr
        injection h with h
        exact⟨t,k,m,j,ht,hs,h1,h2,h3,hm0,.inl ⟨h4,r,hr,h.symm⟩⟩
      ·rename_i h4
       injection h with h
       exact⟨t,k,m,j,ht,hs,h1,h2,h3,hm0,.inr ⟨by simpa using h4,h.symm⟩⟩
theorem ZR(n:Nat):∀(b:List UInt8) (d c:Nat) (r:Lst),b.length<=4096->c<=256->jh true n b d c false=.ok r->
 r.list.enc=b/\r.used=b.length/\r.list.chk d=0/\r.count=c+r.list.all/\r.count<=256/\jh false n b d c false=.ok r:=by
 induction n with
 |zero=>
  intro b d c r hb hc h
  cases b with
  |nil=>
   exact m3m
  |cons x q=>
   rw [jh.eq_def]at h
   simp [kj]at h
 |succ n ih=>
  intro b d c r hb hc h
  rcases Nat.eq_zero_or_pos b.length with h0|h0
  ·have e:b= []:=List.eq_nil_of_length_eq_zero h0
   subst e
   exact m3m
  ·have hh:kj b false=none:=by
    cases b with
    |nil=>simp at h0
    |cons x q=>simp [kj]
   cases ho:kP true n b d c with
   |error e=>rw [jJ hh ho]at h;cases h
   |ok o=>
    rw [jS hh ho]at h
    obtain⟨t,k,m,j,ht,hs,h1,h2,h3,hm0,hor⟩:=Uu ho
    obtain⟨tv,tk,k1,k2⟩:=UL ht
    have hdl:(b.drop (k+j)).length=b.length - (k+j):=List.length_drop ..
    obtain⟨sj,_,j1,j2,sl⟩:=ZO hs (by omega)
    rw [List.length_drop]at j2
    have hC:((b.drop (k+j)).take m.toNat).length=m.toNat:=by rw [List.length_take];omega
    cases hr:jh true n (b.drop o.used) d o.count false with
    |error e=>rw [hr]at h;cases h
    |ok r2=>
     rw [hr]at h
     simp only [yY]at h
     injection h with h
     have hsplit:=UM b k j m.toNat
     rw [tk,sj]at hsplit
     rcases hor with ⟨tc,r1,hr1,rfl⟩|⟨tc,rfl⟩
     ·simp only at hr h
      obtain⟨g1,g2,g3,g4,g5,g6⟩:=ih _ (d+1) (c+1) r1 (by rw [List.length_take];omega) (by omega) hr1
      obtain⟨f1,f2,f3,f4,f5,f6⟩:=ih _ d r1.count r2 (by rw [List.length_drop];omega) g5 hr
      have ho2:kP false n b d c=.ok ⟨t,[],r1.list,k+j+m.toNat,r1.count⟩:=Ut ht (sl _) h1 h2 h3 (by omega) tc g6
      subst h
      simp only [Ns.app]
      refine⟨?_,?_,?_,?_,f5,?_⟩
      ·rw [qk t [] r1.list r2.list ((b.drop (k+j)).take m.toNat) (by rw [iT tc,g1]),f1,hC]
       simp only [List.append_assoc]
       exact hsplit.symm
      ·rw [f2,List.length_drop];omega
      ·rw [y6 t [] r1.list r2.list d tv (by rw [tc];simp),iF h1,iT g3,f3]
      ·simp only [Ns.all];omega
      ·rw [jS hh ho2]
       simp only [f6,yY,Ns.app]
     ·simp only at hr h
      obtain⟨f1,f2,f3,f4,f5,f6⟩:=ih _ d (c+1) r2 (by rw [List.length_drop];omega) (by omega) hr
      have ho2:kP false n b d c=.ok ⟨t,(b.drop (k+j)).take m.toNat,.nil,k+j+m.toNat,c+1⟩:=VZ ht (sl _) h1 h2 h3 (by omega) (by rw [tc];decide)
      subst h
      simp only [Ns.app]
      refine⟨?_,?_,?_,?_,f5,?_⟩
      ·rw [qk t _ .nil r2.list ((b.drop (k+j)).take m.toNat) (by rw [iF (by rw [tc];decide)]),f1,hC]
       simp only [List.append_assoc]
       exact hsplit.symm
      ·rw [f2,List.length_drop];omega
      ·rw [y6 t _ .nil r2.list d tv (by rw [tc];simp [Ns.len]),iF h1,iT (show Ns.nil.chk (d+1)=0 from rfl),f3]
      ·simp only [Ns.all];omega
      ·rw [jS hh ho2]
       simp only [f6,yY,Ns.app]
theorem kX{b:List UInt8}{l:Ns}(h:jK b true=.ok l):qG l=.ok b/\jK b false=.ok l/\l.all<=256/\l.enc=b/\b.length<=4096:=by
 unfold jK at h
 split at h
 ·cases h
 ·rename_i h4
  cases hr:jh true b.length b 1 0 false with
  |error e=>rw [hr]at h;cases h
  |ok r=>
   rw [hr]at h
   injection h with h
   subst h
   obtain⟨g1,g2,g3,g4,g5,g6⟩:=ZR b.length b 1 0 r (by omega) (by omega) hr
   refine⟨?_,?_,by omega,g1,by omega⟩
   ·unfold qG
    rw [iF (by simpa using g3),iF (by omega),g1,iF (by omega)]
   ·unfold jK
    rw [iF h4,g6]
def Ns.dropN:Ns->Nat->Ns
 |l,0=>l
 |.nil,_+1=>.nil
 |.cons _ _ _ r,n+1=>r.dropN n
def Ns.takeN:Ns->Nat->Ns
 |_,0=>.nil
 |.nil,_+1=>.nil
 |.cons t v k r,n+1=>.cons t v k (r.takeN n)
def kf(v:List UInt8):Bool:=decide (1<v.length)&&(decide (gb v 0=1)&&decide ((v.length - 1) % 16=0))
structure Fld where
 tag:Int
 least:Int
 most:Int
 must:Bool
def Fld.bad(f:Fld)(v:List UInt8):Bool:=decide ((v.length:Int)<f.least)||(decide (f.most<(v.length:Int))||(decide (f.tag=135)&& !kf v))
def jI:List Fld->Ns->Option (List (List UInt8)×Nat×Ns)
 |[],L=>some ([],0,L)
 |f :: fs,.nil=>if f.must=true then none else(jI fs .nil).map fun x=>([] :: x.1,x.2.1,x.2.2)
 |f :: fs,.cons t v k r=>if t=f.tag then(if f.bad v=true then none else(jI fs r).map fun x=>(v :: x.1,x.2.1+1,x.2.2))else if f.must=true then none else(jI fs (.cons t v k r)).map fun x=>([] :: x.1,x.2.1,x.2.2)
def qZ(tg lo:Int)(mu:Bool):List Fld:=[⟨135,2,4096,false⟩,⟨tg,lo,2,mu⟩,⟨142,8,8,true⟩]
def kZ(ts:List Int)(fs:List Fld)(data:List UInt8):Except Int (List (List UInt8)×Ns):=
 match jK data true with
 |.error _=>.error 1
 |.ok L=>if(ts.all fun t=>(L.pick t).isSome)=false then .error 16 else
  match jI fs L with
  |some (vs,n,.nil)=>.ok (vs,L.takeN (n - 1))
  |_=>.error 1
def qe(t:Int)(v:List UInt8):Ns:=if v= []then .nil else .cons t v .nil .nil
structure Zg (tg lo:Int) (mu:Bool) (L:Ns) (V M C:List UInt8):Prop where
 l:L=(qe 135 V).app ((qe tg M).app (.cons 142 C .nil .nil))
 v:V= []\/(kf V=true/\V.length<=4096)
 m:(M= []/\mu=false)\/(lo<=(M.length:Int)/\M.length<=2/\M≠ [])
 c:C.length=8
theorem qE{V:List UInt8}(h:kf V=true):17<=V.length/\V.length % 16=1/\gb V 0=1:=by
 unfold kf at h
 simp only [Bool.and_eq_true,decide_eq_true_eq]at h
 exact⟨by omega,by omega,h.2.1⟩
theorem x7{V:List UInt8}(h:kf V=true):V≠ []:=by
 have:=(qE h).1
 intro e;subst e;simp at this
theorem V6{V:List UInt8}:(Fld.mk 135 2 4096 false).bad V=true↔¬(kf V=true/\V.length<=4096):=by
 unfold Fld.bad
 constructor
 ·intro h ⟨h1,h2⟩
  have:=(qE h1).1
  simp only [h1,Bool.or_eq_true,decide_eq_true_eq]at h
  rcases h with h|h|h
  ·omega
  ·omega
  ·simp at h
 ·intro h
  by_cases h1:kf V=true
  ·have:¬V.length<=4096:=fun h2=>h ⟨h1,h2⟩
   simp only [Bool.or_eq_true,decide_eq_true_eq]
   exact .inr (.inl (by omega))
  ·have h1:kf V=false:=by simpa using h1
   simp [h1]
theorem V8{tg lo:Int}{mu:Bool}{M:List UInt8}(ht:¬tg=135):(Fld.mk tg lo 2 mu).bad M=true↔¬(lo<=(M.length:Int)/\M.length<=2):=by
 unfold Fld.bad
 simp only [ht,decide_false,Bool.false_and,Bool.or_false,Bool.or_eq_true,decide_eq_true_eq]
 omega
theorem V7{C:List UInt8}:(Fld.mk 142 8 8 true).bad C=true↔¬C.length=8:=by
 unfold Fld.bad
 simp only [show ¬((142:Int)=135)by decide,decide_false,Bool.false_and,Bool.or_false,Bool.or_eq_true,decide_eq_true_eq]
 omega
theorem jZ{t:Int}{V:List UInt8}(h:V≠ []):qe t V=.cons t V .nil .nil:=iF h
theorem yg{L:Ns}{vs:List (List UInt8)}{n:Nat}{R:Ns}(h:jI [⟨142,8,8,true⟩] L=some (vs,n,R)):∃C k,L=.cons 142 C k R/\C.length=8/\vs= [C]/\n=1:=by
 cases L with
 |nil=>simp [jI]at h
 |cons t v k r=>
  rw [jI]at h
  split at h
  ·rename_i ht
   subst ht
   split at h
   ·cases h
   ·rename_i hb
    have hb:v.length=8:=by
     rcases Nat.decEq v.length 8 with h'|h'
     ·exact absurd (V7.2 h') hb
     ·exact h'
    simp only [jI,Option.map_some,Option.some.injEq,Prod.mk.injEq]at h
    obtain⟨h1,h2,h3⟩:=h
    subst h1 h2 h3
    exact⟨v,k,rfl,hb,rfl,rfl⟩
  ·simp at h
theorem Qm{tg lo:Int}{mu:Bool}(ht:¬tg=135)(h142:¬tg=142)(hlo:1<=lo){L:Ns}{vs:List (List UInt8)}{n:Nat}{R:Ns}(h:jI [⟨tg,lo,2,mu⟩,⟨142,8,8,true⟩] L=some (vs,n,R)):
 ∃M C k,((M= []/\mu=false/\L=.cons 142 C k R/\n=1)\/(∃j,lo<=(M.length:Int)/\M.length<=2/\M≠ []/\L=.cons tg M j (.cons 142 C k R)/\n=2))/\C.length=8/\vs= [M,C]:=by
 cases L with
 |nil=>
  rw [jI]at h
  split at h
  ·cases h
  ·obtain⟨x,hx,he⟩:=Option.map_eq_some_iff.1 h
   obtain⟨C,k,hL,_⟩:=yg (L:=.nil) (vs:=x.1) (n:=x.2.1) (R:=x.2.2) hx
   cases hL
 |cons t v k r=>
  rw [jI]at h
  split at h
  ·rename_i he
   simp only at he
   subst he
   split at h
   ·cases h
   ·rename_i hb
    obtain⟨x,hx,he⟩:=Option.map_eq_some_iff.1 h
    obtain⟨C,k',hL,hC,hvs,hn⟩:=yg (vs:=x.1) (n:=x.2.1) (R:=x.2.2) hx
    simp only [Prod.mk.injEq]at he
    obtain⟨e1,e2,e3⟩:=he
    have hb':lo<=(v.length:Int)/\v.length<=2:=by
     rcases Classical.em (lo<=(v.length:Int)/\v.length<=2)with h'|h'
     ·exact h'
     ·exact absurd ((V8 ht).2 h') hb
    refine⟨v,C,k',.inr ⟨k,hb'.1,hb'.2,?_,?_,by omega⟩,hC,by rw [<-e1,hvs]⟩
    ·intro e;subst e;simp at hb';omega
    ·rw [hL,e3]
  ·split at h
   ·cases h
   ·rename_i hm
    obtain⟨x,hx,he⟩:=Option.map_eq_some_iff.1 h
    obtain⟨C,k',hL,hC,hvs,hn⟩:=yg (vs:=x.1) (n:=x.2.1) (R:=x.2.2) hx
    simp only [Prod.mk.injEq]at he
    obtain⟨e1,e2,e3⟩:=he
    refine⟨[],C,k',.inl ⟨rfl,by simpa using hm,by rw [hL,e3],by omega⟩,hC,by rw [<-e1,hvs]⟩
theorem qv{t:Int}{v:List UInt8}{k r:Ns}{d:Nat}(h:(Ns.cons t v k r).chk d=0)(hp:jY t=false):k=.nil:=(xx h).2.1 hp
theorem zi{tg lo:Int}{mu:Bool}(ht:¬tg=135)(h142:¬tg=142)(hlo:1<=lo)(hp:jY tg=false){L:Ns}(hc:L.chk 1=0){vs:List (List UInt8)}{n:Nat}(h:jI (qZ tg lo mu) L=some (vs,n,.nil)):
 ∃V M C,vs= [V,M,C]/\Zg tg lo mu L V M C/\L.takeN (n - 1)=(qe 135 V).app (qe tg M):=by
 unfold qZ at h
 have p135:jY 135=false:=by decide
 have p142:jY 142=false:=by decide
 cases L with
 |nil=>
  rw [jI]at h
  split at h
  ·cases h
  ·obtain⟨x,hx,he⟩:=Option.map_eq_some_iff.1 h
   obtain⟨M,C,k,h1,_⟩:=Qm ht h142 hlo (L:=.nil) (vs:=x.1) (n:=x.2.1) (R:=x.2.2) hx
   rcases h1 with ⟨_,_,hL,_⟩|⟨_,_,_,_,hL,_⟩<;>cases hL
 |cons t v k r=>
  rw [jI]at h
  split at h
  ·rename_i he
   simp only at he
   subst he
   split at h
   ·cases h
   ·rename_i hb
    obtain⟨x,hx,he⟩:=Option.map_eq_some_iff.1 h
    obtain⟨M,C,k',h1,hC,hvs⟩:=Qm ht h142 hlo (vs:=x.1) (n:=x.2.1) (R:=x.2.2) hx
    simp only [Prod.mk.injEq]at he
    obtain⟨e1,e2,e3⟩:=he
    have hb':kf v=true/\v.length<=4096:=by
     rcases Classical.em (kf v=true/\v.length<=4096)with h'|h'
     ·exact h'
     ·exact absurd (V6.2 h') hb
    have hk:=qv hc p135
    subst hk
    have hr:=(xx hc).2.2.2.2.2
    refine⟨v,M,C,by rw [<-e1,hvs],⟨?_,.inr hb',?_,hC⟩,?_⟩
    ·rw [jZ (x7 hb'.1)]
     rcases h1 with ⟨hM,_,hL,_⟩|⟨j,_,_,hM,hL,_⟩
     ·rw [hL,e3]at hr |-
      have hk:=qv hr p142
      subst hk
      subst hM;rfl
     ·rw [hL,e3]at hr |-
      have hj:=qv hr hp
      subst hj
      have hk:=qv (xx hr).2.2.2.2.2 p142
      subst hk
      rw [jZ hM]<;>rfl
    ·exact m3d
    ·rw [jZ (x7 hb'.1),<-e2]
     rcases h1 with ⟨hM,_,hL,hn⟩|⟨j,_,_,hM,hL,hn⟩
     ·rw [hn,hL,hM]<;>rfl
     ·rw [hn,hL,jZ hM]
      rw [hL]at hr
      have hj:=qv hr hp
      subst hj
      rfl
  ·rename_i hne
   split at h
   ·cases h
   ·obtain⟨x,hx,he⟩:=Option.map_eq_some_iff.1 h
    obtain⟨M,C,k',h1,hC,hvs⟩:=Qm ht h142 hlo (vs:=x.1) (n:=x.2.1) (R:=x.2.2) hx
    simp only [Prod.mk.injEq]at he
    obtain⟨e1,e2,e3⟩:=he
    refine⟨[],M,C,by rw [<-e1,hvs],⟨?_,.inl rfl,?_,hC⟩,?_⟩
    ·rcases h1 with ⟨hM,_,hL,_⟩|⟨j,_,_,hM,hL,_⟩
     ·rw [hL,e3]at hc |-
      have hk:=qv hc p142
      subst hk
      subst hM;rfl
     ·rw [hL,e3]at hc |-
      have hj:=qv hc hp
      subst hj
      have hk:=qv (xx hc).2.2.2.2.2 p142
      subst hk
      rw [jZ hM]<;>rfl
    ·exact m3d
    ·rw [<-e2]
     rcases h1 with ⟨hM,_,hL,hn⟩|⟨j,_,_,hM,hL,hn⟩
     ·rw [hn,hL,hM]<;>rfl
     ·rw [hn,hL,jZ hM]
      rw [hL]at hc
      have hj:=qv hc hp
      subst hj
      rfl
theorem Q3{tg lo:Int}{mu:Bool}(ht:¬tg=135)(h142:¬tg=142){L:Ns}{V M C:List UInt8}(h:Zg tg lo mu L V M C):∃n,jI (qZ tg lo mu) L=some ([V,M,C],n,.nil):=by
 obtain⟨rfl,hv,hm,hc⟩:=h
 have hb:¬(Fld.mk 142 8 8 true).bad C=true:=fun h=>V7.1 h hc
 have hl:∀k,jI [⟨142,8,8,true⟩] (.cons 142 C k .nil)=some ([C],1,.nil):=fun k=>by
  rw [jI,iT rfl,iF hb]<;>rfl
 have h2:∃n,jI [⟨tg,lo,2,mu⟩,⟨142,8,8,true⟩] ((qe tg M).app (.cons 142 C .nil .nil))=some ([M,C],n,.nil):=by
  rcases hm with ⟨rfl,rfl⟩|⟨h1,h2,h3⟩
  ·show∃n,jI [⟨tg,lo,2,false⟩,⟨142,8,8,true⟩] (.cons 142 C .nil .nil)=_
   rw [jI,iF (fun e=>h142 e.symm),iF (by simp),hl]
   exact⟨_,rfl⟩
  ·rw [jZ h3]
   show∃n,jI [⟨tg,lo,2,mu⟩,⟨142,8,8,true⟩] (.cons tg M .nil (.cons 142 C .nil .nil))=_
   rw [jI,iT rfl,iF (fun h=>(V8 ht).1 h ⟨h1,h2⟩),hl]
   exact⟨_,rfl⟩
 obtain⟨n,h2⟩:=h2
 unfold qZ
 rcases hv with rfl|hv
 ·show∃n,jI _ ((qe tg M).app (.cons 142 C .nil .nil))=_
  by_cases hM:M= []
  ·subst hM
   show∃n,jI _ (.cons 142 C .nil .nil)=_
   rw [jI,iF (by decide),iF (by simp)]
   rw [show(qe tg []).app (.cons 142 C .nil .nil)=.cons 142 C .nil .nil from rfl]at h2
   rw [h2]
   exact⟨_,rfl⟩
  ·rw [jZ hM]at h2 |-
   show∃n,jI _ (.cons tg M .nil (.cons 142 C .nil .nil))=_
   rw [jI,iF ht,iF (by simp)]
   rw [show(Ns.cons tg M .nil .nil).app (.cons 142 C .nil .nil)=.cons tg M .nil (.cons 142 C .nil .nil) from rfl]at h2
   rw [h2]
   exact⟨_,rfl⟩
 ·rw [jZ (x7 hv.1)]
  show∃n,jI _ (.cons 135 V .nil ((qe tg M).app (.cons 142 C .nil .nil)))=_
  rw [jI,iT rfl,iF (fun h=>V6.1 h hv),h2]
  exact⟨_,rfl⟩
def yl:Ns->Int×List UInt8×Ns
 |.nil=>(0,[],.nil)
 |.cons t v k .nil=>(t,v,k)
 |.cons _ _ _ (.cons t v k r)=>yl (.cons t v k r)
def q8(x:Int×List UInt8×Ns)(t:Int)(n:Nat):Bool:=decide (x.1=t)&&(decide (x.2.2.len=0)&&decide (x.2.1.length=n))
def xe:Ns->Int×List UInt8×Ns
 |.nil=>(0,[],.nil)
 |.cons t v k _=>(t,v,k)
def kF(x:Int×List UInt8×Ns):Bool:=decide (x.1=135)&&(decide (x.2.2.len=0)&&(decide (17<=x.2.1.length)&&(decide (x.2.1.length % 16=1)&&decide (gb x.2.1 0=1))))
def jB(tg:Int)(L:Ns):List UInt8×Ns×List UInt8×Bool:=
 if q8 (yl L) 142 8=false then([],.nil,[],false)
 else if(decide (1<L.len)&&kF (xe L))=true then
  if L.len=2 then((xe L).2.1.drop 1,.nil,(yl L).2.1,true)
  else((xe L).2.1.drop 1,(L.dropN 1).takeN 1,(yl L).2.1,decide (L.len=3)&&decide ((xe (L.dropN 1)).1=tg))
 else if L.len=1 then([],.nil,(yl L).2.1,true)
 else([],L.takeN 1,(yl L).2.1,decide (L.len=2)&&decide ((xe L).1=tg))
def Ze(tg lo:Int)(mu:Bool)(m:Ns):Bool:=
 match m with
 |.nil=> !mu
 |.cons t v k _=>decide (t=tg)&&(decide (k.len=0)&&(decide (lo<=(v.length:Int))&&decide (v.length<=2)))
theorem yz{V:List UInt8}{k:Ns}:kF (135,V,k)=(decide (k.len=0)&&kf V):=by
 unfold kF kf
 rw [Bool.eq_iff_iff]
 simp only [Bool.and_eq_true,decide_eq_true_eq]
 constructor
 ·intro⟨_,h1,h2,h3,h4⟩;exact⟨h1,by omega,h4,by omega⟩
 ·intro⟨h1,h2,h3,h4⟩;exact⟨trivial,h1,by omega,by omega,h3⟩
theorem Ka{t:Int}{v:List UInt8}{k:Ns}(h:q8 (t,v,k) 142 8=true):t=142/\k=.nil/\v.length=8:=by
 unfold q8 at h
 simp only [Bool.and_eq_true,decide_eq_true_eq]at h
 refine⟨h.1,?_,h.2.2⟩
 cases k with
 |nil=>rfl
 |cons=>simp [Ns.len]at h
theorem j6t{k:Ns}(h:k.len=0):k=.nil:=by
 cases k with
 |nil=>rfl
 |cons=>simp [Ns.len]at h
theorem zT{t:Int}{V:List UInt8}{k:Ns}(h:kF (t,V,k)=true):t=135/\k=.nil/\kf V=true:=by
 have ht:t=135:=by unfold kF at h;simp only [Bool.and_eq_true,decide_eq_true_eq]at h;exact h.1
 subst ht
 rw [yz]at h
 simp only [Bool.and_eq_true,decide_eq_true_eq]at h
 exact⟨rfl,j6t h.1,h.2⟩
theorem Xw{tg lo:Int}{mu:Bool}{t:Int}{v:List UInt8}{k r:Ns}(hlo:1<=lo)(h:Ze tg lo mu (.cons t v k r)=true):t=tg/\k=.nil/\lo<=(v.length:Int)/\v.length<=2/\v≠ []:=by
 simp only [Ze,Bool.and_eq_true,decide_eq_true_eq]at h
 refine⟨h.1,j6t h.2.1,h.2.2.1,h.2.2.2,fun e=> ?_⟩
 subst e
 have:=h.2.2.1
 simp at this
 omega
theorem ZQ{tg lo:Int}{mu:Bool}(hlo:1<=lo){L:Ns}(hV:∀t v k r,L=.cons t v k r->v.length<=4096)(h:((jB tg L).2.2.2&&Ze tg lo mu (jB tg L).2.1)=true):∃V M C,Zg tg lo mu L V M C:=by
 rcases L with _|⟨t1,v1,k1,L⟩
 ·simp [jB,yl,q8]at h
 rcases L with _|⟨t2,v2,k2,L⟩
 ·unfold jB at h
  cases hq:q8 (yl (.cons t1 v1 k1 .nil)) 142 8 with
  |false=>rw [iT hq]at h;simp at h
  |true=>
   rw [iF (by rw [hq];simp),iF (by simp [Ns.len]),iT (by simp [Ns.len])]at h
   obtain⟨rfl,rfl,h8⟩:=Ka (t:=t1) (v:=v1) (k:=k1) hq
   refine⟨[],[],v1,rfl,.inl rfl,.inl ⟨rfl,?_⟩,h8⟩
   simpa [Ze]using h
 rcases L with _|⟨t3,v3,k3,L⟩
 ·unfold jB at h
  cases hq:q8 (yl (.cons t1 v1 k1 (.cons t2 v2 k2 .nil))) 142 8 with
  |false=>rw [iT hq]at h;simp at h
  |true=>
   rw [iF (by rw [hq];simp)]at h
   obtain⟨rfl,rfl,h8⟩:=Ka (t:=t2) (v:=v2) (k:=k2) hq
   cases hs:kF (t1,v1,k1)with
   |true=>
    rw [iT (by simp [Ns.len,xe,hs]),iT (by simp [Ns.len])]at h
    obtain⟨rfl,rfl,hb⟩:=zT hs
    refine⟨v1,[],v2,by rw [jZ (x7 hb)]<;>rfl,.inr ⟨hb,hV _ _ _ _ rfl⟩,.inl ⟨rfl,?_⟩,h8⟩
    simpa [Ze]using h
   |false=>
    rw [iF (by simp [xe,hs]),iF (by simp [Ns.len])]at h
    simp only [Ns.takeN,Bool.and_eq_true]at h
    obtain⟨rfl,rfl,m1,m2,m3⟩:=Xw hlo h.2
    exact⟨[],v1,v2,by rw [jZ m3]<;>rfl,.inl rfl,.inr ⟨m1,m2,m3⟩,h8⟩
 rcases L with _|⟨t4,v4,k4,L⟩
 ·unfold jB at h
  cases hq:q8 (yl (.cons t1 v1 k1 (.cons t2 v2 k2 (.cons t3 v3 k3 .nil)))) 142 8 with
  |false=>rw [iT hq]at h;simp at h
  |true=>
   rw [iF (by rw [hq];simp)]at h
   obtain⟨rfl,rfl,h8⟩:=Ka (t:=t3) (v:=v3) (k:=k3) hq
   cases hs:kF (t1,v1,k1)with
   |true=>
    rw [iT (by simp [Ns.len,xe,hs]),iF (by simp [Ns.len])]at h
    obtain⟨rfl,rfl,hb⟩:=zT hs
    simp only [Ns.takeN,Ns.dropN,Bool.and_eq_true]at h
    obtain⟨rfl,rfl,m1,m2,m3⟩:=Xw hlo h.2
    exact⟨v1,v2,v3,by rw [jZ (x7 hb),jZ m3]<;>rfl,.inr ⟨hb,hV _ _ _ _ rfl⟩,.inr ⟨m1,m2,m3⟩,h8⟩
   |false=>
    rw [iF (by simp [xe,hs]),iF (by simp [Ns.len])]at h
    simp [Ns.len]at h
 ·unfold jB at h
  split at h
  ·simp at h
  ·split at h
   all_goals
    rw [iF (by simp [Ns.len])]at h;simp [Ns.len]at h
theorem Ko{tg lo:Int}{mu:Bool}(ht:¬tg=135){L:Ns}{V M C:List UInt8}(h:Zg tg lo mu L V M C):jB tg L=(V.drop 1,qe tg M,C,true)/\Ze tg lo mu (qe tg M)=true:=by
 obtain⟨rfl,hv,hm,hc⟩:=h
 have q1:q8 (142,C,.nil) 142 8=true:=by simp [q8,Ns.len,hc]
 have hm2:Ze tg lo mu (qe tg M)=true:=by
  rcases hm with ⟨rfl,rfl⟩|⟨h1,h2,h3⟩
  ·rfl
  ·rw [jZ h3];simp [Ze,Ns.len,h1,h2]
 refine⟨?_,hm2⟩
 have hns:kF (tg,M,.nil)=false:=by unfold kF;simp [ht]
 have hns2:kF (142,C,.nil)=false:=by unfold kF;simp
 rcases hv with rfl|⟨hb,_⟩
 ·by_cases hM:M= []
  ·subst hM
   show jB tg (.cons 142 C .nil .nil)=_
   unfold jB
   rw [iF (by show ¬q8 (142,C,.nil) 142 8=false;rw [q1];simp),iF (by simp [Ns.len]),iT (by simp [Ns.len])]
   rfl
  ·rw [jZ hM]
   show jB tg (.cons tg M .nil (.cons 142 C .nil .nil))=_
   unfold jB
   rw [iF (by show ¬q8 (142,C,.nil) 142 8=false;rw [q1];simp),iF (by simp [xe,hns]),iF (by simp [Ns.len])]
   simp [Ns.len,xe,Ns.takeN,yl]
 ·have hs:kF (135,V,.nil)=true:=by rw [yz,hb]<;>rfl
  rw [jZ (x7 hb)]
  by_cases hM:M= []
  ·subst hM
   show jB tg (.cons 135 V .nil (.cons 142 C .nil .nil))=_
   unfold jB
   rw [iF (by show ¬q8 (142,C,.nil) 142 8=false;rw [q1];simp),iT (by simp [Ns.len,xe,hs]),iT (by simp [Ns.len])]
   rfl
  ·rw [jZ hM]
   show jB tg (.cons 135 V .nil (.cons tg M .nil (.cons 142 C .nil .nil)))=_
   unfold jB
   rw [iF (by show ¬q8 (142,C,.nil) 142 8=false;rw [q1];simp),iT (by simp [Ns.len,xe,hs]),iF (by simp [Ns.len])]
   simp [Ns.len,xe,Ns.takeN,Ns.dropN,yl]
def qt(k N V:List UInt8):List UInt8:=if V= []then []else ZV (yq k (qS k N) V)
def kD(k N V:List UInt8):Int:=if V= []then 0 else ZT (yq k (qS k N) V)
theorem Ul(v:Value)(l:List UInt8)(S:Nat->Prop)(w:World)(h:BsS w S v l):Calls Tryz.prog 87 #[v] w fun e w'=>e=.returned (.bool (kf l))/\w'=w:=by
 obtain⟨A,c,rfl,h1,h2,h3,h4⟩:=h
 by_cases hl:1<l.length
 ·obtain⟨b,off,rfl,_,hc⟩:=h4 (by omega)
  have q0:=hc 0 (by omega)
  rw [Nat.add_zero]at q0
  have tl:decide ((l.length:Int)>1)=true:=decide_eq_true (by omega)
  by_cases hb:gb l 0=1
  ·have t1:(gb l 0==1)=true:=by simp [hb]
   have R:Hid (kf l=decide (((l.length - 1) % 16)=0)):=iH (by unfold kf;rw [decide_eq_true hl,decide_eq_true hb]<;>rfl)
   have t2:((((l.length:Int) - 1) % 16)==0)=decide ((l.length - 1) % 16=0):=by
    rw [Bool.eq_iff_iff,beq_iff_eq,decide_eq_true_eq]
    omega
   rw [hb]at q0
   clear hc hb t1 h4
   obtain⟨o,ho⟩:∃o,decide ((l.length - 1) % 16=0)=o:=⟨_,rfl⟩
   rw [ho]at R t2
   clear ho
   exact m00
  ·have R:Hid (kf l=false):=iH (by unfold kf;rw [decide_eq_false hb];simp)
   have t1:(gb l 0==1)=false:=by simpa using hb
   clear hc h4
   exact m00
 ·have R:Hid (kf l=false):=iH (by unfold kf;rw [decide_eq_false hl]<;>rfl)
  have tl:decide ((l.length:Int)>1)=false:=decide_eq_false (by omega)
  clear h4
  exact m00
theorem Z6(ua ub uc vv:Value)(un:Int)(k N VV:List UInt8)(lk:k.length=16)(ln:N.length=16)(hVV:VV= []\/kf VV=true)(w:World)(ha:Bs w w.heap.size ua k)(hc:Bs w w.heap.size uc N)(hd:Bs w w.heap.size vv VV):
 Calls Tryz.prog 58 #[.agg #[ua,ub,.int .i64 un,uc],vv] w (zg w (qt k N (VV.drop 1)) (kD k N (VV.drop 1))):=by
 obtain⟨A1,n1,d1,rfl⟩:=ha.form
 obtain⟨A3,n3,d3,rfl⟩:=hc.form
 obtain⟨AD,nd,dd,rfl⟩:=hd.form
 obtain rfl:=Bs.lenEq hd
 obtain⟨w0,hw0⟩:∃w0,w0=w.alloc (.cells #[.slice A1 n1 d1,ub,.int .i64 un,.slice A3 n3 d3] 77):=⟨_,rfl⟩
 have hB0:Below w.heap.size w w0:=by rw [hw0];exact iA
 have hh0:w0.heap[w.heap.size]?=some (.cells #[.slice A1 n1 d1,ub,.int .i64 un,.slice A3 n3 d3] 77 (0,0)):=by rw [hw0];exact iN
 have hlt0:=(iG hh0)
 have CS:Hid (∀W,Below w0.heap.size w0 W->W.cell? ⟨w.heap.size,0,none⟩=some (.slice A1 n1 d1)/\W.cell? ⟨w.heap.size,1,none⟩=some ub/\W.cell? ⟨w.heap.size,2,none⟩=some (.int .i64 un)/\W.cell? ⟨w.heap.size,3,none⟩=some (.slice A3 n3 d3)):=iH fun W h=>(by obtain⟨a,b,c,d,_⟩:=ki ((h.block w.heap.size hlt0).trans hh0);exact⟨a,b,c,d⟩)
 have H1:=iH (ha.lift hB0);have H3:=iH (hc.lift hB0)
 have HB:=iH hB0;have HW0:=iH hw0;have LN:=iH ln;have LK:=iH lk
 have hd0:=hd.lift hB0
 clear ha hc hd hB0 hw0 hh0 hlt0 lk ln
 rcases hVV with rfl|hbq
 ·go_enter Tryz.func58,Tryz.ntmps58
  exact m3e
 ·obtain⟨hq1,hq2,_⟩:=qE hbq
  obtain⟨b0,o0,rfl⟩:=QY hd0 (by omega)
  obtain⟨x,V,rfl⟩:∃x V,VV=x :: V:=by cases VV with|nil=>simp at hq1|cons x V=>exact⟨x,V,rfl⟩
  simp only [List.length_cons]at hq1 hq2 hd0 |-
  simp only [List.drop_succ_cons,List.drop_zero]
  have hdd:V.length+1<=dd:=by obtain⟨_,_,e,h,_⟩:=hd0;injection e with _ _ e3;subst e3;simpa using h
  have hdm:dd<=9223372036854775807:=by obtain⟨_,_,e,_,h,_⟩:=hd0;injection e with _ _ e3;subst e3;exact h
  have hlm:V.length<=140737488355328:=by have:=hd0.len;simp at this;omega
  obtain⟨d,rfl⟩:∃d,dd=d+1:=⟨dd - 1,by omega⟩
  have lm:V.length=16*(V.length / 16):=by omega
  have hV0:¬V= []:=fun e=>by subst e;simp at hq1
  have hcut:=Yg hd0 1 (by simp) V.length d (by omega) (by omega)
  rw [show(x :: V).drop 1=V from rfl]at hcut
  obtain⟨V9,hV⟩:∃V,qS k N=V:=⟨_,rfl⟩
  obtain⟨B9,hB9⟩:∃B,yq k V9 V=B:=⟨_,rfl⟩
  have lv:V9.length=16:=by rw [<-hV];exact kG _ _
  have EO:Hid (qt k N V=ZV B9):=iH (by unfold qt;rw [iF hV0,hV,hB9])
  have EE:Hid (kD k N V=ZT B9):=iH (by unfold kD;rw [iF hV0,hV,hB9])
  have HVC:Hid (∀(ua ub uc:Value) (un:Int) (w:World),Bs w w.heap.size ua k->Bs w w.heap.size uc N->Calls Tryz.prog 82 #[.agg #[ua,ub,.int .i64 un,uc]] w fun e w'=>∃v',e=.returned v'/\Bs w' w'.heap.size v' V9/\Below w.heap.size w w'):=iH (fun ua ub uc un w h1 h2=>by rw [<-hV];exact JV ua ub uc un k N LK.out LN.out w h1 h2)
  have HOP:Hid (∀(vk vi vb:Value) (w:World),Bs w w.heap.size vk k->Bs w w.heap.size vi V9->Bs w w.heap.size vb V->Calls Tryz.prog 90 #[vk,vi,vb] w fun e w'=>∃v',e=.returned (.tuple #[v',.int .i64 0])/\BsS w' (New w w') v' B9/\Below w.heap.size w w'):=iH (fun vk vi vb w h1 h2 h3=>by rw [<-hB9];exact j03 vk vi vb k V9 V _ LK.out lv lm w h1 h2 h3)
  obtain⟨q,hq⟩:∃q,V.length=q:=⟨_,rfl⟩
  rw [hq]at hq1 hq2 hdd hlm hcut hd0 |-
  have HD:Hid (Bs w0 w0.heap.size (.slice (some ⟨b0,o0+1,none⟩) q d) V):=iH hcut
  clear hV hB9 lv lm hV0 hq hd0 hcut hbq
  go_enter Tryz.func58,Tryz.ntmps58
  go_upto_region 1 with fail
  rw [<-HW0.out]
  go_upto_region 3 with fail
  refine jc 13 [some 12,some 13,some 14,some 15,some 16,some 17,some 18,some 19,some 11,some 20,some 21,some 6,some 7] [[],[0],[0,1],[],[3],[],[5],[0,1,2,3,4,5,6],[0,1,2,3,4,5,6,7],[0,1,2,3,4,5,6,7,8],[0,1,2,3,4,5,6,7,8],[0,1,2,3,4,5,6,7,8,9],[0,1,2,3,4,5,6,7,8,9,10,11]]
   (fun _ _ w1=>Below w0.heap.size w0 w1) (fun w1 w2=>Below w1.heap.size w1 w2)
   [fun v _=>v 0=.pointer (some ⟨w.heap.size,0,none⟩),
    fun v _=>v 1=.pointer (some ⟨w.heap.size,0,none⟩),
    fun v _=>v 2=.slice A1 n1 d1,
    fun v _=>v 3=.agg #[.slice A1 n1 d1,ub,.int .i64 un,.slice A3 n3 d3],
    fun v w1=>∃a c,v 4=.slice a (V9).length c/\Bs w1 w1.heap.size (.slice a (V9).length c) (V9),
    fun v _=>v 5=.slice (some ⟨b0,o0,none⟩) (q+1) (d+1),
    fun v _=>v 6=.slice (some ⟨b0,o0+1,none⟩) q d,
    fun v w1=>∃a c,v 7=.tuple #[.slice a (B9).length c,.int .i64 0]/\Bs w1 w1.heap.size (.slice a (B9).length c) (B9),
    fun v w1=>∃a c,v 8=.tuple #[.slice a (B9).length c,.int .i64 0]/\Bs w1 w1.heap.size (.slice a (B9).length c) (B9),
    fun v w1=>∃a c,v 9=.slice a (B9).length c/\Bs w1 w1.heap.size (.slice a (B9).length c) (B9),
    fun v _=>v 10=.int .i64 0,
    fun v w1=>∃a c,v 11=.slice a (B9).length c/\Bs w1 w1.heap.size (.slice a (B9).length c) (B9),
    fun v _=>v 12=.int .i64 0]
   (by kernel_rfl) (by kernel_rfl) (fun _=>iB.drew) ?st ?steps ?tail
  case st=>
   exact(.cons (fun _ _ _ _ _ _ h=>h) (.cons (fun _ _ _ _ _ _ h=>h) (.cons (fun _ _ _ _ _ _ h=>h) (.cons (fun _ _ _ _ _ _ h=>h) (.cons (fun _ _ _ _ _ hr ⟨a,c,e,h⟩=>⟨a,c,e,h.lift hr⟩) (.cons (fun _ _ _ _ _ _ h=>h) (.cons (fun _ _ _ _ _ _ h=>h) (.cons (fun _ _ _ _ _ hr ⟨a,c,e,h⟩=>⟨a,c,e,h.lift hr⟩) (.cons (fun _ _ _ _ _ hr ⟨a,c,e,h⟩=>⟨a,c,e,h.lift hr⟩) (.cons (fun _ _ _ _ _ hr ⟨a,c,e,h⟩=>⟨a,c,e,h.lift hr⟩) (.cons (fun _ _ _ _ _ _ h=>h) (.cons (fun _ _ _ _ _ hr ⟨a,c,e,h⟩=>⟨a,c,e,h.lift hr⟩) (.cons (fun _ _ _ _ _ _ h=>h) .nil)))))))))))))
  case steps=>
   simp only [List.take_succ_cons,List.take_zero]
   refine(.cons ?_ (.cons ?_ (.cons ?_ (.cons ?_ (.cons ?_ (.cons ?_ (.cons ?_ (.cons ?_ (.cons ?_ (.cons ?_ (.cons ?_ (.cons ?_ (.cons ?_ .nil)))))))))))))
   all_goals(intro L v w1 hJ hL hA hF K hK;simp only [jf,Act.put,Nat.zero_add,Nat.reduceAdd,List.setIfInBounds_toArray,List.set_cons_zero,List.set_cons_succ]at hK |-)
   ·exact m6
   ·have e0:v 0=_:=hF 0 (hA 0 (by simp))
    simp only [e0]at hK
    exact m6
   ·have e1:v 1=_:=hF 1 (hA 1 (by simp))
    obtain⟨c0,c1,c2,c3⟩:=CS.out _ hJ
    simp only [e1]at hK
    exact m6
   ·obtain⟨c0,c1,c2,c3⟩:=CS.out _ hJ
    exact m6
   ·have e3:v 3=_:=hF 3 (hA 3 (by simp))
    simp only [e3]at hK
    go_simp
    refine(HVC.out _ _ _ _ w1 (H1.out.lift hJ) (H3.out.lift hJ)).mono ?_
    rintro e w5 ⟨v5,rfl,ho,hb⟩
    have hx:Bs w5 w5.heap.size v5 (V9):=ho
    exact m7
   ·exact m6
   ·have e5:v 5=_:=hF 5 (hA 5 (by simp))
    simp only [e5]at hK
    go_simp
    rw [iT (show(1:Int)<=(q:Int)+1 by omega),iF (show ¬d=0 by omega)]
    refine hK _ _ hJ iB ?_
    rfl
   ·have e2:v 2=_:=hF 2 (hA 2 (by simp))
    have e6:v 6=_:=hF 6 (hA 6 (by simp))
    simp only [e2,e6]at hK
    obtain⟨a4,c4,e4,h4⟩:∃a c,v 4=_/\_:=hF 4 (hA 4 (by simp))
    simp only [e4]at hK
    go_simp
    refine(HOP.out _ _ _ w1 (H1.out.lift hJ) h4 (HD.out.lift hJ)).mono ?_
    rintro e w5 ⟨v5,rfl,ho,hb⟩
    have hx:Bs w5 w5.heap.size v5 (B9):=(BsS.keep ho fun g hg _=>⟨rfl,hg.2⟩)
    exact m7
   ·exact mg
   ·exact ma
   ·exact mw
   ·exact mh
   ·have e10:v 10=_:=hF 10 (hA 10 (by simp))
    simp only [e10]at hK
    exact m6
  case tail=>
   intro v w1 hJ hF
   have e0:v 0=_:=hF 0 (by simp)
   have e1:v 1=_:=hF 1 (by simp)
   have e2:v 2=_:=hF 2 (by simp)
   have e3:v 3=_:=hF 3 (by simp)
   have e5:v 5=_:=hF 5 (by simp)
   have e6:v 6=_:=hF 6 (by simp)
   have e10:v 10=_:=hF 10 (by simp)
   have e12:v 12=_:=hF 12 (by simp)
   obtain⟨a11,c11,e11,h11⟩:∃a c,v 11=_/\_:=hF 11 (by simp)
   simp only [List.drop_succ_cons,List.drop_zero,jf,Act.put,Nat.zero_add,Nat.reduceAdd,List.setIfInBounds_toArray,List.set_cons_zero,List.set_cons_succ]
   simp only [e11,e12]
   clear e0 e1 e2 e3 e5 e6 e10 e12
   have HC:=iH h11
   have HBW:=iH (HB.out.trans (hJ.mono HB.out.size))
   clear h11 hJ hF
   go_wp2_with(go_at_call 91;refine(j1d _ B9 w1 HC.out).mono ?_;rintro e w3 ⟨v3,rfl,ho,hb⟩;have HO3:=iH ho;have HB3:=iH (HBW.out.trans (hb.mono HBW.out.size));clear ho hb)
   exact m48
theorem XN(ua ub uc vv:Value)(un:Int)(k N V:List UInt8)(lk:k.length=16)(ln:N.length=16)(hVV:V.length % 16=0)(w:World)(ha:Bs w w.heap.size ua k)(hc:Bs w w.heap.size uc N)(hd:Bs w w.heap.size vv V):
 Calls Tryz.prog 74 #[.agg #[ua,ub,.int .i64 un],uc,vv] w (zg w (qt k N V) (kD k N V)):=by
 obtain⟨A1,n1,d1,rfl⟩:=ha.form
 obtain⟨A3,n3,d3,rfl⟩:=hc.form
 obtain⟨AD,nd,dd,rfl⟩:=hd.form
 obtain rfl:=Bs.lenEq hd
 obtain⟨w0,hw0⟩:∃w0,w0=w.alloc (.cells #[.slice A1 n1 d1,ub,.int .i64 un] 29):=⟨_,rfl⟩
 have hB0:Below w.heap.size w w0:=by rw [hw0];exact iA
 have hh0:w0.heap[w.heap.size]?=some (.cells #[.slice A1 n1 d1,ub,.int .i64 un] 29 (0,0)):=by rw [hw0];exact iN
 have hlt0:=(iG hh0)
 have CS:Hid (∀W,Below w0.heap.size w0 W->W.cell? ⟨w.heap.size,0,none⟩=some (.slice A1 n1 d1)/\W.cell? ⟨w.heap.size,1,none⟩=some ub/\W.cell? ⟨w.heap.size,2,none⟩=some (.int .i64 un)):=iH fun W h=>(by obtain⟨a,b,c,_⟩:=j7 ((h.block w.heap.size hlt0).trans hh0);exact⟨a,b,c⟩)
 have H1:=iH (ha.lift hB0);have H3:=iH (hc.lift hB0)
 have HB:=iH hB0;have HW0:=iH hw0;have LN:=iH ln;have LK:=iH lk
 have HD:=iH (hd.lift hB0)
 clear ha hc hd hB0 hw0 hh0 hlt0 lk ln
 by_cases hV0:V= []
 ·subst hV0
  go_enter Tryz.func74,Tryz.ntmps74
  exact m3e
 ·have t1:((V.length:Int)==0)=false:=by simp;exact hV0
  have lm:V.length=16*(V.length / 16):=by omega
  obtain⟨V9,hV⟩:∃V,qS k N=V:=⟨_,rfl⟩
  obtain⟨B9,hB9⟩:∃B,yq k V9 V=B:=⟨_,rfl⟩
  have lv:V9.length=16:=by rw [<-hV];exact kG _ _
  have EO:Hid (qt k N V=ZV B9):=iH (by unfold qt;rw [iF hV0,hV,hB9])
  have EE:Hid (kD k N V=ZT B9):=iH (by unfold kD;rw [iF hV0,hV,hB9])
  have HVC:Hid (∀(ua ub uc:Value) (un:Int) (w:World),Bs w w.heap.size ua k->Bs w w.heap.size uc N->Calls Tryz.prog 63 #[.agg #[ua,ub,.int .i64 un],uc] w fun e w'=>∃v',e=.returned v'/\Bs w' w'.heap.size v' V9/\Below w.heap.size w w'):=iH (fun ua ub uc un w h1 h2=>by rw [<-hV];exact Kl ua ub uc un k N LK.out LN.out w h1 h2)
  have HOP:Hid (∀(vk vi vb:Value) (w:World),Bs w w.heap.size vk k->Bs w w.heap.size vi V9->Bs w w.heap.size vb V->Calls Tryz.prog 99 #[vk,vi,vb] w fun e w'=>∃v',e=.returned (.tuple #[v',.int .i64 0])/\BsS w' (New w w') v' B9/\Below w.heap.size w w'):=iH (fun vk vi vb w h1 h2 h3=>by rw [<-hB9];exact XO vk vi vb k V9 V _ LK.out lv lm w h1 h2 h3)
  clear hV hB9 lv lm hV0 hVV
  go_enter Tryz.func74,Tryz.ntmps74
  go_upto_region 1 with fail
  rw [<-HW0.out]
  go_upto_region 3 with fail
  clear t1
  refine jc 12 [some 14,some 15,some 16,some 17,some 18,some 19,some 20,some 13,some 21,some 22,some 8,some 9] [[],[0],[],[],[2,3],[],[0,1,2,3,4,5],[0,1,2,3,4,5,6],[0,1,2,3,4,5,6,7],[0,1,2,3,4,5,6,7],[0,1,2,3,4,5,6,7,8],[0,1,2,3,4,5,6,7,8,9,10]]
   (fun _ _ w1=>Below w0.heap.size w0 w1) (fun w1 w2=>Below w1.heap.size w1 w2)
   [fun v _=>v 0=.pointer (some ⟨w.heap.size,0,none⟩),
    fun v _=>v 1=.slice A1 n1 d1,
    fun v _=>v 2=.agg #[.slice A1 n1 d1,ub,.int .i64 un],
    fun v _=>v 3=.slice A3 n3 d3,
    fun v w1=>∃a c,v 4=.slice a (V9).length c/\Bs w1 w1.heap.size (.slice a (V9).length c) (V9),
    fun v _=>v 5=.slice AD V.length dd,
    fun v w1=>∃a c,v 6=.tuple #[.slice a (B9).length c,.int .i64 0]/\Bs w1 w1.heap.size (.slice a (B9).length c) (B9),
    fun v w1=>∃a c,v 7=.tuple #[.slice a (B9).length c,.int .i64 0]/\Bs w1 w1.heap.size (.slice a (B9).length c) (B9),
    fun v w1=>∃a c,v 8=.slice a (B9).length c/\Bs w1 w1.heap.size (.slice a (B9).length c) (B9),
    fun v _=>v 9=.int .i64 0,
    fun v w1=>∃a c,v 10=.slice a (B9).length c/\Bs w1 w1.heap.size (.slice a (B9).length c) (B9),
    fun v _=>v 11=.int .i64 0]
   (by kernel_rfl) (by kernel_rfl) (fun _=>iB.drew) ?st ?steps ?tail
  case st=>
   exact(.cons (fun _ _ _ _ _ _ h=>h) (.cons (fun _ _ _ _ _ _ h=>h) (.cons (fun _ _ _ _ _ _ h=>h) (.cons (fun _ _ _ _ _ _ h=>h) (.cons (fun _ _ _ _ _ hr ⟨a,c,e,h⟩=>⟨a,c,e,h.lift hr⟩) (.cons (fun _ _ _ _ _ _ h=>h) (.cons (fun _ _ _ _ _ hr ⟨a,c,e,h⟩=>⟨a,c,e,h.lift hr⟩) (.cons (fun _ _ _ _ _ hr ⟨a,c,e,h⟩=>⟨a,c,e,h.lift hr⟩) (.cons (fun _ _ _ _ _ hr ⟨a,c,e,h⟩=>⟨a,c,e,h.lift hr⟩) (.cons (fun _ _ _ _ _ _ h=>h) (.cons (fun _ _ _ _ _ hr ⟨a,c,e,h⟩=>⟨a,c,e,h.lift hr⟩) (.cons (fun _ _ _ _ _ _ h=>h) .nil))))))))))))
  case steps=>
   simp only [List.take_succ_cons,List.take_zero]
   refine(.cons ?_ (.cons ?_ (.cons ?_ (.cons ?_ (.cons ?_ (.cons ?_ (.cons ?_ (.cons ?_ (.cons ?_ (.cons ?_ (.cons ?_ (.cons ?_ .nil))))))))))))
   all_goals(intro L v w1 hJ hL hA hF K hK;simp only [jf,Act.put,Nat.zero_add,Nat.reduceAdd,List.setIfInBounds_toArray,List.set_cons_zero,List.set_cons_succ]at hK |-)
   ·exact m6
   ·have e0:v 0=_:=hF 0 (hA 0 (by simp))
    obtain⟨c0,c1,c2⟩:=CS.out _ hJ
    simp only [e0]at hK
    exact m6
   ·obtain⟨c0,c1,c2⟩:=CS.out _ hJ
    exact m6
   ·exact m6
   ·have e2:v 2=_:=hF 2 (hA 2 (by simp))
    have e3:v 3=_:=hF 3 (hA 3 (by simp))
    simp only [e2,e3]at hK
    go_simp
    refine(HVC.out _ _ _ _ w1 (H1.out.lift hJ) (H3.out.lift hJ)).mono ?_
    rintro e w5 ⟨v5,rfl,ho,hb⟩
    have hx:Bs w5 w5.heap.size v5 (V9):=ho
    exact m7
   ·exact m6
   ·have e1:v 1=_:=hF 1 (hA 1 (by simp))
    have e5:v 5=_:=hF 5 (hA 5 (by simp))
    simp only [e1,e5]at hK
    obtain⟨a4,c4,e4,h4⟩:∃a c,v 4=_/\_:=hF 4 (hA 4 (by simp))
    simp only [e4]at hK
    go_simp
    refine(HOP.out _ _ _ w1 (H1.out.lift hJ) h4 (HD.out.lift hJ)).mono ?_
    rintro e w5 ⟨v5,rfl,ho,hb⟩
    have hx:Bs w5 w5.heap.size v5 (B9):=(BsS.keep ho fun g hg _=>⟨rfl,hg.2⟩)
    exact m7
   ·exact mE
   ·exact mg
   ·exact m39
   ·exact ma
   ·have e9:v 9=_:=hF 9 (hA 9 (by simp))
    simp only [e9]at hK
    exact m6
  case tail=>
   intro v w1 hJ hF
   have e0:v 0=_:=hF 0 (by simp)
   have e1:v 1=_:=hF 1 (by simp)
   have e2:v 2=_:=hF 2 (by simp)
   have e3:v 3=_:=hF 3 (by simp)
   have e5:v 5=_:=hF 5 (by simp)
   have e9:v 9=_:=hF 9 (by simp)
   have e11:v 11=_:=hF 11 (by simp)
   obtain⟨a10,c10,e10,h10⟩:∃a c,v 10=_/\_:=hF 10 (by simp)
   simp only [List.drop_succ_cons,List.drop_zero,jf,Act.put,Nat.zero_add,Nat.reduceAdd,List.setIfInBounds_toArray,List.set_cons_zero,List.set_cons_succ]
   simp only [e10,e11]
   clear e0 e1 e2 e3 e5 e9 e11
   have HC:=iH h10
   have HBW:=iH (HB.out.trans (hJ.mono HB.out.size))
   clear h10 hJ hF
   go_wp2_with(go_at_call 100;refine(UJ _ B9 w1 HC.out).mono ?_;rintro e w3 ⟨v3,rfl,ho,hb⟩;have HO3:=iH ho;have HB3:=iH (HBW.out.trans (hb.mono HBW.out.size));clear ho hb)
   exact m48
theorem kL{fn:Func}{t u v x:Tmp}(h:fn.results=#[.tmp t,.tmp u,.tmp v,.tmp x])(tmps:Array Value)(P:Program)(w:World):
 (results fn tmps).run P w=.ok (.tuple #[tmps.getD t undef,tmps.getD u undef,tmps.getD v undef,tmps.getD x undef]) w:=by simp [results,h]
def Ns.nth:Ns->Nat->Int×List UInt8×Ns
 |.nil,_=>(0,[],.nil)
 |.cons t v k _,0=>(t,v,k)
 |.cons _ _ _ r,i+1=>r.nth i
theorem Vw(L:Ns):xe L=L.nth 0:=by cases L<;>rfl
theorem VF(L:Ns):∀m,L.len=m+1->yl L=L.nth m:=by
 induction L with
 |nil=>intro m h;simp [Ns.len]at h
 |cons t v k r _ ih=>
  intro m h
  simp only [Ns.len]at h
  cases r with
  |nil=>
   simp only [Ns.len]at h
   obtain rfl:m=0:=by omega
   rfl
  |cons t' v' k' r'=>
   obtain⟨j,rfl⟩:∃j,m=j+1:=⟨m - 1,by simp only [Ns.len]at h;omega⟩
   exact ih j (by omega)
section
variable{w:World}{S:Nat->Prop}
include w S
theorem NsAt.nth(L:Ns):∀(b off i:Nat),NsAt w S L b off->i<L.len->
 w.cell? ⟨b,off+i*3,none⟩=some (.int .i64 (L.nth i).1)/\kB (L.nth i).1/\(∃A c,w.cell? ⟨b,off+i*3+1,none⟩=some (.slice A (L.nth i).2.1.length c)/\BsS w S (.slice A (L.nth i).2.1.length c) (L.nth i).2.1)/\(∃A c,w.cell? ⟨b,off+i*3+2,none⟩=some (.slice A (L.nth i).2.2.len c)):=by
 induction L with
 |nil=>intro _ _ _ _ h;simp [Ns.len]at h
 |cons t v k r _ ih=>
  intro b off i h hi
  obtain⟨h1,h2,⟨x,h3,h4⟩,⟨a,c,h5,_⟩,h6⟩:=h
  cases i with
  |zero=>
   obtain⟨A,d,rfl⟩:=Bs.formL h4
   simp only [Nat.zero_mul,Nat.add_zero]
   exact⟨h1,h2,⟨A,d,h3,h4⟩,⟨a,c,h5⟩⟩
  |succ i=>
   simp only [Ns.len]at hi
   have:=ih b (off+3) i h6 (by omega)
   rw [show off+(i+1)*3=off+3+i*3 by omega]
   exact this
theorem NsAt.dropN(i:Nat):∀(L:Ns) (b off:Nat),NsAt w S L b off->NsAt w S (L.dropN i) b (off+i*3):=by
 induction i with
 |zero=>
  intro L b off h
  have:L.dropN 0=L:=by cases L<;>rfl
  rw [this];simpa using h
 |succ i ih=>
  intro L b off h
  cases L with
  |nil=>exact trivial
  |cons t v k r=>
   obtain⟨_,_,_,_,h6⟩:=h
   have:=ih r b (off+3) h6
   rw [show off+(i+1)*3=off+3+i*3 by omega]
   exact this
theorem NsAt.takeN(i:Nat):∀(L:Ns) (b off:Nat),NsAt w S L b off->NsAt w S (L.takeN i) b off:=by
 induction i with
 |zero=>
  intro L b off h
  have:L.takeN 0=.nil:=by cases L<;>rfl
  rw [this];exact trivial
 |succ i ih=>
  intro L b off h
  cases L with
  |nil=>exact trivial
  |cons t v k r=>
   obtain⟨h1,h2,h3,h4,h6⟩:=h
   exact⟨h1,h2,h3,h4,ih r b (off+3) h6⟩
end
theorem VJ(L:Ns):∀i,(L.dropN i).len=L.len - i:=by
 induction L with
 |nil=>intro i;cases i<;>simp [Ns.dropN,Ns.len]
 |cons t v k r _ ih=>
  intro i
  cases i with
  |zero=>rfl
  |succ i=>simp only [Ns.dropN,Ns.len,ih];omega
theorem xU(L:Ns):∀i,(L.takeN i).len=min i L.len:=by
 induction L with
 |nil=>intro i;cases i<;>simp [Ns.takeN,Ns.len]
 |cons t v k r _ ih=>
  intro i
  cases i with
  |zero=>simp [Ns.takeN,Ns.len]
  |succ i=>simp only [Ns.takeN,Ns.len,ih];omega
theorem JY(i:Nat):∀(L:Ns),xe (L.dropN i)=L.nth i:=by
 induction i with
 |zero=>intro L;cases L<;>rfl
 |succ i ih=>
  intro L
  cases L with
  |nil=>rfl
  |cons t v k r=>exact ih r
theorem NsS.part{w:World}{S:Nat->Prop}{b off n c:Nat}{L:Ns}(h:NsS w S (.slice (some ⟨b,off,none⟩) n c) L)(i m n' c' off':Nat)(hi:i+m<=L.len)(hm:n'=m)(hc:m<=c')(hcm:c'<=maxLen)(ho:off'=off+i*3)(hp:0<m):NsS w S (.slice (some ⟨b,off',none⟩) n' c') ((L.dropN i).takeN m):=by
 subst hm ho
 obtain⟨a,d,e,h1,h2,h3,h4⟩:=h
 injection e with e1 e2 e3
 subst e1 e3
 have hl:((L.dropN i).takeN n').len=n':=by rw [xU,VJ];omega
 obtain⟨b',o',e,hs,hb,hat⟩:=h4 (by omega)
 injection e with e
 injection e with e1 e2
 subst e1 e2
 exact⟨_,c',by rw [hl],by omega,hcm,by omega,fun _=>⟨b,off+i*3,rfl,hs,hb,NsAt.takeN _ _ _ _ (NsAt.dropN _ _ _ _ hat)⟩⟩
theorem xn(t tag size:Int)(va ka:Option Addr)(vl vc kl kc:Nat)(w:World):
 Calls Tryz.prog 72 #[.agg #[.int .i64 t,.slice va vl vc,.slice ka kl kc],.int .i64 tag,.int .i64 size] w fun e w'=>e=.returned (.bool (decide (t=tag)&&(decide (kl=0)&&(decide (size<0)||decide ((vl:Int)=size)))))/\Below w.heap.size w w':=by
 have hB:Below w.heap.size w (w.alloc (.cells #[.int .i64 t,.slice va vl vc,.slice ka kl kc] 61)):=iA
 have HB:=iH hB
 clear hB
 have e1:(t==tag)=decide (t=tag):=rfl
 have e2:((kl:Int)==0)=decide (kl=0):=by rw [Bool.eq_iff_iff,beq_iff_eq,decide_eq_true_eq];omega
 have e4:((vl:Int)==size)=decide ((vl:Int)=size):=rfl
 by_cases h1:t=tag
 ·rw [decide_eq_true h1]at e1 |-
  clear h1
  by_cases h2:kl=0
  ·rw [decide_eq_true h2]at e2 |-
   clear h2
   by_cases h3:size<0
   ·rw [decide_eq_true h3]
    have t3:decide (size<0)=true:=decide_eq_true h3
    clear h3 e4
    exact my
   ·rw [decide_eq_false h3]
    have t3:decide (size<0)=false:=decide_eq_false h3
    by_cases h4:(vl:Int)=size
    ·rw [decide_eq_true h4]at e4 |-
     clear h3 h4
     exact my
    ·rw [decide_eq_false h4]at e4 |-
     clear h3 h4
     exact my
  ·rw [decide_eq_false h2]at e2 |-
   clear h2 e4
   exact my
 ·rw [decide_eq_false h1]at e1 |-
  clear h1 e2 e4
  exact my
theorem yu(x:Int×List UInt8×Ns)(t:Int)(n:Nat):(decide (x.1=t)&&(decide (x.2.2.len=0)&&(decide ((n:Int)<0)||decide ((x.2.1.length:Int)=n))))=q8 x t n:=by
 unfold q8
 rw [decide_eq_false (show ¬((n:Int)<0)by omega),Bool.false_or]
 congr 3
 exact propext ⟨fun h=>by omega,fun h=>by omega⟩
theorem ZL(t:Int)(va ka:Option Addr)(v:List UInt8)(vc kc:Nat)(k:Ns)(S:Nat->Prop)(w:World)(hv:BsS w S (.slice va v.length vc) v):
 Calls Tryz.prog 98 #[.agg #[.int .i64 t,.slice va v.length vc,.slice ka k.len kc]] w fun e w'=>e=.returned (.bool (kF (t,v,k)))/\Below w.heap.size w w':=by
 obtain⟨w0,hw0⟩:∃w0,w0=w.alloc (.cells #[.int .i64 t,.slice va v.length vc,.slice ka k.len kc] 61):=⟨_,rfl⟩
 have hB:Below w.heap.size w w0:=by rw [hw0];exact iA
 have hr:w0.heap[w.heap.size]?=some (.cells #[.int .i64 t,.slice va v.length vc,.slice ka k.len kc] 61 (0,0)):=by rw [hw0];exact iN
 have hlt:=(iG hr)
 have CS:Hid (∀W,Below w0.heap.size w0 W->W.cell? ⟨w.heap.size,0,none⟩=some (.int .i64 t)/\W.cell? ⟨w.heap.size,1,none⟩=some (.slice va v.length vc)/\W.cell? ⟨w.heap.size,2,none⟩=some (.slice ka k.len kc)):=iH fun W h=>(by obtain⟨a,b,c,_⟩:=j7 ((h.block w.heap.size hlt).trans hr);exact⟨a,b,c⟩)
 have HB:=iH hB;have HW0:=iH hw0
 have HPR:=iH (xn t 135 (-1) va ka v.length vc k.len kc w0)
 obtain⟨o1,ho1⟩:∃o,(decide (t=135)&&decide (k.len=0))=o:=⟨_,rfl⟩
 have e1:(decide (t=135)&&(decide (k.len=0)&&(decide ((-1:Int)<0)||decide ((v.length:Int)= -1))))=o1:=by rw [<-ho1,decide_eq_true (show(-1:Int)<0 by decide),Bool.true_or,Bool.and_true]
 rw [e1]at HPR
 have HV:Hid (∀W,Below w0.heap.size w0 W->BsS W (fun b=>b<w0.heap.size) (.slice va v.length vc) v):=iH (fun W h=>BsS.keep hv fun g hs hl=>⟨(h.block g (iZ hl hB.size)).trans (hB.block g hl),iZ hl hB.size⟩)
 have RQ:Hid (kF (t,v,k)=(o1&&(decide (17<=v.length)&&(decide (v.length % 16=1)&&decide (gb v 0=1))))):=iH (by unfold kF;rw [<-ho1,Bool.and_assoc])
 clear hB hr hlt hw0 ho1 e1 hv
 have ARM:True:=trivial
 cases o1 with
 |false=>
  exact mP
 |true=>
  by_cases h17:17<=v.length
  ·have t17:decide ((v.length:Int)>=17)=true:=decide_eq_true (by omega)
   have t16:(((v.length:Int) % 16)==1)=decide (v.length % 16=1):=by rw [Bool.eq_iff_iff,beq_iff_eq,decide_eq_true_eq];omega
   rw [decide_eq_true h17]at RQ
   obtain⟨o2,ho2⟩:∃o,decide (v.length % 16=1)=o:=⟨_,rfl⟩
   rw [ho2]at RQ t16
   clear ho2
   obtain⟨b,off,hva⟩:=QY (HV.out w0 iB) (by omega)
   subst hva
   have HV2:Hid (∀W,Below w0.heap.size w0 W->W.cell? ⟨b,off,none⟩=some (U8 (gb v 0))):=iH (fun W h=>by
    obtain⟨a,c,e,_,_,_,h4⟩:=HV.out W h
    injection e with e1 _ _
    subst e1
    obtain⟨b',o',e,_,hc⟩:=h4 (by omega)
    injection e with e
    injection e with e1 e2
    subst e1 e2
    exact hc 0 (by omega))
   have hvl:0<v.length:=by omega
   clear HV h17
   cases o2 with
   |false=>
    exact mP
   |true=>
    have RQ2:Hid (kF (t,v,k)=(gb v 0==1)):=iH (by rw [RQ.out];simp;rfl)
    go_enter Tryz.func98,Tryz.ntmps98
    go_upto_region 1 with fail
    rw [<-HW0.out]
    obtain⟨c0,c1,c2⟩:=CS.out w0 iB
    go_wp2_with(go_at_call 72;refine HPR.out.mono ?_;rintro e w1 ⟨rfl,hb⟩;have HB1:=iH hb;clear c0 c1 c2;obtain⟨c0,c1,c2⟩:=CS.out w1 hb;have c9:=HV2.out w1 hb;clear hb)
    go_ret
    rw [RQ2.out]
    exact⟨rfl,HB.out.trans (HB1.out.mono HB.out.size)⟩
  ·have t17:decide ((v.length:Int)>=17)=false:=decide_eq_false (by omega)
   rw [decide_eq_false h17]at RQ
   clear h17 HV
   exact mP
def zN:Ns->Int->Int->Int
 |.nil,_,_=> -1
 |.cons t _ _ r,g,j=>if t=g then j else zN r g (j+1)
theorem yT(g:Int)(L:Ns):∀j,0<=j->((L.pick g).isSome=decide (0<=zN L g j)):=by
 induction L with
 |nil=>intro j _;rfl
 |cons t v k r _ ih=>
  intro j hj
  rw [Ns.pick,zN]
  split
  ·simp [hj]
  ·exact ih (j+1) (by omega)
theorem KW(L:Ns)(v:Value)(S:Nat->Prop)(g:Int)(w:World)(hv:NsS w S v L)(hl:L.len<=1000000):Calls Tryz.prog 70 #[v,.int .i64 g] w fun e w'=>e=.returned (.int .i64 (zN L g 0))/\w'=w:=by
 obtain⟨a,c,rfl⟩:=hv.form3
 obtain⟨pb,po,HAT⟩:∃b o,Hid (0<L.len->a=some ⟨b,o,none⟩/\NsAt w S L b o):=by
  obtain⟨_,_,e,_,_,_,h4⟩:=hv
  injection e with e1 _ e3
  subst e1 e3
  rcases Nat.eq_zero_or_pos L.len with h0|h0
  ·exact⟨0,0,fun h=>by omega⟩
  ·obtain⟨b,o,h1,_,_,h2⟩:=h4 h0
   exact⟨b,o,fun _=>⟨h1,h2⟩⟩
 clear hv
 go_enter Tryz.func70,Tryz.ntmps70
 go_wp2_with fail
 go_loopg [5] L.len (fun m i wr=>∃(j:Nat) (M:Ns),M.len=m/\j+M.len=L.len/\i=.int .i64 j/\Hid (M=L.dropN j)/\Hid (zN L g 0=zN M g j)/\wr=w)
 case atStart=>exact⟨0,L,rfl,by omega,rfl,iH (by cases L<;>rfl),iH rfl,rfl⟩
 case round=>
  obtain⟨j,M,rfl,hj,rfl,hM,hF,rfl⟩:=hrel
  cases M with
  |nil=>
   simp only [Ns.len,Nat.add_zero]at hj
   have HR:Hid (zN L g 0= -1):=iH hF.out
   clear hM hF
   exact m4b
  |cons t v k r=>
   simp only [Ns.len]at hj
   have hlt:j<L.len:=by omega
   obtain⟨rfl,hat⟩:=HAT.out (by omega)
   have hn:=JY j L
   rw [<-hM.out]at hn
   obtain⟨q0,_,_,_⟩:=NsAt.nth L pb po j hat hlt
   rw [<-hn]at q0
   simp only [xe]at q0
   have HM2:Hid (r=L.dropN (j+1)):=iH (by
    have e:∀(i:Nat) (L M:Ns) (t:Int) (v:List UInt8) (k:Ns),.cons t v k M=L.dropN i->M=L.dropN (i+1):=by
     exact m1c
    exact e j L r t v k hM.out)
   by_cases ht:t=g
   ·have HR:Hid (zN L g 0=j):=iH (by rw [hF.out,zN,iT ht])
    have t9:(t==g)=true:=by simp [ht]
    clear hM hF hat hn ht HM2
    exact m4b
   ·have HR:Hid (zN L g 0=zN r g ((j+1:Nat):Int)):=iH (by rw [hF.out,zN,iF ht]<;>rfl)
    have t9:(t==g)=false:=by simp [ht]
    clear hM hF hat hn ht
    go_wp2_with fail
    go_roundg r.len
    case measure=>simp [Ns.len]
    case rel=>exact⟨j+1,r,rfl,by omega,by go_num,HM2,HR,rfl⟩
theorem XY(L:Ns)(tg:Int)(m:Nat)(hL:L.len=m+1)(hl:m<=1000000)(v:Value)(w:World)(hv:NsS w (·<w.heap.size) v L):
 Calls Tryz.prog 71 #[v,.int .i64 tg] w fun e w'=>∃c d k,e=.returned (.tuple #[c,d,k,.bool (jB tg L).2.2.2])/\BsS w' (·<w.heap.size) c (jB tg L).1/\NsS w' (·<w.heap.size) d (jB tg L).2.1/\BsS w' (·<w.heap.size) k (jB tg L).2.2.1/\Below w.heap.size w w':=by
 obtain⟨a,c,rfl⟩:=hv.form3
 obtain⟨b,off,rfl,hbl,hat⟩:∃b off,a=some ⟨b,off,none⟩/\b<w.heap.size/\NsAt w (·<w.heap.size) L b off:=by
  obtain⟨_,_,e,_,_,_,h4⟩:=hv
  injection e with e1 _ e3
  subst e1 e3
  obtain⟨b,off,h1,_,h2,h3⟩:=h4 (by omega)
  exact⟨b,off,h1,h2,h3⟩
 have hc:m+1<=c/\c<=maxLen:=by
  obtain⟨_,_,e,h1,h2,_⟩:=hv
  injection e with _ _ e3
  subst e3
  exact⟨by omega,h2⟩
 have hcap:=hc.1
 have hcm:c<=9223372036854775807:=by have:=hc.2;unfold maxLen at this;omega
 obtain⟨l0,_,⟨lA,lc,l1,lB⟩,⟨lK,lkc,l2⟩⟩:=NsAt.nth L b off m hat (by omega)
 obtain⟨f0,_,⟨fA,fc,f1,fB⟩,⟨fK,fkc,f2⟩⟩:=NsAt.nth L b off 0 hat (by omega)
 rw [Nat.zero_mul,Nat.add_zero]at f0 f1 f2
 have HLI:Hid (yl L=L.nth m):=iH (VF L m hL)
 have HHI:Hid (xe L=L.nth 0):=iH (Vw L)
 obtain⟨⟨t,lv,lk⟩,hlast⟩:∃x,L.nth m=x:=⟨_,rfl⟩
 obtain⟨⟨t1,fv,fk⟩,hfirst⟩:∃x,L.nth 0=x:=⟨_,rfl⟩
 rw [hlast]at l0 l1 l2 lB HLI
 rw [hfirst]at f0 f1 f2 fB HHI
 simp only at l0 l1 l2 lB f0 f1 f2 fB
 have keepc:∀(W:World) (o:Nat) (x:Value),Below w.heap.size w W->w.cell? ⟨b,o,none⟩=some x->W.cell? ⟨b,o,none⟩=some x:=fun W o x h e=>(h.cell (p:=⟨b,o,none⟩) hbl).trans e
 have CL:Hid (∀W,Below w.heap.size w W->W.cell? ⟨b,off+m*3,none⟩=some (.int .i64 t)/\W.cell? ⟨b,off+m*3+1,none⟩=some (.slice lA lv.length lc)/\W.cell? ⟨b,off+m*3+2,none⟩=some (.slice lK lk.len lkc)):=iH fun W h=>⟨keepc _ _ _ h l0,keepc _ _ _ h l1,keepc _ _ _ h l2⟩
 have CF:Hid (∀W,Below w.heap.size w W->W.cell? ⟨b,off,none⟩=some (.int .i64 t1)/\W.cell? ⟨b,off+1,none⟩=some (.slice fA fv.length fc)/\W.cell? ⟨b,off+2,none⟩=some (.slice fK fk.len fkc)):=iH fun W h=>⟨keepc _ _ _ h f0,keepc _ _ _ h f1,keepc _ _ _ h f2⟩
 have HP2:Hid (1<=m->∃t2:Int,(xe (L.dropN 1)).1=t2/\∀W,Below w.heap.size w W->W.cell? ⟨b,off+3,none⟩=some (.int .i64 t2)):=iH fun h1=>by
  obtain⟨g0,_⟩:=NsAt.nth L b off 1 hat (by omega)
  exact⟨_,rfl,fun W h=>by rw [JY];exact keepc _ _ _ h (by simpa using g0)⟩
 have HPR:Hid (Calls Tryz.prog 72 #[.agg #[.int .i64 t,.slice lA lv.length lc,.slice lK lk.len lkc],.int .i64 142,.int .i64 8] w fun e w'=>e=.returned (.bool (q8 (t,lv,lk) 142 8))/\Below w.heap.size w w'):=iH (by
  have h:=xn t 142 8 lA lK lv.length lc lk.len lkc w
  have e:(decide (t=142)&&(decide (lk.len=0)&&(decide ((8:Int)<0)||decide ((lv.length:Int)=8))))=q8 (t,lv,lk) 142 8:=yu (t,lv,lk) 142 8
  rw [e]at h
  exact h)
 have HSE:Hid (∀W,Below w.heap.size w W->Calls Tryz.prog 98 #[.agg #[.int .i64 t1,.slice fA fv.length fc,.slice fK fk.len fkc]] W fun e w'=>e=.returned (.bool (kF (t1,fv,fk)))/\Below W.heap.size W w'):=iH (fun W h=>ZL t1 fA fK fv fc fkc fk (·<w.heap.size) W (BsS.keep fB fun g hs _=>⟨h.block g hs,hs⟩))
 have LBV:Hid (∀W,Below w.heap.size w W->BsS W (·<w.heap.size) (.slice lA lv.length lc) lv):=iH (fun W h=>BsS.keep lB fun g hs _=>⟨h.block g hs,hs⟩)
 have FBV:Hid (∀W,Below w.heap.size w W->BsS W (·<w.heap.size) (.slice fA fv.length fc) fv):=iH (fun W h=>BsS.keep fB fun g hs _=>⟨h.block g hs,hs⟩)
 have HNV:Hid (∀W,Below w.heap.size w W->NsS W (·<w.heap.size) (.slice (some ⟨b,off,none⟩) L.len c) L):=iH (fun W h=>hv.keep fun g hs _=>⟨h.block g hs,hs⟩)
 have HLL:=iH hL;have HCM:=iH hc.2
 rw [hL]
 clear hv hat l0 l1 l2 lB f0 f1 f2 fB keepc hlast hfirst hL hc
 cases hpq:q8 (t,lv,lk) 142 8 with
 |false=>
  have R:Hid (jB tg L=([],.nil,[],false)):=iH (by unfold jB;rw [HLI.out,iT hpq])
  rw [hpq]at HPR
  clear hpq
  go_enter Tryz.func71,Tryz.ntmps71
  obtain⟨q0,q1,q2⟩:=CL.out w iB
  go_wp2_with(go_at_call 72;refine HPR.out.mono ?_;rintro e w1 ⟨rfl,hb⟩;have HB1:=iH hb;clear q0 q1 q2;obtain⟨q0,q1,q2⟩:=CL.out w1 hb;obtain⟨p0,p1,p2⟩:=CF.out w1 hb;clear hb)
  refine bodyPost_ret (kL rfl _ _ _) rfl ?_
  rw [R.out]
  exact⟨_,_,_,rfl,BsS.nil0 _ _,NsS.nil0 _ _,BsS.nil0 _ _,HB1.out⟩
 |true=>
  rw [hpq]at HPR
  have HPQ:=iH hpq
  clear hpq
  rcases Nat.eq_zero_or_pos m with h0|h0
  ·subst h0
   have R:Hid (jB tg L=([],.nil,lv,true)):=iH (by unfold jB;rw [HLI.out,iF (by rw [HPQ.out];simp),iF (by rw [HLL.out];simp),iT HLL.out])
   simp only [Nat.zero_mul,Nat.add_zero]at CL
   go_enter Tryz.func71,Tryz.ntmps71
   obtain⟨q0,q1,q2⟩:=CL.out w iB
   go_wp2_with(first|go_quiet (fail)|(go_at_call 72;refine HPR.out.mono ?_;rintro e w1 ⟨rfl,hb⟩;have HB1:=iH hb;clear q0 q1 q2;obtain⟨q0,q1,q2⟩:=CL.out w1 hb;obtain⟨p0,p1,p2⟩:=CF.out w1 hb;clear hb))
   refine bodyPost_ret (kL rfl _ _ _) rfl ?_
   rw [R.out]
   exact⟨_,_,_,rfl,BsS.nil0 _ _,NsS.nil0 _ _,LBV.out _ (j4 HB1.out _),j4 HB1.out _⟩
  ·have tm:decide ((m:Int)>0)=true:=decide_eq_true (by omega)
   have CG:Hid (∀W,Below w.heap.size w W->W.cell? ⟨b,off,none⟩=some (.int .i64 t1)/\W.cell? ⟨b,off+1,none⟩=some (.slice fA fv.length fc)/\W.cell? ⟨b,off+2,none⟩=some (.slice fK fk.len fkc)):=CF
   cases hsq:kF (t1,fv,fk)with
   |true=>
    rw [hsq]at HSE
    have HSQ:=iH hsq
    have hf17:17<=fv.length:=(qE (zT hsq).2.2).1
    clear hsq
    obtain⟨fb,fo,hfa⟩:=QY (FBV.out w iB) (by omega)
    subst hfa
    have hfc:fv.length<=fc/\fc<=9223372036854775807:=by
     obtain⟨_,_,e,h1,h2,_⟩:=FBV.out w iB
     injection e with _ _ e3
     subst e3
     exact⟨h1,h2⟩
    obtain⟨fd,rfl⟩:∃d,fc=d+1:=⟨fc - 1,by omega⟩
    obtain⟨q,hq⟩:∃q,fv.length=q+1:=⟨fv.length - 1,by omega⟩
    have FCV:Hid (∀W,Below w.heap.size w W->BsS W (·<w.heap.size) (.slice (some ⟨fb,fo+1,none⟩) q fd) (fv.drop 1)):=iH (fun W h=>Yg (FBV.out W h) 1 (by omega) q fd (by omega) (by omega))
    rw [hq]at CG HSE CF hfc hf17
    have hfc1:=hfc.1;have hfc2:=hfc.2
    have hfd:¬fd=0:=by omega
    clear FBV hfc hq
    by_cases h1:m=1
    ·subst h1
     have R:Hid (jB tg L=(fv.drop 1,.nil,lv,true)):=iH (by unfold jB;rw [HLI.out,HHI.out,iF (by rw [HPQ.out];simp),iT (by rw [HSQ.out,HLL.out];simp),iT HLL.out])
     go_enter Tryz.func71,Tryz.ntmps71
     obtain⟨q0,q1,q2⟩:=CL.out w iB
     go_wp2_with(first|go_quiet (fail)|(go_at_call 98;refine(HSE.out w1 HB1.out).mono ?_;rintro e w2 ⟨rfl,hb0⟩;have hb:=HB1.out.trans (hb0.mono HB1.out.size);have HB2:=iH hb;clear q0 q1 q2 p0 p1 p2;obtain⟨q0,q1,q2⟩:=CL.out w2 hb;obtain⟨p0,p1,p2⟩:=CF.out w2 hb;obtain⟨z0,z1,z2⟩:=CG.out w2 hb;clear hb hb0)|(go_at_call 72;refine HPR.out.mono ?_;rintro e w1 ⟨rfl,hb⟩;have HB1:=iH hb;clear q0 q1 q2;obtain⟨q0,q1,q2⟩:=CL.out w1 hb;obtain⟨p0,p1,p2⟩:=CF.out w1 hb;clear hb))
     refine bodyPost_ret (kL rfl _ _ _) rfl ?_
     rw [R.out]
     exact⟨_,_,_,rfl,FCV.out _ (j4 HB2.out _),NsS.nil0 _ _,LBV.out _ (j4 HB2.out _),j4 HB2.out _⟩
    ·have tm1:((m:Int)==1)=false:=by simp;omega
     obtain⟨t2,ht2,HC2⟩:=HP2.out h0
     have HC2:=iH HC2
     have NP:Hid (∀W,Below w.heap.size w W->NsS W (·<w.heap.size) (.slice (some ⟨b,off+3,none⟩) 1 (c - 1)) ((L.dropN 1).takeN 1)):=iH (fun W h=>(HNV.out W h).part 1 1 1 (c - 1) (off+3) (by have:=HLL.out;omega) rfl (by omega) (by have:=HCM.out;omega) rfl (by decide))
     by_cases h2:m=2
     ·have R:Hid (jB tg L=(fv.drop 1,(L.dropN 1).takeN 1,lv,t2==tg)):=iH (by
       unfold jB
       rw [HLI.out,HHI.out,iF (by rw [HPQ.out];simp),iT (by rw [HSQ.out,HLL.out];simp;omega),iF (by rw [HLL.out];omega),HLL.out,ht2,decide_eq_true (show m+1=3 by omega)]
       rfl)
      clear ht2 h1
      subst h2
      go_enter Tryz.func71,Tryz.ntmps71
      obtain⟨q0,q1,q2⟩:=CL.out w iB
      go_upto_region 10 with (first|(go_at_call 98;refine(HSE.out w1 HB1.out).mono ?_;rintro e w2 ⟨rfl,hb0⟩;have hb:=HB1.out.trans (hb0.mono HB1.out.size);have HB2:=iH hb;clear q0 q1 q2 p0 p1 p2;obtain⟨q0,q1,q2⟩:=CL.out w2 hb;obtain⟨p0,p1,p2⟩:=CF.out w2 hb;obtain⟨z0,z1,z2⟩:=CG.out w2 hb;clear hb hb0;have z3:=HC2.out w2 HB2.out)|(go_at_call 72;refine HPR.out.mono ?_;rintro e w1 ⟨rfl,hb⟩;have HB1:=iH hb;clear q0 q1 q2;obtain⟨q0,q1,q2⟩:=CL.out w1 hb;obtain⟨p0,p1,p2⟩:=CF.out w1 hb;clear hb))
      go_quiet (fail)
      go_wp2_with fail
      refine bodyPost_ret (kL rfl _ _ _) rfl ?_
      rw [R.out]
      exact⟨_,_,_,rfl,FCV.out _ (j4 HB2.out _),NP.out _ (j4 HB2.out _),LBV.out _ (j4 HB2.out _),j4 HB2.out _⟩
     ·have tm2:((m:Int)==2)=false:=by simp;omega
      have R:Hid (jB tg L=(fv.drop 1,(L.dropN 1).takeN 1,lv,false)):=iH (by
       unfold jB
       rw [HLI.out,HHI.out,iF (by rw [HPQ.out];simp),iT (by rw [HSQ.out,HLL.out];simp;omega),iF (by rw [HLL.out];omega),HLL.out,decide_eq_false (show ¬m+1=3 by omega)]
       rfl)
      clear ht2 h1 h2
      go_enter Tryz.func71,Tryz.ntmps71
      obtain⟨q0,q1,q2⟩:=CL.out w iB
      go_upto_region 10 with (first|(go_at_call 98;refine(HSE.out w1 HB1.out).mono ?_;rintro e w2 ⟨rfl,hb0⟩;have hb:=HB1.out.trans (hb0.mono HB1.out.size);have HB2:=iH hb;clear q0 q1 q2 p0 p1 p2;obtain⟨q0,q1,q2⟩:=CL.out w2 hb;obtain⟨p0,p1,p2⟩:=CF.out w2 hb;obtain⟨z0,z1,z2⟩:=CG.out w2 hb;clear hb hb0;have z3:=HC2.out w2 HB2.out)|(go_at_call 72;refine HPR.out.mono ?_;rintro e w1 ⟨rfl,hb⟩;have HB1:=iH hb;clear q0 q1 q2;obtain⟨q0,q1,q2⟩:=CL.out w1 hb;obtain⟨p0,p1,p2⟩:=CF.out w1 hb;clear hb))
      go_quiet (fail)
      go_wp2_with fail
      refine bodyPost_ret (kL rfl _ _ _) rfl ?_
      rw [R.out]
      exact⟨_,_,_,rfl,FCV.out _ (j4 HB2.out _),NP.out _ (j4 HB2.out _),LBV.out _ (j4 HB2.out _),j4 HB2.out _⟩
   |false=>
    rw [hsq]at HSE
    have HSQ:=iH hsq
    clear hsq FBV
    have tm0:((m:Int)==0)=false:=by simp;omega
    have NP:Hid (∀W,Below w.heap.size w W->NsS W (·<w.heap.size) (.slice (some ⟨b,off,none⟩) 1 c) (L.takeN 1)):=iH (fun W h=>by
     have h:=(HNV.out W h).part 0 1 1 c off (by have:=HLL.out;omega) rfl (by omega) HCM.out (by omega) (by decide)
     rw [show L.dropN 0=L by cases L<;>rfl]at h
     exact h)
    by_cases h2:m=1
    ·have R:Hid (jB tg L=([],L.takeN 1,lv,t1==tg)):=iH (by
      unfold jB
      rw [HLI.out,HHI.out,iF (by rw [HPQ.out];simp),iF (by rw [HSQ.out];simp),iF (by rw [HLL.out];omega),HLL.out,decide_eq_true (show m+1=2 by omega)]
      rfl)
     subst h2
     go_enter Tryz.func71,Tryz.ntmps71
     obtain⟨q0,q1,q2⟩:=CL.out w iB
     go_upto_region 10 with (first|(go_at_call 98;refine(HSE.out w1 HB1.out).mono ?_;rintro e w2 ⟨rfl,hb0⟩;have hb:=HB1.out.trans (hb0.mono HB1.out.size);have HB2:=iH hb;clear q0 q1 q2 p0 p1 p2;obtain⟨q0,q1,q2⟩:=CL.out w2 hb;obtain⟨p0,p1,p2⟩:=CF.out w2 hb;obtain⟨z0,z1,z2⟩:=CG.out w2 hb;clear hb hb0)|(go_at_call 72;refine HPR.out.mono ?_;rintro e w1 ⟨rfl,hb⟩;have HB1:=iH hb;clear q0 q1 q2;obtain⟨q0,q1,q2⟩:=CL.out w1 hb;obtain⟨p0,p1,p2⟩:=CF.out w1 hb;clear hb))
     go_quiet (fail)
     go_wp2_with fail
     refine bodyPost_ret (kL rfl _ _ _) rfl ?_
     rw [R.out]
     exact⟨_,_,_,rfl,BsS.nil0 _ _,NP.out _ (j4 HB2.out _),LBV.out _ (j4 HB2.out _),j4 HB2.out _⟩
    ·have tm1:((m:Int)==1)=false:=by simp;omega
     have R:Hid (jB tg L=([],L.takeN 1,lv,false)):=iH (by
      unfold jB
      rw [HLI.out,HHI.out,iF (by rw [HPQ.out];simp),iF (by rw [HSQ.out];simp),iF (by rw [HLL.out];omega),HLL.out,decide_eq_false (show ¬m+1=2 by omega)]
      rfl)
     clear h2
     go_enter Tryz.func71,Tryz.ntmps71
     obtain⟨q0,q1,q2⟩:=CL.out w iB
     go_upto_region 10 with (first|(go_at_call 98;refine(HSE.out w1 HB1.out).mono ?_;rintro e w2 ⟨rfl,hb0⟩;have hb:=HB1.out.trans (hb0.mono HB1.out.size);have HB2:=iH hb;clear q0 q1 q2 p0 p1 p2;obtain⟨q0,q1,q2⟩:=CL.out w2 hb;obtain⟨p0,p1,p2⟩:=CF.out w2 hb;obtain⟨z0,z1,z2⟩:=CG.out w2 hb;clear hb hb0)|(go_at_call 72;refine HPR.out.mono ?_;rintro e w1 ⟨rfl,hb⟩;have HB1:=iH hb;clear q0 q1 q2;obtain⟨q0,q1,q2⟩:=CL.out w1 hb;obtain⟨p0,p1,p2⟩:=CF.out w1 hb;clear hb))
     go_quiet (fail)
     go_wp2_with fail
     refine bodyPost_ret (kL rfl _ _ _) rfl ?_
     rw [R.out]
     exact⟨_,_,_,rfl,BsS.nil0 _ _,NP.out _ (j4 HB2.out _),LBV.out _ (j4 HB2.out _),j4 HB2.out _⟩
def VRow(w:World)(g:Nat)(vs:List (List UInt8)):Prop:=∃C:Array Value,w.heap[g]?=some (.cells C 27 (0,0))/\C.size=3/\∀j,j<3->∃a c,C[j]?=some (.slice a (gl vs j).length c)/\BsS w (·<g) (.slice a (gl vs j).length c) (gl vs j)
section
variable{w:World}{g:Nat}{vs:List (List UInt8)}(h:VRow w g vs)
include w g vs h
theorem VRow.cell(j:Nat)(hj:j<3):∃a c,w.cell? ⟨g,j,none⟩=some (.slice a (gl vs j).length c)/\BsS w (·<g) (.slice a (gl vs j).length c) (gl vs j):=by
 obtain⟨C,h1,_,h3⟩:=h
 obtain⟨a,c,h4,h5⟩:=h3 j hj
 exact⟨a,c,by rw [cell_of_row _ _ _ _ _ _ h1];exact h4,h5⟩
theorem VRow.fz(o:Nat):w.frozen? ⟨g,o,none⟩=false:=by
 obtain⟨C,h1,_⟩:=h
 simp [World.frozen?,h1]
end
theorem VRow.keep{w w':World}{g:Nat}{vs:List (List UInt8)}(h:VRow w g vs)(hk:∀b,b<=g->w'.heap[b]?=w.heap[b]?):VRow w' g vs:=by
 obtain⟨C,h1,h2,h3⟩:=h
 refine⟨C,(hk g iL).trans h1,h2,fun j hj=> ?_⟩
 obtain⟨a,c,h4,h5⟩:=h3 j hj
 exact⟨a,c,h4,h5.keep fun b hs _=>⟨hk b (Nat.le_of_lt hs),hs⟩⟩
theorem VRow.lt{w:World}{g:Nat}{vs:List (List UInt8)}(h:VRow w g vs):g<w.heap.size:=by
 obtain⟨C,h1,_⟩:=h
 exact(iG h1)
theorem VRow.below{w w':World}{g:Nat}{vs:List (List UInt8)}(h:VRow w g vs)(hb:Below w.heap.size w w'):VRow w' g vs:=h.keep fun b hs=>hb.block b (Nat.lt_of_le_of_lt hs h.lt)
section
variable(vs:List (List UInt8))(v:List UInt8)
include vs v
theorem KL(j:Nat)(h:j<vs.length):gl (vs++ [v]) j=gl vs j:=by
 unfold gl;rw [List.getD_eq_getElem?_getD,List.getElem?_append_left h,<-List.getD_eq_getElem?_getD]
theorem yU:gl (vs++ [v]) vs.length=v:=by
 unfold gl;rw [List.getD_eq_getElem?_getD,List.getElem?_append_right iL];simp
theorem KK(j:Nat)(h:vs.length<j):gl (vs++ [v]) j=gl vs j:=by
 unfold gl
 rw [List.getD_eq_getElem?_getD,List.getD_eq_getElem?_getD,List.getElem?_eq_none (by simp;omega),List.getElem?_eq_none (by omega)]
end
theorem j6p(vs:List (List UInt8)):gl vs vs.length= []:=by unfold gl;rw [List.getD_eq_getElem?_getD,List.getElem?_eq_none iL]<;>rfl
section
variable{w:World}{g:Nat}{vs:List (List UInt8)}(h:VRow w g vs)
include w g vs h
theorem VRow.skip:VRow w g (vs++ [[]]):=by
 obtain⟨C,h1,h2,h3⟩:=h
 refine⟨C,h1,h2,fun j hj=> ?_⟩
 have e:gl (vs++ [[]]) j=gl vs j:=by
  rcases Nat.lt_trichotomy j vs.length with h|h|h
  ·exact KL _ _ _ h
  ·subst h;rw [yU,j6p]
  ·exact KK _ _ _ h
 rw [e]
 exact h3 j hj
theorem VRow.put(hl:vs.length<3){a:Option Addr}{c:Nat}{v:List UInt8}(hv:BsS w (·<g) (.slice a v.length c) v):VRow (w.setCell ⟨g,vs.length,none⟩ (.slice a v.length c)) g (vs++ [v]):=by
 obtain⟨C,h1,h2,h3⟩:=h
 have hk:∀ {x:Value} {l:List UInt8},BsS w (·<g) x l->BsS (w.setCell ⟨g,vs.length,none⟩ (.slice a v.length c)) (·<g) x l:=fun hx=>hx.keep fun b hs _=>⟨iO (by show b≠g;omega),hs⟩
 refine⟨C.set! vs.length (.slice a v.length c),jg h1,by simp [h2],fun j hj=> ?_⟩
 rcases Nat.lt_trichotomy j vs.length with h|h|h
 ·rw [KL _ _ _ h]
  exact m2m
 ·subst h
  rw [yU]
  exact⟨a,c,by rw [Array.set!_eq_setIfInBounds,Array.getElem?_setIfInBounds_self_of_lt (by omega)],hk hv⟩
 ·rw [KK _ _ _ h]
  exact m2m
end
def FldAt(w:World):List Fld->Nat->Nat->Prop
 |[],_,_=>True
 |f :: r,b,o=>w.cell? ⟨b,o,none⟩=some (.int .i64 f.tag)/\w.cell? ⟨b,o+1,none⟩=some (.int .i64 f.least)/\w.cell? ⟨b,o+2,none⟩=some (.int .i64 f.most)/\w.cell? ⟨b,o+3,none⟩=some (.bool f.must)/\FldAt w r b (o+4)
theorem FldAt.below{w w':World}{b:Nat}(hb:Below w.heap.size w w')(hl:b<w.heap.size):∀(l:List Fld) (o:Nat),FldAt w l b o->FldAt w' l b o:=by
 intro l
 induction l with
 |nil=>intros;trivial
 |cons f r ih=>
  intro o ⟨h1,h2,h3,h4,h5⟩
  have k:∀o v,w.cell? ⟨b,o,none⟩=some v->w'.cell? ⟨b,o,none⟩=some v:=fun o v e=>(hb.cell (p:=⟨b,o,none⟩) hl).trans e
  exact⟨k _ _ h1,k _ _ h2,k _ _ h3,k _ _ h4,ih _ h5⟩
theorem FldAt.drop{w:World}{b:Nat}(i:Nat):∀(l:List Fld) (o:Nat),FldAt w l b o->FldAt w (l.drop i) b (o+i*4):=by
 induction i with
 |zero=>intro l o h;simpa using h
 |succ i ih=>
  intro l o h
  cases l with
  |nil=>exact trivial
  |cons f r=>
   have:=ih r (o+4) h.2.2.2.2
   rw [show o+(i+1)*4=o+4+i*4 by omega]
   exact this
theorem NsS.cutTo{w:World}{S:Nat->Prop}{a:Option Addr}{n c:Nat}{L:Ns}(h:NsS w S (.slice a n c) L)(x:Nat)(hx:x<=L.len):NsS w S (.slice a x c) (L.takeN x):=by
 obtain⟨a',c',e,h1,h2,h3,h4⟩:=h
 injection e with e1 e2 e3
 subst e1 e3
 have hl:(L.takeN x).len=x:=by rw [xU];omega
 refine⟨a,c,by rw [hl],by omega,h2,by omega,fun h0=> ?_⟩
 rw [hl]at h0
 obtain⟨b,off,e,hs,hb,hat⟩:=h4 (by omega)
 exact⟨b,off,e,hs,hb,NsAt.takeN _ _ _ _ hat⟩
def zG(vs:List (List UInt8))(n:Nat)(r:Option (List (List UInt8)×Nat×Ns)):Option (List (List UInt8)×Nat×Ns):=r.map fun x=>(vs++x.1,n+x.2.1,x.2.2)
theorem y9(vs:List (List UInt8))(n k:Nat)(v:List UInt8)(r:Option (List (List UInt8)×Nat×Ns)):zG vs n (r.map fun x=>(v :: x.1,x.2.1+k,x.2.2))=zG (vs++ [v]) (n+k) r:=by
 cases r with
 |none=>rfl
 |some x=>simp [zG];omega
def UV(r:Except Int (List (List UInt8)×Ns))(w:World)(e:Ending)(w':World):Prop:=
 match r with
 |.error er=>e=.returned (.tuple #[.slice none 0 0,.slice none 0 0,.int .i64 er])/\Below w.heap.size w w'
 |.ok (vs,P)=>∃g A c,e=.returned (.tuple #[.slice (some ⟨g,0,none⟩) 3 3,.slice A P.len c,.int .i64 0])/\VRow w' g vs/\w.heap.size<=g/\NsS w' (·<g) (.slice A P.len c) P/\Below w.heap.size w w'
theorem j7n(w:World):(Instr.makeSlice 86 (.int .i64 3) (.int .i64 3)).run Tryz.prog w=.ok (.slice (some ⟨w.heap.size,0,none⟩) 3 3) (w.alloc (.cells #[.slice none 0 0,.slice none 0 0,.slice none 0 0] 27)):=by kernel_rfl
theorem Kz{i:Nat}{fs:List Fld}{f:Fld}{r:List Fld}(h:f :: r=fs.drop i):r=fs.drop (i+1):=by
 have:=congrArg List.tail h
 simp only [List.tail_cons,List.tail_drop]at this
 exact this
theorem Ua:∀(i:Nat) (L M:Ns) (t:Int) (v:List UInt8) (k:Ns),.cons t v k M=L.dropN i->M=L.dropN (i+1):=by
 exact m1c
theorem j54(L:Ns)(g:Int):(yS [g] L).ok=(L.pick g).isSome:=by
 unfold yS
 cases L.pick g with
 |none=>rfl
 |some x=>rfl
theorem Yp(w:World)(g:Int)(hg:kB g)(t:TypeId):IntL (w.alloc (.cells #[.int .i64 g] t)) (·<(w.alloc (.cells #[.int .i64 g] t)).heap.size) (.slice (some ⟨w.heap.size,0,none⟩) 1 1) [g]:=by
 refine⟨_,1,rfl,by simp,by decide,by simp,fun z hz=>by simp at hz;subst hz;exact hg,fun _=>⟨w.heap.size,0,rfl,by simp,by simp,fun j hj=> ?_⟩⟩
 have hj:j<1:=hj
 obtain rfl:j=0:=by omega
 rw [cell_of_row _ _ _ _ _ _ (iN)]
 rfl
section
variable{ts:List Int}{fs:List Fld}{data:List UInt8}
include ts fs data
theorem K3{er:Int}(h:jK data true=.error er):kZ ts fs data=.error 1:=by unfold kZ;rw [h]
theorem zr{L:Ns}(h:jK data true=.ok L)(ht:(ts.all fun t=>(L.pick t).isSome)=false):kZ ts fs data=.error 16:=by unfold kZ;rw [h];simp only [ht,if_true]
section
variable{L:Ns}(h:jK data true=.ok L)(ht:(ts.all fun t=>(L.pick t).isSome)=true)
include L h ht
theorem Yw:kZ ts fs data=match jI fs L with
 |some (vs,n,.nil)=>.ok (vs,L.takeN (n - 1))
 |_=>.error 1:=by
 unfold kZ
 rw [h]
 exact iF (by rw [ht];simp)
theorem qP(hb:∀vs n,jI fs L≠some (vs,n,.nil)):kZ ts fs data=.error 1:=by
 rw [Yw h ht]
 split
 ·rename_i vs n hf
  exact absurd hf (hb vs n)
 ·rfl
end
theorem Qu{L:Ns}{vs:List (List UInt8)}{n:Nat}(h:jK data true=.ok L)(ht:(ts.all fun t=>(L.pick t).isSome)=true)(hb:jI fs L=some (vs,n,.nil)):kZ ts fs data=.ok (vs,L.takeN (n - 1)):=by
 rw [Yw h ht,hb]
end
theorem Jf(data:List UInt8)(ts:List Int)(fs:List Fld)(vd vp:Value)(fb fo fc:Nat)(hfl:fs.length=3)(hmin:∀(L:Ns) (vs:List (List UInt8)) (n:Nat) (R:Ns),jI fs L=some (vs,n,R)->1<=n)(w:World)(hd:Bs w w.heap.size vd data)(hp:IntL w (·<w.heap.size) vp ts)(hfb:fb<w.heap.size)(hf:FldAt w fs fb fo)(hfc:3<=fc/\fc<=1000):
 Calls Tryz.prog 55 #[vd,vp,.slice (some ⟨fb,fo,none⟩) 3 fc] w (UV (kZ ts fs data) w):=by
 have HPA:=iH (j08 data vd true w hd)
 obtain⟨pa,pc,rfl,pl,pc9,pl9,pz,pcell⟩:=hp
 obtain⟨pb,po,Hpc⟩:∃b o,Hid (0<ts.length->pa=some ⟨b,o,none⟩/\b<w.heap.size/\∀j,j<ts.length->w.cell? ⟨b,o+j,none⟩=some (.int .i64 (ts.getD j 0))):=by
  rcases Nat.eq_zero_or_pos ts.length with h0|h0
  ·exact⟨0,0,fun h=>by omega⟩
  ·exact m40
 have PZ:=iH pz;have HF:=iH hf;have HFB:=iH hfb;have HFL:=iH hfl;have HMIN:=iH hmin
 have hfc1:=hfc.1;have hfc2:=hfc.2
 have e3:fs.length=3:=hfl
 clear hd pz pcell hf hfb hmin hfc hfl
 cases hpp:jK data true with
 |error er=>
  have R:=iH (K3 (ts:=ts) (fs:=fs) hpp)
  have he:=zP hpp
  have t1:(er != 0)=true:=by simpa using he
  rw [hpp]at HPA
  clear hpp he
  go_enter Tryz.func55,Tryz.ntmps55
  go_wp2_with(go_at_call 85;refine HPA.out.mono ?_;intro e w1 h;obtain⟨a,c,rfl,hb⟩:=h.err;have HB1:=iH hb;clear hb h)
  go_ret3
  rw [R.out]
  exact⟨rfl,HB1.out⟩
 |ok L=>
  have HPP:=iH hpp
  have hall:=(kX hpp).2.2.1
  rw [hpp]at HPA
  have hll:=Ns.len_all L
  clear hpp
  go_enter Tryz.func55,Tryz.ntmps55
  go_upto_region 4 with (go_at_call 85;refine HPA.out.mono ?_;intro e w1 h;obtain⟨la,lc,rfl,hn,hb⟩:=h.got;have HN1:=iH hn;have HB1:=iH hb;clear hb hn h)
  go_wp2_with fail
  go_loopg [29] ts.length (fun m i wr=>∃(p:List Int) (j:Nat),p.length=m/\j+p.length=ts.length/\i=.int .i64 j/\Hid (p=ts.drop j)/\Hid ((ts.all fun t=>(L.pick t).isSome)=p.all fun t=>(L.pick t).isSome)/\Hid (Below w1.heap.size w1 wr))
  case atStart=>exact⟨ts,0,rfl,by omega,rfl,iH rfl,iH rfl,iH iB⟩
  case round=>
   obtain⟨p,j,rfl,hj,rfl,hpd,hpa,hbr⟩:=hrel
   cases p with
   |cons g p=>
    simp only [List.length_cons]at hj
    have hjl:(j:Int)<ts.length:=by omega
    obtain⟨rfl,hpbl,hpcell⟩:=Hpc.out (by omega)
    have hg:ts.getD j 0=g:=by
     exact m2q
    have hpd2:Hid (p=ts.drop (j+1)):=iH (by
     have h:=congrArg List.tail hpd.out
     simp only [List.tail_cons]at h
     rw [h,List.tail_drop])
    have hc0:=hpcell j (by omega)
    rw [hg]at hc0
    have HBR:=iH (HB1.out.trans (hbr.out.mono HB1.out.size))
    have hc1:=(HBR.out.cell (p:=⟨pb,po+j,none⟩) hpbl).trans hc0
    have hgi:kB g:=PZ.out g (by
     have hjn:j<ts.length:=by omega
     have e:ts.getD j 0=ts[j]:=by simp [List.getD,hjn]
     rw [<-hg,e];exact List.getElem_mem _)
    obtain⟨wa,hwa⟩:∃wa,wa=wr.alloc (.cells #[.int .i64 g] 3):=⟨_,rfl⟩
    have hBa:Below wr.heap.size wr wa:=by rw [hwa];exact iA
    have hil:IntL wa (·<wa.heap.size) (.slice (some ⟨wr.heap.size,0,none⟩) 1 1) [g]:=by rw [hwa];exact Yp wr g hgi 3
    have HFN:=iH (j22 [g] L (.slice la L.len lc) (.slice (some ⟨wr.heap.size,0,none⟩) 1 1) (·<wa.heap.size) wa (fun _ h=>h) (HN1.out.keep fun b hs hl=>⟨(hBa.block b (iZ hs.2 hbr.out.size)).trans (hbr.out.block b hs.2),iZ hs.2 (Nat.le_trans hbr.out.size hBa.size)⟩) (hil.keep fun b hs hl=>⟨rfl,hs⟩) (by omega))
    have BA:=iH (hbr.out.trans (hBa.mono hbr.out.size));have WA:=iH hwa
    obtain⟨ok,hok⟩:∃o,(L.pick g).isSome=o:=⟨_,rfl⟩
    have HOK:Hid ((yS [g] L).ok=ok):=iH (by rw [j54];exact hok)
    have HPAL:Hid ((ts.all fun t=>(L.pick t).isSome)=(ok&&p.all fun t=>(L.pick t).isSome)):=iH (by rw [hpa.out,List.all_cons,hok])
    clear hpcell hc0 hBa hwa hpd hg hil hpa hok hpbl hgi
    have FARM:True:=trivial
    cases ok with
    |false=>
     have R:=iH (zr (fs:=fs) HPP.out (by rw [HPAL.out]<;>rfl))
     go_wp2_with(rw [<-WA.out];go_at_call 86;refine HFN.out.mono ?_;intro e w5 hfo;obtain⟨vv,kv,rfl,hx1,hx2,hx3,hb5⟩:=hfo;obtain⟨vvA,vvc,hp⟩:=Bs.formL hx1;subst hp;obtain⟨kvA,kvc,hp⟩:=hx2.form3;subst hp;clear hx1 hx2 hx3;rw [HOK.out];obtain⟨n0,n1,n2,nf⟩:=jO (heap_alloc_new w5 (.cells #[.int .i64 0,.slice none 0 0,.slice none 0 0] 61));have nf0:=nf 0;have nf1:=nf 1;have nf2:=nf 2;clear nf;have HB5:=iH (BA.out.trans (hb5.mono BA.out.size));clear hb5)
     go_ret3
     rw [R.out]
     exact⟨rfl,HB1.out.trans ((HB5.out.trans ((iA).mono HB5.out.size)).mono HB1.out.size)⟩
    |true=>
     go_wp2_with(rw [<-WA.out];go_at_call 86;refine HFN.out.mono ?_;intro e w5 hfo;obtain⟨vv,kv,rfl,hx1,hx2,hx3,hb5⟩:=hfo;obtain⟨vvA,vvc,hp⟩:=Bs.formL hx1;subst hp;obtain⟨kvA,kvc,hp⟩:=hx2.form3;subst hp;clear hx1 hx2 hx3;rw [HOK.out];obtain⟨n0,n1,n2,nf⟩:=jO (heap_alloc_new w5 (.cells #[.int .i64 0,.slice none 0 0,.slice none 0 0] 61));have nf0:=nf 0;have nf1:=nf 1;have nf2:=nf 2;clear nf;have HB5:=iH (BA.out.trans (hb5.mono BA.out.size));clear hb5)
     go_roundg p.length
     case measure=>simp
     case rel=>exact⟨p,j+1,rfl,by omega,by go_num,hpd2,iH (by rw [HPAL.out]<;>rfl),iH (HB5.out.trans ((iA).mono HB5.out.size))⟩
   |nil=>
    simp only [List.length_nil,Nat.add_zero]at hj
    subst hj
    have HAL:Hid ((ts.all fun t=>(L.pick t).isSome)=true):=iH (by rw [hpa.out]<;>rfl)
    obtain⟨wg,hwg⟩:∃wg:World,wg=wr:=⟨_,rfl⟩
    rw [<-hwg]at hbr |-
    clear hwg hpd hpa
    have hm3:=j7n wg
    go_wp2_with fail
    obtain⟨wl,hwl⟩:∃wl,wl=wg.alloc (.cells #[.slice none 0 0,.slice none 0 0,.slice none 0 0] 27):=⟨_,rfl⟩
    have hgl:Below wg.heap.size wg wl:=by rw [hwl];exact iA
    have hvr:VRow wl wg.heap.size []:=⟨_,by rw [hwl];exact iN,rfl,fun j hj=>⟨none,0,by
     obtain rfl|rfl|rfl:j=0\/j=1\/j=2:=by omega
     ·rfl
     ·rfl
     ·rfl,BsS.nil0 _ _⟩⟩
    rw [<-hwl]
    have HGL:=iH hgl;have HVR:=iH hvr
    have HBG:=iH (HB1.out.trans (hbr.out.mono HB1.out.size))
    have HFG:Hid (∀W,Below wg.heap.size wg W->FldAt W fs fb fo):=iH (fun W h=>(HF.out).below (HBG.out.trans (h.mono HBG.out.size)) HFB.out)
    have hfbg:fb<wg.heap.size:=iZ HFB.out HBG.out.size
    have HNG:Hid (NsS wg (·<wg.heap.size) (.slice la L.len lc) L):=iH (HN1.out.keep fun b hs hl=>⟨hbr.out.block b hl,iZ hl hbr.out.size⟩)
    obtain⟨lb,lo,HLA⟩:∃b o,Hid (0<L.len->la=some ⟨b,o,none⟩/\b<wg.heap.size/\NsAt wg (·<wg.heap.size) L b o):=by
     obtain⟨_,_,e,_,_,_,h4⟩:=HNG.out
     injection e with e1 _ e3
     subst e1 e3
     rcases Nat.eq_zero_or_pos L.len with h0|h0
     ·exact⟨0,0,iH (fun h=>by omega)⟩
     ·obtain⟨b,o,h1,h2,h3,h4⟩:=h4 h0
      exact⟨b,o,iH (fun _=>⟨h1,h2,h4⟩)⟩
    have HLC:Hid (L.len<=lc/\lc<=9223372036854775807):=iH (by
     obtain⟨_,_,e,h1,h2,_⟩:=HNG.out
     injection e with _ _ e3
     subst e3
     exact⟨h1,by unfold maxLen at h2;omega⟩)
    clear hwl hgl hvr hbr hm3 HPA HN1 Hpc PZ
    go_loopg [48,16] 3 (fun m s48 s16 wr=>∃(i at_:Nat) (vs:List (List UInt8)) (M:Ns) (fr:List Fld),fr.length=m/\i+fr.length=3/\s48=.int .i64 i/\s16=.int .i64 at_/\Hid (fr=fs.drop i)/\Hid (M=L.dropN at_)/\at_+M.len=L.len/\Hid (vs.length=i)/\Hid (jI fs L=zG vs at_ (jI fr M))/\Hid (VRow wr wg.heap.size vs)/\Hid (Below wg.heap.size wg wr))
    case atStart=>exact⟨0,0,[],L,fs,HFL.out,by rw [HFL.out],rfl,rfl,iH rfl,iH (by cases L<;>rfl),by omega,iH rfl,iH (by unfold zG;cases jI fs L<;>simp),HVR,HGL⟩
    case round=>
     obtain⟨i,at_,vs,M,fr,rfl,hi,rfl,rfl,hfr,hM,hat,hvs,hfw,hvr,hbr⟩:=hrel
     cases fr with
     |nil=>
      simp only [List.length_nil,Nat.add_zero]at hi
      subst hi
      have HE:Hid (jI fs L=some (vs,at_,M)):=iH (by rw [hfw.out];cases M<;>simp [jI,zG])
      have hpos:=HMIN.out _ _ _ _ HE.out
      obtain⟨x,rfl⟩:∃x,at_=x+1:=⟨at_ - 1,by omega⟩
      clear hpos hfr hfw
      by_cases hz:M.len=0
      ·have hM0:=j6t hz
       subst hM0
       have R:Hid (kZ ts fs data=.ok (vs,L.takeN x)):=iH (by rw [Qu HPP.out HAL.out HE.out]<;>rfl)
       have hat2:L.len=x+1:=by simp only [Ns.len]at hat;omega
       have t9:(((x+1:Nat):Int) != (L.len:Int))=false:=by rw [hat2];simp
       have hcap:x<=lc:=by have:=HLC.out.1;omega
       have hcm:=HLC.out.2
       have NP:=iH (HNG.out.cutTo x (by omega))
       have hlt:(L.takeN x).len=x:=by rw [xU];omega
       have HLT:=iH hlt
       clear hM hz hat hlt
       go_wp2_with(go_quiet (fail))
       go_ret3
       rw [R.out]
       simp only [UV,HLT.out]
       exact⟨wg.heap.size,la,lc,rfl,hvr.out.below (j4 iB _),HBG.out.size,NP.out.keep fun b hs _=>⟨hbr.out.block b hs,hs⟩,j4 (HBG.out.trans (hbr.out.mono HBG.out.size)) _⟩
      ·have R:Hid (kZ ts fs data=.error 1):=iH (qP HPP.out HAL.out (fun vs' n' h=>by
        rw [HE.out]at h
        simp only [Option.some.injEq,Prod.mk.injEq]at h
        exact hz (by rw [h.2.2]<;>rfl)))
       have t9:(((x+1:Nat):Int) != (L.len:Int))=true:=by simp;omega
       clear hM hz hat
       go_wp2_with fail
       go_ret3
       rw [R.out]
       exact⟨rfl,HBG.out.trans (hbr.out.mono HBG.out.size)⟩
     |cons f fr=>
      simp only [List.length_cons]at hi
      obtain⟨tag,least,most,must⟩:=f
      have hi3:(i:Int)<3:=by omega
      have hfr2:Hid (fr=fs.drop (i+1)):=iH (Kz hfr.out)
      have hq:wr.cell? ⟨fb,fo+i*4,none⟩=some (.int .i64 tag)/\wr.cell? ⟨fb,fo+i*4+1,none⟩=some (.int .i64 least)/\wr.cell? ⟨fb,fo+i*4+2,none⟩=some (.int .i64 most)/\wr.cell? ⟨fb,fo+i*4+3,none⟩=some (.bool must):=by
       have h:=FldAt.drop i fs fo (HFG.out wr hbr.out)
       rw [<-hfr.out]at h
       exact⟨h.1,h.2.1,h.2.2.1,h.2.2.2.1⟩
      obtain⟨q0,q1,q2,q3⟩:=hq
      have hz0:=hbr.out.size
      obtain⟨ws,hws⟩:∃ws,ws=wr.alloc (.cells #[.int .i64 tag,.int .i64 least,.int .i64 most,.bool must] 84):=⟨_,rfl⟩
      have hsb:Below wr.heap.size wr ws:=by rw [hws];exact iA
      have hsr:ws.heap[wr.heap.size]?=some (.cells #[.int .i64 tag,.int .i64 least,.int .i64 most,.bool must] 84 (0,0)):=by rw [hws];exact iN
      have hslt:=(iG hsr)
      have HSC:Hid (∀W:World,W.heap[wr.heap.size]?=ws.heap[wr.heap.size]? ->W.cell? ⟨wr.heap.size,0,none⟩=some (.int .i64 tag)/\W.cell? ⟨wr.heap.size,1,none⟩=some (.int .i64 least)/\W.cell? ⟨wr.heap.size,2,none⟩=some (.int .i64 most)/\W.cell? ⟨wr.heap.size,3,none⟩=some (.bool must)):=iH fun W h=>(by obtain⟨a,b,c,d,_⟩:=ki (h.trans hsr);exact⟨a,b,c,d⟩)
      have HBS:=iH (hbr.out.trans (hsb.mono hbr.out.size))
      have HVS:=iH (hvr.out.below hsb)
      have HWS:=iH hws
      have hgs:wg.heap.size<wr.heap.size:=hvr.out.lt
      obtain⟨n0,n1,n2,n3,nf⟩:=ki (heap_alloc_new wr (.cells #[.int .i64 0,.int .i64 0,.int .i64 0,.bool false] 84))
      have nf0:=nf 0;have nf1:=nf 1;have nf2:=nf 2;have nf3:=nf 3
      clear nf hws hsb hsr hvr hbr
      go_upto_region 15 with fail
      rw [<-HWS.out]
      clear n0 n1 n2 n3 nf0 nf1 nf2 nf3 q0 q1 q2 q3
      have HNA:=HLA
      cases M with
      |nil=>
       simp only [Ns.len,Nat.add_zero]at hat
       subst hat
       have t1:decide ((L.len:Int)<(L.len:Int))=false:=decide_eq_false (by omega)
       cases must with
       |true=>
        have R:Hid (kZ ts fs data=.error 1):=iH (qP HPP.out HAL.out (fun vs' n' h=>by rw [hfw.out]at h;simp [jI,zG]at h))
        obtain⟨c0,c1,c2,c3⟩:=HSC.out ws rfl
        exact m2k
       |false=>
        have HW2:Hid (jI fs L=zG (vs++ [[]]) L.len (jI fr .nil)):=iH (by rw [hfw.out,jI,iF (by simp)];exact y9 vs L.len 0 [] _)
        obtain⟨c0,c1,c2,c3⟩:=HSC.out ws rfl
        go_upto_region 21 with (go_quiet (fail))
        go_wp2_with fail
        go_roundg fr.length
        case measure=>simp
        case rel=>exact⟨i+1,L.len,vs++ [[]],.nil,fr,rfl,by omega,by go_num,rfl,hfr2,hM,by simp [Ns.len],iH (by simp [hvs.out]),HW2,iH (HVS.out.skip.below (j4 iB _)),iH (j4 HBS.out _)⟩
      |cons t v k r=>
       simp only [Ns.len]at hat
       have hatl:(at_:Int)<L.len:=by omega
       have hatl2:at_<L.len:=by omega
       obtain⟨rfl,hlbl,hnat⟩:=HLA.out (by omega)
       have hn:=JY at_ L
       rw [<-hM.out]at hn
       obtain⟨l0,_,⟨xA,xc,l1,hx⟩,_⟩:=NsAt.nth L lb lo at_ hnat hatl2
       rw [<-hn]at l0 l1 hx
       simp only [xe]at l0 l1 hx
       have HLC0:Hid (∀W,Below wg.heap.size wg W->W.cell? ⟨lb,lo+at_*3,none⟩=some (.int .i64 t)/\W.cell? ⟨lb,lo+at_*3+1,none⟩=some (.slice xA v.length xc)):=iH fun W h=>⟨(h.cell (p:=⟨lb,lo+at_*3,none⟩) hlbl).trans l0,(h.cell (p:=⟨lb,lo+at_*3+1,none⟩) hlbl).trans l1⟩
       have HX:Hid (∀W,Below wg.heap.size wg W->BsS W (·<wg.heap.size) (.slice xA v.length xc) v):=iH (fun W h=>BsS.keep hx fun b hs _=>⟨h.block b hs,hs⟩)
       have HM2:Hid (r=L.dropN (at_+1)):=iH (Ua at_ L r t v k hM.out)
       clear hn l0 l1 hx hnat
       by_cases htg:t=tag
       ·subst htg
        obtain⟨ya,yc,y0,_⟩:=HVS.out.cell i (by omega)
        have yf:=HVS.out.fz i
        have t2:(t==t)=true:=by simp
        obtain⟨c0,c1,c2,c3⟩:=HSC.out ws rfl
        obtain⟨l0,l1⟩:=HLC0.out ws HBS.out
        go_upto_region 17 with (go_quiet (fail))
        obtain⟨wq,hwq⟩:∃wq,wq=(ws.drewN nq).setCell ⟨wg.heap.size,i,none⟩ (.slice xA v.length xc):=⟨_,rfl⟩
        rw [<-hwq]
        clear c0 c1 c2 c3 l0 l1 y0 yf t2
        have hvl:=hvs.out
        have HVQ:Hid (VRow wq wg.heap.size (vs++ [v])):=iH (by
         rw [hwq]
         have h:=(HVS.out.below (j4 iB nq)).put (by omega) (HX.out _ (j4 HBS.out nq))
         rw [hvl]at h
         exact h)
        have HBQ:Hid (Below wg.heap.size wg wq):=iH (by rw [hwq];exact(j4 HBS.out nq).setCell iL _)
        have hcq:=HSC.out wq (by rw [hwq,iO (by show wr.heap.size≠wg.heap.size;omega)]<;>rfl)
        obtain⟨c0,c1,c2,c3⟩:=hcq
        have hrow:=HVQ.out.cell i (by omega)
        rw [<-hvl,yU,hvl]at hrow
        obtain⟨zA,zc,z0,hz⟩:=hrow
        have HZB:=iH (Ul _ v _ wq hz)
        have hvs2:Hid ((vs++ [v]).length=i+1):=iH (by simp [hvl])
        clear hwq hz hvl
        have HEQ:Hid (jI fs L=zG vs at_ (if(Fld.mk t least most must).bad v=true then none else(jI fr r).map fun x=>(v :: x.1,x.2.1+1,x.2.2))):=iH (by rw [hfw.out,jI,iT rfl])
        have HBD:Hid ((Fld.mk t least most must).bad v=(decide ((v.length:Int)<least)||(decide (most<(v.length:Int))||(decide (t=135)&& !kf v)))):=iH rfl
        have e135:(t==135)=decide (t=135):=rfl
        obtain⟨o3,ho3⟩:∃o,decide (t=135)=o:=⟨_,rfl⟩
        obtain⟨o4,ho4⟩:∃o,kf v=o:=⟨_,rfl⟩
        rw [ho3]at e135 HBD
        rw [ho4]at HZB HBD
        clear ho3 ho4 hfw HSC HLC0
        by_cases b1:(v.length:Int)<least
        ·have t1:decide ((v.length:Int)<least)=true:=decide_eq_true b1
         have R:Hid (kZ ts fs data=.error 1):=iH (qP HPP.out HAL.out (fun vs' n' h=>by rw [HEQ.out,iT (by rw [HBD.out,t1]<;>rfl)]at h;simp [zG]at h))
         clear b1
         exact mR
        ·have t1:decide ((v.length:Int)<least)=false:=decide_eq_false b1
         clear b1
         by_cases b2:most<(v.length:Int)
         ·have t2:decide ((v.length:Int)>most)=true:=decide_eq_true b2
          have R:Hid (kZ ts fs data=.error 1):=iH (qP HPP.out HAL.out (fun vs' n' h=>by rw [HEQ.out,iT (by rw [HBD.out,t1,decide_eq_true b2]<;>rfl)]at h;simp [zG]at h))
          clear b2
          exact mR
         ·have t2:decide ((v.length:Int)>most)=false:=decide_eq_false b2
          have t3:decide (most<(v.length:Int))=false:=decide_eq_false b2
          clear b2
          cases o3 with
          |true=>
           cases o4 with
           |true=>
            exact m15
           |false=>
            have R:Hid (kZ ts fs data=.error 1):=iH (qP HPP.out HAL.out (fun vs' n' h=>by rw [HEQ.out,iT (by rw [HBD.out,t1,t3]<;>rfl)]at h;simp [zG]at h))
            clear t3
            exact mR
          |false=>
           exact m15
       ·have t2:(t==tag)=false:=by simp [htg]
        cases must with
        |true=>
         have R:Hid (kZ ts fs data=.error 1):=iH (qP HPP.out HAL.out (fun vs' n' h=>by rw [hfw.out,jI,iF (by exact htg),iT rfl]at h;simp [zG]at h))
         obtain⟨c0,c1,c2,c3⟩:=HSC.out ws rfl
         obtain⟨l0,l1⟩:=HLC0.out ws HBS.out
         clear htg
         exact m2k
        |false=>
         have HW2:Hid (jI fs L=zG (vs++ [[]]) at_ (jI fr (.cons t v k r))):=iH (by rw [hfw.out,jI,iF (by exact htg),iF (by simp)];exact y9 vs at_ 0 [] _)
         obtain⟨c0,c1,c2,c3⟩:=HSC.out ws rfl
         obtain⟨l0,l1⟩:=HLC0.out ws HBS.out
         clear htg
         go_upto_region 21 with (go_quiet (fail))
         go_wp2_with fail
         go_roundg fr.length
         case measure=>simp
         case rel=>exact⟨i+1,at_,vs++ [[]],.cons t v k r,fr,rfl,by omega,by go_num,rfl,hfr2,hM,by simp only [Ns.len];omega,iH (by simp [hvs.out]),HW2,iH (HVS.out.skip.below (j4 iB _)),iH (j4 HBS.out _)⟩
end Go.Proofs.YtadndhgebgjlaaaGreat
