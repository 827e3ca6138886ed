/- Layer 2, plain: bytes that are read strictly are the encoding of their objects, and are read otherwise in the same way. No program is named here -/
import Derived.Test.YtadndhgebgjlaaaGreatPBk
namespace Go.Proofs.YtadndhgebgjlaaaGreat
open Go.RowKit
theorem ZM{b:List UInt8}{t:Int}{k:Nat}(h:kX b=.ok (t,k)):qK t=true/\b.take k=km t/\1<=k/\k<=b.length:=by
 obtain⟨g1,g2,g3⟩:=zj h
 refine⟨g1,?_,g2,g3⟩
 unfold kX at h
 split at h
 ·cases h
 ·rename_i h0
  obtain⟨x0,q,rfl⟩:∃x q,b=x :: q:=by
   cases b with
   |nil=>simp at h0
   |cons x q=>exact⟨x,q,rfl⟩
  have n0:=jL x0
  have l0:=jP x0
  rw [bvc]at h
  split at h
  ·rename_i h1
   split at h
   ·cases h
   ·rename_i h2
    obtain⟨x1,q,rfl⟩:∃x p,q=x :: p:=by
     cases q with
     |nil=>simp at h2
     |cons x p=>exact⟨x,p,rfl⟩
    rw [gbs,bvc]at h
    have n1:=jL x1
    have l1:=jP x1
    split at h
    ·injection h with h;injection h with e1 e2
     subst e1 e2
     unfold km
     rw [if_pos (by omega)]
     have a1:ofI ((256*bv x0+bv x1) / 256)=x0:=by rw [show(256*bv x0+bv x1) / 256=bv x0 by omega,y6]
     have a2:ofI (256*bv x0+bv x1)=x1:=by rw [qW (show(256*bv x0+bv x1) % 256=bv x1 % 256 by omega),y6]
     rw [a1,a2];rfl
    ·cases h
  ·split at h
   ·injection h with h;injection h with e1 e2
    subst e1 e2
    unfold km
    rw [if_neg (by omega),y6];rfl
   ·cases h
theorem XA{x:List UInt8}{m:Int}{j:Nat}(h:jy x false true=.ok (m,j))(hm:m<=65535):x.take j=x7 m.toNat/\0<=m/\1<=j/\j<=x.length/\∀o,jy x o false=.ok (m,j):=by
 unfold jy at h
 split at h
 ·cases h
 ·rename_i h0
  obtain⟨x0,q,rfl⟩:∃y q,x=y :: q:=by
   cases x with
   |nil=>simp at h0
   |cons y q=>exact⟨y,q,rfl⟩
  have n0:=jL x0
  have l0:=jP x0
  rw [bvc]at h
  split at h
  ·rename_i h1
   injection h with h;injection h with e1 e2
   subst e1 e2
   refine⟨?_,n0,by omega,by simp,fun o=> ?_⟩
   ·rw [qX (by omega),if_pos (by omega),show(((bv x0).toNat:Nat):Int)=bv x0 by omega,y6];rfl
   ·unfold jy;rw [if_neg h0,bvc,if_pos h1]
  ·rename_i h1
   split at h
   ·cases h
   ·rename_i h2
    split at h
    ·simp at h
    ·rename_i h3
     split at h
     ·cases h
     ·rename_i h4
      split at h
      ·cases h
      ·rename_i h5
       obtain⟨kk,hkk⟩:∃kk,kk=(gb (x0 :: q) 0).toNat - 128:=⟨_,rfl⟩
       rw [bvc]at hkk
       have hb0:bv x0=(x0.toNat:Int):=rfl
       have hk1:1<=kk:=by omega
       rw [<-hkk]at h h5 h4
       injection h with h;injection h with e1 e2
       subst e2
       have hs:∀o,jy (x0 :: q) o false=.ok (m,1+kk):=fun o=>by
        unfold jy
        rw [if_neg h0,bvc,if_neg h1,if_neg h2,if_neg h3,<-hkk,if_neg h4,if_neg (by simp),e1]
       simp only [true_and,not_or,not_and]at h5
       obtain⟨h6,h7⟩:=h5
       have hx0:x0=ofI (128+kk:Nat):=by rw [<-y6 x0];congr 1;omega
       have hq:kk<=q.length:=by simp at h4;omega
       refine⟨?_,by omega,by omega,by simp;omega,hs⟩
       obtain⟨x1,q,rfl⟩:∃y p,q=y :: p:=by
        cases q with
        |nil=>simp at hq;omega
        |cons y p=>exact⟨y,p,rfl⟩
       have n1:=jL x1
       have l1:=jP x1
       have n1z:bv x1=0->x1=0:=fun e=>qL (by rw [e];rfl)
       rcases Nat.lt_or_ge 1 kk with hk2|hk2
       ·have hne:¬bv x1=0:=fun e=>h7 hk2 (n1z e)
        obtain⟨x2,q,rfl⟩:∃y p,q=y :: p:=by
         cases q with
         |nil=>simp at hq;omega
         |cons y p=>exact⟨y,p,rfl⟩
        have n2:=jL x2
        have l2:=jP x2
        rcases Nat.lt_or_ge 2 kk with hk3|hk3
        ·exfalso
         obtain⟨x3,q,rfl⟩:∃y p,q=y :: p:=by
          cases q with
          |nil=>simp at hq;omega
          |cons y p=>exact⟨y,p,rfl⟩
         have n3:=jL x3
         rcases Nat.lt_or_ge 3 kk with hk4|hk4
         ·have hk5:kk=4:=by omega
          obtain⟨x4,q,rfl⟩:∃y p,q=y :: p:=by
           cases q with
           |nil=>simp at hq;omega
           |cons y p=>exact⟨y,p,rfl⟩
          have n4:=jL x4
          rw [hk5]at e1
          have:=be4 x0 x1 x2 x3 x4 q
          rw [show(x0 :: x1 :: x2 :: x3 :: x4 :: q)= [x0,x1,x2,x3,x4]++q from rfl,this]at e1
          omega
         ·have hk5:kk=3:=by omega
          rw [hk5]at e1
          have:=be3 x0 x1 x2 x3 q
          rw [show(x0 :: x1 :: x2 :: x3 :: q)= [x0,x1,x2,x3]++q from rfl,this]at e1
          omega
        ·have hk5:kk=2:=by omega
         rw [hk5]at e1 hx0 |-
         have:=be2 x0 x1 x2 q
         rw [show(x0 :: x1 :: x2 :: q)= [x0,x1,x2]++q from rfl,this]at e1
         rw [qX (by omega),if_neg (by omega),if_neg (by omega),show((m.toNat:Nat):Int)=m by omega,<-e1]
         have a1:ofI ((256*bv x1+bv x2) / 256)=x1:=by rw [show(256*bv x1+bv x2) / 256=bv x1 by omega,y6]
         have a2:ofI (256*bv x1+bv x2)=x2:=by rw [qW (show(256*bv x1+bv x2) % 256=bv x2 % 256 by omega),y6]
         rw [a1,a2,hx0];rfl
       ·have hk5:kk=1:=by omega
        rw [hk5]at e1 hx0 h6 |-
        have:=be1 x0 x1 q
        rw [show(x0 :: x1 :: q)= [x0,x1]++q from rfl,this]at e1 h6
        rw [qX (by omega),if_neg (by omega),if_pos (by omega),show((m.toNat:Nat):Int)=m by omega,<-e1,y6,hx0];rfl
theorem Yx(b:List UInt8)(i j n:Nat):b=b.take i++((b.drop i).take j++((b.drop (i+j)).take n++b.drop (i+j+n))):=by
 have e1:=List.take_append_drop i b
 have e2:=List.take_append_drop j (b.drop i)
 have e3:=List.take_append_drop n (b.drop (i+j))
 rw [List.drop_drop]at e2 e3
 rw [e3,e2,e1]
theorem ZP{n:Nat}{b:List UInt8}{d c:Nat}{o:j2o}(h:kE true n b d c=.ok o):∃t k m j,kX b=.ok (t,k)/\jy (b.drop k) false true=.ok (m,j)/\¬8<d/\¬256<c+1/\¬(((b.drop (k+j)).length:Nat):Int)<m/\0<=m/\
 ((jX t=true/\∃r,je true n ((b.drop (k+j)).take m.toNat) (d+1) (c+1) false=.ok r/\o=⟨t,[],r.list,k+j+m.toNat,r.count⟩)\/(jX t=false/\o=⟨t,(b.drop (k+j)).take m.toNat,.nil,k+j+m.toNat,c+1⟩)):=by
 unfold kE yN at h
 split at h
 ·cases h
 ·rename_i t k ht
  split at h
  ·cases h
  ·rename_i m j hs
   rw [show(jX t&& !true)=false by simp]at hs
   have hm0:0<=m:=(xi hs).2.2.2.elim id fun h=>by cases h.2
   split at h
   ·cases h
   ·rename_i h1
    split at h
    ·cases h
    ·rename_i h2
     split at h
     ·cases h
     ·rename_i h3
      rw [if_neg (by omega)]at h
      split at h
      ·rename_i h4
       split at h
       ·cases h
       ·rename_i r hr
        injection h with h
        exact⟨t,k,m,j,ht,hs,h1,h2,h3,hm0,.inl ⟨h4,r,hr,h.symm⟩⟩
      ·rename_i h4
       injection h with h
       exact⟨t,k,m,j,ht,hs,h1,h2,h3,hm0,.inr ⟨by simpa using h4,h.symm⟩⟩
theorem XI(n:Nat):∀(b:List UInt8) (d c:Nat) (r:Lst),b.length<=4096->c<=256->je true n b d c false=.ok r->
 r.list.enc=b/\r.used=b.length/\r.list.chk d=0/\r.count=c+r.list.all/\r.count<=256/\je false n b d c false=.ok r:=by
 induction n with
 |zero=>
  intro b d c r hb hc h
  cases b with
  |nil=>
   rw [ki (u:=0) rfl]at h
   injection h with h
   subst h
   exact⟨rfl,rfl,rfl,rfl,hc,ki (u:=0) rfl⟩
  |cons x q=>
   rw [je.eq_def]at h
   simp [kd]at h
 |succ n ih=>
  intro b d c r hb hc h
  rcases Nat.eq_zero_or_pos b.length with h0|h0
  ·have e:b= []:=List.eq_nil_of_length_eq_zero h0
   subst e
   rw [ki (u:=0) rfl]at h
   injection h with h
   subst h
   exact⟨rfl,rfl,rfl,rfl,hc,ki (u:=0) rfl⟩
  ·have hh:kd b false=none:=by
    cases b with
    |nil=>simp at h0
    |cons x q=>simp [kd]
   cases ho:kE true n b d c with
   |error e=>rw [jC hh ho]at h;cases h
   |ok o=>
    rw [jK hh ho]at h
    obtain⟨t,k,m,j,ht,hs,h1,h2,h3,hm0,hor⟩:=ZP ho
    obtain⟨tv,tk,k1,k2⟩:=ZM ht
    have hdl:(b.drop (k+j)).length=b.length - (k+j):=List.length_drop ..
    obtain⟨sj,_,j1,j2,sl⟩:=XA hs (by omega)
    rw [List.length_drop]at j2
    have hC:((b.drop (k+j)).take m.toNat).length=m.toNat:=by rw [List.length_take];omega
    cases hr:je true n (b.drop o.used) d o.count false with
    |error e=>rw [hr]at h;cases h
    |ok r2=>
     rw [hr]at h
     simp only [yj]at h
     injection h with h
     have hsplit:=Yx b k j m.toNat
     rw [tk,sj]at hsplit
     rcases hor with ⟨tc,r1,hr1,rfl⟩|⟨tc,rfl⟩
     ·simp only at hr h
      obtain⟨g1,g2,g3,g4,g5,g6⟩:=ih _ (d+1) (c+1) r1 (by rw [List.length_take];omega) (by omega) hr1
      obtain⟨f1,f2,f3,f4,f5,f6⟩:=ih _ d r1.count r2 (by rw [List.length_drop];omega) g5 hr
      have ho2:kE false n b d c=.ok ⟨t,[],r1.list,k+j+m.toNat,r1.count⟩:=Yw ht (sl _) h1 h2 h3 (by omega) tc g6
      subst h
      simp only [Ns.app]
      refine⟨?_,?_,?_,?_,f5,?_⟩
      ·rw [qn t [] r1.list r2.list ((b.drop (k+j)).take m.toNat) (by rw [if_pos tc,g1]),f1,hC]
       simp only [List.append_assoc]
       exact hsplit.symm
      ·rw [f2,List.length_drop];omega
      ·rw [zG t [] r1.list r2.list d tv (by rw [tc];simp),if_neg h1,if_pos g3,f3]
      ·simp only [Ns.all];omega
      ·rw [jK hh ho2]
       simp only [f6,yj,Ns.app]
     ·simp only at hr h
      obtain⟨f1,f2,f3,f4,f5,f6⟩:=ih _ d (c+1) r2 (by rw [List.length_drop];omega) (by omega) hr
      have ho2:kE false n b d c=.ok ⟨t,(b.drop (k+j)).take m.toNat,.nil,k+j+m.toNat,c+1⟩:=U7 ht (sl _) h1 h2 h3 (by omega) (by rw [tc];decide)
      subst h
      simp only [Ns.app]
      refine⟨?_,?_,?_,?_,f5,?_⟩
      ·rw [qn t _ .nil r2.list ((b.drop (k+j)).take m.toNat) (by rw [if_neg (by rw [tc];decide)]),f1,hC]
       simp only [List.append_assoc]
       exact hsplit.symm
      ·rw [f2,List.length_drop];omega
      ·rw [zG t _ .nil r2.list d tv (by rw [tc];simp [Ns.len]),if_neg h1,if_pos (show Ns.nil.chk (d+1)=0 from rfl),f3]
      ·simp only [Ns.all];omega
      ·rw [jK hh ho2]
       simp only [f6,yj,Ns.app]
theorem qa{b:List UInt8}{l:Ns}(h:jO b true=.ok l):qC l=.ok b/\jO b false=.ok l/\l.all<=256/\l.enc=b/\b.length<=4096:=by
 unfold jO at h
 split at h
 ·cases h
 ·rename_i h4
  cases hr:je true b.length b 1 0 false with
  |error e=>rw [hr]at h;cases h
  |ok r=>
   rw [hr]at h
   injection h with h
   subst h
   obtain⟨g1,g2,g3,g4,g5,g6⟩:=XI b.length b 1 0 r (by omega) (by omega) hr
   refine⟨?_,?_,by omega,g1,by omega⟩
   ·unfold qC
    rw [if_neg (by simpa using g3),if_neg (by omega),g1,if_neg (by omega)]
   ·unfold jO
    rw [if_neg h4,g6]
end Go.Proofs.YtadndhgebgjlaaaGreat
