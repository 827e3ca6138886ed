/- Layer 2, plain: bytes that are read strictly are the encoding of their objects, and are read otherwise in the same way. No program is named here -/
import Derived.Test.YtadndhgebgjlaaaPBj
set_option linter.unusedVariables false
set_option linter.unusedSimpArgs false
namespace Go.Proofs.Ytadndhgebgjlaaa
open Go.RowKit
theorem Q5{b:List UInt8}{t:Int}{k:Nat}(h:qu b=.ok (t,k)):qy t=true/\b.take k=jW t/\1<=k/\k<=b.length:=by
 obtain⟨g1,g2,g3⟩:=zg h
 refine⟨g1,?_,g2,g3⟩
 unfold qu at h
 split at h
 ·cases h
 ·rename_i h0
  obtain⟨x0,q,rfl⟩:∃x q,b=x :: q:=by
   cases b with
   |nil=>simp at h0
   |cons x q=>exact⟨x,q,rfl⟩
  have n0:=jy x0
  have l0:=jB x0
  rw [bvc]at h
  split at h
  ·rename_i h1
   split at h
   ·cases h
   ·rename_i h2
    obtain⟨x1,q,rfl⟩:∃x p,q=x :: p:=by
     cases q with
     |nil=>simp at h2
     |cons x p=>exact⟨x,p,rfl⟩
    rw [gbs,bvc]at h
    have n1:=jy x1
    have l1:=jB x1
    split at h
    ·injection h with h;injection h with e1 e2
     subst e1 e2
     unfold jW
     rw [if_pos (by omega)]
     have a1:ofI ((256*bv x0+bv x1) / 256)=x0:=by rw [show(256*bv x0+bv x1) / 256=bv x0 by omega,qR]
     have a2:ofI (256*bv x0+bv x1)=x1:=by rw [z8 (show(256*bv x0+bv x1) % 256=bv x1 % 256 by omega),qR]
     rw [a1,a2];rfl
    ·cases h
  ·split at h
   ·injection h with h;injection h with e1 e2
    subst e1 e2
    unfold jW
    rw [if_neg (by omega),qR];rfl
   ·cases h
theorem JB{x:List UInt8}{m:Int}{j:Nat}(h:jp x false true=.ok (m,j))(hm:m<=65535):x.take j=kW m.toNat/\0<=m/\1<=j/\j<=x.length/\∀o,jp x o false=.ok (m,j):=by
 unfold jp at h
 split at h
 ·cases h
 ·rename_i h0
  obtain⟨x0,q,rfl⟩:∃y q,x=y :: q:=by
   cases x with
   |nil=>simp at h0
   |cons y q=>exact⟨y,q,rfl⟩
  have n0:=jy x0
  have l0:=jB x0
  rw [bvc]at h
  split at h
  ·rename_i h1
   injection h with h;injection h with e1 e2
   subst e1 e2
   refine⟨?_,n0,by omega,by simp,fun o=> ?_⟩
   ·rw [kL (by omega),if_pos (by omega),show(((bv x0).toNat:Nat):Int)=bv x0 by omega,qR];rfl
   ·unfold jp;rw [if_neg h0,bvc,if_pos h1]
  ·rename_i h1
   split at h
   ·cases h
   ·rename_i h2
    split at h
    ·simp at h
    ·rename_i h3
     split at h
     ·cases h
     ·rename_i h4
      split at h
      ·cases h
      ·rename_i h5
       obtain⟨kk,hkk⟩:∃kk,kk=(gb (x0 :: q) 0).toNat - 128:=⟨_,rfl⟩
       rw [bvc]at hkk
       have hb0:bv x0=(x0.toNat:Int):=rfl
       have hk1:1<=kk:=by omega
       rw [<-hkk]at h h5 h4
       injection h with h;injection h with e1 e2
       subst e2
       have hs:∀o,jp (x0 :: q) o false=.ok (m,1+kk):=fun o=>by
        unfold jp
        rw [if_neg h0,bvc,if_neg h1,if_neg h2,if_neg h3,<-hkk,if_neg h4,if_neg (by simp),e1]
       simp only [true_and,not_or,not_and]at h5
       obtain⟨h6,h7⟩:=h5
       have hx0:x0=ofI (128+kk:Nat):=by rw [<-qR x0];congr 1;omega
       have hq:kk<=q.length:=by simp at h4;omega
       refine⟨?_,by omega,by omega,by simp;omega,hs⟩
       obtain⟨x1,q,rfl⟩:∃y p,q=y :: p:=by
        cases q with
        |nil=>simp at hq;omega
        |cons y p=>exact⟨y,p,rfl⟩
       have n1:=jy x1
       have l1:=jB x1
       have n1z:bv x1=0->x1=0:=fun e=>kV (by rw [e];rfl)
       rcases Nat.lt_or_ge 1 kk with hk2|hk2
       ·have hne:¬bv x1=0:=fun e=>h7 hk2 (n1z e)
        obtain⟨x2,q,rfl⟩:∃y p,q=y :: p:=by
         cases q with
         |nil=>simp at hq;omega
         |cons y p=>exact⟨y,p,rfl⟩
        have n2:=jy x2
        have l2:=jB x2
        rcases Nat.lt_or_ge 2 kk with hk3|hk3
        ·exfalso
         obtain⟨x3,q,rfl⟩:∃y p,q=y :: p:=by
          cases q with
          |nil=>simp at hq;omega
          |cons y p=>exact⟨y,p,rfl⟩
         have n3:=jy x3
         rcases Nat.lt_or_ge 3 kk with hk4|hk4
         ·have hk5:kk=4:=by omega
          obtain⟨x4,q,rfl⟩:∃y p,q=y :: p:=by
           cases q with
           |nil=>simp at hq;omega
           |cons y p=>exact⟨y,p,rfl⟩
          have n4:=jy x4
          rw [hk5]at e1
          have:=be4 x0 x1 x2 x3 x4 q
          rw [show(x0 :: x1 :: x2 :: x3 :: x4 :: q)= [x0,x1,x2,x3,x4]++q from rfl,this]at e1
          omega
         ·have hk5:kk=3:=by omega
          rw [hk5]at e1
          have:=be3 x0 x1 x2 x3 q
          rw [show(x0 :: x1 :: x2 :: x3 :: q)= [x0,x1,x2,x3]++q from rfl,this]at e1
          omega
        ·have hk5:kk=2:=by omega
         rw [hk5]at e1 hx0 |-
         have:=be2 x0 x1 x2 q
         rw [show(x0 :: x1 :: x2 :: q)= [x0,x1,x2]++q from rfl,this]at e1
         rw [kL (by omega),if_neg (by omega),if_neg (by omega),show((m.toNat:Nat):Int)=m by omega,<-e1]
         have a1:ofI ((256*bv x1+bv x2) / 256)=x1:=by rw [show(256*bv x1+bv x2) / 256=bv x1 by omega,qR]
         have a2:ofI (256*bv x1+bv x2)=x2:=by rw [z8 (show(256*bv x1+bv x2) % 256=bv x2 % 256 by omega),qR]
         rw [a1,a2,hx0];rfl
       ·have hk5:kk=1:=by omega
        rw [hk5]at e1 hx0 h6 |-
        have:=be1 x0 x1 q
        rw [show(x0 :: x1 :: q)= [x0,x1]++q from rfl,this]at e1 h6
        rw [kL (by omega),if_neg (by omega),if_pos (by omega),show((m.toNat:Nat):Int)=m by omega,<-e1,qR,hx0];rfl
theorem KW(b:List UInt8)(i j n:Nat):b=b.take i++((b.drop i).take j++((b.drop (i+j)).take n++b.drop (i+j+n))):=by
 have e1:=List.take_append_drop i b
 have e2:=List.take_append_drop j (b.drop i)
 have e3:=List.take_append_drop n (b.drop (i+j))
 rw [List.drop_drop]at e2 e3
 rw [e3,e2,e1]
theorem Q1{n:Nat}{b:List UInt8}{d c:Nat}{o:Yi}(h:jZ true n b d c=.ok o):∃t k m j,qu b=.ok (t,k)/\jp (b.drop k) false true=.ok (m,j)/\¬8<d/\¬256<c+1/\¬(((b.drop (k+j)).length:Nat):Int)<m/\0<=m/\
 ((jP t=true/\∃r,je true n ((b.drop (k+j)).take m.toNat) (d+1) (c+1) false=.ok r/\o=⟨t,[],r.list,k+j+m.toNat,r.count⟩)\/(jP t=false/\o=⟨t,(b.drop (k+j)).take m.toNat,.nil,k+j+m.toNat,c+1⟩)):=by
 unfold jZ yH at h
 split at h
 ·cases h
 ·rename_i t k ht
  split at h
  ·cases h
  ·rename_i m j hs
   rw [show(jP t&& !true)=false by simp]at hs
   have hm0:0<=m:=(qU hs).2.2.2.elim id fun h=>by cases h.2
   split at h
   ·cases h
   ·rename_i h1
    split at h
    ·cases h
    ·rename_i h2
     split at h
     ·cases h
     ·rename_i h3
      rw [if_neg (by omega)]at h
      split at h
      ·rename_i h4
       split at h
       ·cases h
       ·rename_i r hr
        injection h with h
        exact⟨t,k,m,j,ht,hs,h1,h2,h3,hm0,.inl ⟨h4,r,hr,h.symm⟩⟩
      ·rename_i h4
       injection h with h
       exact⟨t,k,m,j,ht,hs,h1,h2,h3,hm0,.inr ⟨by simpa using h4,h.symm⟩⟩
theorem JE(n:Nat):∀(b:List UInt8) (d c:Nat) (r:Lst),b.length<=4096->c<=256->je true n b d c false=.ok r->
 r.list.enc=b/\r.used=b.length/\r.list.chk d=0/\r.count=c+r.list.all/\r.count<=256/\je false n b d c false=.ok r:=by
 induction n with
 |zero=>
  intro b d c r hb hc h
  cases b with
  |nil=>
   rw [jS (u:=0) rfl]at h
   injection h with h
   subst h
   exact⟨rfl,rfl,rfl,rfl,hc,jS (u:=0) rfl⟩
  |cons x q=>
   rw [je.eq_def]at h
   simp [jR]at h
 |succ n ih=>
  intro b d c r hb hc h
  rcases Nat.eq_zero_or_pos b.length with h0|h0
  ·have e:b= []:=List.eq_nil_of_length_eq_zero h0
   subst e
   rw [jS (u:=0) rfl]at h
   injection h with h
   subst h
   exact⟨rfl,rfl,rfl,rfl,hc,jS (u:=0) rfl⟩
  ·have hh:jR b false=none:=by
    cases b with
    |nil=>simp at h0
    |cons x q=>simp [jR]
   cases ho:jZ true n b d c with
   |error e=>rw [qY hh ho]at h;cases h
   |ok o=>
    rw [jN hh ho]at h
    obtain⟨t,k,m,j,ht,hs,h1,h2,h3,hm0,hor⟩:=Q1 ho
    obtain⟨tv,tk,k1,k2⟩:=Q5 ht
    have hdl:(b.drop (k+j)).length=b.length - (k+j):=List.length_drop ..
    obtain⟨sj,_,j1,j2,sl⟩:=JB hs (by omega)
    rw [List.length_drop]at j2
    have hC:((b.drop (k+j)).take m.toNat).length=m.toNat:=by rw [List.length_take];omega
    cases hr:je true n (b.drop o.used) d o.count false with
    |error e=>rw [hr]at h;cases h
    |ok r2=>
     rw [hr]at h
     simp only [yr]at h
     injection h with h
     have hsplit:=KW b k j m.toNat
     rw [tk,sj]at hsplit
     rcases hor with ⟨tc,r1,hr1,rfl⟩|⟨tc,rfl⟩
     ·simp only at hr h
      obtain⟨g1,g2,g3,g4,g5,g6⟩:=ih _ (d+1) (c+1) r1 (by rw [List.length_take];omega) (by omega) hr1
      obtain⟨f1,f2,f3,f4,f5,f6⟩:=ih _ d r1.count r2 (by rw [List.length_drop];omega) g5 hr
      have ho2:jZ false n b d c=.ok ⟨t,[],r1.list,k+j+m.toNat,r1.count⟩:=Zq ht (sl _) h1 h2 h3 (by omega) tc g6
      subst h
      simp only [Ns.app]
      refine⟨?_,?_,?_,?_,f5,?_⟩
      ·rw [kG t [] r1.list r2.list ((b.drop (k+j)).take m.toNat) (by rw [if_pos tc,g1]),f1,hC]
       simp only [List.append_assoc]
       exact hsplit.symm
      ·rw [f2,List.length_drop];omega
      ·rw [xS t [] r1.list r2.list d tv (by rw [tc];simp),if_neg h1,if_pos g3,f3]
      ·simp only [Ns.all];omega
      ·rw [jN hh ho2]
       simp only [f6,yr,Ns.app]
     ·simp only at hr h
      obtain⟨f1,f2,f3,f4,f5,f6⟩:=ih _ d (c+1) r2 (by rw [List.length_drop];omega) (by omega) hr
      have ho2:jZ false n b d c=.ok ⟨t,(b.drop (k+j)).take m.toNat,.nil,k+j+m.toNat,c+1⟩:=YG ht (sl _) h1 h2 h3 (by omega) (by rw [tc];decide)
      subst h
      simp only [Ns.app]
      refine⟨?_,?_,?_,?_,f5,?_⟩
      ·rw [kG t _ .nil r2.list ((b.drop (k+j)).take m.toNat) (by rw [if_neg (by rw [tc];decide)]),f1,hC]
       simp only [List.append_assoc]
       exact hsplit.symm
      ·rw [f2,List.length_drop];omega
      ·rw [xS t _ .nil r2.list d tv (by rw [tc];simp [Ns.len]),if_neg h1,if_pos (show Ns.nil.chk (d+1)=0 from rfl),f3]
      ·simp only [Ns.all];omega
      ·rw [jN hh ho2]
       simp only [f6,yr,Ns.app]
theorem qc{b:List UInt8}{l:Ns}(h:jv b true=.ok l):qI l=.ok b/\jv b false=.ok l/\l.all<=256/\l.enc=b/\b.length<=4096:=by
 unfold jv at h
 split at h
 ·cases h
 ·rename_i h4
  cases hr:je true b.length b 1 0 false with
  |error e=>rw [hr]at h;cases h
  |ok r=>
   rw [hr]at h
   injection h with h
   subst h
   obtain⟨g1,g2,g3,g4,g5,g6⟩:=JE b.length b 1 0 r (by omega) (by omega) hr
   refine⟨?_,?_,by omega,g1,by omega⟩
   ·unfold qI
    rw [if_neg (by simpa using g3),if_neg (by omega),g1,if_neg (by omega)]
   ·unfold jv
    rw [if_neg h4,g6]
end Go.Proofs.Ytadndhgebgjlaaa
