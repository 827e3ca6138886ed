/- Layer 2, plain: bytes that are an encoding of objects, with lengths of any form, are read as these objects. No program is named here; Layer 2, plain: bytes t... -/
import Derived.Test.YtalmmiojbmpmiaaGreatDoorPBg
set_option linter.all false
namespace Go.Proofs.YtalmmiojbmpmiaaGreatDoor
open Go.RowKit
theorem bvc(a:UInt8)(l:List UInt8):gb (a :: l) 0=a:=rfl
theorem gbs(a:UInt8)(l:List UInt8)(j:Nat):gb (a :: l) (j+1)=gb l j:=rfl
section
variable{t:Int}(h:xu t=true)
include t h
theorem KX:(1<=t/\t<=255/\¬t % 32=31)\/(256<=t/\t<=65535/\t / 256 % 32=31/\1<=t % 256/\t % 256<=127):=by
 simpa [xu]using h
theorem Zc(rest:List UInt8):qj (ki t++rest)=.ok (t,(ki t).length):=by
 rcases KX h with ⟨h1,h2,h3⟩|⟨h1,h2,h3,h4,h5⟩
 ·have e:ki t= [ofI t]:=by unfold ki;rw [iF (by omega)]
  have b:bv (ofI t)=t:=yV (by omega) (by omega)
  rw [e]
  unfold qj
  rw [iF (by simp),List.cons_append,bvc,b,iF h3,h]
  rfl
 ·have e:ki t= [ofI (t / 256),ofI t]:=by unfold ki;rw [iT (by omega)]
  have b:bv (ofI (t / 256))=t / 256:=yV (by omega) (by omega)
  have b2:bv (ofI t)=t % 256:=qO t
  rw [e]
  unfold qj
  rw [iF (by simp),List.cons_append,List.cons_append,gbs,bvc,bvc,b,iT h3,iF (by simp),b2,show 256*(t / 256)+t % 256=t by omega,h]
  rfl
theorem j16:∃a l,ki t=a :: l/\a≠0:=by
 rcases KX h with ⟨h1,h2,h3⟩|⟨h1,h2,h3,h4,h5⟩
 ·refine⟨ofI t,[],by unfold ki;rw [iF (by omega)],fun e=> ?_⟩
  have b:bv (ofI t)=t:=yV (by omega) (by omega)
  rw [e]at b
  have:bv 0=0:=rfl
  omega
 ·refine⟨ofI (t / 256),[ofI t],by unfold ki;rw [iT (by omega)],fun e=> ?_⟩
  have b:bv (ofI (t / 256))=t / 256:=yV (by omega) (by omega)
  rw [e]at b
  have:bv 0=0:=rfl
  omega
end
def Ub(st cn:Bool)(h:List UInt8)(n:Nat):Prop:=∀rest,jz (h++rest) (cn&& !st) st=.ok ((n:Int),h.length)
theorem j7y(st cn:Bool){n:Nat}(h:n<128):Ub st cn [ofI n] n:=by
 intro rest
 have b:bv (ofI n)=n:=yV (by omega) (by omega)
 unfold jz
 rw [iF (by simp),List.cons_append,bvc,b,iT (by omega)]
 rfl
theorem j80(st cn:Bool)(k:Nat)(x:UInt8)(hx:x.toNat=128+k)(h1:1<=k)(h4:k<=4)(l:List UInt8)(hl:l.length=k)(n:Nat)(hn:∀rest,beV (x :: l++rest) k=n)(hs:st=true->¬(n<128)/\¬(1<k/\gb l 0=0)):Ub st cn (x :: l) n:=by
 intro rest
 have b:bv x=128+k:=by unfold bv;omega
 have hg:∀j,j=0->gb (l++rest) j=gb l j:=fun j hj=>by
  subst hj
  cases l with
  |nil=>simp at hl;omega
  |cons a l=>rfl
 unfold jz
 rw [iF (by simp),List.cons_append,bvc,b,iF (by omega),iF (by omega),iF (by omega),hx,show 128+k - 128=k by omega]
 rw [iF (by simp;omega),<-List.cons_append,hn rest]
 rw [iF (by
  intro⟨h5,h6⟩
  obtain⟨h7,h8⟩:=hs h5
  rcases h6 with h6|⟨h6,h9⟩
  ·omega
  ·rw [List.cons_append,gbs,hg 0 rfl]at h9
   exact h8 ⟨h6,h9⟩)]
 simp [hl];omega
theorem be1(x a:UInt8)(rest:List UInt8):beV ([x,a]++rest) 1=bv a:=by show 256*0+bv a=_;omega
theorem be2(x a b:UInt8)(rest:List UInt8):beV ([x,a,b]++rest) 2=256*bv a+bv b:=by show 256*(256*0+bv a)+bv b=_;omega
theorem be3(x a b c:UInt8)(rest:List UInt8):beV ([x,a,b,c]++rest) 3=65536*bv a+256*bv b+bv c:=by show 256*(256*(256*0+bv a)+bv b)+bv c=_;omega
theorem be4(x a b c d:UInt8)(rest:List UInt8):beV ([x,a,b,c,d]++rest) 4=16777216*bv a+65536*bv b+256*bv c+bv d:=by show 256*(256*(256*(256*0+bv a)+bv b)+bv c)+bv d=_;omega
theorem j7z(st cn:Bool){n:Nat}(h:n<256)(hs:st=true->128<=n):Ub st cn [129,ofI n] n:=by
 have b:bv (ofI n)=n:=yV (by omega) (by omega)
 exact j80 st cn 1 129 rfl (by omega) (by omega) [ofI n] rfl n (fun rest=>by rw [be1,b]) fun h=>⟨by have:=hs h;omega,by omega⟩
theorem j8k(st cn:Bool){n:Nat}(h:n<65536)(hs:st=true->256<=n):Ub st cn [130,ofI ((n:Int) / 256),ofI n] n:=by
 have b1:bv (ofI ((n:Int) / 256))=(n:Int) / 256:=yV (by omega) (by omega)
 have b2:bv (ofI n)=(n:Int) % 256:=qO _
 refine j80 st cn 2 130 rfl (by omega) (by omega) [ofI ((n:Int) / 256),ofI n] rfl n (fun rest=>by rw [be2,b1,b2];omega) fun h=>⟨by have:=hs h;omega,fun⟨_,e⟩=> ?_⟩
 have e:ofI ((n:Int) / 256)=0:=e
 rw [e]at b1
 have:bv 0=0:=rfl
 have:=hs h
 omega
theorem xX{n:Nat}(h:n<=65535):qL n=if n<128 then [ofI n]else if n<256 then [129,ofI n]else [130,ofI ((n:Int) / 256),ofI n]:=by
 unfold qL
 by_cases h1:n<128
 ·rw [iT h1,iT h1]
 ·rw [iF h1,iF h1]
  by_cases h2:n<256
  ·rw [iT h2]
   have e:leN 8 n= [ofI n]:=by
    rw [show(8:Nat)=7+1 from rfl,leN,iF (by omega),show n / 256=0 by omega,zT]
   rw [e]<;>rfl
  ·rw [iF h2]
   have e:leN 8 n= [ofI n,ofI ((n:Int) / 256)]:=by
    rw [show(8:Nat)=7+1 from rfl,leN,iF (by omega),show(7:Nat)=6+1 from rfl,leN,iF (by omega),show n / 256 / 256=0 by omega,zT]
    rfl
   rw [e]<;>rfl
theorem j53(st cn:Bool){n:Nat}(h:n<=65535):Ub st cn (qL n) n:=by
 rw [xX h]
 by_cases h1:n<128
 ·rw [iT h1];exact j7y st cn h1
 ·rw [iF h1]
  by_cases h2:n<256
  ·rw [iT h2];exact j7z st cn h2 fun _=>by omega
  ·rw [iF h2];exact j8k st cn (by omega) fun _=>by omega
def Ns.codes(st:Bool):Ns->List UInt8->Prop
 |.nil,b=>b= []
 |.cons t v k r,b=>∃h c rb,(if kr t=true then k.codes st c else c=v)/\((Ub st (kr t) h c.length/\b=ki t++(h++(c++rb)))\/(st=false/\kr t=true/\h= []/\b=ki t++128 :: (c++0 :: 0 :: rb)))/\r.codes st rb
theorem VF(st:Bool)(l:Ns):l.enc.length<=65535->l.codes st l.enc:=by
 induction l with
 |nil=>intro _;rfl
 |cons t v k r ihk ihr=>
  intro h
  rw [qz t v k r _ rfl]at h
  simp only [List.length_append]at h
  refine⟨qL (if kr t then k.enc else v).length,_,r.enc,?_,.inl ⟨j53 st _ (n:=(if kr t then k.enc else v).length) (by omega),?_⟩,ihr (by omega)⟩
  ·split
   ·rename_i ht;rw [iT ht]at h;exact ihk (by omega)
   ·rfl
  ·rw [qz t v k r _ rfl];simp only [List.append_assoc]
theorem zM{t:Int}{v:List UInt8}{k r:Ns}{d:Nat}(h:(Ns.cons t v k r).chk d=0):xu t=true/\(kr t=false->k=.nil)/\(kr t=true->v= [])/\d<=8/\k.chk (d+1)=0/\r.chk d=0:=by
 rw [Ns.chk]at h
 split at h
 ·omega
 ·rename_i h1
  split at h
  ·omega
  ·rename_i h2
   split at h
   ·omega
   ·rename_i h3
    split at h
    ·rename_i h4
     refine⟨by simpa using h1,fun e=> ?_,fun e=> ?_,by omega,h4,h⟩
     ·cases k with
      |nil=>rfl
      |cons _ _ _ _=>exact absurd (.inl ⟨e,by simp [Ns.len]⟩) h2
     ·cases v with
      |nil=>rfl
      |cons _ _=>exact absurd (.inr ⟨e,by simp⟩) h2
    ·omega
theorem ZC(st:Bool)(l:Ns):∀b,l.codes st b->∀d c n,l.chk d=0->c+l.all<=256->b.length<=n->
 jf st n b d c false=.ok ⟨l,b.length,c+l.all⟩/\(st=false->∀rest,jf st n (b++0 :: 0 :: rest) d c true=.ok ⟨l,b.length+2,c+l.all⟩):=by
 induction l with
 |nil=>
  intro b hb d c n _ _ _
  have hb:b= []:=hb
  subst hb
  refine⟨kw (u:=0) rfl,fun _ rest=>kw (u:=2) ?_⟩
  simp [kh,bvc,gbs]
 |cons t v k r ihk ihr=>
  intro b hb d c n hchk hall hn
  obtain⟨h,cc,rb,hc,hform,hr⟩:=hb
  obtain⟨tv,f1,f2,hd,kchk,rchk⟩:=zM hchk
  simp only [Ns.all]at hall
  obtain⟨a0,tl,htb,ha0⟩:=j16 tv
  have htl:1<=(ki t).length:=by rw [htb];simp
  obtain⟨n,rfl⟩:∃m,n=m+1:=⟨n - 1,by
   rcases hform with ⟨_,e⟩|⟨_,_,_,e⟩<;>(rw [e]at hn;simp at hn;omega)⟩
  obtain⟨u,hb,hobj⟩:∃u,(∃ob,b=ob++rb/\ob.length=u/\1<=u/\∃q,ob=a0 :: q)/\∀x,kP st n (b++x) d c=.ok ⟨t,v,k,u,c+1+k.all⟩:=by
   rcases hform with ⟨hlen,e⟩|⟨hst,ht,rfl,e⟩
   ·refine⟨(ki t).length+h.length+cc.length,⟨ki t++(h++cc),by rw [e];simp [List.append_assoc],by simp;omega,by omega,tl++(h++cc),by rw [htb]<;>rfl⟩,fun x=> ?_⟩
    have e2:b++x=ki t++(h++(cc++(rb++x))):=by rw [e];simp [List.append_assoc]
    have hT:qj (b++x)=.ok (t,(ki t).length):=by rw [e2];exact Zc tv _
    have hD:(b++x).drop (ki t).length=h++(cc++(rb++x)):=by rw [e2];simp
    have hD2:(b++x).drop ((ki t).length+h.length)=cc++(rb++x):=by rw [<-List.drop_drop,hD];simp
    have hS:jz ((b++x).drop (ki t).length) (kr t&& !st) st=.ok ((cc.length:Int),h.length):=by rw [hD];exact hlen _
    have hk2:¬((((b++x).drop ((ki t).length+h.length)).length:Nat):Int)<(cc.length:Int):=by rw [hD2];simp;omega
    cases htc:kr t with
    |true=>
     rw [iT htc]at hc
     rw [f2 htc]
     have hl:cc.length<=n:=by rw [e]at hn;simp at hn;omega
     have hL:=(ihk cc hc (d+1) (c+1) n kchk (by omega) hl).1
     have:=UD (n:=n) (d:=d) (c:=c) hT (by rw [htc]at hS |-;exact hS) (by omega) (by omega) hk2 (by omega) htc (by rw [hD2];simpa using hL)
     rw [this]
     simp
    |false=>
     rw [iF (by rw [htc];decide)]at hc
     subst hc
     rw [f1 htc]
     have:=j05 (n:=n) (d:=d) (c:=c) hT (by rw [htc]at hS |-;exact hS) (by omega) (by omega) hk2 (by omega) (by rw [htc];decide)
     rw [this,hD2]
     simp [Ns.all]
   ·subst hst
    refine⟨(ki t).length+1+(cc.length+2),⟨ki t++128 :: (cc++ [0,0]),by rw [e];simp [List.append_assoc],by simp;omega,by omega,tl++128 :: (cc++ [0,0]),by rw [htb]<;>rfl⟩,fun x=> ?_⟩
    have e2:b++x=ki t++(128 :: (cc++0 :: 0 :: (rb++x))):=by rw [e];simp [List.append_assoc]
    have hT:qj (b++x)=.ok (t,(ki t).length):=by rw [e2];exact Zc tv _
    have hD:(b++x).drop (ki t).length=128 :: (cc++0 :: 0 :: (rb++x)):=by rw [e2];simp
    have hD2:(b++x).drop ((ki t).length+1)=cc++0 :: 0 :: (rb++x):=by rw [<-List.drop_drop,hD]<;>rfl
    have hS:jz ((b++x).drop (ki t).length) (kr t&& !false) false=.ok (-1,1):=by
     rw [hD,ht]
     unfold jz
     have b8:bv 128=128:=rfl
     rw [iF (by simp),bvc,b8,iF (by omega),iF (by omega),iT rfl]<;>rfl
    rw [iT ht]at hc
    rw [f2 ht]
    have hl:cc.length<=n:=by rw [e]at hn;simp at hn;omega
    have hL:=(ihk cc hc (d+1) (c+1) n kchk (by omega) hl).2 rfl (rb++x)
    have:=j2x (n:=n) (d:=d) (c:=c) hT hS (by omega) (by omega) (by omega) (by omega) (by rw [hD2];exact hL)
    rw [this]
  obtain⟨ob,rfl,rfl,hu,q,hq⟩:=hb
  have hrl:rb.length<=n:=by simp at hn;omega
  obtain⟨r1,r2⟩:=ihr rb hr d (c+1+k.all) n rchk (by omega) hrl
  refine⟨?_,fun hst rest=> ?_⟩
  ·have hh:kh (ob++rb) false=none:=by rw [hq];simp [kh]
   have ho:=hobj []
   rw [List.append_nil]at ho
   rw [jN hh ho]
   simp only
   rw [List.drop_left,r1]
   simp only [yx,Ns.all,Ns.app,List.length_append]
   congr 2;omega
  ·have hh:kh (ob++rb++0 :: 0 :: rest) true=none:=by rw [hq];simp [kh,bvc,ha0]
   rw [jN hh (hobj _)]
   simp only
   rw [List.append_assoc,List.drop_left,r2 hst rest]
   simp only [yx,Ns.all,Ns.app,List.length_append]
   congr 2<;>omega
theorem Xo(st:Bool)(l:Ns)(b:List UInt8)(hb:l.codes st b)(h1:l.chk 1=0)(h2:l.all<=256)(h3:b.length<=4096):kl b st=.ok l:=by
 unfold kl
 rw [iF (by omega),(ZC st l b hb 1 0 b.length h1 (by omega) iL).1]
theorem V2{b:List UInt8}{t:Int}{k:Nat}(h:qj b=.ok (t,k)):xu t=true/\b.take k=ki t/\1<=k/\k<=b.length:=by
 obtain⟨g1,g2,g3⟩:=zG h
 refine⟨g1,?_,g2,g3⟩
 unfold qj at h
 split at h
 ·cases h
 ·rename_i h0
  obtain⟨x0,q,rfl⟩:∃x q,b=x :: q:=by
   cases b with
   |nil=>simp at h0
   |cons x q=>exact⟨x,q,rfl⟩
  have n0:=jP x0
  have l0:=jT x0
  rw [bvc]at h
  split at h
  ·rename_i h1
   split at h
   ·cases h
   ·rename_i h2
    obtain⟨x1,q,rfl⟩:∃x p,q=x :: p:=by
     cases q with
     |nil=>simp at h2
     |cons x p=>exact⟨x,p,rfl⟩
    rw [gbs,bvc]at h
    have n1:=jP x1
    have l1:=jT x1
    split at h
    ·injection h with h;injection h with e1 e2
     subst e1 e2
     unfold ki
     rw [iT (by omega)]
     have a1:ofI ((256*bv x0+bv x1) / 256)=x0:=by rw [show(256*bv x0+bv x1) / 256=bv x0 by omega,zU]
     have a2:ofI (256*bv x0+bv x1)=x1:=by rw [kI (show(256*bv x0+bv x1) % 256=bv x1 % 256 by omega),zU]
     rw [a1,a2]<;>rfl
    ·cases h
  ·split at h
   ·injection h with h;injection h with e1 e2
    subst e1 e2
    unfold ki
    rw [iF (by omega),zU]<;>rfl
   ·cases h
theorem Y5{x:List UInt8}{m:Int}{j:Nat}(h:jz x false true=.ok (m,j))(hm:m<=65535):x.take j=qL m.toNat/\0<=m/\1<=j/\j<=x.length/\∀o,jz x o false=.ok (m,j):=by
 unfold jz at h
 split at h
 ·cases h
 ·rename_i h0
  obtain⟨x0,q,rfl⟩:∃y q,x=y :: q:=by
   cases x with
   |nil=>simp at h0
   |cons y q=>exact⟨y,q,rfl⟩
  have n0:=jP x0
  have l0:=jT x0
  rw [bvc]at h
  split at h
  ·rename_i h1
   injection h with h;injection h with e1 e2
   subst e1 e2
   refine⟨?_,n0,by omega,by simp,fun o=> ?_⟩
   ·rw [xX (by omega),iT (by omega),show(((bv x0).toNat:Nat):Int)=bv x0 by omega,zU]<;>rfl
   ·unfold jz;rw [iF h0,bvc,iT h1]
  ·rename_i h1
   split at h
   ·cases h
   ·rename_i h2
    split at h
    ·simp at h
    ·rename_i h3
     split at h
     ·cases h
     ·rename_i h4
      split at h
      ·cases h
      ·rename_i h5
       obtain⟨kk,hkk⟩:∃kk,kk=(gb (x0 :: q) 0).toNat - 128:=⟨_,rfl⟩
       rw [bvc]at hkk
       have hb0:bv x0=(x0.toNat:Int):=rfl
       have hk1:1<=kk:=by omega
       rw [<-hkk]at h h5 h4
       injection h with h;injection h with e1 e2
       subst e2
       have hs:∀o,jz (x0 :: q) o false=.ok (m,1+kk):=fun o=>by
        unfold jz
        rw [iF h0,bvc,iF h1,iF h2,iF h3,<-hkk,iF h4,iF (by simp),e1]
       simp only [true_and,not_or,not_and]at h5
       obtain⟨h6,h7⟩:=h5
       have hx0:x0=ofI (128+kk:Nat):=by rw [<-zU x0];congr 1;omega
       have hq:kk<=q.length:=by simp at h4;omega
       refine⟨?_,by omega,by omega,by simp;omega,hs⟩
       obtain⟨x1,q,rfl⟩:∃y p,q=y :: p:=by
        cases q with
        |nil=>simp at hq;omega
        |cons y p=>exact⟨y,p,rfl⟩
       have n1:=jP x1
       have l1:=jT x1
       have n1z:bv x1=0->x1=0:=fun e=>xy (by rw [e]<;>rfl)
       rcases Nat.lt_or_ge 1 kk with hk2|hk2
       ·have hne:¬bv x1=0:=fun e=>h7 hk2 (n1z e)
        obtain⟨x2,q,rfl⟩:∃y p,q=y :: p:=by
         cases q with
         |nil=>simp at hq;omega
         |cons y p=>exact⟨y,p,rfl⟩
        have n2:=jP x2
        have l2:=jT x2
        rcases Nat.lt_or_ge 2 kk with hk3|hk3
        ·exfalso
         obtain⟨x3,q,rfl⟩:∃y p,q=y :: p:=by
          cases q with
          |nil=>simp at hq;omega
          |cons y p=>exact⟨y,p,rfl⟩
         have n3:=jP x3
         rcases Nat.lt_or_ge 3 kk with hk4|hk4
         ·have hk5:kk=4:=by omega
          obtain⟨x4,q,rfl⟩:∃y p,q=y :: p:=by
           cases q with
           |nil=>simp at hq;omega
           |cons y p=>exact⟨y,p,rfl⟩
          have n4:=jP x4
          rw [hk5]at e1
          have:=be4 x0 x1 x2 x3 x4 q
          rw [show(x0 :: x1 :: x2 :: x3 :: x4 :: q)= [x0,x1,x2,x3,x4]++q from rfl,this]at e1
          omega
         ·have hk5:kk=3:=by omega
          rw [hk5]at e1
          have:=be3 x0 x1 x2 x3 q
          rw [show(x0 :: x1 :: x2 :: x3 :: q)= [x0,x1,x2,x3]++q from rfl,this]at e1
          omega
        ·have hk5:kk=2:=by omega
         rw [hk5]at e1 hx0 |-
         have:=be2 x0 x1 x2 q
         rw [show(x0 :: x1 :: x2 :: q)= [x0,x1,x2]++q from rfl,this]at e1
         rw [xX (by omega),iF (by omega),iF (by omega),show((m.toNat:Nat):Int)=m by omega,<-e1]
         have a1:ofI ((256*bv x1+bv x2) / 256)=x1:=by rw [show(256*bv x1+bv x2) / 256=bv x1 by omega,zU]
         have a2:ofI (256*bv x1+bv x2)=x2:=by rw [kI (show(256*bv x1+bv x2) % 256=bv x2 % 256 by omega),zU]
         rw [a1,a2,hx0]<;>rfl
       ·have hk5:kk=1:=by omega
        rw [hk5]at e1 hx0 h6 |-
        have:=be1 x0 x1 q
        rw [show(x0 :: x1 :: q)= [x0,x1]++q from rfl,this]at e1 h6
        rw [xX (by omega),iF (by omega),iT (by omega),show((m.toNat:Nat):Int)=m by omega,<-e1,zU,hx0]<;>rfl
theorem V3(b:List UInt8)(i j n:Nat):b=b.take i++((b.drop i).take j++((b.drop (i+j)).take n++b.drop (i+j+n))):=by
 have e1:=List.take_append_drop i b
 have e2:=List.take_append_drop j (b.drop i)
 have e3:=List.take_append_drop n (b.drop (i+j))
 rw [List.drop_drop]at e2 e3
 rw [e3,e2,e1]
theorem UE{n:Nat}{b:List UInt8}{d c:Nat}{o:j4i}(h:kP true n b d c=.ok o):∃t k m j,qj b=.ok (t,k)/\jz (b.drop k) false true=.ok (m,j)/\¬8<d/\¬256<c+1/\¬(((b.drop (k+j)).length:Nat):Int)<m/\0<=m/\
 ((kr t=true/\∃r,jf true n ((b.drop (k+j)).take m.toNat) (d+1) (c+1) false=.ok r/\o=⟨t,[],r.list,k+j+m.toNat,r.count⟩)\/(kr t=false/\o=⟨t,(b.drop (k+j)).take m.toNat,.nil,k+j+m.toNat,c+1⟩)):=by
 unfold kP yX at h
 split at h
 ·cases h
 ·rename_i t k ht
  split at h
  ·cases h
  ·rename_i m j hs
   rw [show(kr t&& !true)=false by simp]at hs
   have hm0:0<=m:=(xl hs).2.2.2.elim id fun h=>by cases h.2
   split at h
   ·cases h
   ·rename_i h1
    split at h
    ·cases h
    ·rename_i h2
     split at h
     ·cases h
     ·rename_i h3
      rw [iF (by omega)]at h
      split at h
      ·rename_i h4
       split at h
       ·cases h
       ·rename_i r hr
        injection h with h
        exact⟨t,k,m,j,ht,hs,h1,h2,h3,hm0,.inl ⟨h4,r,hr,h.symm⟩⟩
      ·rename_i h4
       injection h with h
       exact⟨t,k,m,j,ht,hs,h1,h2,h3,hm0,.inr ⟨by simpa using h4,h.symm⟩⟩
theorem Ya(n:Nat):∀(b:List UInt8) (d c:Nat) (r:Lst),b.length<=4096->c<=256->jf true n b d c false=.ok r->
 r.list.enc=b/\r.used=b.length/\r.list.chk d=0/\r.count=c+r.list.all/\r.count<=256/\jf false n b d c false=.ok r:=by
 induction n with
 |zero=>
  intro b d c r hb hc h
  cases b with
  |nil=>
   rw [kw (u:=0) rfl]at h
   injection h with h
   subst h
   exact⟨rfl,rfl,rfl,rfl,hc,kw (u:=0) rfl⟩
  |cons x q=>
   rw [jf.eq_def]at h
   simp [kh]at h
 |succ n ih=>
  intro b d c r hb hc h
  rcases Nat.eq_zero_or_pos b.length with h0|h0
  ·have e:b= []:=List.eq_nil_of_length_eq_zero h0
   subst e
   rw [kw (u:=0) rfl]at h
   injection h with h
   subst h
   exact⟨rfl,rfl,rfl,rfl,hc,kw (u:=0) rfl⟩
  ·have hh:kh b false=none:=by
    cases b with
    |nil=>simp at h0
    |cons x q=>simp [kh]
   cases ho:kP true n b d c with
   |error e=>rw [jD hh ho]at h;cases h
   |ok o=>
    rw [jN hh ho]at h
    obtain⟨t,k,m,j,ht,hs,h1,h2,h3,hm0,hor⟩:=UE ho
    obtain⟨tv,tk,k1,k2⟩:=V2 ht
    have hdl:(b.drop (k+j)).length=b.length - (k+j):=List.length_drop ..
    obtain⟨sj,_,j1,j2,sl⟩:=Y5 hs (by omega)
    rw [List.length_drop]at j2
    have hC:((b.drop (k+j)).take m.toNat).length=m.toNat:=by rw [List.length_take];omega
    cases hr:jf true n (b.drop o.used) d o.count false with
    |error e=>rw [hr]at h;cases h
    |ok r2=>
     rw [hr]at h
     simp only [yx]at h
     injection h with h
     have hsplit:=V3 b k j m.toNat
     rw [tk,sj]at hsplit
     rcases hor with ⟨tc,r1,hr1,rfl⟩|⟨tc,rfl⟩
     ·simp only at hr h
      obtain⟨g1,g2,g3,g4,g5,g6⟩:=ih _ (d+1) (c+1) r1 (by rw [List.length_take];omega) (by omega) hr1
      obtain⟨f1,f2,f3,f4,f5,f6⟩:=ih _ d r1.count r2 (by rw [List.length_drop];omega) g5 hr
      have ho2:kP false n b d c=.ok ⟨t,[],r1.list,k+j+m.toNat,r1.count⟩:=UD ht (sl _) h1 h2 h3 (by omega) tc g6
      subst h
      simp only [Ns.app]
      refine⟨?_,?_,?_,?_,f5,?_⟩
      ·rw [qz t [] r1.list r2.list ((b.drop (k+j)).take m.toNat) (by rw [iT tc,g1]),f1,hC]
       simp only [List.append_assoc]
       exact hsplit.symm
      ·rw [f2,List.length_drop];omega
      ·rw [zN t [] r1.list r2.list d tv (by rw [tc];simp),iF h1,iT g3,f3]
      ·simp only [Ns.all];omega
      ·rw [jN hh ho2]
       simp only [f6,yx,Ns.app]
     ·simp only at hr h
      obtain⟨f1,f2,f3,f4,f5,f6⟩:=ih _ d (c+1) r2 (by rw [List.length_drop];omega) (by omega) hr
      have ho2:kP false n b d c=.ok ⟨t,(b.drop (k+j)).take m.toNat,.nil,k+j+m.toNat,c+1⟩:=j05 ht (sl _) h1 h2 h3 (by omega) (by rw [tc];decide)
      subst h
      simp only [Ns.app]
      refine⟨?_,?_,?_,?_,f5,?_⟩
      ·rw [qz t _ .nil r2.list ((b.drop (k+j)).take m.toNat) (by rw [iF (by rw [tc];decide)]),f1,hC]
       simp only [List.append_assoc]
       exact hsplit.symm
      ·rw [f2,List.length_drop];omega
      ·rw [zN t _ .nil r2.list d tv (by rw [tc];simp [Ns.len]),iF h1,iT (show Ns.nil.chk (d+1)=0 from rfl),f3]
      ·simp only [Ns.all];omega
      ·rw [jN hh ho2]
       simp only [f6,yx,Ns.app]
theorem Zb{b:List UInt8}{l:Ns}(h:kl b true=.ok l):yi l=.ok b/\kl b false=.ok l/\l.all<=256/\l.enc=b/\b.length<=4096:=by
 unfold kl at h
 split at h
 ·cases h
 ·rename_i h4
  cases hr:jf true b.length b 1 0 false with
  |error e=>rw [hr]at h;cases h
  |ok r=>
   rw [hr]at h
   injection h with h
   subst h
   obtain⟨g1,g2,g3,g4,g5,g6⟩:=Ya b.length b 1 0 r (by omega) (by omega) hr
   refine⟨?_,?_,by omega,g1,by omega⟩
   ·unfold yi
    rw [iF (by simpa using g3),iF (by omega),g1,iF (by omega)]
   ·unfold kl
    rw [iF h4,g6]
end Go.Proofs.YtalmmiojbmpmiaaGreatDoor
