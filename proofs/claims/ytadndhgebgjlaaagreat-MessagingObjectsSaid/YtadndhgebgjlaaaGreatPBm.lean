/- Layer 2, plain: bytes that are an encoding of objects, with lengths of any form, are read as these objects. No program is named here -/
import Derived.Test.YtadndhgebgjlaaaGreatPq
set_option linter.all false
namespace Go.Proofs.YtadndhgebgjlaaaGreat
open Go.RowKit
theorem bvc(a:UInt8)(l:List UInt8):gb (a :: l) 0=a:=rfl
theorem gbs(a:UInt8)(l:List UInt8)(j:Nat):gb (a :: l) (j+1)=gb l j:=rfl
section
variable{t:Int}(h:qX t=true)
include t h
theorem Q4:(1<=t/\t<=255/\¬t % 32=31)\/(256<=t/\t<=65535/\t / 256 % 32=31/\1<=t % 256/\t % 256<=127):=by
 simpa [qX]using h
theorem Z2(rest:List UInt8):qg (ku t++rest)=.ok (t,(ku t).length):=by
 rcases Q4 h with ⟨h1,h2,h3⟩|⟨h1,h2,h3,h4,h5⟩
 ·have e:ku t= [ofI t]:=by unfold ku;rw [iF (by omega)]
  have b:bv (ofI t)=t:=JH (by omega) (by omega)
  rw [e]
  unfold qg
  rw [iF (by simp),List.cons_append,bvc,b,iF h3,h]
  rfl
 ·have e:ku t= [ofI (t / 256),ofI t]:=by unfold ku;rw [iT (by omega)]
  have b:bv (ofI (t / 256))=t / 256:=JH (by omega) (by omega)
  have b2:bv (ofI t)=t % 256:=kY t
  rw [e]
  unfold qg
  rw [iF (by simp),List.cons_append,List.cons_append,gbs,bvc,bvc,b,iT h3,iF (by simp),b2,show 256*(t / 256)+t % 256=t by omega,h]
  rfl
theorem j10:∃a l,ku t=a :: l/\a≠0:=by
 rcases Q4 h with ⟨h1,h2,h3⟩|⟨h1,h2,h3,h4,h5⟩
 ·refine⟨ofI t,[],by unfold ku;rw [iF (by omega)],fun e=> ?_⟩
  have b:bv (ofI t)=t:=JH (by omega) (by omega)
  rw [e]at b
  have:bv 0=0:=rfl
  omega
 ·refine⟨ofI (t / 256),[ofI t],by unfold ku;rw [iT (by omega)],fun e=> ?_⟩
  have b:bv (ofI (t / 256))=t / 256:=JH (by omega) (by omega)
  rw [e]at b
  have:bv 0=0:=rfl
  omega
end
def YV(st cn:Bool)(h:List UInt8)(n:Nat):Prop:=∀rest,jG (h++rest) (cn&& !st) st=.ok ((n:Int),h.length)
theorem j8f(st cn:Bool){n:Nat}(h:n<128):YV st cn [ofI n] n:=by
 intro rest
 have b:bv (ofI n)=n:=JH (by omega) (by omega)
 unfold jG
 rw [iF (by simp),List.cons_append,bvc,b,iT (by omega)]
 rfl
theorem j86(st cn:Bool)(k:Nat)(x:UInt8)(hx:x.toNat=128+k)(h1:1<=k)(h4:k<=4)(l:List UInt8)(hl:l.length=k)(n:Nat)(hn:∀rest,beV (x :: l++rest) k=n)(hs:st=true->¬(n<128)/\¬(1<k/\gb l 0=0)):YV st cn (x :: l) n:=by
 intro rest
 have b:bv x=128+k:=by unfold bv;omega
 have hg:∀j,j=0->gb (l++rest) j=gb l j:=fun j hj=>by
  subst hj
  cases l with
  |nil=>simp at hl;omega
  |cons a l=>rfl
 unfold jG
 rw [iF (by simp),List.cons_append,bvc,b,iF (by omega),iF (by omega),iF (by omega),hx,show 128+k - 128=k by omega]
 rw [iF (by simp;omega),<-List.cons_append,hn rest]
 rw [iF (by
  intro⟨h5,h6⟩
  obtain⟨h7,h8⟩:=hs h5
  rcases h6 with h6|⟨h6,h9⟩
  ·omega
  ·rw [List.cons_append,gbs,hg 0 rfl]at h9
   exact h8 ⟨h6,h9⟩)]
 simp [hl];omega
theorem be1(x a:UInt8)(rest:List UInt8):beV ([x,a]++rest) 1=bv a:=by show 256*0+bv a=_;omega
theorem be2(x a b:UInt8)(rest:List UInt8):beV ([x,a,b]++rest) 2=256*bv a+bv b:=by show 256*(256*0+bv a)+bv b=_;omega
theorem be3(x a b c:UInt8)(rest:List UInt8):beV ([x,a,b,c]++rest) 3=65536*bv a+256*bv b+bv c:=by show 256*(256*(256*0+bv a)+bv b)+bv c=_;omega
theorem be4(x a b c d:UInt8)(rest:List UInt8):beV ([x,a,b,c,d]++rest) 4=16777216*bv a+65536*bv b+256*bv c+bv d:=by show 256*(256*(256*(256*0+bv a)+bv b)+bv c)+bv d=_;omega
theorem j8g(st cn:Bool){n:Nat}(h:n<256)(hs:st=true->128<=n):YV st cn [129,ofI n] n:=by
 have b:bv (ofI n)=n:=JH (by omega) (by omega)
 exact j86 st cn 1 129 rfl (by omega) (by omega) [ofI n] rfl n (fun rest=>by rw [be1,b]) fun h=>⟨by have:=hs h;omega,by omega⟩
theorem j8h(st cn:Bool){n:Nat}(h:n<65536)(hs:st=true->256<=n):YV st cn [130,ofI ((n:Int) / 256),ofI n] n:=by
 have b1:bv (ofI ((n:Int) / 256))=(n:Int) / 256:=JH (by omega) (by omega)
 have b2:bv (ofI n)=(n:Int) % 256:=kY _
 refine j86 st cn 2 130 rfl (by omega) (by omega) [ofI ((n:Int) / 256),ofI n] rfl n (fun rest=>by rw [be2,b1,b2];omega) fun h=>⟨by have:=hs h;omega,fun⟨_,e⟩=> ?_⟩
 have e:ofI ((n:Int) / 256)=0:=e
 rw [e]at b1
 have:bv 0=0:=rfl
 have:=hs h
 omega
theorem xh{n:Nat}(h:n<=65535):xu n=if n<128 then [ofI n]else if n<256 then [129,ofI n]else [130,ofI ((n:Int) / 256),ofI n]:=by
 unfold xu
 by_cases h1:n<128
 ·rw [iT h1,iT h1]
 ·rw [iF h1,iF h1]
  by_cases h2:n<256
  ·exact m2u
  ·exact m1v
theorem j5a(st cn:Bool){n:Nat}(h:n<=65535):YV st cn (xu n) n:=by
 rw [xh h]
 by_cases h1:n<128
 ·rw [iT h1];exact j8f st cn h1
 ·rw [iF h1]
  by_cases h2:n<256
  ·rw [iT h2];exact j8g st cn h2 fun _=>by omega
  ·rw [iF h2];exact j8h st cn (by omega) fun _=>by omega
def Ns.codes(st:Bool):Ns->List UInt8->Prop
 |.nil,b=>b= []
 |.cons t v k r,b=>∃h c rb,(if jY t=true then k.codes st c else c=v)/\((YV st (jY t) h c.length/\b=ku t++(h++(c++rb)))\/(st=false/\jY t=true/\h= []/\b=ku t++128 :: (c++0 :: 0 :: rb)))/\r.codes st rb
theorem Vp(st:Bool)(l:Ns):l.enc.length<=65535->l.codes st l.enc:=by
 induction l with
 |nil=>intro _;rfl
 |cons t v k r ihk ihr=>
  intro h
  rw [qk t v k r _ rfl]at h
  simp only [List.length_append]at h
  refine⟨xu (if jY t then k.enc else v).length,_,r.enc,?_,.inl ⟨j5a st _ (n:=(if jY t then k.enc else v).length) (by omega),?_⟩,ihr (by omega)⟩
  ·split
   ·rename_i ht;rw [iT ht]at h;exact ihk (by omega)
   ·rfl
  ·rw [qk t v k r _ rfl];simp only [List.append_assoc]
theorem xx{t:Int}{v:List UInt8}{k r:Ns}{d:Nat}(h:(Ns.cons t v k r).chk d=0):qX t=true/\(jY t=false->k=.nil)/\(jY t=true->v= [])/\d<=8/\k.chk (d+1)=0/\r.chk d=0:=by
 rw [Ns.chk]at h
 split at h
 ·omega
 ·rename_i h1
  split at h
  ·omega
  ·rename_i h2
   split at h
   ·omega
   ·rename_i h3
    split at h
    ·rename_i h4
     refine⟨by simpa using h1,fun e=> ?_,fun e=> ?_,by omega,h4,h⟩
     ·cases k with
      |nil=>rfl
      |cons _ _ _ _=>exact absurd (.inl ⟨e,by simp [Ns.len]⟩) h2
     ·cases v with
      |nil=>rfl
      |cons _ _=>exact absurd (.inr ⟨e,by simp⟩) h2
    ·omega
theorem Zr(st:Bool)(l:Ns):∀b,l.codes st b->∀d c n,l.chk d=0->c+l.all<=256->b.length<=n->
 jh st n b d c false=.ok ⟨l,b.length,c+l.all⟩/\(st=false->∀rest,jh st n (b++0 :: 0 :: rest) d c true=.ok ⟨l,b.length+2,c+l.all⟩):=by
 induction l with
 |nil=>
  intro b hb d c n _ _ _
  have hb:b= []:=hb
  subst hb
  refine⟨kx (u:=0) rfl,fun _ rest=>kx (u:=2) ?_⟩
  simp [kj,bvc,gbs]
 |cons t v k r ihk ihr=>
  intro b hb d c n hchk hall hn
  obtain⟨h,cc,rb,hc,hform,hr⟩:=hb
  obtain⟨tv,f1,f2,hd,kchk,rchk⟩:=xx hchk
  simp only [Ns.all]at hall
  obtain⟨a0,tl,htb,ha0⟩:=j10 tv
  have htl:1<=(ku t).length:=by rw [htb];simp
  obtain⟨n,rfl⟩:∃m,n=m+1:=⟨n - 1,by
   rcases hform with ⟨_,e⟩|⟨_,_,_,e⟩<;>(rw [e]at hn;simp at hn;omega)⟩
  obtain⟨u,hb,hobj⟩:∃u,(∃ob,b=ob++rb/\ob.length=u/\1<=u/\∃q,ob=a0 :: q)/\∀x,kP st n (b++x) d c=.ok ⟨t,v,k,u,c+1+k.all⟩:=by
   rcases hform with ⟨hlen,e⟩|⟨hst,ht,rfl,e⟩
   ·refine⟨(ku t).length+h.length+cc.length,⟨ku t++(h++cc),by rw [e];simp [List.append_assoc],by simp;omega,by omega,tl++(h++cc),by rw [htb]<;>rfl⟩,fun x=> ?_⟩
    have e2:b++x=ku t++(h++(cc++(rb++x))):=by rw [e];simp [List.append_assoc]
    have hT:qg (b++x)=.ok (t,(ku t).length):=by rw [e2];exact Z2 tv _
    have hD:(b++x).drop (ku t).length=h++(cc++(rb++x)):=by rw [e2];simp
    have hD2:(b++x).drop ((ku t).length+h.length)=cc++(rb++x):=by rw [<-List.drop_drop,hD];simp
    have hS:jG ((b++x).drop (ku t).length) (jY t&& !st) st=.ok ((cc.length:Int),h.length):=by rw [hD];exact hlen _
    have hk2:¬((((b++x).drop ((ku t).length+h.length)).length:Nat):Int)<(cc.length:Int):=by rw [hD2];simp;omega
    cases htc:jY t with
    |true=>
     rw [iT htc]at hc
     rw [f2 htc]
     have hl:cc.length<=n:=by rw [e]at hn;simp at hn;omega
     have hL:=(ihk cc hc (d+1) (c+1) n kchk (by omega) hl).1
     have:=Ut (n:=n) (d:=d) (c:=c) hT (by rw [htc]at hS |-;exact hS) (by omega) (by omega) hk2 (by omega) htc (by rw [hD2];simpa using hL)
     rw [this]
     simp
    |false=>
     rw [iF (by rw [htc];decide)]at hc
     subst hc
     rw [f1 htc]
     have:=VZ (n:=n) (d:=d) (c:=c) hT (by rw [htc]at hS |-;exact hS) (by omega) (by omega) hk2 (by omega) (by rw [htc];decide)
     rw [this,hD2]
     simp [Ns.all]
   ·subst hst
    refine⟨(ku t).length+1+(cc.length+2),⟨ku t++128 :: (cc++ [0,0]),by rw [e];simp [List.append_assoc],by simp;omega,by omega,tl++128 :: (cc++ [0,0]),by rw [htb]<;>rfl⟩,fun x=> ?_⟩
    have e2:b++x=ku t++(128 :: (cc++0 :: 0 :: (rb++x))):=by rw [e];simp [List.append_assoc]
    have hT:qg (b++x)=.ok (t,(ku t).length):=by rw [e2];exact Z2 tv _
    have hD:(b++x).drop (ku t).length=128 :: (cc++0 :: 0 :: (rb++x)):=by rw [e2];simp
    have hD2:(b++x).drop ((ku t).length+1)=cc++0 :: 0 :: (rb++x):=by rw [<-List.drop_drop,hD]<;>rfl
    have hS:jG ((b++x).drop (ku t).length) (jY t&& !false) false=.ok (-1,1):=by
     rw [hD,ht]
     unfold jG
     have b8:bv 128=128:=rfl
     rw [iF (by simp),bvc,b8,iF (by omega),iF (by omega),iT rfl]<;>rfl
    rw [iT ht]at hc
    rw [f2 ht]
    have hl:cc.length<=n:=by rw [e]at hn;simp at hn;omega
    have hL:=(ihk cc hc (d+1) (c+1) n kchk (by omega) hl).2 rfl (rb++x)
    have:=j2r (n:=n) (d:=d) (c:=c) hT hS (by omega) (by omega) (by omega) (by omega) (by rw [hD2];exact hL)
    rw [this]
  obtain⟨ob,rfl,rfl,hu,q,hq⟩:=hb
  have hrl:rb.length<=n:=by simp at hn;omega
  obtain⟨r1,r2⟩:=ihr rb hr d (c+1+k.all) n rchk (by omega) hrl
  refine⟨?_,fun hst rest=> ?_⟩
  ·have hh:kj (ob++rb) false=none:=by rw [hq];simp [kj]
   have ho:=hobj []
   rw [List.append_nil]at ho
   rw [jS hh ho]
   simp only
   rw [List.drop_left,r1]
   simp only [yY,Ns.all,Ns.app,List.length_append]
   congr 2;omega
  ·have hh:kj (ob++rb++0 :: 0 :: rest) true=none:=by rw [hq];simp [kj,bvc,ha0]
   rw [jS hh (hobj _)]
   simp only
   rw [List.append_assoc,List.drop_left,r2 hst rest]
   simp only [yY,Ns.all,Ns.app,List.length_append]
   congr 2<;>omega
theorem Xf(st:Bool)(l:Ns)(b:List UInt8)(hb:l.codes st b)(h1:l.chk 1=0)(h2:l.all<=256)(h3:b.length<=4096):jK b st=.ok l:=by
 unfold jK
 rw [iF (by omega),(Zr st l b hb 1 0 b.length h1 (by omega) iL).1]
end Go.Proofs.YtadndhgebgjlaaaGreat
