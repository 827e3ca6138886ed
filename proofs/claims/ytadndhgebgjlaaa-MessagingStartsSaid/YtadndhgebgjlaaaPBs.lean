/- Words for responses; which of them can be handled; the status; failing; The reference's Reply; The reference's Open; Plain: what was secured is read as it wa... -/
import Derived.Test.YtadndhgebgjlaaaPw
import Derived.Test.YtadndhgebgjlaaaPBq
import Derived.Test.YtadndhgebgjlaaaPBp
import Derived.Test.YtadndhgebgjlaaaPt
import Derived.Test.YtadndhgebgjlaaaPBr
set_option linter.unusedVariables false
set_option linter.unusedSimpArgs false
set_option maxRecDepth 100000
set_option maxHeartbeats 4000000
namespace Go.Proofs.Ytadndhgebgjlaaa
open Go.RowKit Go.Deep
section
variable {wd w1:World} {p s:Nat} {a b:Value} {L:Nat->Bool} {v v':Nat->Value}
end
section
variable {ch:List Nat} {G:Nat->(Nat->Value)->World->Prop} {L:Nat->Bool} {v:Nat->Value} {w1 w2:World} {y:Value} {X2:List UInt8}
end
theorem Yw{M:List UInt8}(h:M.length=2){st:Int}(h0:0<=st)(h1:st<=65535):Jj M=st↔JN st=M:=by
 obtain⟨a,b,rfl⟩:∃a b,M= [a,b]:=by
  rcases M with _|⟨a,_|⟨b,_|⟨c,M⟩⟩⟩
  ·simp at h
  ·simp at h
  ·exact⟨a,b,rfl⟩
  ·simp at h
 have e2:Jj [a,b]=256*(256*0+bv a)+bv b:=rfl
 rw [e2]
 have a0:=jy a;have a1:=jB a;have b0:=jy b;have b1:=jB b
 unfold JN
 constructor
 ·intro e
  have x1:ofI (st / 256)=a:=kV (by rw [jV];omega)
  have x2:ofI st=b:=kV (by rw [jV];omega)
  rw [x1,x2]
 ·intro e
  simp only [List.cons.injEq,and_true]at e
  obtain⟨e1,e2⟩:=e
  rw [<-e1,<-e2,jV,jV]
  omega
def Jt(k N d:List UInt8):List UInt8:=if d= []then []else 1 :: kE k (qz k N) (x9 d)
theorem zY(k N d:List UInt8):jg k N d=kD 135 (Jt k N d):=by
 unfold jg Jt kD
 split
 ·rfl
 ·rw [if_neg (by simp)]
def exV(ex:Int):List UInt8:=if ex= -1 then []else if 256<ex then JN (ex % 65536)else Qk (ex % 256)
theorem KB(ex:Int):qA ex=kD 151 (exV ex):=by
 unfold qA exV kD
 split
 ·rfl
 ·exact(if_neg (by split<;>simp [Qk,JN])).symm
theorem Us(k N d:List UInt8):(kE k (qz k N) (x9 d)).length=16*((d.length+1+xN d.length) / 16):=zJ k _ d
theorem Qb(k N d:List UInt8)(hd:d.length<=4000):Jt k N d= []\/(jA (Jt k N d)=true/\(Jt k N d).length<=4096):=by
 unfold Jt
 split
 ·exact .inl rfl
 ·rename_i h
  right
  have hl:=Us k N d
  have hp:16<=d.length+1+xN d.length/\(d.length+1+xN d.length) % 16=0/\xN d.length<=15:=by
   have:=kH d;have h2:=kd d;have:=q6 d.length;unfold xN at*;omega
  refine⟨?_,by simp;omega⟩
  unfold jA
  simp only [List.length_cons,Bool.and_eq_true,decide_eq_true_eq]
  exact⟨by omega,rfl,by omega⟩
theorem Zf(k N d:List UInt8):zF k N ((Jt k N d).drop 1)=d/\xu k N ((Jt k N d).drop 1)=0:=by
 unfold Jt
 split
 ·rename_i h;subst h;exact⟨rfl,rfl⟩
 ·have hl:=Us k N d
  have hp:16<=d.length+1+xN d.length/\(d.length+1+xN d.length) % 16=0:=by
   have:=kH d;have h2:=kd d;unfold xN at*;omega
  have hne:¬kE k (qz k N) (x9 d)= []:=fun e=>by rw [e]at hl;simp at hl;omega
  have ho:=Xw k (qz k N) (x9 d) _ (kH d)
  simp only [List.drop_succ_cons,List.drop_zero]
  unfold zF xu
  rw [if_neg hne,if_neg hne,ho]
  exact⟨QK d,Xn d⟩
theorem ZD(ex:Int)(h:ex= -1\/(1<=ex/\ex<=65536)):(exV ex= []/\ex= -1)\/((1:Int)<=((exV ex).length:Int)/\(exV ex).length<=2/\exV ex≠ []):=by
 unfold exV
 split
 ·rename_i h;exact .inl ⟨rfl,h⟩
 ·right;split<;>simp [Qk,JN]
theorem Yl(ex:Int)(h:ex= -1\/(1<=ex/\ex<=65536)):exW (exV ex)=ex:=by
 unfold exV
 by_cases h1:ex= -1
 ·rw [if_pos h1];unfold exW;rw [if_pos rfl];exact h1.symm
 ·rw [if_neg h1]
  have hr:=h.resolve_left h1
  by_cases h2:256<ex
  ·rw [if_pos h2]
   have e:Jj (JN (ex % 65536))=ex % 65536:=(Yw (M:=JN (ex % 65536)) rfl (by omega) (by omega)).2 rfl
   unfold exW
   rw [if_neg (by simp [JN]),e]
   split
   ·rw [if_neg (by simp [JN])];omega
   ·omega
  ·rw [if_neg h2]
   have e:Jj (Qk (ex % 256))=ex % 256:=by
    show 256*0+bv (ofI (ex % 256))=_
    rw [jV];omega
   unfold exW
   rw [if_neg (by simp [Qk]),e]
   split
   ·rw [if_pos (by simp [Qk])];omega
   ·omega
theorem yN(L:Ns)(v:List UInt8)(k:Ns):((L.app (.cons 142 v k .nil)).pick 142).isSome=true:=by
 induction L with
 |nil=>rfl
 |cons t x y r _ ih=>
  rw [Ns.app,Ns.pick]
  split
  ·rfl
  ·exact ih
theorem Zo(L M:Ns)(g:Int)(h:(M.pick g).isSome=true):((L.app M).pick g).isSome=true:=by
 induction L with
 |nil=>exact h
 |cons t x y r _ ih=>
  rw [Ns.app,Ns.pick]
  split
  ·rfl
  ·exact ih
theorem QC{tg lo:Int}{mu:Bool}(ht:¬tg=135)(h142:¬tg=142)(hlo:1<=lo)(hv:qy tg=true)(hp:jP tg=false)(k2 N head V M:List UInt8)(hk2:k2.length=16)(hV:V= []\/(jA V=true/\V.length<=4096))(hM:(M= []/\mu=false)\/(lo<=(M.length:Int)/\M.length<=2/\M≠ []))(ts:List Int)(hts:∀t∈ts,t=142\/(t=tg/\M≠ []))
 (b:List UInt8) (hb:qx k2 N head ((kD 135 V).app (kD tg M))=.ok b):
 kz ts (xo tg lo mu) b=.ok ([V,M,kF k2 N head ((kD 135 V).app (kD tg M)).enc],(kD 135 V).app (kD tg M))/\b.length<=4096:=by
 obtain⟨L,hL⟩:∃L,(kD 135 V).app (kD tg M)=L:=⟨_,rfl⟩
 have hLc:L.chk 1=0:=by rw [<-hL];exact qg _ _ (by decide) (by decide) _ (by have:=qg tg M hv hp .nil rfl;rwa [Ns.app_nil]at this)
 have hLa:L.all<=2:=by rw [<-hL];have:=qm 135 V (kD tg M);have h9:=qm tg M .nil;rw [Ns.app_nil]at h9;simp only [Ns.all]at h9;omega
 rw [hL]at hb |-
 obtain⟨C,hC⟩:∃C,kF k2 N head L.enc=C:=⟨_,rfl⟩
 have hLe:=qb hLc (by omega)
 have hlt:¬4096<L.enc.length:=fun h=>by
  unfold qx at hb
  rw [hLe,if_pos h]at hb
  cases hb
 rw [if_neg hlt]at hLe
 have hsl:=zS k2 N head hLc (by omega)
 rw [hLe]at hsl
 rw [show bytesOf (.ok L.enc:Except Int (List UInt8))=L.enc from rfl,hC]at hsl
 rw [hsl,z9 C hLc (by omega)]at hb
 split at hb
 ·cases hb
 ·rename_i hle
  injection hb with hb
  have hlb:b.length<=4096:=by rw [<-hb];omega
  have hpp:jv b true=.ok (L.app (.cons 142 C .nil .nil)):=by
   rw [<-hb]
   exact J1 true _ _ (QR true _ (by omega)) (Ku L C 1 (by omega) hLc) (by rw [Ns.all_snoc];omega) (by omega)
  have hcl:C.length=8:=by
   rw [<-hC];unfold kF;rw [List.length_take]
   have:=zv hk2 (N++(head++L.enc));omega
  have hsh:ZQ tg lo mu (L.app (.cons 142 C .nil .nil)) V M C:=⟨by rw [<-hL,Ns.app_assoc],hV,hM,hcl⟩
  obtain⟨n,hf⟩:=KU ht h142 hsh
  have hall:(ts.all fun t=>((L.app (.cons 142 C .nil .nil)).pick t).isSome)=true:=by
   rw [List.all_eq_true]
   intro t htm
   rcases hts t htm with rfl|⟨rfl,hne⟩
   ·exact yN _ _ _
   ·rw [<-hL,Ns.app_assoc,kJ hne]
    exact Zo _ _ _ (by rw [Ns.app,Ns.pick,if_pos rfl];rfl)
  refine⟨?_,hlb⟩
  rw [Kv hpp hall hf]
  obtain⟨V',M',C',hvs,_,h3⟩:=y6 ht h142 hlo hp (Ug hpp) hf
  simp only [List.cons.injEq,and_true]at hvs
  obtain⟨rfl,rfl,rfl⟩:=hvs
  rw [h3,hL,hC]
theorem K0{k1 k2:List UInt8}{n:Int}{c:Cm}(h1:vS k1 k2 n=true)(h2:vC c=true)(hg:yO c.cl=true)(hn:n≠1099511627776)(hd:c.data.length<=4000){b:List UInt8}(hb:qx k2 (Kb (n+1)) (xk (c.cl+12) c.ins c.p1 c.p2) ((jg k1 (Kb (n+1)) c.data).app (qA c.ex))=.ok b):
 jw k1 k2 n ⟨c.cl+12,c.ins,c.p1,c.p2,b,65536⟩=(0,c,k1,k2,n+1):=by
 have hv:=of_decide_eq_true h2
 have hs:=of_decide_eq_true h1
 unfold yO at hg
 rw [Bool.and_eq_true,decide_eq_true_eq,decide_eq_true_eq]at hg
 obtain⟨N,hN⟩:∃N,Kb (n+1)=N:=⟨_,rfl⟩
 rw [hN,zY,KB]at hb
 obtain⟨ho,hlb⟩:=QC (tg:=151) (lo:=1) (mu:=false) (by decide) (by decide) (by decide) (by decide) (by decide) k2 N _ (Jt k1 N c.data) (exV c.ex) hs.2.1 (Qb k1 N c.data hd) ((ZD c.ex hv.2.2.2.2.2.2).imp (fun h=>⟨h.1,rfl⟩) id) [142] (fun t h=>by simp at h;exact .inl h) b hb
 have hvc:vC ⟨c.cl+12,c.ins,c.p1,c.p2,b,65536⟩=true:=decide_eq_true ⟨by simp only;omega,by simp only;omega,hv.2.2.1,hv.2.2.2.1,hv.2.2.2.2.1,hlb,.inr (by simp only;omega)⟩
 unfold jw
 rw [if_neg (by rw [h1];simp),if_neg (by rw [hvc];simp),if_neg hn,if_neg (by simp only;omega),hN]
 simp only
 rw [ho]
 have e:=Zf k1 N c.data
 show(if ¬kF k2 N (xk (c.cl+12) c.ins c.p1 c.p2) ((kD 135 (Jt k1 N c.data)).app (kD 151 (exV c.ex))).enc=kF k2 N (xk (c.cl+12) c.ins c.p1 c.p2) ((kD 135 (Jt k1 N c.data)).app (kD 151 (exV c.ex))).enc then _
  else if ¬xu k1 N ((Jt k1 N c.data).drop 1)=0 then _ else _)=_
 rw [if_neg (fun h=>h rfl),if_neg (fun h=>h e.2)]
 show(0,(⟨c.cl+12 - 12,c.ins,c.p1,c.p2,zF k1 N ((Jt k1 N c.data).drop 1),exW (exV c.ex)⟩:Cm),k1,k2,n+1)=_
 rw [e.1,Yl c.ex hv.2.2.2.2.2.2,show c.cl+12 - 12=c.cl by omega]
theorem ZH{k2 N head V M:List UInt8}{tg:Int}(hk2:k2.length=16)(hv:qy tg=true)(hp:jP tg=false)(ht:tg<=255)(hV:V.length<=4000)(hM:M.length<=2):
 ∃b,qx k2 N head ((kD 135 V).app (kD tg M))=.ok b/\b.length=(kD 135 V).enc.length+((kD tg M).enc.length+10):=by
 obtain⟨L,hL⟩:∃L,(kD 135 V).app (kD tg M)=L:=⟨_,rfl⟩
 have hLc:L.chk 1=0:=by rw [<-hL];exact qg _ _ (by decide) (by decide) _ (by have:=qg tg M hv hp .nil rfl;rwa [Ns.app_nil]at this)
 have hLa:L.all<=2:=by rw [<-hL];have:=qm 135 V (kD tg M);have h9:=qm tg M .nil;rw [Ns.app_nil]at h9;simp only [Ns.all]at h9;omega
 have hle:L.enc.length=(kD 135 V).enc.length+(kD tg M).enc.length:=by rw [<-hL,qn,List.length_append]
 have hl1:(kD 135 V).enc.length<=4+V.length:=by
  unfold kD
  split
  ·simp [Ns.enc]
  ·have:=xP 135 V .nil (by decide) (by decide) (by omega)
   simpa [Ns.enc]using this
 have hl2:(kD tg M).enc.length<=4+M.length:=by
  unfold kD
  split
  ·simp [Ns.enc]
  ·have:=xP tg M .nil hp ht (by omega)
   simpa [Ns.enc]using this
 rw [hL,zS k2 N head hLc (by omega)]
 have hLe:=qb hLc (by omega)
 rw [if_neg (by omega)]at hLe
 rw [hLe,show bytesOf (.ok L.enc:Except Int (List UInt8))=L.enc from rfl]
 obtain⟨C,hC⟩:∃C,kF k2 N head L.enc=C:=⟨_,rfl⟩
 have hcl:C.length=8:=by
  rw [<-hC];unfold kF;rw [List.length_take]
  have:=zv hk2 (N++(head++L.enc));omega
 have hce:(Ns.cons 142 C .nil .nil).enc.length=10:=by
  have h1:jP 142=false:=by decide
  have h2:(kW 8).length=1:=rfl
  have h3:(jW 142).length=1:=by decide
  simp [Ns.enc,h1,h2,h3,hcl]
 rw [hC,z9 C hLc (by omega),qn,if_neg (by rw [List.length_append,hce];omega)]
 exact⟨_,rfl,by rw [List.length_append,hce,hle];omega⟩
theorem YW:(kD 151 (exV 8)).enc.length=3:=by decide
theorem JJ:∃b:List UInt8,b.length=13/\qD Z16 Z16 0 ⟨0,176,0,0,[],8⟩=(0,⟨12,176,0,0,b,65536⟩,Z16,Z16,1)/\jw Z16 Z16 0 ⟨12,176,0,0,b,65536⟩=(0,⟨0,176,0,0,[],8⟩,Z16,Z16,1):=by
 have h1:vS Z16 Z16 0=true:=decide_eq_true ⟨kT,kT,by decide,by decide⟩
 have h2:vC ⟨0,176,0,0,[],8⟩=true:=by decide
 have h3:yO 0=true:=by decide
 obtain⟨b,hb,hl⟩:=ZH (k2:=Z16) (N:=Kb (0+1)) (head:=xk (0+12) 176 0 0) (V:=Jt Z16 (Kb (0+1)) []) (M:=exV 8) (tg:=151) kT (by decide) (by decide) (by decide) (by simp [Jt]) (by decide)
 rw [<-zY,<-KB]at hb
 refine⟨b,?_,?_,?_⟩
 ·rw [hl,YW];rfl
 ·unfold qD
  rw [if_neg (by rw [h1];simp),if_neg (by rw [h2];simp),if_neg (by rw [show(⟨0,176,0,0,[],8⟩:Cm).cl=0 from rfl,h3];simp),if_neg (by decide)]
  simp only
  rw [hb]
  rfl
 ·have:=K0 (c:=⟨0,176,0,0,[],8⟩) h1 h2 h3 (by decide) (by simp) hb
  exact this
def yQ(w:World)(q:Nat):Prop:=w.heap[q]?=some (.cells #[.int .i64 0,.int .i64 0,.int .i64 0,.int .i64 0,.slice none 0 0,.int .i64 0] 32 (0,0))
def Jf(w:World)(q:Nat):Prop:=w.heap[q]?=some (.cells #[.slice none 0 0,.slice none 0 0,.int .i64 0] 29 (0,0))
theorem Xm{w:World}{q:Nat}(h:yQ w q)(g:Jf w q):False:=by
 unfold yQ at h
 unfold Jf at g
 rw [h]at g
 simp at g
structure RZ2 (w0 w1 w2:World):Prop where
 size:w1.heap.size<=w2.heap.size
 at_:∀k,k<w1.heap.size->w2.heap[k]?=w1.heap[k]? \/yQ w1 k\/Jf w1 k
theorem RZ2.of{w0 w1 w2:World}(h:Below w1.heap.size w1 w2):RZ2 w0 w1 w2:=⟨h.size,fun k hk=>.inl (h.block k hk)⟩
theorem RZ2.refl{w0 w1:World}:RZ2 w0 w1 w1:=⟨Nat.le_refl _,fun _ _=>.inl rfl⟩
theorem RZ2.set3{w0 w1:World}{q:Nat}(hrow:Jf w1 q)(a b c:Value):RZ2 w0 w1 (set3 w1 q a b c):=⟨by rw [xi];exact Nat.le_refl _,fun k _=>by
 by_cases h:k=q
 ·subst h;exact .inr (.inr hrow)
 ·exact .inl (jz h)⟩
theorem RZ2.set6{w0 w1:World}{q:Nat}(hrow:yQ w1 q)(a b c d e f:Value):RZ2 w0 w1 (set6 w1 q a b c d e f):=⟨by rw [xX];exact Nat.le_refl _,fun k _=>by
 by_cases h:k=q
 ·subst h;exact .inr (.inl hrow)
 ·exact .inl (jX h)⟩
theorem RZ2.row3{w0 w1 w2:World}(h:RZ2 w0 w1 w2){q:Nat}{a b c:Value}(hr:w1.heap[q]?=some (.cells #[a,b,c] 29 (0,0)))(hn:c≠ .int .i64 0):w2.heap[q]?=some (.cells #[a,b,c] 29 (0,0)):=by
 rcases h.at_ q (iG hr)with e|e|e
 ·rw [e,hr]
 ·unfold yQ at e
  rw [hr]at e
  simp at e
 ·unfold Jf at e
  rw [hr]at e
  simp at e
  exact absurd e.2.2 hn
theorem RZ2.row6{w0 w1 w2:World}(h:RZ2 w0 w1 w2){q:Nat}{a b c d e f:Value}(hr:w1.heap[q]?=some (.cells #[a,b,c,d,e,f] 32 (0,0)))(hn:b≠ .int .i64 0):w2.heap[q]?=some (.cells #[a,b,c,d,e,f] 32 (0,0)):=by
 rcases h.at_ q (iG hr)with e|e|e
 ·rw [e,hr]
 ·unfold yQ at e
  rw [hr]at e
  simp at e
  exact absurd e.2.1 hn
 ·unfold Jf at e
  rw [hr]at e
  simp at e
theorem BsS.rz2{w0 w1 w2:World}{v:Value}{l:List UInt8}(h:Bs w1 w1.heap.size v l)(hr:RZ2 w0 w1 w2):Bs w2 w2.heap.size v l:=by
 obtain⟨a,c,hv,h1,h2,h3,h4⟩:=h
 refine⟨a,c,hv,h1,h2,h3,fun h0=> ?_⟩
 obtain⟨b,off,e,hS,hc⟩:=h4 h0
 refine⟨b,off,e,iZ hS hr.size,fun j hj=> ?_⟩
 rcases hr.at_ b hS with hb|hb|hb
 ·rw [World.cell?_of_block (a:=⟨b,off+j,none⟩) hb];exact hc j hj
 ·exfalso
  have hc0:=hc j hj
  rw [cell_of_row _ _ _ _ _ _ hb]at hc0
  exact UK (A:=none) (n:=0) (k:=0) (off+j) _ hc0
 ·exfalso
  have hc0:=hc j hj
  rw [cell_of_row _ _ _ _ _ _ hb]at hc0
  exact UJ none none 0 0 0 0 0 (off+j) _ hc0
def JZ2(w0:World)(a s c t:Nat)(L:Nat->Bool)(v:Nat->Value)(w1:World):Prop:=
 Below w0.heap.size w0 w1/\(L s=false->L a=true->∃q,v a=.pointer (some ⟨q,0,none⟩)/\w0.heap.size<=q/\q<w1.heap.size/\yQ w1 q)/\(L t=false->L c=true->∃q,v c=.pointer (some ⟨q,0,none⟩)/\w0.heap.size<=q/\q<w1.heap.size/\Jf w1 q)
section
variable {w0 w1 w2:World} {a s c t:Nat} {L:Nat->Bool} {v:Nat->Value} {y:Value}
theorem JZ2.start:JZ2 w0 a s c t (fun _=>false) v w0.drew:=by
 refine⟨iB.drew,fun _ h=> ?_,fun _ h=> ?_⟩<;>exact absurd h (by simp)
theorem JZ2.step(h:JZ2 w0 a s c t L v w1)(hb:Below w1.heap.size w1 w2)(i:Nat)(ha:i≠a)(hs:i≠s)(hc:i≠c)(ht:i≠t):JZ2 w0 a s c t (jr L i) (jC v i y) w2:=by
 refine⟨h.1.trans (hb.mono h.1.size),fun h1 h2=> ?_,fun h1 h2=> ?_⟩
 ·simp only [jr]at h1 h2
  rw [if_neg (Ne.symm hs)]at h1
  rw [if_neg (Ne.symm ha)]at h2
  obtain⟨q,e,hq,hl,hz⟩:=h.2.1 h1 h2
  exact⟨q,by simp only [jC];rw [if_neg (Ne.symm ha)];exact e,hq,iZ hl hb.size,(hb.block q hl).trans hz⟩
 ·simp only [jr]at h1 h2
  rw [if_neg (Ne.symm ht)]at h1
  rw [if_neg (Ne.symm hc)]at h2
  obtain⟨q,e,hq,hl,hz⟩:=h.2.2 h1 h2
  exact⟨q,by simp only [jC];rw [if_neg (Ne.symm hc)];exact e,hq,iZ hl hb.size,(hb.block q hl).trans hz⟩
theorem JZ2.alloc6(h:JZ2 w0 a s c t L v w1)(_:a≠s)(hc:c≠a)(ht:t≠a):JZ2 w0 a s c t (jr L a) (jC v a (.pointer (some ⟨w1.heap.size,0,none⟩))) (w1.alloc (.cells #[.int .i64 0,.int .i64 0,.int .i64 0,.int .i64 0,.slice none 0 0,.int .i64 0] 32)):=by
 refine⟨h.1.alloc h.1.size _,fun _ _=>⟨w1.heap.size,by simp [jC],h.1.size,by simp,iN⟩,fun h1 h2=> ?_⟩
 simp only [jr]at h1 h2
 rw [if_neg ht]at h1
 rw [if_neg hc]at h2
 obtain⟨q,e,hq,hl,hz⟩:=h.2.2 h1 h2
 exact⟨q,by simp only [jC];rw [if_neg hc];exact e,hq,iZ hl (by simp),(Below.heap_alloc _ _ _ hl).trans hz⟩
theorem JZ2.alloc3(h:JZ2 w0 a s c t L v w1)(_:c≠t)(ha:a≠c)(hs:s≠c):JZ2 w0 a s c t (jr L c) (jC v c (.pointer (some ⟨w1.heap.size,0,none⟩))) (w1.alloc (.cells #[.slice none 0 0,.slice none 0 0,.int .i64 0] 29)):=by
 refine⟨h.1.alloc h.1.size _,fun h1 h2=> ?_,fun _ _=>⟨w1.heap.size,by simp [jC],h.1.size,by simp,iN⟩⟩
 simp only [jr]at h1 h2
 rw [if_neg hs]at h1
 rw [if_neg ha]at h2
 obtain⟨q,e,hq,hl,hz⟩:=h.2.1 h1 h2
 exact⟨q,by simp only [jC];rw [if_neg ha];exact e,hq,iZ hl (by simp),(Below.heap_alloc _ _ _ hl).trans hz⟩
theorem JZ2.store6(h:JZ2 w0 a s c t L v w1){q:Nat}(hq:w0.heap.size<=q)(hrow:yQ w1 q)(_:a≠s)(hc:c≠s)(ht:t≠s){b1 b2 b3 b4 b5 b6:Value}:JZ2 w0 a s c t (jr L s) (jC v s y) (set6 w1 q b1 b2 b3 b4 b5 b6):=by
 refine⟨zV h.1 hq,fun h1=>by simp [jr]at h1,fun h1 h2=> ?_⟩
 simp only [jr]at h1 h2
 rw [if_neg ht]at h1
 rw [if_neg hc]at h2
 obtain⟨p,e,hp,hl,hz⟩:=h.2.2 h1 h2
 have hne:p≠q:=fun e=>by subst e;exact Xm hrow hz
 exact⟨p,by simp only [jC];rw [if_neg hc];exact e,hp,by rw [xX];exact hl,(jX hne).trans hz⟩
theorem JZ2.store3(h:JZ2 w0 a s c t L v w1){q:Nat}(hq:w0.heap.size<=q)(hrow:Jf w1 q)(_:c≠t)(ha:a≠t)(hs:s≠t){b1 b2 b3:Value}:JZ2 w0 a s c t (jr L t) (jC v t y) (set3 w1 q b1 b2 b3):=by
 refine⟨jq h.1 hq,fun h1 h2=> ?_,fun h1=>by simp [jr]at h1⟩
 simp only [jr]at h1 h2
 rw [if_neg hs]at h1
 rw [if_neg ha]at h2
 obtain⟨p,e,hp,hl,hz⟩:=h.2.1 h1 h2
 have hne:p≠q:=fun e=>by subst e;exact Xm hz hrow
 exact⟨p,by simp only [jC];rw [if_neg ha];exact e,hp,by rw [xi];exact hl,(jz hne).trans hz⟩
end
theorem Kl(w:World):Calls Try.prog 22 #[] w fun e w'=>∃X1 x1 X2 x2,e=.returned (.agg #[.slice X1 16 x1,.slice X2 16 x2,.int .i64 0])/\Bs w' w'.heap.size (.slice X1 16 x1) Z16/\Bs w' w'.heap.size (.slice X2 16 x2) Z16/\Below w.heap.size w w':=by
 have hmx:Try.prog.follows .mixedOrders=true:=by kernel_rfl
 obtain⟨w0,hw0⟩:∃w0,w0=w.alloc (.cells #[.slice none 0 0,.slice none 0 0,.int .i64 0] 29):=⟨_,rfl⟩
 have hB0:Below w.heap.size w w0:=by rw [hw0];exact iA
 have hh0:w0.heap[w.heap.size]?=some (.cells #[.slice none 0 0,.slice none 0 0,.int .i64 0] 29 (0,0)):=by rw [hw0];exact iN
 have HB:=iH hB0;have HR:=iH hh0;have HLT:=iH (iG hh0);have HW0:=iH hw0
 clear hB0 hh0 hw0
 go_enter Try.func22,Try.ntmps22
 go_upto_region 1 with fail
 rw [<-HW0.out]
 refine jc 3 [some 1,some 2,some 3] [[],[],[0,1]]
  (fun _ _ w1=>Below w0.heap.size w0 w1) (fun w1 w2=>Below w1.heap.size w1 w2)
  [fun v w1=>∃q,v 0=.slice (some ⟨q,0,none⟩) 16 16/\Bs w1 w1.heap.size (.slice (some ⟨q,0,none⟩) 16 16) Z16,
   fun v w1=>∃q,v 1=.slice (some ⟨q,0,none⟩) 16 16/\Bs w1 w1.heap.size (.slice (some ⟨q,0,none⟩) 16 16) Z16,
   fun v w1=>∃q0 q1,v 2=.agg #[.slice (some ⟨q0,0,none⟩) 16 16,.slice (some ⟨q1,0,none⟩) 16 16,.int .i64 0]/\Bs w1 w1.heap.size (.slice (some ⟨q0,0,none⟩) 16 16) Z16/\Bs w1 w1.heap.size (.slice (some ⟨q1,0,none⟩) 16 16) Z16]
  (by kernel_rfl) (by kernel_rfl) (fun _=>iB.drew) ?st ?steps ?tail
 case st=>
  exact(.cons (fun _ _ _ _ _ hr ⟨q,e,h⟩=>⟨q,e,h.lift hr⟩) (.cons (fun _ _ _ _ _ hr ⟨q,e,h⟩=>⟨q,e,h.lift hr⟩) (.cons (fun _ _ _ _ _ hr ⟨q0,q1,e,h,g⟩=>⟨q0,q1,e,h.lift hr,g.lift hr⟩) .nil)))
 case steps=>
  simp only [List.take_succ_cons,List.take_zero]
  refine(.cons ?_ (.cons ?_ (.cons ?_ .nil)))
  all_goals(intro L v w1 hJ hL hA hF K hK;simp only [j8,Act.put,Nat.zero_add,Nat.reduceAdd,List.setIfInBounds_toArray,List.set_cons_zero,List.set_cons_succ]at hK |-)
  ·have Hm:=Kh
   go_simp
   exact hK _ _ (hJ.trans ((kh w1).mono hJ.size)) (kh w1) ⟨_,rfl,BsS.keep (Kq w1) fun g hs _=>⟨rfl,hs.2⟩⟩
  ·have Hm:=Kh
   go_simp
   exact hK _ _ (hJ.trans ((kh w1).mono hJ.size)) (kh w1) ⟨_,rfl,BsS.keep (Kq w1) fun g hs _=>⟨rfl,hs.2⟩⟩
  ·obtain⟨q0,e0,h0⟩:∃q,v 0=.slice (some ⟨q,0,none⟩) 16 16/\Bs w1 w1.heap.size (.slice (some ⟨q,0,none⟩) 16 16) Z16:=hF 0 (hA 0 (by simp))
   obtain⟨q1,e1,h1⟩:∃q,v 1=.slice (some ⟨q,0,none⟩) 16 16/\Bs w1 w1.heap.size (.slice (some ⟨q,0,none⟩) 16 16) Z16:=hF 1 (hA 1 (by simp))
   simp only [e0,e1]at hK
   go_simp
   exact hK _ _ hJ iB ⟨_,_,rfl,h0,h1⟩
 case tail=>
  intro v w1 hJ hF
  obtain⟨q0,q1,e2,h0,h1⟩:∃q0 q1,v 2=.agg #[.slice (some ⟨q0,0,none⟩) 16 16,.slice (some ⟨q1,0,none⟩) 16 16,.int .i64 0]/\Bs w1 w1.heap.size (.slice (some ⟨q0,0,none⟩) 16 16) Z16/\Bs w1 w1.heap.size (.slice (some ⟨q1,0,none⟩) 16 16) Z16:=hF 2 (by simp)
  simp only [List.drop_succ_cons,List.drop_zero,j8,Act.put,Nat.zero_add,Nat.reduceAdd,List.setIfInBounds_toArray,List.set_cons_zero,List.set_cons_succ]
  simp only [e2]
  have hr:=(hJ.block w.heap.size HLT.out).trans HR.out
  obtain⟨z0,z1,z2,zf⟩:=jb hr
  have zf0:=zf 0;have zf1:=zf 1;have zf2:=zf 2
  obtain⟨y0,y1,y2,_⟩:=jb (jF (.slice (some ⟨q0,0,none⟩) 16 16) (.slice (some ⟨q1,0,none⟩) 16 16) (.int .i64 0) hr)
  have HRR:=iH hr;have H0:=iH h0;have H1:=iH h1;have HJ:=iH hJ
  clear zf hr h0 h1 hJ hF e2
  go_wp2_with fail
  refine bodyPost_ret (v:=.agg #[.slice (some ⟨q0,0,none⟩) 16 16,.slice (some ⟨q1,0,none⟩) 16 16,.int .i64 0]) (by simp only [set3]at y0 y1 y2;simp [results,Try.results22,go_sem,y0,y1,y2]) rfl ?_
  refine⟨_,_,_,_,rfl,?_,?_,jq (HB.out.trans (HJ.out.mono HB.out.size)) iL⟩
  ·exact BsS.keep (BsS.off H0.out HRR.out (UJ none none 0 0 0 0 0)) fun g hg _=>⟨jz hg.2,by simpa [set3]using hg.1⟩
  ·exact BsS.keep (BsS.off H1.out HRR.out (UJ none none 0 0 0 0 0)) fun g hg _=>⟨jz hg.2,by simpa [set3]using hg.1⟩
theorem Q6(w:World):Calls Try.prog 7 #[] w fun e w'=>e=.returned (.bool true)/\Below w.heap.size w w':=by
 have hmx:Try.prog.follows .mixedOrders=true:=by kernel_rfl
 obtain⟨b,hb,hwr,hun⟩:=JJ
 have LD2:Hid (b.length=13):=iH hb
 have LD3:Hid (([]:List UInt8).length=0):=iH rfl
 have HWR:Hid (∀(x y:Value) (w:World),Bs w w.heap.size x Z16->Bs w w.heap.size y Z16->Calls Try.prog 11 #[.agg #[x,y,.int .i64 0],.agg #[.int .i64 0,.int .i64 176,.int .i64 0,.int .i64 0,.slice none 0 0,.int .i64 8]] w (yD (0,⟨12,176,0,0,b,65536⟩,Z16,Z16,1) w)):=iH (fun x y w h1 h2=>by rw [<-hwr];exact XI _ _ Z16 Z16 0 ⟨0,176,0,0,[],8⟩ w ⟨x,y,rfl,h1,h2⟩ ⟨_,rfl,BsS.nil0 _ _⟩)
 have HUN:Hid (∀(x y d:Value) (w:World),Bs w w.heap.size x Z16->Bs w w.heap.size y Z16->Bs w w.heap.size d b->Calls Try.prog 17 #[.agg #[x,y,.int .i64 0],.agg #[.int .i64 12,.int .i64 176,.int .i64 0,.int .i64 0,d,.int .i64 65536]] w (yD (0,⟨0,176,0,0,[],8⟩,Z16,Z16,1) w)):=iH (fun x y d w h1 h2 h3=>by rw [<-hun];exact Ju _ _ Z16 Z16 0 ⟨12,176,0,0,b,65536⟩ w ⟨x,y,rfl,h1,h2⟩ ⟨d,rfl,h3⟩)
 clear hb hwr hun
 obtain⟨n0,n1,n2,n3,n4,n5,nf⟩:=j9 (xy w)
 have nf0:=nf 0;have nf1:=nf 1;have nf2:=nf 2;have nf3:=nf 3;have nf4:=nf 4;have nf5:=nf 5
 clear nf
 go_enter Try.func7,Try.ntmps7
 go_upto_region 2 with fail
 obtain⟨w1r,hw1⟩:∃w1r,w1r=w.alloc (.cells #[.int .i64 0,.int .i64 176,.int .i64 0,.int .i64 0,.slice none 0 0,.int .i64 8] 32):=⟨_,rfl⟩
 rw [<-hw1]
 have HBW1:Hid (Below w.heap.size w w1r):=iH (by rw [hw1];exact iA)
 have HR1:Hid (w1r.heap[w.heap.size]?=some (.cells #[.int .i64 0,.int .i64 176,.int .i64 0,.int .i64 0,.slice none 0 0,.int .i64 8] 32 (0,0))):=iH (by rw [hw1];exact iN)
 clear hw1 n0 n1 n2 n3 n4 n5 nf0 nf1 nf2 nf3 nf4 nf5
 refine jc 12 [some 10,some 11,some 12,some 9,some 13,some 14,some 15,some 2,some 3,none,none,some 4] [[],[],[0,1],[0,1,2],[0,1,2,3],[0,1,2,3],[0,1,2,3],[],[],[0,1,2,3,4,7,8],[0,1,2,3,4,5,7,8,9],[0,1,2,3,4,5,6,7,8,9,10]]
  (JZ2 w1r 7 9 8 10) (RZ2 w1r)
  [fun v w1=>∃X1 x1 X2 x2,v 0=.agg #[.slice X1 16 x1,.slice X2 16 x2,.int .i64 0]/\Bs w1 w1.heap.size (.slice X1 16 x1) Z16/\Bs w1 w1.heap.size (.slice X2 16 x2) Z16,
   fun v _=>v 1=.agg #[.int .i64 0,.int .i64 176,.int .i64 0,.int .i64 0,.slice none 0 0,.int .i64 8],
   fun v w1=>∃dA dc X1 x1 X2 x2,v 2=.tuple #[.agg #[.int .i64 12,.int .i64 176,.int .i64 0,.int .i64 0,.slice dA 13 dc,.int .i64 65536],.agg #[.slice X1 16 x1,.slice X2 16 x2,.int .i64 1],.int .i64 0]/\Bs w1 w1.heap.size (.slice dA 13 dc) b/\Bs w1 w1.heap.size (.slice X1 16 x1) Z16/\Bs w1 w1.heap.size (.slice X2 16 x2) Z16,
   fun v w1=>∃dA dc X1 x1 X2 x2,v 3=.tuple #[.agg #[.int .i64 12,.int .i64 176,.int .i64 0,.int .i64 0,.slice dA 13 dc,.int .i64 65536],.agg #[.slice X1 16 x1,.slice X2 16 x2,.int .i64 1],.int .i64 0]/\Bs w1 w1.heap.size (.slice dA 13 dc) b/\Bs w1 w1.heap.size (.slice X1 16 x1) Z16/\Bs w1 w1.heap.size (.slice X2 16 x2) Z16,
   fun v w1=>∃dA dc,v 4=.agg #[.int .i64 12,.int .i64 176,.int .i64 0,.int .i64 0,.slice dA 13 dc,.int .i64 65536]/\Bs w1 w1.heap.size (.slice dA 13 dc) b,
   fun v w1=>∃X1 x1 X2 x2,v 5=.agg #[.slice X1 16 x1,.slice X2 16 x2,.int .i64 1]/\Bs w1 w1.heap.size (.slice X1 16 x1) Z16/\Bs w1 w1.heap.size (.slice X2 16 x2) Z16,
   fun v _=>v 6=.int .i64 0,
   fun v w1=>True,
   fun v w1=>True,
   fun v w1=>∃q dA dc,v 7=.pointer (some ⟨q,0,none⟩)/\w1r.heap.size<=q/\w1.heap[q]?=some (.cells #[.int .i64 12,.int .i64 176,.int .i64 0,.int .i64 0,.slice dA 13 dc,.int .i64 65536] 32 (0,0))/\Bs w1 w1.heap.size (.slice dA 13 dc) b,
   fun v w1=>∃q X1 x1 X2 x2,v 8=.pointer (some ⟨q,0,none⟩)/\w1r.heap.size<=q/\w1.heap[q]?=some (.cells #[.slice X1 16 x1,.slice X2 16 x2,.int .i64 1] 29 (0,0))/\Bs w1 w1.heap.size (.slice X1 16 x1) Z16/\Bs w1 w1.heap.size (.slice X2 16 x2) Z16,
   fun v _=>v 11=.int .i64 0]
  (by kernel_rfl) (by kernel_rfl) (fun _=>JZ2.start) ?st2 ?steps2 ?tail2
 case st2=>
  exact(.cons (fun _ _ _ _ _ hr ⟨X1,x1,X2,x2,e,h1,h2⟩=>⟨X1,x1,X2,x2,e,h1.rz2 hr,h2.rz2 hr⟩) (.cons (fun _ _ _ _ _ _ h=>h) (.cons (fun _ _ _ _ _ hr ⟨dA,dc,X1,x1,X2,x2,e,h0,h1,h2⟩=>⟨dA,dc,X1,x1,X2,x2,e,h0.rz2 hr,h1.rz2 hr,h2.rz2 hr⟩) (.cons (fun _ _ _ _ _ hr ⟨dA,dc,X1,x1,X2,x2,e,h0,h1,h2⟩=>⟨dA,dc,X1,x1,X2,x2,e,h0.rz2 hr,h1.rz2 hr,h2.rz2 hr⟩) (.cons (fun _ _ _ _ _ hr ⟨dA,dc,e,h⟩=>⟨dA,dc,e,h.rz2 hr⟩) (.cons (fun _ _ _ _ _ hr ⟨X1,x1,X2,x2,e,h1,h2⟩=>⟨X1,x1,X2,x2,e,h1.rz2 hr,h2.rz2 hr⟩) (.cons (fun _ _ _ _ _ _ h=>h) (.cons (fun _ _ _ _ _ _ h=>h) (.cons (fun _ _ _ _ _ _ h=>h) (.cons (fun _ _ _ _ _ hr ⟨q,dA,dc,e,hq,hw,h⟩=>⟨q,dA,dc,e,hq,hr.row6 hw (by simp),h.rz2 hr⟩) (.cons (fun _ _ _ _ _ hr ⟨q,X1,x1,X2,x2,e,hq,hw,h1,h2⟩=>⟨q,X1,x1,X2,x2,e,hq,hr.row3 hw (by simp),h1.rz2 hr,h2.rz2 hr⟩) (.cons (fun _ _ _ _ _ _ h=>h) .nil))))))))))))
 case steps2=>
  simp only [List.take_succ_cons,List.take_zero]
  refine(.cons ?_ (.cons ?_ (.cons ?_ (.cons ?_ (.cons ?_ (.cons ?_ (.cons ?_ (.cons ?_ (.cons ?_ (.cons ?_ (.cons ?_ (.cons ?_ .nil))))))))))))
  all_goals(intro L v w1 hJ hL hA hF K hK;simp only [j8,Act.put,Nat.zero_add,Nat.reduceAdd,List.setIfInBounds_toArray,List.set_cons_zero,List.set_cons_succ]at hK |-)
  ·go_simp
   refine(Kl w1).mono ?_
   rintro e w5 ⟨X1,x1,X2,x2,rfl,h1,h2,hb⟩
   exact hK _ _ (hJ.step hb 0 (by decide) (by decide) (by decide) (by decide)) (RZ2.of hb) ⟨_,_,_,_,rfl,h1,h2⟩
  ·obtain⟨c0,c1,c2,c3,c4,c5,_⟩:=j9 ((hJ.1.block w.heap.size (iG HR1.out)).trans HR1.out)
   go_simp
   refine hK _ _ (hJ.step iB 1 (by decide) (by decide) (by decide) (by decide)) RZ2.refl ?_
   first|exact rfl|exact j4 _
  ·have e1:v 1=.agg #[.int .i64 0,.int .i64 176,.int .i64 0,.int .i64 0,.slice none 0 0,.int .i64 8]:=hF 1 (hA 1 (by simp))
   simp only [e1]at hK
   obtain⟨X1,x1,X2,x2,e0,h1,h2⟩:∃X1 x1 X2 x2,v 0=.agg #[.slice X1 16 x1,.slice X2 16 x2,.int .i64 0]/\Bs w1 w1.heap.size (.slice X1 16 x1) Z16/\Bs w1 w1.heap.size (.slice X2 16 x2) Z16:=hF 0 (hA 0 (by simp))
   simp only [e0]at hK
   go_simp
   refine(HWR.out (.slice X1 16 x1) (.slice X2 16 x2) w1 h1 h2).mono ?_
   rintro e w5 ⟨cv,sv,rfl,⟨dd,rfl,hd⟩,⟨y1,y2,rfl,g1,g2⟩,hb⟩
   obtain⟨dA,dc,hp⟩:∃A c,dd=.slice A 13 c:=(by obtain⟨a,c,e,_⟩:=hd;exact⟨a,c,by rw [e,LD2.out]⟩)
   obtain⟨Y1,c1,hp1⟩:∃A c,y1=.slice A 16 c:=(by obtain⟨a,c,e,_⟩:=g1;exact⟨a,c,by rw [e,kT]⟩)
   obtain⟨Y2,c2,hp2⟩:∃A c,y2=.slice A 16 c:=(by obtain⟨a,c,e,_⟩:=g2;exact⟨a,c,by rw [e,kT]⟩)
   subst hp;subst hp1;subst hp2
   exact hK _ _ (hJ.step hb 2 (by decide) (by decide) (by decide) (by decide)) (RZ2.of hb) ⟨_,_,_,_,_,_,rfl,hd,g1,g2⟩
  ·obtain⟨dA,dc,X1,x1,X2,x2,e2,h0,h1,h2⟩:∃dA dc X1 x1 X2 x2,v 2=.tuple #[.agg #[.int .i64 12,.int .i64 176,.int .i64 0,.int .i64 0,.slice dA 13 dc,.int .i64 65536],.agg #[.slice X1 16 x1,.slice X2 16 x2,.int .i64 1],.int .i64 0]/\Bs w1 w1.heap.size (.slice dA 13 dc) b/\Bs w1 w1.heap.size (.slice X1 16 x1) Z16/\Bs w1 w1.heap.size (.slice X2 16 x2) Z16:=hF 2 (hA 2 (by simp))
   simp only [e2]at hK
   go_simp
   exact hK _ _ (hJ.step iB 3 (by decide) (by decide) (by decide) (by decide)) RZ2.refl ⟨_,_,_,_,_,_,rfl,h0,h1,h2⟩
  ·obtain⟨dA,dc,X1,x1,X2,x2,e3,h0,h1,h2⟩:∃dA dc X1 x1 X2 x2,v 3=.tuple #[.agg #[.int .i64 12,.int .i64 176,.int .i64 0,.int .i64 0,.slice dA 13 dc,.int .i64 65536],.agg #[.slice X1 16 x1,.slice X2 16 x2,.int .i64 1],.int .i64 0]/\Bs w1 w1.heap.size (.slice dA 13 dc) b/\Bs w1 w1.heap.size (.slice X1 16 x1) Z16/\Bs w1 w1.heap.size (.slice X2 16 x2) Z16:=hF 3 (hA 3 (by simp))
   simp only [e3]at hK
   go_simp
   exact hK _ _ (hJ.step iB 4 (by decide) (by decide) (by decide) (by decide)) RZ2.refl ⟨_,_,rfl,h0⟩
  ·obtain⟨dA,dc,X1,x1,X2,x2,e3,h0,h1,h2⟩:∃dA dc X1 x1 X2 x2,v 3=.tuple #[.agg #[.int .i64 12,.int .i64 176,.int .i64 0,.int .i64 0,.slice dA 13 dc,.int .i64 65536],.agg #[.slice X1 16 x1,.slice X2 16 x2,.int .i64 1],.int .i64 0]/\Bs w1 w1.heap.size (.slice dA 13 dc) b/\Bs w1 w1.heap.size (.slice X1 16 x1) Z16/\Bs w1 w1.heap.size (.slice X2 16 x2) Z16:=hF 3 (hA 3 (by simp))
   simp only [e3]at hK
   go_simp
   exact hK _ _ (hJ.step iB 5 (by decide) (by decide) (by decide) (by decide)) RZ2.refl ⟨_,_,_,_,rfl,h1,h2⟩
  ·obtain⟨dA,dc,X1,x1,X2,x2,e3,h0,h1,h2⟩:∃dA dc X1 x1 X2 x2,v 3=.tuple #[.agg #[.int .i64 12,.int .i64 176,.int .i64 0,.int .i64 0,.slice dA 13 dc,.int .i64 65536],.agg #[.slice X1 16 x1,.slice X2 16 x2,.int .i64 1],.int .i64 0]/\Bs w1 w1.heap.size (.slice dA 13 dc) b/\Bs w1 w1.heap.size (.slice X1 16 x1) Z16/\Bs w1 w1.heap.size (.slice X2 16 x2) Z16:=hF 3 (hA 3 (by simp))
   simp only [e3]at hK
   go_simp
   exact hK _ _ (hJ.step iB 6 (by decide) (by decide) (by decide) (by decide)) RZ2.refl rfl
  ·go_simp
   exact hK _ _ (hJ.alloc6 (by decide) (by decide) (by decide)) (RZ2.of (iA)) trivial
  ·go_simp
   exact hK _ _ (hJ.alloc3 (by decide) (by decide) (by decide)) (RZ2.of (iA)) trivial
  ·obtain⟨q,e7,hq0,hq1,hrow⟩:=hJ.2.1 hL (hA 7 (by simp))
   obtain⟨dA,dc,e4,hd⟩:∃dA dc,v 4=.agg #[.int .i64 12,.int .i64 176,.int .i64 0,.int .i64 0,.slice dA 13 dc,.int .i64 65536]/\Bs w1 w1.heap.size (.slice dA 13 dc) b:=hF 4 (hA 4 (by simp))
   simp only [e7,e4]at hK |-
   obtain⟨z0,z1,z2,z3,z4,z5,zf⟩:=j9 hrow
   have zf0:=zf 0;have zf1:=zf 1;have zf2:=zf 2;have zf3:=zf 3;have zf4:=zf 4;have zf5:=zf 5
   clear zf
   go_simp
   exact hK undef _ (hJ.store6 hq0 hrow (by decide) (by decide) (by decide)) (RZ2.set6 hrow _ _ _ _ _ _) ⟨q,dA,dc,e7,hq0,yp _ _ _ _ _ _ hrow,hd.rz2 (RZ2.set6 (w0:=w1r) hrow _ _ _ _ _ _)⟩
  ·obtain⟨q,e8,hq0,hq1,hrow⟩:=hJ.2.2 hL (hA 8 (by simp))
   obtain⟨X1,x1,X2,x2,e5,h1,h2⟩:∃X1 x1 X2 x2,v 5=.agg #[.slice X1 16 x1,.slice X2 16 x2,.int .i64 1]/\Bs w1 w1.heap.size (.slice X1 16 x1) Z16/\Bs w1 w1.heap.size (.slice X2 16 x2) Z16:=hF 5 (hA 5 (by simp))
   simp only [e8,e5]at hK |-
   obtain⟨z0,z1,z2,zf⟩:=jb hrow
   have zf0:=zf 0;have zf1:=zf 1;have zf2:=zf 2
   clear zf
   go_simp
   exact hK undef _ (hJ.store3 hq0 hrow (by decide) (by decide) (by decide)) (RZ2.set3 hrow _ _ _) ⟨q,X1,x1,X2,x2,e8,hq0,jF _ _ _ hrow,h1.rz2 (RZ2.set3 (w0:=w1r) hrow _ _ _),h2.rz2 (RZ2.set3 (w0:=w1r) hrow _ _ _)⟩
  ·have e6:v 6=.int .i64 0:=hF 6 (hA 6 (by simp))
   simp only [e6]at hK
   go_simp
   refine hK _ _ (hJ.step iB 11 (by decide) (by decide) (by decide) (by decide)) RZ2.refl ?_
   first|exact rfl|exact j4 _
 case tail2=>
  intro v w1 hJ hF
  have e1:v 1=.agg #[.int .i64 0,.int .i64 176,.int .i64 0,.int .i64 0,.slice none 0 0,.int .i64 8]:=hF 1 (by simp)
  have e6:v 6=.int .i64 0:=hF 6 (by simp)
  have e11:v 11=.int .i64 0:=hF 11 (by simp)
  obtain⟨qc2,dA2,dc2,e7,hqc,hrc,hdc⟩:∃q dA dc,v 7=.pointer (some ⟨q,0,none⟩)/\w1r.heap.size<=q/\w1.heap[q]?=some (.cells #[.int .i64 12,.int .i64 176,.int .i64 0,.int .i64 0,.slice dA 13 dc,.int .i64 65536] 32 (0,0))/\Bs w1 w1.heap.size (.slice dA 13 dc) b:=hF 9 (by simp)
  obtain⟨qs2,X1,x1,X2,x2,e8,hqs,hrs,hx1,hx2⟩:∃q X1 x1 X2 x2,v 8=.pointer (some ⟨q,0,none⟩)/\w1r.heap.size<=q/\w1.heap[q]?=some (.cells #[.slice X1 16 x1,.slice X2 16 x2,.int .i64 1] 29 (0,0))/\Bs w1 w1.heap.size (.slice X1 16 x1) Z16/\Bs w1 w1.heap.size (.slice X2 16 x2) Z16:=hF 10 (by simp)
  simp only [List.drop_succ_cons,List.drop_zero,j8,Act.put,Nat.zero_add,Nat.reduceAdd,List.setIfInBounds_toArray,List.set_cons_zero,List.set_cons_succ]
  simp only [e7,e8,e11]
  clear e1 e6 e7 e8 e11
  obtain⟨w2r,hw2⟩:∃w2r,w2r=w1:=⟨_,rfl⟩
  rw [<-hw2]at hJ hrc hrs hdc |-
  have HRC2:=iH hrc;have HRS2:=iH hrs;have HD2:=iH hdc
  have HBW2:=iH (HBW1.out.trans (hJ.1.mono HBW1.out.size))
  clear hJ hF hrc hrs hdc hx1 hx2 hqc hqs hw2
  go_upto_region 3 with fail
  refine jc 12 [some 17,some 18,some 19,some 16,some 20,some 21,some 22,some 5,some 6,none,none,some 7] [[],[],[0,1],[0,1,2],[0,1,2,3],[0,1,2,3],[0,1,2,3],[],[],[0,1,2,3,4,7,8],[0,1,2,3,4,5,7,8,9],[0,1,2,3,4,5,6,7,8,9,10]]
   (JZ2 w2r 7 9 8 10) (RZ2 w2r)
   [fun v w1=>∃X1 x1 X2 x2,v 0=.agg #[.slice X1 16 x1,.slice X2 16 x2,.int .i64 0]/\Bs w1 w1.heap.size (.slice X1 16 x1) Z16/\Bs w1 w1.heap.size (.slice X2 16 x2) Z16,
    fun v _=>v 1=.agg #[.int .i64 12,.int .i64 176,.int .i64 0,.int .i64 0,.slice dA2 13 dc2,.int .i64 65536],
    fun v w1=>∃dA dc X1 x1 X2 x2,v 2=.tuple #[.agg #[.int .i64 0,.int .i64 176,.int .i64 0,.int .i64 0,.slice dA 0 dc,.int .i64 8],.agg #[.slice X1 16 x1,.slice X2 16 x2,.int .i64 1],.int .i64 0]/\Bs w1 w1.heap.size (.slice dA 0 dc) []/\Bs w1 w1.heap.size (.slice X1 16 x1) Z16/\Bs w1 w1.heap.size (.slice X2 16 x2) Z16,
    fun v w1=>∃dA dc X1 x1 X2 x2,v 3=.tuple #[.agg #[.int .i64 0,.int .i64 176,.int .i64 0,.int .i64 0,.slice dA 0 dc,.int .i64 8],.agg #[.slice X1 16 x1,.slice X2 16 x2,.int .i64 1],.int .i64 0]/\Bs w1 w1.heap.size (.slice dA 0 dc) []/\Bs w1 w1.heap.size (.slice X1 16 x1) Z16/\Bs w1 w1.heap.size (.slice X2 16 x2) Z16,
    fun v w1=>∃dA dc,v 4=.agg #[.int .i64 0,.int .i64 176,.int .i64 0,.int .i64 0,.slice dA 0 dc,.int .i64 8]/\Bs w1 w1.heap.size (.slice dA 0 dc) [],
    fun v w1=>∃X1 x1 X2 x2,v 5=.agg #[.slice X1 16 x1,.slice X2 16 x2,.int .i64 1]/\Bs w1 w1.heap.size (.slice X1 16 x1) Z16/\Bs w1 w1.heap.size (.slice X2 16 x2) Z16,
    fun v _=>v 6=.int .i64 0,
    fun v w1=>True,
    fun v w1=>True,
    fun v w1=>∃q dA dc,v 7=.pointer (some ⟨q,0,none⟩)/\w2r.heap.size<=q/\w1.heap[q]?=some (.cells #[.int .i64 0,.int .i64 176,.int .i64 0,.int .i64 0,.slice dA 0 dc,.int .i64 8] 32 (0,0))/\Bs w1 w1.heap.size (.slice dA 0 dc) [],
    fun v w1=>∃q X1 x1 X2 x2,v 8=.pointer (some ⟨q,0,none⟩)/\w2r.heap.size<=q/\w1.heap[q]?=some (.cells #[.slice X1 16 x1,.slice X2 16 x2,.int .i64 1] 29 (0,0))/\Bs w1 w1.heap.size (.slice X1 16 x1) Z16/\Bs w1 w1.heap.size (.slice X2 16 x2) Z16,
    fun v _=>v 11=.int .i64 0]
   (by kernel_rfl) (by kernel_rfl) (fun _=>JZ2.start) ?st3 ?steps3 ?tail3
  case st3=>
   exact(.cons (fun _ _ _ _ _ hr ⟨X1,x1,X2,x2,e,h1,h2⟩=>⟨X1,x1,X2,x2,e,h1.rz2 hr,h2.rz2 hr⟩) (.cons (fun _ _ _ _ _ _ h=>h) (.cons (fun _ _ _ _ _ hr ⟨dA,dc,X1,x1,X2,x2,e,h0,h1,h2⟩=>⟨dA,dc,X1,x1,X2,x2,e,h0.rz2 hr,h1.rz2 hr,h2.rz2 hr⟩) (.cons (fun _ _ _ _ _ hr ⟨dA,dc,X1,x1,X2,x2,e,h0,h1,h2⟩=>⟨dA,dc,X1,x1,X2,x2,e,h0.rz2 hr,h1.rz2 hr,h2.rz2 hr⟩) (.cons (fun _ _ _ _ _ hr ⟨dA,dc,e,h⟩=>⟨dA,dc,e,h.rz2 hr⟩) (.cons (fun _ _ _ _ _ hr ⟨X1,x1,X2,x2,e,h1,h2⟩=>⟨X1,x1,X2,x2,e,h1.rz2 hr,h2.rz2 hr⟩) (.cons (fun _ _ _ _ _ _ h=>h) (.cons (fun _ _ _ _ _ _ h=>h) (.cons (fun _ _ _ _ _ _ h=>h) (.cons (fun _ _ _ _ _ hr ⟨q,dA,dc,e,hq,hw,h⟩=>⟨q,dA,dc,e,hq,hr.row6 hw (by simp),h.rz2 hr⟩) (.cons (fun _ _ _ _ _ hr ⟨q,X1,x1,X2,x2,e,hq,hw,h1,h2⟩=>⟨q,X1,x1,X2,x2,e,hq,hr.row3 hw (by simp),h1.rz2 hr,h2.rz2 hr⟩) (.cons (fun _ _ _ _ _ _ h=>h) .nil))))))))))))
  case steps3=>
   simp only [List.take_succ_cons,List.take_zero]
   refine(.cons ?_ (.cons ?_ (.cons ?_ (.cons ?_ (.cons ?_ (.cons ?_ (.cons ?_ (.cons ?_ (.cons ?_ (.cons ?_ (.cons ?_ (.cons ?_ .nil))))))))))))
   all_goals(intro L v w1 hJ hL hA hF K hK;simp only [j8,Act.put,Nat.zero_add,Nat.reduceAdd,List.setIfInBounds_toArray,List.set_cons_zero,List.set_cons_succ]at hK |-)
   ·go_simp
    refine(Kl w1).mono ?_
    rintro e w5 ⟨X1,x1,X2,x2,rfl,h1,h2,hb⟩
    exact hK _ _ (hJ.step hb 0 (by decide) (by decide) (by decide) (by decide)) (RZ2.of hb) ⟨_,_,_,_,rfl,h1,h2⟩
   ·obtain⟨c0,c1,c2,c3,c4,c5,_⟩:=j9 ((hJ.1.block qc2 (iG HRC2.out)).trans HRC2.out)
    go_simp
    refine hK _ _ (hJ.step iB 1 (by decide) (by decide) (by decide) (by decide)) RZ2.refl ?_
    first|exact rfl|exact j4 _
   ·have e1:v 1=.agg #[.int .i64 12,.int .i64 176,.int .i64 0,.int .i64 0,.slice dA2 13 dc2,.int .i64 65536]:=hF 1 (hA 1 (by simp))
    simp only [e1]at hK
    obtain⟨X1,x1,X2,x2,e0,h1,h2⟩:∃X1 x1 X2 x2,v 0=.agg #[.slice X1 16 x1,.slice X2 16 x2,.int .i64 0]/\Bs w1 w1.heap.size (.slice X1 16 x1) Z16/\Bs w1 w1.heap.size (.slice X2 16 x2) Z16:=hF 0 (hA 0 (by simp))
    simp only [e0]at hK
    go_simp
    refine(HUN.out (.slice X1 16 x1) (.slice X2 16 x2) (.slice dA2 13 dc2) w1 h1 h2 (HD2.out.lift hJ.1)).mono ?_
    rintro e w5 ⟨cv,sv,rfl,⟨dd,rfl,hd⟩,⟨y1,y2,rfl,g1,g2⟩,hb⟩
    obtain⟨dA,dc,hp⟩:∃A c,dd=.slice A 0 c:=(by obtain⟨a,c,e,_⟩:=hd;exact⟨a,c,by rw [e,LD3.out]⟩)
    obtain⟨Y1,c1,hp1⟩:∃A c,y1=.slice A 16 c:=(by obtain⟨a,c,e,_⟩:=g1;exact⟨a,c,by rw [e,kT]⟩)
    obtain⟨Y2,c2,hp2⟩:∃A c,y2=.slice A 16 c:=(by obtain⟨a,c,e,_⟩:=g2;exact⟨a,c,by rw [e,kT]⟩)
    subst hp;subst hp1;subst hp2
    exact hK _ _ (hJ.step hb 2 (by decide) (by decide) (by decide) (by decide)) (RZ2.of hb) ⟨_,_,_,_,_,_,rfl,hd,g1,g2⟩
   ·obtain⟨dA,dc,X1,x1,X2,x2,e2,h0,h1,h2⟩:∃dA dc X1 x1 X2 x2,v 2=.tuple #[.agg #[.int .i64 0,.int .i64 176,.int .i64 0,.int .i64 0,.slice dA 0 dc,.int .i64 8],.agg #[.slice X1 16 x1,.slice X2 16 x2,.int .i64 1],.int .i64 0]/\Bs w1 w1.heap.size (.slice dA 0 dc) []/\Bs w1 w1.heap.size (.slice X1 16 x1) Z16/\Bs w1 w1.heap.size (.slice X2 16 x2) Z16:=hF 2 (hA 2 (by simp))
    simp only [e2]at hK
    go_simp
    exact hK _ _ (hJ.step iB 3 (by decide) (by decide) (by decide) (by decide)) RZ2.refl ⟨_,_,_,_,_,_,rfl,h0,h1,h2⟩
   ·obtain⟨dA,dc,X1,x1,X2,x2,e3,h0,h1,h2⟩:∃dA dc X1 x1 X2 x2,v 3=.tuple #[.agg #[.int .i64 0,.int .i64 176,.int .i64 0,.int .i64 0,.slice dA 0 dc,.int .i64 8],.agg #[.slice X1 16 x1,.slice X2 16 x2,.int .i64 1],.int .i64 0]/\Bs w1 w1.heap.size (.slice dA 0 dc) []/\Bs w1 w1.heap.size (.slice X1 16 x1) Z16/\Bs w1 w1.heap.size (.slice X2 16 x2) Z16:=hF 3 (hA 3 (by simp))
    simp only [e3]at hK
    go_simp
    exact hK _ _ (hJ.step iB 4 (by decide) (by decide) (by decide) (by decide)) RZ2.refl ⟨_,_,rfl,h0⟩
   ·obtain⟨dA,dc,X1,x1,X2,x2,e3,h0,h1,h2⟩:∃dA dc X1 x1 X2 x2,v 3=.tuple #[.agg #[.int .i64 0,.int .i64 176,.int .i64 0,.int .i64 0,.slice dA 0 dc,.int .i64 8],.agg #[.slice X1 16 x1,.slice X2 16 x2,.int .i64 1],.int .i64 0]/\Bs w1 w1.heap.size (.slice dA 0 dc) []/\Bs w1 w1.heap.size (.slice X1 16 x1) Z16/\Bs w1 w1.heap.size (.slice X2 16 x2) Z16:=hF 3 (hA 3 (by simp))
    simp only [e3]at hK
    go_simp
    exact hK _ _ (hJ.step iB 5 (by decide) (by decide) (by decide) (by decide)) RZ2.refl ⟨_,_,_,_,rfl,h1,h2⟩
   ·obtain⟨dA,dc,X1,x1,X2,x2,e3,h0,h1,h2⟩:∃dA dc X1 x1 X2 x2,v 3=.tuple #[.agg #[.int .i64 0,.int .i64 176,.int .i64 0,.int .i64 0,.slice dA 0 dc,.int .i64 8],.agg #[.slice X1 16 x1,.slice X2 16 x2,.int .i64 1],.int .i64 0]/\Bs w1 w1.heap.size (.slice dA 0 dc) []/\Bs w1 w1.heap.size (.slice X1 16 x1) Z16/\Bs w1 w1.heap.size (.slice X2 16 x2) Z16:=hF 3 (hA 3 (by simp))
    simp only [e3]at hK
    go_simp
    exact hK _ _ (hJ.step iB 6 (by decide) (by decide) (by decide) (by decide)) RZ2.refl rfl
   ·go_simp
    exact hK _ _ (hJ.alloc6 (by decide) (by decide) (by decide)) (RZ2.of (iA)) trivial
   ·go_simp
    exact hK _ _ (hJ.alloc3 (by decide) (by decide) (by decide)) (RZ2.of (iA)) trivial
   ·obtain⟨q,e7,hq0,hq1,hrow⟩:=hJ.2.1 hL (hA 7 (by simp))
    obtain⟨dA,dc,e4,hd⟩:∃dA dc,v 4=.agg #[.int .i64 0,.int .i64 176,.int .i64 0,.int .i64 0,.slice dA 0 dc,.int .i64 8]/\Bs w1 w1.heap.size (.slice dA 0 dc) []:=hF 4 (hA 4 (by simp))
    simp only [e7,e4]at hK |-
    obtain⟨z0,z1,z2,z3,z4,z5,zf⟩:=j9 hrow
    have zf0:=zf 0;have zf1:=zf 1;have zf2:=zf 2;have zf3:=zf 3;have zf4:=zf 4;have zf5:=zf 5
    clear zf
    go_simp
    exact hK undef _ (hJ.store6 hq0 hrow (by decide) (by decide) (by decide)) (RZ2.set6 hrow _ _ _ _ _ _) ⟨q,dA,dc,e7,hq0,yp _ _ _ _ _ _ hrow,hd.rz2 (RZ2.set6 (w0:=w2r) hrow _ _ _ _ _ _)⟩
   ·obtain⟨q,e8,hq0,hq1,hrow⟩:=hJ.2.2 hL (hA 8 (by simp))
    obtain⟨X1,x1,X2,x2,e5,h1,h2⟩:∃X1 x1 X2 x2,v 5=.agg #[.slice X1 16 x1,.slice X2 16 x2,.int .i64 1]/\Bs w1 w1.heap.size (.slice X1 16 x1) Z16/\Bs w1 w1.heap.size (.slice X2 16 x2) Z16:=hF 5 (hA 5 (by simp))
    simp only [e8,e5]at hK |-
    obtain⟨z0,z1,z2,zf⟩:=jb hrow
    have zf0:=zf 0;have zf1:=zf 1;have zf2:=zf 2
    clear zf
    go_simp
    exact hK undef _ (hJ.store3 hq0 hrow (by decide) (by decide) (by decide)) (RZ2.set3 hrow _ _ _) ⟨q,X1,x1,X2,x2,e8,hq0,jF _ _ _ hrow,h1.rz2 (RZ2.set3 (w0:=w2r) hrow _ _ _),h2.rz2 (RZ2.set3 (w0:=w2r) hrow _ _ _)⟩
   ·have e6:v 6=.int .i64 0:=hF 6 (hA 6 (by simp))
    simp only [e6]at hK
    go_simp
    refine hK _ _ (hJ.step iB 11 (by decide) (by decide) (by decide) (by decide)) RZ2.refl ?_
    first|exact rfl|exact j4 _
  case tail3=>
   intro v w1 hJ hF
   have e1:v 1=.agg #[.int .i64 12,.int .i64 176,.int .i64 0,.int .i64 0,.slice dA2 13 dc2,.int .i64 65536]:=hF 1 (by simp)
   have e6:v 6=.int .i64 0:=hF 6 (by simp)
   have e11:v 11=.int .i64 0:=hF 11 (by simp)
   obtain⟨qc3,dA3,dc3,e7,hqc,hrc,hdc⟩:∃q dA dc,v 7=.pointer (some ⟨q,0,none⟩)/\w2r.heap.size<=q/\w1.heap[q]?=some (.cells #[.int .i64 0,.int .i64 176,.int .i64 0,.int .i64 0,.slice dA 0 dc,.int .i64 8] 32 (0,0))/\Bs w1 w1.heap.size (.slice dA 0 dc) []:=hF 9 (by simp)
   obtain⟨qs3,X1,x1,X2,x2,e8,hqs,hrs,hx1,hx2⟩:∃q X1 x1 X2 x2,v 8=.pointer (some ⟨q,0,none⟩)/\w2r.heap.size<=q/\w1.heap[q]?=some (.cells #[.slice X1 16 x1,.slice X2 16 x2,.int .i64 1] 29 (0,0))/\Bs w1 w1.heap.size (.slice X1 16 x1) Z16/\Bs w1 w1.heap.size (.slice X2 16 x2) Z16:=hF 10 (by simp)
   simp only [List.drop_succ_cons,List.drop_zero,j8,Act.put,Nat.zero_add,Nat.reduceAdd,List.setIfInBounds_toArray,List.set_cons_zero,List.set_cons_succ]
   simp only [e7,e8,e11]
   clear e1 e6 e7 e8 e11
   obtain⟨w3r,hw3⟩:∃w3r,w3r=w1:=⟨_,rfl⟩
   rw [<-hw3]at hJ hrc hrs |-
   obtain⟨y0,y1,y2,_⟩:=jb hrs
   obtain⟨z0,z1,z2,z3,z4,z5,_⟩:=j9 hrc
   obtain⟨x0,x1',x2',x3,x4,x5,_⟩:=j9 ((hJ.1.block qc2 (iG HRC2.out)).trans HRC2.out)
   obtain⟨u0,u1,u2,_⟩:=jb ((hJ.1.block qs2 (iG HRS2.out)).trans HRS2.out)
   have HB3:=iH (HBW2.out.trans (hJ.1.mono HBW2.out.size))
   clear hJ hF hrc hrs hdc hx1 hx2 hqc hqs hw3
   go_wp2_with fail
   go_ret
   exact⟨rfl,HB3.out⟩
theorem qF(va:Value)(k1:List UInt8)(l1:k1.length<=140737488351232)(vb:Value)(k2:List UInt8)(l2:k2.length<=140737488351232)(n:Int)(wn:(Lit.int .i64 n).wf=true)(w:World)(ha:Bs w w.heap.size va k1)(hb:Bs w w.heap.size vb k2):
 Calls Try.prog 4 #[va,vb,.int .i64 n] w fun e w'=>e=.returned (.bool true)/\Below w.heap.size w w':=by
 obtain⟨A,ca,rfl⟩:=Bs.formL ha
 obtain⟨B,cb,rfl⟩:=Bs.formL hb
 have HA:=iH ha;have HB:=iH hb
 obtain⟨⟨E,K1,K2,M⟩,hr⟩:∃r,qC k1 k2 n=r:=⟨_,rfl⟩
 have HR:=iH hr
 have HL:=iH (And.intro l1 l2)
 clear ha hb hr l1 l2 wn
 go_enter Try.func4,Try.ntmps4
 go_upto_region 2 with (go_at_call 12;refine(Qt _ _ k1 k2 n w HA.out HB.out HL.out.1 HL.out.2).mono ?_;rw [HR.out];rintro e w1 ⟨v,rfl,⟨x1,y1,rfl,hx,hy⟩,hb⟩;obtain⟨xA1,xc1,hp⟩:=Bs.formL hx;subst hp;obtain⟨yA1,yc1,hp⟩:=Bs.formL hy;subst hp;have X1:=iH hx;have Y1:=iH hy;have B1:=iH hb;clear hx hy hb)
 obtain⟨u1,hu1⟩:∃u,u=w1.alloc (.cells #[.slice xA1 K1.length xc1,.slice yA1 K2.length yc1,.int .i64 M] 29):=⟨_,rfl⟩
 rw [<-hu1]
 have hwu:Below w1.heap.size w1 u1:=by rw [hu1];exact iA
 have R1:Hid (u1.heap[w1.heap.size]?=some (.cells #[.slice xA1 K1.length xc1,.slice yA1 K2.length yc1,.int .i64 M] 29 (0,0))):=iH (by rw [hu1];exact iN)
 have XU1:=iH (Bs.lift X1.out hwu);have YU1:=iH (Bs.lift Y1.out hwu)
 have U1:=iH (B1.out.trans (hwu.mono B1.out.size))
 clear hu1 hwu
 go_upto_region 3 with (go_at_call 13;refine(Qj _ _ k1 k2 n u1 (Bs.lift HA.out U1.out) (Bs.lift HB.out U1.out)).mono ?_;rw [HR.out];rintro e w2 ⟨v,rfl,⟨x1,y1,rfl,hx,hy⟩,hb⟩;obtain⟨xA2,xc2,hp⟩:=Bs.formL hx;subst hp;obtain⟨yA2,yc2,hp⟩:=Bs.formL hy;subst hp;have X2:=iH hx;have Y2:=iH hy;have B2:=iH hb;clear hx hy hb)
 obtain⟨u2,hu2⟩:∃u,u=w2.alloc (.cells #[.slice xA2 K1.length xc2,.slice yA2 K2.length yc2,.int .i64 M] 29):=⟨_,rfl⟩
 rw [<-hu2]
 have hwu:Below w2.heap.size w2 u2:=by rw [hu2];exact iA
 have R2:Hid (u2.heap[w2.heap.size]?=some (.cells #[.slice xA2 K1.length xc2,.slice yA2 K2.length yc2,.int .i64 M] 29 (0,0))):=iH (by rw [hu2];exact iN)
 have XU2:=iH (Bs.lift X2.out hwu);have YU2:=iH (Bs.lift Y2.out hwu)
 have B12:=iH (B2.out.trans (hwu.mono B2.out.size))
 have U2:=iH (U1.out.trans (B12.out.mono U1.out.size))
 clear hu2 hwu
 have tE:(E==E)=true:=by simp
 go_wp2_with(first
  |(go_at_call 14;refine(QU _ _ K1 K2 K1 K2 M M (·<w3.heap.size) (·<w3.heap.size) w3 ⟨_,_,rfl,Bs.lift (Bs.lift XU1.out B12.out) B3.out,Bs.lift (Bs.lift YU1.out B12.out) B3.out⟩ ⟨_,_,rfl,Bs.lift XU2.out B3.out,Bs.lift YU2.out B3.out⟩).mono ?_;rintro e w4 ⟨rfl,hb⟩;rw [decide_eq_true (show M=M/\K1=K1/\K2=K2 from⟨rfl,rfl,rfl⟩)];have B4:=iH hb;clear hb p0 p1 p2 q0 q1 q2)
  |(go_at_call 7;refine(Q6 u2).mono ?_;rintro e w3 ⟨rfl,hb⟩;have B3:=iH hb;obtain⟨p0,p1,p2,_⟩:=jb ((hb.block _ (iZ (iG R1.out) B12.out.size)).trans ((B12.out.block _ (iG R1.out)).trans R1.out));obtain⟨q0,q1,q2,_⟩:=jb ((hb.block _ (iG R2.out)).trans R2.out);clear hb))
 go_ret
 exact⟨rfl,(U2.out.trans (B3.out.mono U2.out.size)).trans (B4.out.mono (Nat.le_trans U2.out.size B3.out.size))⟩
end Go.Proofs.Ytadndhgebgjlaaa
