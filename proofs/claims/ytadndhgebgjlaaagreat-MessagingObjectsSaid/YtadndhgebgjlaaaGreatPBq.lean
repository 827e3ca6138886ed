/- made.Dice: words for Odd: a row of the call's own whose objects lie anywhere; the copy of a slice of objects; made.Dice: words for Odd: one object of a row i... -/
import Derived.Test.YtadndhgebgjlaaaGreatPBi
import Derived.Test.YtadndhgebgjlaaaGreatPBm
import Derived.Test.YtadndhgebgjlaaaGreatPBp
import Derived.Test.YtadndhgebgjlaaaGreatPw
set_option linter.all false
set_option maxRecDepth 100000
set_option maxHeartbeats 4000000
namespace Go.Proofs.YtadndhgebgjlaaaGreat
open Go.RowKit Go.Deep
theorem mE{P:Prop}(h:P:=by
 obtain⟨a6,c6,e6,h6⟩:∃a c,v 6=_/\_:=hF 6 (hA 6 (by simp))
 simp only [e6]at hK
 go_simp
 exact hK _ _ hJ iB ⟨_,_,rfl,h6⟩):P:=h
theorem m39{P:Prop}(h:P:=by
 obtain⟨a7,c7,e7,h7⟩:∃a c,v 7=_/\_:=hF 7 (hA 7 (by simp))
 simp only [e7]at hK
 go_simp
 exact hK _ _ hJ iB rfl):P:=h
theorem Ub{w:World}{S:Nat->Prop}:∀(L:Ns) (b off:Nat),NsAt w S L b off->∃xs:List Value,EachN w S L xs/\xs.length=L.len*3/\(∀j u,xs[j]?=some u->w.cell? ⟨b,off+j,none⟩=some u)/\∀u∈xs,u.oneCell'=true:=by
 intro L
 induction L with
 |nil=>intro b off _;exact⟨[],rfl,by simp [Ns.len],by simp,by simp⟩
 |cons t v k r _ ih=>
  intro b off ⟨h1,h2,⟨x,h3,h4⟩,⟨ka,kc,h5,h6,h7,h8,h9⟩,h10⟩
  obtain⟨xs,g1,g2,g3,g4⟩:=ih b (off+3) h10
  obtain⟨xa,xc,rfl⟩:∃A c,x=.slice A v.length c:=by obtain⟨a,c,hv,_⟩:=h4;exact⟨a,c,hv⟩
  refine⟨.int .i64 t :: .slice xa v.length xc :: .slice ka k.len kc :: xs,⟨_,_,xs,rfl,h2,h4,⟨ka,kc,rfl,h6,h7,h8,h9⟩,g1⟩,by simp [Ns.len,g2];omega,fun j u hu=> ?_,fun u hu=> ?_⟩
  ·rcases j with _|_|_|j
   ·simp at hu;subst hu;exact h1
   ·simp at hu;subst hu;exact h3
   ·simp at hu;subst hu;exact h5
   ·have hu:xs[j]?=some u:=by simpa using hu
    have:=g3 j u hu
    rw [show off+(j+1+1+1)=off+3+j by omega]
    exact this
  ·simp only [List.mem_cons]at hu
   rcases hu with rfl|rfl|rfl|hu
   ·simp [Value.oneCell']
   ·simp [Value.oneCell']
   ·simp [Value.oneCell']
   ·exact g4 u hu
def RowN(w:World)(base:Nat)(S:Nat->Prop)(o:Value)(L:Ns):Prop:=∃xs,w.ownsRow base 61 3 o L.len xs/\EachN w S L xs
section
variable{ops:Array Oper}{rest:List Oper}{op:Oper}{a:Act}{w:World}{Q:Exit->Act->World->Prop}(hgd:op.guard=none)(s x:Operand)(ho:op.op=.call {callee:=.builtin .append,args:=#[s,x],argTypes:=#[58,58]})(hs:a.eval s=.slice none 0 0)(L:Ns)(S:Nat->Prop)
include ops rest op a w Q hgd s x ho hs L S
theorem Zb(b off c:Nat)(hl:0<L.len)(hb:L.len<=1000000000000)(hx:a.eval x=.slice (some ⟨b,off,none⟩) L.len c)(hat:NsAt w S L b off)(hS:S b)(hbl:b<w.heap.size)(h:∀o' w',RowN w' w.heap.size S o' L->Below w.heap.size w w'->wpList Tryz.prog ops Q rest (a.put op.dst o') w'):wpList Tryz.prog ops Q (op :: rest) a w:=by
 obtain⟨xs,g1,g2,g3,g4⟩:=Ub L b off hat
 obtain⟨i,hinfo,hzz⟩:=Option.map_eq_some_iff.1 zk
 simp only [Prod.mk.injEq]at hzz
 obtain⟨hz,hsize,hbb⟩:=hzz
 refine wpList_append_own_at (w:=w) hgd s x 58 ho w.heap.size 61 i _ 3 56 Tryz.underlying58 hinfo hz hsize hbb rfl (by omega) (.slice none 0 0) 0 [] hs (World.ownsRow_nil _ _ _ _) ⟨b,off,none⟩ L.len c xs hx g2
  (fun j u hu=> ?_) g4 (by unfold maxLen;omega) (by omega) iL fun o' w' e1 e2 _ _=> ?_
 ·have e:(⟨b,off,none⟩:Addr).add j=⟨b,off+j,none⟩:=by unfold Addr.add;split<;>simp_all
  rw [e];exact g3 j u hu
 ·rw [Nat.zero_add,List.nil_append]at e1
  have hB:Below w.heap.size w w':=⟨e2.os,e2.tape,e2.output,e2.size,fun k hk=>e2.block k hk (by simp [Value.ownBlock])⟩
  exact h o' w' ⟨xs,e1,g1.keep (fun q hq hl=>⟨hB.block q hl,hq⟩) L xs⟩ hB
theorem Za(A:Option Addr)(c:Nat)(hb:L.len<=1000000000000)(hx:a.eval x=.slice A L.len c)(hv:NsS w S (.slice A L.len c) L)(h:∀o' w',RowN w' w.heap.size S o' L->Below w.heap.size w w'->wpList Tryz.prog ops Q rest (a.put op.dst o') w'):wpList Tryz.prog ops Q (op :: rest) a w:=by
 obtain⟨A',c',e,_,_,_,hc⟩:=hv
 injection e with e1 _ e3
 subst e1 e3
 rcases Nat.eq_zero_or_pos L.len with h0|h0
 ·cases L with
  |cons t v k r=>simp [Ns.len]at h0
  |nil=>
   obtain⟨i,hinfo,hzz⟩:=Option.map_eq_some_iff.1 zk
   simp only [Prod.mk.injEq]at hzz
   obtain⟨hz,hsize,hbb⟩:=hzz
   rcases A with _|ad
   ·refine wpList_plain hgd fun K hK=> ?_
    have hrun:=zK (P:=Tryz.prog) w w.heap.size 58 op.type 61 i 3 Tryz.underlying58 hinfo (.slice none 0 0) 0 [] (World.ownsRow_nil _ _ _ _) c
    unfold Oper.wp execOp
    simp only [ho,resolve,invoke,builtin,Sem.run_bind,Sem.run_pure,Result.andThen_ok,List.map_toArray,List.map_cons,List.map_nil,hs,hx,Ns.len,hrun]
    exact hK _ _ (h _ _ ⟨[],World.ownsRow_nil _ _ _ _,rfl⟩ iB)
   ·refine wpList_append_own_at (w:=w) hgd s x 58 ho w.heap.size 61 i _ 3 56 Tryz.underlying58 hinfo hz hsize hbb rfl (by omega) (.slice none 0 0) 0 [] hs (World.ownsRow_nil _ _ _ _) ad 0 c [] hx rfl
     (fun j u hu=>by simp at hu) (fun u hu=>by simp at hu) (by unfold maxLen;omega) (by omega) iL fun o' w' e1 e2 _ _=> ?_
    exact h o' w' ⟨[],e1,rfl⟩ ⟨e2.os,e2.tape,e2.output,e2.size,fun k hk=>e2.block k hk (by simp [Value.ownBlock])⟩
 ·obtain⟨b,off,rfl,hS,hbl,hat⟩:=hc h0
  exact Zb hgd s x ho hs L S b off c h0 hb hx hat hS hbl h
end
theorem zh{w:World}{S:Nat->Prop}:∀(L:Ns) (xs:List Value) (k:Nat),EachN w S L xs->k<L.len->∃P t v kd R xs1 x y xs2,L=Ns.app P (.cons t v kd R)/\P.len=k/\xs=xs1++(.int .i64 t :: x :: y :: xs2)/\xs1.length=k*3/\
 EachN w S P xs1/\kB t/\BsS w S x v/\NsS w S y kd/\EachN w S R xs2:=by
 intro L
 induction L with
 |nil=>intro xs k _ hk;simp [Ns.len]at hk
 |cons t v kd r _ ih=>
  intro xs k ⟨x,y,xs',e,hi,hv,hn,hr⟩ hk
  rcases k with _|k
  ·exact⟨.nil,t,v,kd,r,[],x,y,xs',rfl,rfl,e,rfl,rfl,hi,hv,hn,hr⟩
  ·obtain⟨P,t1,v1,kd1,R,xs1,x1,y1,xs2,e1,e2,e3,e4,g1,g2,g3,g4,g5⟩:=ih xs' k hr (by simp only [Ns.len]at hk;omega)
   exact⟨.cons t v kd P,t1,v1,kd1,R,.int .i64 t :: x :: y :: xs1,x1,y1,xs2,by rw [e1]<;>rfl,by simp [Ns.len,e2],by rw [e,e3]<;>rfl,by simp [e4];omega,⟨x,y,xs1,rfl,hi,hv,hn,g1⟩,g2,g3,g4,g5⟩
theorem ye{w:World}{S:Nat->Prop}{t:Int}{v:List UInt8}{kd R:Ns}{x y:Value}{xs2:List Value}(hi:kB t)(hv:BsS w S x v)(hn:NsS w S y kd)(hr:EachN w S R xs2):
 ∀(P:Ns) (xs1:List Value),EachN w S P xs1->EachN w S (P.app (.cons t v kd R)) (xs1++(.int .i64 t :: x :: y :: xs2)):=by
 intro P
 induction P with
 |nil=>intro xs1 h;have h:xs1= []:=h;subst h;exact⟨x,y,xs2,rfl,hi,hv,hn,hr⟩
 |cons t' v' k' r' _ ih=>
  intro xs1 ⟨x',y',xs',e,hi',hv',hn',hr'⟩
  subst e
  exact⟨x',y',_,rfl,hi',hv',hn',ih xs' hr'⟩
theorem Ns.all_app(l m:Ns):(l.app m).all=l.all+m.all:=by
 induction l with
 |nil=>simp [Ns.app,Ns.all]
 |cons t v k r _ ih=>simp only [Ns.app,Ns.all,ih];omega
theorem yW{w:World}{base g cap n size i:Nat}{e:TypeId}{xs:List Value}{u:Value}(h:w.ownsRow base e size (.slice (some ⟨g,0,none⟩) n cap) n xs):
 (w.setCell ⟨g,i,none⟩ u).ownsRow base e size (.slice (some ⟨g,0,none⟩) n cap) n (xs.set i u):=by
 obtain⟨h1,h2⟩:=h
 refine⟨by simpa using h1,?_⟩
 rcases h2 with ⟨h2,_⟩|⟨g',cap',cur,hv,hb,hh,hn,hm,hs,ht⟩
 ·cases h2
 ·injection hv with e1 _ e3
  injection e1 with e1
  injection e1 with e1 _
  subst e1 e3
  refine .inr ⟨g,cap,cur.setIfInBounds i u,rfl,hb,?_,hn,hm,by simpa using hs,?_⟩
  ·show(w.heap.modify g _)[g]?=_
   rw [Array.getElem?_modify,iT rfl,hh]
   rfl
  ·rw [Array.toList_setIfInBounds,List.take_set,ht]
theorem j35{w w':World}{base g cap n size:Nat}{e:TypeId}{xs:List Value}(h:w.ownsRow base e size (.slice (some ⟨g,0,none⟩) n cap) n xs)(hw:w'.heap[g]?=w.heap[g]?):w'.ownsRow base e size (.slice (some ⟨g,0,none⟩) n cap) n xs:=by
 obtain⟨h1,h2⟩:=h
 refine⟨h1,?_⟩
 rcases h2 with ⟨h2,_⟩|⟨g',cap',cur,hv,hb,hh,r⟩
 ·cases h2
 ·injection hv with e1 _ e3
  injection e1 with e1
  injection e1 with e1 _
  subst e1 e3
  exact .inr ⟨g,cap,cur,rfl,hb,hw.trans hh,r⟩
section
variable{α:Type}(xs1:List α)(a x y u:α)(xs2:List α)(k:Nat)(h:xs1.length=k)
include α xs1 a x y u xs2 k h
theorem YL:(xs1++(a :: x :: y :: xs2)).set k u=xs1++(u :: x :: y :: xs2):=by
 subst h;rw [List.set_append_right _ _ iL,Nat.sub_self]<;>rfl
theorem YM:(xs1++(a :: x :: y :: xs2)).set (k+1) u=xs1++(a :: u :: y :: xs2):=by
 subst h;rw [List.set_append_right _ _ (by omega),show xs1.length+1 - xs1.length=1 by omega]<;>rfl
theorem YN:(xs1++(a :: x :: y :: xs2)).set (k+2) u=xs1++(a :: x :: u :: xs2):=by
 subst h;rw [List.set_append_right _ _ (by omega),show xs1.length+2 - xs1.length=2 by omega]<;>rfl
end
theorem RowN.keep{w w':World}{base:Nat}{S S':Nat->Prop}{o:Value}{L:Ns}{row:Option Nat}(h:RowN w base S o L)(hg:w.grownBy w' row)(hr:∀q,row=some q->q<base)(hS:∀b,S b->b<w.heap.size->w'.heap[b]?=w.heap[b]?/\S' b):RowN w' base S' o L:=by
 obtain⟨xs,h1,h2⟩:=h
 refine⟨xs,World.ownsRow.kept h1 hg ?_,h2.keep hS L xs⟩
 cases e:o.ownBlock with
 |none=>exact .inl rfl
 |some b=>
  refine .inr fun e2=> ?_
  have:=(h1.lt b e).1
  have:=hr b e2.symm
  omega
theorem RowN.nss{w:World}{base:Nat}{S S':Nat->Prop}{o:Value}{L:Ns}(h:RowN w base S o L)(hl:L.len<=2513169434843)(hS:∀b,S b->S' b)(hb:∀b,base<=b->b<w.heap.size->S' b):NsS w S' o L:=by
 obtain⟨xs,h1,h2⟩:=h
 have h2:EachN w S' L xs:=h2.keep (fun b hs _=>⟨rfl,hS b hs⟩) L xs
 rcases h1.2 with ⟨rfl,h0⟩|⟨g,cap,cur,hv,hbg,hh,hn,hm,r⟩
 ·cases L with
  |nil=>exact⟨none,0,rfl,Nat.le_refl _,by simp [maxLen],by simp [Ns.len],fun h=>by simp [Ns.len]at h⟩
  |cons t v k r=>simp [Ns.len]at h0
 ·have hlt:g<w.heap.size:=(iG hh)
  refine⟨_,cap,hv,hn,hm,hl,fun _=>⟨g,0,rfl,hb g hbg hlt,hlt,NsAt.of_each L xs 0 h2 fun j x hx=> ?_⟩⟩
  have:=h1.cells (g:=g) (by rw [hv]<;>rfl) j x hx
  exact m01
theorem RowN.at{w:World}{base g cap k:Nat}{S:Nat->Prop}{L:Ns}(h:RowN w base S (.slice (some ⟨g,0,none⟩) L.len cap) L)(hk:k<L.len):∃P t v kd R x y,L=Ns.app P (.cons t v kd R)/\P.len=k/\
 w.cell? ⟨g,k*3,none⟩=some (.int .i64 t)/\w.cell? ⟨g,k*3+1,none⟩=some x/\w.cell? ⟨g,k*3+2,none⟩=some y/\(∀j,w.frozen? ⟨g,j,none⟩=false)/\base<=g/\g<w.heap.size/\kB t/\BsS w S x v/\NsS w S y kd/\
 (∀(w':World) (S':Nat->Prop),w'.heap[g]?=w.heap[g]? ->(∀b,S b->b<w.heap.size->w'.heap[b]?=w.heap[b]?/\S' b)->(∀b,S' b->b≠g)->
   (∀t',kB t'->RowN (w'.setCell ⟨g,k*3,none⟩ (.int .i64 t')) base S' (.slice (some ⟨g,0,none⟩) L.len cap) (P.app (.cons t' v kd R)))/\
   (∀x' v',BsS w' S' x' v'->RowN (w'.setCell ⟨g,k*3+1,none⟩ x') base S' (.slice (some ⟨g,0,none⟩) L.len cap) (P.app (.cons t v' kd R)))/\
   (∀y' kd',NsS w' S' y' kd'->RowN (w'.setCell ⟨g,k*3+2,none⟩ y') base S' (.slice (some ⟨g,0,none⟩) L.len cap) (P.app (.cons t v kd' R)))):=by
 obtain⟨xs,h1,h2⟩:=h
 obtain⟨P,t,v,kd,R,xs1,x,y,xs2,rfl,e2,rfl,e4,g1,g2,g3,g4,g5⟩:=zh L xs k h2 hk
 have hc:=fun j u hu=>h1.cells (g:=g) rfl j u hu
 have ea:∀j,(⟨g,0,none⟩:Addr).add j=⟨g,j,none⟩:=fun j=>by unfold Addr.add;split<;>simp_all
 have c0:=hc (k*3) (.int .i64 t) (by rw [List.getElem?_append_right (by omega),e4,Nat.sub_self]<;>rfl)
 have c1:=hc (k*3+1) x (by rw [List.getElem?_append_right (by omega),e4,show k*3+1 - k*3=1 by omega]<;>rfl)
 have c2:=hc (k*3+2) y (by rw [List.getElem?_append_right (by omega),e4,show k*3+2 - k*3=2 by omega]<;>rfl)
 rw [ea]at c0 c1 c2
 have hlen:∀t' v' kd',(P.app (.cons t' v' kd' R)).len=(P.app (.cons t v kd R)).len:=fun t' v' kd'=>by rw [Ns.len_app,Ns.len_app]<;>rfl
 have hgb:=h1.lt g rfl
 have hfz:∀j,w.frozen? ⟨g,j,none⟩=false:=fun j=>by
  rcases h1.2 with ⟨e,_⟩|⟨g',cap',cur,hv,_,hh,_⟩
  ·cases e
  ·injection hv with e1 _ _
   injection e1 with e1
   injection e1 with e1 _
   subst e1
   simp [World.frozen?,hh]
 refine⟨P,t,v,kd,R,x,y,rfl,e2,c0,c1,c2,hfz,hgb.1,hgb.2,g2,g3,g4,fun w' S' hw hk' hS=> ?_⟩
 have h1:=j35 h1 hw
 have kp:∀(i:Nat) (u:Value) (b:Nat),S' b->b<w'.heap.size->(w'.setCell ⟨g,i,none⟩ u).heap[b]?=w'.heap[b]?/\S' b:=fun i u b hs _=>⟨iO (hS b hs),hs⟩
 have g1:=g1.keep hk' P xs1
 have g3:=g3.keep hk'
 have g4:=g4.keep hk'
 have g5:=g5.keep hk' R xs2
 refine⟨fun t' ht'=> ?_,fun x' v' hx'=> ?_,fun y' kd' hy'=> ?_⟩
 ·refine⟨xs1++(.int .i64 t' :: x :: y :: xs2),?_,ye ht' (g3.keep (kp _ _)) (g4.keep (kp _ _)) (g5.keep (kp _ _) R xs2) P xs1 (g1.keep (kp _ _) P xs1)⟩
  have:=yW (i:=k*3) (u:=.int .i64 t') h1
  rw [YL xs1 _ x y _ xs2 _ e4]at this
  rw [hlen t' v kd];exact this
 ·refine⟨xs1++(.int .i64 t :: x' :: y :: xs2),?_,ye g2 (hx'.keep (kp _ _)) (g4.keep (kp _ _)) (g5.keep (kp _ _) R xs2) P xs1 (g1.keep (kp _ _) P xs1)⟩
  have:=yW (i:=k*3+1) (u:=x') h1
  rw [YM xs1 _ x y _ xs2 _ e4]at this
  rw [hlen t v' kd];exact this
 ·refine⟨xs1++(.int .i64 t :: x :: y' :: xs2),?_,ye g2 (g3.keep (kp _ _)) (hy'.keep (kp _ _)) (g5.keep (kp _ _) R xs2) P xs1 (g1.keep (kp _ _) P xs1)⟩
  have:=yW (i:=k*3+2) (u:=y') h1
  rw [YN xs1 _ x y _ xs2 _ e4]at this
  rw [hlen t v kd'];exact this
section
variable{w:World}{base:Nat}{S:Nat->Prop}{o:Value}{L:Ns}(h:RowN w base S o L)
include w base S o L h
theorem j0l(hS:∀b,S b->b<base)(hb:base<=w.heap.size):OwnN w 0 o L:=by
 obtain⟨xs,h1,h2⟩:=h
 refine⟨xs,⟨h1.1,h1.2.imp id fun⟨g,cap,cur,a,_,c⟩=>⟨g,cap,cur,a,Nat.zero_le _,c⟩⟩,h2.keep (fun b hs hl=>⟨rfl,iZ (hS b hs) hb,fun e=>by have:=(h1.lt b e).1;have:=hS b hs;omega,Nat.zero_le _⟩) L xs⟩
theorem j5z{b:Nat}(e:o.ownBlock=some b):base<=b:=by
 obtain⟨xs,h1,_⟩:=h
 exact(h1.lt b e).1
end
theorem Va{w1 w3 w4:World}{r:Option Nat}(h:Below w1.heap.size w1 w3)(hg:w3.grownBy w4 r)(hr:∀b,r=some b->w1.heap.size<=b):Below w1.heap.size w1 w4:=
 ⟨hg.os.trans h.os,hg.tape.trans h.tape,hg.output.trans h.output,Nat.le_trans h.size hg.size,fun i hi=>(hg.block i (iZ hi h.size) (fun e=>by have:=hr i e.symm;omega)).trans (h.block i hi)⟩
theorem J1(L:Ns)(o:Value)(w:World)(hO:NsS w (·<w.heap.size) o L)(ha:L.all<=10):
 Calls Tryz.prog 46 #[o] w fun e w'=>∃v',e=.returned v'/\Bs w' w'.heap.size v' (bytesOf (qG L))/\Below w.heap.size w w':=by
 have HE:=iH (xC L o w hO (by omega))
 clear hO
 go_enter Tryz.func46,Tryz.ntmps46
 go_wp2_with(go_at_call 33;refine HE.out.mono ?_;rintro e w1 ⟨v1,rfl,hs,hb⟩;have HS:=iH (BsS.rd hs);have HB:=iH hb;clear hs hb)
 go_ret
 exact⟨_,rfl,HS.out,HB.out⟩
theorem Zn(L:Ns):(bytesOf (qG L)).length<=4096:=by
 rcases h:qG L with x|b
 ·exact Nat.zero_le _
 ·exact Yi h
theorem XM(ua ub vn vh o:Value)(un:Int)(k2 N head:List UInt8)(Lo:Ns)(l2:k2.length=16)(ln:N.length=16)(lh:head.length<=100)(ha:Lo.all<=10)(w:World)(hb:Bs w w.heap.size ub k2)(hc:Bs w w.heap.size vn N)(hh:Bs w w.heap.size vh head)(hO:NsS w (·<w.heap.size) o Lo):
 Calls Tryz.prog 34 #[.agg #[ua,ub,.int .i64 un],vn,vh,o] w fun e w'=>∃o',e=.returned o'/\NsS w' (·<w'.heap.size) o' (Lo.app (.cons 142 (kC k2 N head (bytesOf (qG Lo))) .nil .nil))/\Below w.heap.size w w':=by
 obtain⟨A2,n2,d2,rfl⟩:=hb.form
 obtain⟨A3,n3,d3,rfl⟩:=hc.form
 obtain⟨AH,nh,dh,rfl⟩:=hh.form
 obtain rfl:=Bs.lenEq hb
 obtain rfl:=Bs.lenEq hc
 obtain rfl:=Bs.lenEq hh
 obtain⟨oA,oc,rfl⟩:∃A c,o=.slice A Lo.len c:=by obtain⟨a,c,e,_⟩:=hO;exact⟨a,c,e⟩
 obtain⟨w0,hw0⟩:∃w0,w0=w.alloc (.cells #[ua,.slice A2 k2.length d2,.int .i64 un] 29):=⟨_,rfl⟩
 have hB0:Below w.heap.size w w0:=by rw [hw0];exact iA
 have hh0:w0.heap[w.heap.size]?=some (.cells #[ua,.slice A2 k2.length d2,.int .i64 un] 29 (0,0)):=by rw [hw0];exact iN
 have hlt0:=(iG hh0)
 have CS:Hid (∀W,Below w0.heap.size w0 W->W.cell? ⟨w.heap.size,0,none⟩=some ua/\W.cell? ⟨w.heap.size,1,none⟩=some (.slice A2 k2.length d2)/\W.cell? ⟨w.heap.size,2,none⟩=some (.int .i64 un)):=iH fun W h=>(by obtain⟨a,b,c,_⟩:=j7 ((h.block w.heap.size hlt0).trans hh0);exact⟨a,b,c⟩)
 have hlen:Lo.len<=10:=Nat.le_trans (Ns.len_all Lo) ha
 have hpl:=Zn Lo
 obtain⟨P6,hP6⟩:∃P,bytesOf (qG Lo)=P:=⟨_,rfl⟩
 obtain⟨X4,hX4⟩:∃X,N++head=X:=⟨_,rfl⟩
 obtain⟨X7,hX7⟩:∃X,X4++P6=X:=⟨_,rfl⟩
 obtain⟨C9,hC9⟩:∃C,kC k2 N head P6=C:=⟨_,rfl⟩
 rw [hP6]at hpl
 have HCE:Hid (kC k2 N head (bytesOf (qG Lo))=C9):=iH (by rw [hP6];exact hC9)
 have e7:N++(head++P6)=X7:=by rw [<-hX7,<-hX4,List.append_assoc]
 have l4:X4.length<=200:=by rw [<-hX4,List.length_append];omega
 have l7:X7.length<=5000:=by rw [<-hX7,List.length_append];omega
 have HLL:Hid (Lo.len<=1000000000000):=iH (by omega)
 have HL2:Hid ((Lo.app (.cons 142 C9 .nil .nil)).len<=2513169434843):=iH (by rw [Ns.len_snoc];omega)
 have HJ1:Hid (∀w1,Bs w1 w1.heap.size (.slice A3 N.length d3) N->Bs w1 w1.heap.size (.slice AH head.length dh) head->Calls Tryz.prog 65 #[.slice A3 N.length d3,.slice AH head.length dh] w1 fun e w'=>∃v',e=.returned v'/\Bs w' w'.heap.size v' X4/\Below w1.heap.size w1 w'):=iH (fun w1 h1 h2=>(zl _ _ N head _ _ w1 h1 h2 (by omega)).mono fun e w' ⟨v',he,ho,hb⟩=>⟨v',he,by rw [hX4]at ho;exact OwnB.rd ho (by omega),hb⟩)
 have HJ2:Hid (∀(a4:Option Addr) (c4:Nat) (a6:Option Addr) (c6:Nat) (w1:World),Bs w1 w1.heap.size (.slice a4 X4.length c4) X4->Bs w1 w1.heap.size (.slice a6 P6.length c6) P6->Calls Tryz.prog 65 #[.slice a4 X4.length c4,.slice a6 P6.length c6] w1 fun e w'=>∃v',e=.returned v'/\Bs w' w'.heap.size v' X7/\Below w1.heap.size w1 w'):=iH (fun a4 c4 a6 c6 w1 h1 h2=>(zl _ _ X4 P6 _ _ w1 h1 h2 (by omega)).mono fun e w' ⟨v',he,ho,hb⟩=>⟨v',he,by rw [hX7]at ho;exact OwnB.rd ho (by omega),hb⟩)
 have HPL:Hid (∀w1,NsS w1 (·<w1.heap.size) (.slice oA Lo.len oc) Lo->Calls Tryz.prog 46 #[.slice oA Lo.len oc] w1 fun e w'=>∃v',e=.returned v'/\Bs w' w'.heap.size v' P6/\Below w1.heap.size w1 w'):=iH (fun w1 h=>by rw [<-hP6];exact J1 Lo _ w1 h ha)
 have HCK:Hid (∀(vk vb:Value) (w:World),Bs w w.heap.size vk k2->Bs w w.heap.size vb X7->Calls Tryz.prog 69 #[vk,vb] w fun e w'=>∃v',e=.returned (.tuple #[v',.int .i64 0])/\Bs w' w'.heap.size v' C9/\Below w.heap.size w w'):=iH (fun vk vb w h1 h2=>by rw [<-hC9];unfold kC;rw [e7];exact zQ vk vb k2 X7 l2 (by omega) w h1 h2)
 have HO:=iH (hO.keep (w':=w0) (S':=(·<w0.heap.size)) fun g hg hl=>⟨hB0.block g hl,iZ hg hB0.size⟩)
 have H2:=iH (hb.lift hB0);have H3:=iH (hc.lift hB0);have HH:=iH (hh.lift hB0)
 have HB:=iH hB0;have HW0:=iH hw0
 clear hb hc hh hO hB0 hw0 hh0 hlt0 hP6 hX4 hX7 hC9 hpl e7 l4 l7 l2 ln lh ha hlen
 go_enter Tryz.func34,Tryz.ntmps34
 go_upto_region 1 with fail
 rw [<-HW0.out]
 refine jc 14 [some 12,some 13,some 14,some 15,some 16,some 17,some 18,some 19,some 20,some 11,some 21,some 22,some 9,some 10] [[],[0],[],[],[2,3],[],[2,3,4,5],[2,3,4,5,6],[0,1,2,3,4,5,6,7],[0,1,2,3,4,5,6,7,8],[0,1,2,3,4,5,6,7,8,9],[0,1,2,3,4,5,6,7,8,9],[0,1,2,3,4,5,6,7,8,9,10],[0,1,2,3,4,5,6,7,8,9,10,11,12]]
  (fun _ _ w1=>Below w0.heap.size w0 w1) (fun w1 w2=>Below w1.heap.size w1 w2)
  [fun v _=>v 0=.pointer (some ⟨w.heap.size,1,none⟩),
   fun v _=>v 1=.slice A2 k2.length d2,
   fun v _=>v 2=.slice A3 N.length d3,
   fun v _=>v 3=.slice AH head.length dh,
   fun v w1=>∃a c,v 4=.slice a (X4).length c/\Bs w1 w1.heap.size (.slice a (X4).length c) (X4),
   fun v _=>v 5=.slice oA Lo.len oc,
   fun v w1=>∃a c,v 6=.slice a (P6).length c/\Bs w1 w1.heap.size (.slice a (P6).length c) (P6),
   fun v w1=>∃a c,v 7=.slice a (X7).length c/\Bs w1 w1.heap.size (.slice a (X7).length c) (X7),
   fun v w1=>∃a c,v 8=.tuple #[.slice a (C9).length c,.int .i64 0]/\Bs w1 w1.heap.size (.slice a (C9).length c) (C9),
   fun v w1=>∃a c,v 9=.tuple #[.slice a (C9).length c,.int .i64 0]/\Bs w1 w1.heap.size (.slice a (C9).length c) (C9),
   fun v w1=>∃a c,v 10=.slice a (C9).length c/\Bs w1 w1.heap.size (.slice a (C9).length c) (C9),
   fun v _=>v 11=.int .i64 0,
   fun v w1=>∃a c,v 12=.slice a (C9).length c/\Bs w1 w1.heap.size (.slice a (C9).length c) (C9),
   fun v _=>v 13=.int .i64 0]
  (by kernel_rfl) (by kernel_rfl) (fun _=>iB.drew) ?st ?steps ?tail
 case st=>
  exact(.cons (fun _ _ _ _ _ _ h=>h) (.cons (fun _ _ _ _ _ _ h=>h) (.cons (fun _ _ _ _ _ _ h=>h) (.cons (fun _ _ _ _ _ _ h=>h) (.cons (fun _ _ _ _ _ hr ⟨a,c,e,h⟩=>⟨a,c,e,h.lift hr⟩) (.cons (fun _ _ _ _ _ _ h=>h) (.cons (fun _ _ _ _ _ hr ⟨a,c,e,h⟩=>⟨a,c,e,h.lift hr⟩) (.cons (fun _ _ _ _ _ hr ⟨a,c,e,h⟩=>⟨a,c,e,h.lift hr⟩) (.cons (fun _ _ _ _ _ hr ⟨a,c,e,h⟩=>⟨a,c,e,h.lift hr⟩) (.cons (fun _ _ _ _ _ hr ⟨a,c,e,h⟩=>⟨a,c,e,h.lift hr⟩) (.cons (fun _ _ _ _ _ hr ⟨a,c,e,h⟩=>⟨a,c,e,h.lift hr⟩) (.cons (fun _ _ _ _ _ _ h=>h) (.cons (fun _ _ _ _ _ hr ⟨a,c,e,h⟩=>⟨a,c,e,h.lift hr⟩) (.cons (fun _ _ _ _ _ _ h=>h) .nil))))))))))))))
 case steps=>
  simp only [List.take_succ_cons,List.take_zero]
  refine(.cons ?_ (.cons ?_ (.cons ?_ (.cons ?_ (.cons ?_ (.cons ?_ (.cons ?_ (.cons ?_ (.cons ?_ (.cons ?_ (.cons ?_ (.cons ?_ (.cons ?_ (.cons ?_ .nil))))))))))))))
  all_goals(intro L v w1 hJ hL hA hF K hK;simp only [jf,Act.put,Nat.zero_add,Nat.reduceAdd,List.setIfInBounds_toArray,List.set_cons_zero,List.set_cons_succ]at hK |-)
  ·exact m6
  ·have e0:v 0=_:=hF 0 (hA 0 (by simp))
   obtain⟨c0,c1,c2⟩:=CS.out _ hJ
   simp only [e0]at hK
   exact m6
  ·exact m6
  ·exact m6
  ·have e2:v 2=_:=hF 2 (hA 2 (by simp))
   have e3:v 3=_:=hF 3 (hA 3 (by simp))
   simp only [e2,e3]at hK
   go_simp
   refine(HJ1.out w1 (H3.out.lift hJ) (HH.out.lift hJ)).mono ?_
   rintro e w5 ⟨v5,rfl,ho,hb⟩
   have hx:Bs w5 w5.heap.size v5 (X4):=ho
   exact m7
  ·exact m6
  ·have e5:v 5=_:=hF 5 (hA 5 (by simp))
   simp only [e5]at hK
   go_simp
   refine(HPL.out w1 (HO.out.keep fun g hg hl=>⟨hJ.block g hl,iZ hg hJ.size⟩)).mono ?_
   rintro e w5 ⟨v5,rfl,ho,hb⟩
   have hx:Bs w5 w5.heap.size v5 (P6):=ho
   exact m7
  ·obtain⟨a4,c4,e4,h4⟩:∃a c,v 4=_/\_:=hF 4 (hA 4 (by simp))
   obtain⟨a6,c6,e6,h6⟩:∃a c,v 6=_/\_:=hF 6 (hA 6 (by simp))
   simp only [e4,e6]at hK
   go_simp
   refine(HJ2.out a4 c4 a6 c6 w1 h4 h6).mono ?_
   rintro e w5 ⟨v5,rfl,ho,hb⟩
   have hx:Bs w5 w5.heap.size v5 (X7):=ho
   exact m7
  ·have e1:v 1=_:=hF 1 (hA 1 (by simp))
   simp only [e1]at hK
   obtain⟨a7,c7,e7,h7⟩:∃a c,v 7=_/\_:=hF 7 (hA 7 (by simp))
   simp only [e7]at hK
   go_simp
   refine(HCK.out _ _ w1 (H2.out.lift hJ) h7).mono ?_
   rintro e w5 ⟨v5,rfl,ho,hb⟩
   have hx:Bs w5 w5.heap.size v5 (C9):=ho
   exact m7
  ·exact ma
  ·exact mh
  ·exact m38
  ·exact mY
  ·have e11:v 11=_:=hF 11 (hA 11 (by simp))
   simp only [e11]at hK
   exact m6
 case tail=>
  intro v w1 hJ hF
  have e0:v 0=_:=hF 0 (by simp)
  have e1:v 1=_:=hF 1 (by simp)
  have e2:v 2=_:=hF 2 (by simp)
  have e3:v 3=_:=hF 3 (by simp)
  have e5:v 5=_:=hF 5 (by simp)
  have e11:v 11=_:=hF 11 (by simp)
  have e13:v 13=_:=hF 13 (by simp)
  obtain⟨a12,c12,e12,h12⟩:∃a c,v 12=_/\_:=hF 12 (by simp)
  simp only [List.drop_succ_cons,List.drop_zero,jf,Act.put,Nat.zero_add,Nat.reduceAdd,List.setIfInBounds_toArray,List.set_cons_zero,List.set_cons_succ]
  simp only [e12,e13]
  clear e0 e1 e2 e3 e5 e11 e13
  have HC:=iH h12
  have HBW:=iH (HB.out.trans (hJ.mono HB.out.size))
  have HN1:=iH (HO.out.keep (w':=w1) (S':=(·<w1.heap.size)) fun g hg hl=>⟨hJ.block g hl,iZ hg hJ.size⟩)
  clear h12 hJ hF
  go_wp2_with(first
   |(at_builtin;have M2:=HP3;(with_reducible refine jz rfl (.tmp 24) (.tmp 27) rfl 0 (.slice rA Lo.len rc) Lo rfl HO3.out 142 C9 .nil (.slice pA C9.length pc) (.slice none 0 0) _ w3.heap.size rfl rfl j6r HP3.out (NsS.nil0 _ _) HLL.out (Nat.zero_le _) ?_);intro o4 w4 hg4;have HG4:=iH hg4;clear hg4)
   |(go_at_call 32;refine(xm 142 _ C9 w2 HC2.out).mono ?_;rintro e w3 ⟨pA,pc,rfl,hs,hb⟩;have HO3:=iH (HO2.out.below hb);have HP3:=iH (qW HO2.out hs hb (Nat.zero_le _));have HB3:=iH (HBW2.out.trans (hb.mono HBW2.out.size));have HB13:=iH hb;clear hs hb)
   |(at_builtin;(with_reducible refine Za rfl (.const (.slice none 0 0)) (.tmp 23) rfl rfl Lo (·<w1.heap.size) oA oc HLL.out rfl HN1.out ?_);intro o2 w2 hr hb;have hown:=j0l hr (fun _ h=>h) hb.size;obtain⟨rA,rc,hp⟩:=hown.form;subst hp;have HO2:=iH hown;have HR2:=iH hr;have HC2:=iH (HC.out.lift hb);have HBW2:=iH (HBW.out.trans (hb.mono HBW.out.size));have HB12:=iH hb;clear hr hb hown))
  go_ret
  refine⟨o4,rfl,by rw [HCE.out];exact(HG4.out.1.nss HL2.out).keep fun g hg _=>⟨rfl,hg.2⟩,?_⟩
  have h13:Below w1.heap.size w1 w3:=HB12.out.trans (HB13.out.mono HB12.out.size)
  exact HBW.out.trans ((Va h13 HG4.out.2.2 (fun b e=>j5z HR2.out e)).mono HBW.out.size)
theorem xS{l:Ns}(h1:l.chk 1=0)(h2:l.all<=256):qG l=if 4096<l.enc.length then .error 2 else .ok l.enc:=by
 unfold qG
 rw [iF (by simpa using h1),iF (by omega)]
theorem Yc(L:Ns)(v:List UInt8):∀d,d<=8->L.chk d=0->(L.app (.cons 142 v .nil .nil)).chk d=0:=by
 induction L with
 |nil=>
  intro d hd _
  have h1:qX 142=true:=by decide
  have h2:jY 142=false:=by decide
  simp only [Ns.app,Ns.chk,h1,h2,Ns.len]
  simp
  omega
 |cons t x k r ihk ihr=>
  intro d hd h
  obtain⟨h1,h2,h3,h4,h5,h6⟩:=xx h
  have hr:=ihr d hd h6
  simp only [Ns.app,Ns.chk]
  rw [iF (by simp [h1]),iF (fun h=>h.elim (fun h=>by rw [h2 h.1]at h;simp [Ns.len]at h) (fun h=>by rw [h3 h.1]at h;simp at h)),iF (by omega),iT h5]
  exact hr
theorem yC{L:Ns}(v:List UInt8)(hc:L.chk 1=0)(ha:L.all<=10):qG (L.app (.cons 142 v .nil .nil))=if 4096<(L.app (.cons 142 v .nil .nil)).enc.length then .error 2 else .ok (L.app (.cons 142 v .nil .nil)).enc:=
 xS (Yc L v 1 (by omega) hc) (by rw [Ns.all_snoc];omega)
theorem xq(k2 N head:List UInt8){L:Ns}(hc:L.chk 1=0)(ha:L.all<=10):x6 k2 N head L=qG (L.app (.cons 142 (kC k2 N head (bytesOf (qG L))) .nil .nil)):=by
 have hL:=xS hc (by omega)
 unfold x6
 by_cases h:4096<L.enc.length
 ·rw [iT h]at hL
  rw [yC _ hc ha,hL,iT (by rw [xz,List.length_append];omega)]
 ·rw [iF h]at hL
  rw [hL]
  rfl
theorem XX{k2 N head:List UInt8}{L:Ns}{x:Int}(hc:L.chk 1=0)(ha:L.all<=10)(h:x6 k2 N head L=.error x):x=2:=by
 rw [xq k2 N head hc ha,yC _ hc ha]at h
 split at h
 ·injection h with h;exact h.symm
 ·cases h
end Go.Proofs.YtadndhgebgjlaaaGreat
