/- slices.Reverse of a row of bytes of the call's own; append of bytes onto a row of bytes of the call's own, told in lists of bytes; Layer 2: the walk of lengt... -/
import Derived.Test.YtadndhgebgjlaaaGreatPf
import Derived.Test.YtadndhgebgjlaaaGreatPe
set_option linter.all false
set_option maxRecDepth 100000
set_option maxHeartbeats 2000000
namespace Go.Proofs.YtadndhgebgjlaaaGreat
open Go.RowKit Go.Deep
def Ya(n i:Nat)(f:Nat->UInt8)(j:Nat):UInt8:=if j<i\/n<=i+j then f (n - 1 - j)else f j
theorem Vx(n:Nat)(f:Nat->UInt8):zp n (Ya n 0 f)=zp n f:=qf fun j hj=>by unfold Ya;rw [iF (by omega)]
theorem Vv(n i:Nat)(f:Nat->UInt8)(h:n<=2*i+1):zp n (Ya n i f)=zp n fun j=>f (n - 1 - j):=qf fun j hj=>by
 unfold Ya
 by_cases e:j<i\/n<=i+j
 ·rw [iT e]
 ·rw [iF e];congr 1;omega
theorem Vw(n i:Nat)(f:Nat->UInt8)(h:2*i+1<n):((zp n (Ya n i f)).set i (U8 (Ya n i f (n - 1 - i)))).set (n - 1 - i) (U8 (Ya n i f i))=zp n (Ya n (i+1) f):=by
 rw [Jp,Jp]
 refine qf fun j hj=> ?_
 unfold Ya
 by_cases e1:j=n - 1 - i
 ·rw [iT e1,iF (by omega),iT (by omega)];congr 1;omega
 ·rw [iF e1]
  by_cases e2:j=i
  ·rw [iT e2,iF (by omega),iT (by omega)];congr 1;omega
  ·rw [iF e2]
   by_cases e3:j<i\/n<=i+j
   ·rw [iT e3,iT (by omega)]
   ·rw [iF e3,iF (by omega)]
theorem j4f(g n cap base:Nat)(f:Nat->UInt8)(w:World)(h0:0<n)(hn:n<=140737488355328)(how:w.ownsRow base 5 1 (.slice (some ⟨g,0,none⟩) n cap) n (zp n f)):
 Calls Tryz.prog 143 #[.slice (some ⟨g,0,none⟩) n cap] w fun e w'=>e=.returned (.tuple #[])/\w'.ownsRow base 5 1 (.slice (some ⟨g,0,none⟩) n cap) n (zp n fun j=>f (n - 1 - j))/\w.grownBy w' (some g):=by
 have How:=iH how;clear how
 go_enter Tryz.func143,Tryz.ntmps143
 go_wp2_with fail
 go_loopg [2,3] n (fun m s2 s3 wr=>∃(i:Nat) (z:Int),s2=.int .i64 i/\s3=.int .i64 z/\z+i=n - 1/\m+i=n/\2*i<=n/\wr.ownsRow base 5 1 (.slice (some ⟨g,0,none⟩) n cap) n (zp n (Ya n i f))/\w.grownBy wr (some g))
 case atStart=>exact⟨0,_,rfl,rfl,by omega,by omega,by omega,by rw [Vx];exact How.out,World.grownBy.refl w _⟩
 case round=>
  obtain⟨i,z,rfl,rfl,hz,hm,hi,how,hg⟩:=hrel
  have How2:=iH how;have Hg:=iH hg;clear how hg
  by_cases hlt:2*i+1<n
  ·obtain⟨j,hj,rfl⟩:∃j:Nat,j+i+1=n/\z=j:=⟨n - 1 - i,by omega,by omega⟩
   have hd:decide ((i:Int)<j)=true:=by simp;omega
   have c1:wr.cell? ⟨g,i,none⟩=some (U8 (Ya n i f i)):=by rw [How2.out.cellAt i (by omega),xz _ _ _ (by omega)]
   have f1:=How2.out.frozenAt i
   have c2:wr.cell? ⟨g,j,none⟩=some (U8 (Ya n i f j)):=by rw [How2.out.cellAt j (by omega),xz _ _ _ (by omega)]
   have f2:=How2.out.frozenAt j
   have b1:(0:Int)<=i:=by omega
   have b2:(0:Int)<=j:=by omega
   have b3:(i:Int)<n:=by omega
   have b4:(j:Int)<n:=by omega
   go_wp2_with fail
   go_region
   go_wp2_with fail
   go_roundg (n - (i+1))
   case measure=>omega
   case rel=>
    obtain⟨h1,_⟩:=How2.out.stored i (U8 (Ya n i f j))
    obtain⟨h2,_⟩:=h1.stored j (U8 (Ya n i f i))
    have e:=Vw n i f hlt
    have ej:n - 1 - i=j:=by omega
    rw [ej]at e
    rw [e]at h2
    refine⟨i+1,(j:Int) - 1,by go_num,rfl,by omega,by omega,by omega,?_,kB (jb (jb Hg.out (.inl rfl) _) (.inl rfl) _)⟩
    exact World.ownsRow.drew h2
  ·have hd:decide ((i:Int)<z)=false:=by simp;omega
   go_wp2_with fail
   go_end0
   exact⟨rfl,by rw [<-Vv n i f (by omega)];exact How2.out,Hg.out⟩
def j4y(w w':World)(base:Nat)(v v':Value)(l:List UInt8):Prop:=
 OwnB w' base v' l/\Below base w w'/\w.grownBy w' v.ownBlock/\(∀b,v'.ownBlock=some b->v.ownBlock=some b\/w.heap.size<=b)
theorem Zx{ops:Array Oper}{rest:List Oper}{o:Oper}{a:Act}{w:World}{Q:Exit->Act->World->Prop}(hgd:o.guard=none)(s x:Operand)
 (ho:o.op=.call {callee:=.builtin .append,args:=#[s,x],argTypes:=#[27,27]})
 (base:Nat) (v:Value) (l:List UInt8) (hs:a.eval s=v) (hown:OwnB w base v l) (u:UInt8) (g:Nat) (hx:a.eval x=.slice (some ⟨g,0,none⟩) 1 1) (hc:w.cell? ⟨g,0,none⟩=some (U8 u))
 (hb:l.length+1<=140737488355328) (hbase:base<=w.heap.size)
 (h:∀v' w',j4y w w' base v v' (l++ [u])->wpList Tryz.prog ops Q rest (a.put o.dst v') w'):wpList Tryz.prog ops Q (o :: rest) a w:=
 jn w hgd s x 27 ho base 5 (.int .u8 0) 1 Tryz.underlying27 kJ rfl (by omega) v l.length (l.map U8) hs hown (some ⟨g,0,none⟩) 1 1 [U8 u] hx
  ⟨rfl,fun _=>⟨_,rfl,fun j y hy=>by
   have hj:j=0:=by
    rcases j with _|j
    ·rfl
    ·simp at hy
   subst hj
   rw [qM]
   simp at hy
   subst hy
   exact hc⟩,by simp [Value.oneCell']⟩ (by omega) hbase fun v' w' h1 h2 h3 _=>h v' w' ⟨by
    have:(l++ [u]).length=l.length+1:=by simp
    unfold OwnB
    rw [this,List.map_append]
    exact h1,jk hown h2 iL hbase,h2,fun b hb=>h3.elim (fun e=>.inl (e▸hb)) fun e=>.inr (by rw [e]at hb;injection hb with hb;omega)⟩
theorem j1k(w:World)(u:Value)(t:TypeId):(w.alloc (.cells #[u] t)).cell? ⟨w.heap.size,0,none⟩=some u:=by
 rw [cell_of_row _ _ _ _ _ _ (iN)]<;>rfl
theorem jl{ops:Array Oper}{rest:List Oper}{o:Oper}{a:Act}{w:World}{Q:Exit->Act->World->Prop}(hgd:o.guard=none)(s x:Operand)
 (ho:o.op=.call {callee:=.builtin .append,args:=#[s,x],argTypes:=#[27,27]})
 (base:Nat) (v:Value) (l:List UInt8) (hs:a.eval s=v) (hown:OwnB w base v l) (u:UInt8) (t:TypeId) (g:Nat) (hx:a.eval x=.slice (some ⟨g,0,none⟩) 1 1) (hg:g=w.heap.size)
 (hb:l.length+1<=140737488355328) (hbase:base<=w.heap.size)
 (h:∀v' w',j4y w w' base v v' (l++ [u])->wpList Tryz.prog ops Q rest (a.put o.dst v') w'):wpList Tryz.prog ops Q (o :: rest) a (w.alloc (.cells #[U8 u] t)):=by
 subst hg
 refine Zx hgd s x ho base v l hs (World.ownsRow.alloc hown _) u _ hx (j1k w _ t) hb (by simp;omega) fun v' w' ⟨h1,h2,h3,h4⟩=>h v' w' ⟨h1,(iB.alloc hbase _).trans h2,?_,fun b e=>(h4 b e).imp id fun hb=>by simp at hb;omega⟩
 exact⟨h3.os,h3.tape,h3.output,Nat.le_trans (by simp) h3.size,fun i hi hne=>(h3.block i (by simp;omega) hne).trans (Below.heap_alloc w _ i hi)⟩
theorem jc{ops:Array Oper}{rest:List Oper}{o:Oper}{a:Act}{w:World}{Q:Exit->Act->World->Prop}(hgd:o.guard=none)(s x:Operand)
 (ho:o.op=.call {callee:=.builtin .append,args:=#[s,x],argTypes:=#[27,27]})
 (base:Nat) (v:Value) (l:List UInt8) (hs:a.eval s=v) (hown:OwnB w base v l) (A:Option Addr) (n c:Nat) (m:List UInt8) (S:Nat->Prop) (hx:a.eval x=.slice A n c) (hm:BsS w S (.slice A n c) m)
 (hb:l.length+m.length<=140737488355328) (hbase:base<=w.heap.size)
 (h:∀v' w',j4y w w' base v v' (l++m)->wpList Tryz.prog ops Q rest (a.put o.dst v') w'):wpList Tryz.prog ops Q (o :: rest) a w:=by
 have hn:=Bs.lenEq hm
 subst hn
 obtain⟨a',c',hv,h1,h2,h3,h4⟩:=hm
 injection hv with e1 e2 e3
 subst e1 e3
 refine jn w hgd s x 27 ho base 5 (.int .u8 0) 1 Tryz.underlying27 kJ rfl (by omega) v l.length (l.map U8) hs hown A m.length c (m.map U8) hx
  ⟨by simp,fun hp=> ?_,by simp [Value.oneCell']⟩ (by omega) hbase fun v' w' h1 h2 h3 _=>h v' w' ⟨by
      unfold OwnB
      rw [List.length_append,List.map_append]
      exact h1,jk hown h2 iL hbase,h2,fun b hb=>h3.elim (fun e=>.inl (e▸hb)) fun e=>.inr (by rw [e]at hb;injection hb with hb;omega)⟩
 obtain⟨b,off,ha,_,hc⟩:=h4 hp
 refine⟨_,ha,fun j y hy=> ?_⟩
 have hj:j<m.length:=by
  rcases Nat.lt_or_ge j m.length with h'|h'
  ·exact h'
  ·rw [List.getElem?_eq_none (by simpa using h')]at hy;cases hy
 rw [jZ m j hj]at hy
 injection hy with hy
 subst hy
 rw [qM]
 exact hc j hj
theorem OwnB.nil(w:World)(base:Nat):OwnB w base (.slice none 0 0) []:=World.ownsRow_nil _ _ _ _
theorem OwnB.alloc{w:World}{base:Nat}{v:Value}{l:List UInt8}(h:OwnB w base v l)(o:Obj):OwnB (w.alloc o) base v l:=World.ownsRow.alloc h o
theorem OwnB.out{w:World}{base:Nat}{v:Value}{l:List UInt8}(h:OwnB w base v l)(hl:l.length<=140737488355328)(w0:World)(hw:w0.heap.size<=base):BsS w (New w0 w) v l:=
 (BsS.of_own h hl).keep fun _ hs _=>⟨rfl,Nat.le_trans hw hs.1,hs.2⟩
theorem OwnB.form{w:World}{base:Nat}{v:Value}{l:List UInt8}(h:OwnB w base v l):∃A c,v=.slice A l.length c:=by
 rcases h.2 with ⟨rfl,h0⟩|⟨g,cap,cur,hv,_⟩
 ·have e:l= []:=by simpa using h0
  subst e;exact⟨_,_,rfl⟩
 ·exact⟨_,_,hv⟩
theorem y9(f:Nat):leN f 0= []:=by cases f<;>rfl
theorem j3s(f n:Nat)(h:0<n):leN (f+1) n=ofI n :: leN f (n / 256):=by rw [leN,iF (by omega)]
theorem UX(f n:Nat):(leN f n).length<=f:=by
 induction f generalizing n with
 |zero=>simp [leN]
 |succ f ih=>rw [leN];split<;>simp;exact ih _
theorem Uo(l:List UInt8)(n:Nat)(h:l.length=n):jC n (fun j=>gb l (n - 1 - j))=l.reverse:=by
 subst h
 apply List.ext_getElem
 ·simp [jC]
 ·intro i h1 h2
  have h3:i<l.length:=by simpa [jC]using h1
  simp [gb,jC,List.getElem_reverse]
  rw [List.getElem?_eq_getElem (by omega)]<;>rfl
theorem j1g(n:Nat)(h:¬n<128):xk n=(leN 8 n++ [ofI (128+(leN 8 n).length)]).reverse:=by
 unfold xk;rw [iF h];simp
theorem j66(n:Nat)(h:n<=8):(128:UInt8) ||| ofI (n:Int)=ofI (128+(n:Int)):=by
 have:(List.range 9).all (fun n=>((128:UInt8) ||| ofI (n:Int))==ofI (128+(n:Int)))=true:=by decide+kernel
 exact eq_of_beq (List.all_eq_true.1 this n (List.mem_range.2 (by omega)))
theorem z7(n:Nat)(hn:n<=140737488355328)(w:World):Calls Tryz.prog 135 #[.int .i64 n] w fun e w'=>∃v',e=.returned v'/\BsS w' (New w w') v' (xk n)/\Below w.heap.size w w':=by
 by_cases h1:n<128
 ·have d1:decide ((n:Int)<128)=true:=decide_eq_true (by omega)
  have E:Hid (xk n= [ofI n]):=iT h1
  clear h1 hn
  go_enter Tryz.func135,Tryz.ntmps135
  go_wp2_with fail
  go_ret
  rw [E.out]
  exact⟨_,rfl,Qa w [ofI n] _ (by simp) _ rfl,iA⟩
 ·have d1:decide ((n:Int)<128)=false:=decide_eq_false (by omega)
  have E:=iH (j1g n h1)
  go_enter Tryz.func135,Tryz.ntmps135
  go_wp2_with fail
  go_loopg [0,3] 8 (fun f s o wr=>∃(m:Nat) (l:List UInt8),s=.int .i64 m/\m<=140737488355328/\m<256 ^ f/\l.length+f=8/\Hid (l++leN f m=leN 8 n)/\OwnB wr w.heap.size o l/\Below w.heap.size w wr)
  case atStart=>exact⟨n,[],rfl,hn,by omega,rfl,rfl,OwnB.nil _ _,Below.refl _ _⟩
  case round=>
   obtain⟨m,l,rfl,hm,hm2,hl,he,hown,hb⟩:=hrel
   obtain⟨oa,oc,rfl⟩:=hown.form
   by_cases hp:0<m
   ·obtain⟨f,rfl⟩:∃f,gk=f+1:=⟨gk - 1,by rcases gk with _|f<;>simp at hm2 |-;omega⟩
    have hq:m / 256<256 ^ f:=by rw [Nat.pow_succ]at hm2;omega
    have Hq:=iH hq;clear hq hm2
    rw [j3s _ _ hp]at he
    have Hown:=iH hown;have Hb:=iH hb;clear hown hb
    have hlen:l.length<=8:=by omega
    have Hl:=iH hl;clear hl
    have hz:=Hb.out.size
    go_wp2_with(at_builtin;(with_reducible refine jl rfl (.tmp 13) (.tmp 16) rfl w.heap.size (.slice oa l.length oc) l rfl Hown.out (ofI m) _ wr.heap.size rfl rfl (by omega) hz ?_);intro v1 w1 hgr;have Hgr:=iH hgr;clear hgr)
    go_roundg f
    case measure=>omega
    case rel=>
     obtain⟨g1,g2,_,_⟩:=Hgr.out
     exact⟨m / 256,l++ [ofI m],by go_num,by omega,Hq.out,by have:=Hl.out;simp;omega,by rw [List.append_assoc];exact he,g1,Hb.out.trans g2⟩
   ·have hm0:m=0:=by omega
    subst hm0
    rw [y9,List.append_nil]at he
    have he:=he.out
    obtain rfl:l=leN 8 n:=he
    have hlen:(leN 8 n).length<=8:=UX 8 n
    have Hor:=iH (j66 (leN 8 n).length hlen)
    have Hb0:=iH hb
    have Hown:=iH hown;have Hb:=iH hb;clear hown hb hl hm2 Hb0
    have hz:=Hb.out.size
    have HN:=iH (show(leN 8 n++ [ofI (128+((leN 8 n).length:Int))]).length=(leN 8 n).length+1 by simp)
    have hnz:0<(leN 8 n++ [ofI (128+((leN 8 n).length:Int))]).length:=by simp
    go_wp2_with(first
     |(at_builtin;(with_reducible refine jl rfl (.tmp 18) (.tmp 23) rfl w.heap.size (.slice oa (leN 8 n).length oc) (leN 8 n) rfl Hown.out (128 ||| ofI ((leN 8 n).length:Int)) _ wr.heap.size rfl rfl (by omega) hz ?_)
       intro v1 w1 hgr
       rw [Hor.out]at hgr
       obtain⟨g,cap,rfl,hg1,hg2,hcap⟩:=kP hgr.1 hnz
       have Hgr:=iH hgr;clear hgr)
     |(go_at_call 143
       have R:=j4f g ((leN 8 n).length+1) cap w.heap.size (gb (leN 8 n++ [ofI (128+((leN 8 n).length:Int))])) w1 (by omega) (by omega) (by rw [<-QD _ _ HN.out];have:=Hgr.out.1;unfold OwnB at this;rwa [HN.out]at this)
       refine R.mono ?_
       rintro e w2 ⟨rfl,hown2,hgr2⟩
       have Hown2:=iH hown2;have Hgr2:=iH hgr2;clear hown2 hgr2))
    go_ret
    refine⟨_,rfl,?_,(Hb.out.trans Hgr.out.2.1).trans (j8 Hgr2.out (Nat.le_trans hz Hgr.out.2.1.size) hg1)⟩
    rw [E.out,<-Uo _ _ HN.out]
    have h:=Hown2.out
    rw [KP]at h
    exact(BsS.of_own h (by rw [jv];omega)).keep fun _ hs _=>⟨rfl,hs⟩
abbrev Beside(w:World)(v x:Value)(l:List UInt8):Prop:=BsS w (fun b=>b<w.heap.size/\v.ownBlock≠some b) x l
theorem Beside.grew{w w':World}{base:Nat}{v v' x:Value}{l m:List UInt8}(h:Beside w v x l)(hg:j4y w w' base v v' m):Beside w' v' x l:=
 h.keep fun b hs hl=>⟨hg.2.2.1.block b hl (fun e=>hs.2 e.symm),iZ hl hg.2.2.1.size,fun e=>(hg.2.2.2 b e).elim hs.2 fun h'=>by omega⟩
theorem Beside.below{w w':World}{v x:Value}{l:List UInt8}(h:Beside w v x l)(hb:Below w.heap.size w w'):Beside w' v x l:=
 h.keep fun b hs hl=>⟨hb.block b hl,iZ hl hb.size,hs.2⟩
theorem Beside.alloc{w:World}{v x:Value}{l:List UInt8}(h:Beside w v x l)(o:Obj):Beside (w.alloc o) v x l:=h.below (iB.alloc iL o)
theorem Beside.old{w:World}{v x:Value}{l:List UInt8}{B:Nat}{e n size:Nat}{xs:List Value}(h:BsS w (·<B) x l)(ho:w.ownsRow B e size v n xs):Beside w v x l:=
 h.keep fun b hs hl=>⟨rfl,hl,fun e=>by have:=(ho.lt b e).1;omega⟩
theorem Beside.new{w w1:World}{v x:Value}{l:List UInt8}{B:Nat}{e n size:Nat}{xs:List Value}(h:BsS w1 (New w w1) x l)(ho:w.ownsRow B e size v n xs):Beside w1 v x l:=
 h.keep fun b hs hl=>⟨rfl,hl,fun e=>by have:=(ho.lt b e).2;omega⟩
def WSt(w wi:World)(o:Value)(l:List UInt8)(cv:Value)(c:List UInt8)(X:Nat)(x:Obj):Prop:=OwnB wi w.heap.size o l/\Beside wi o cv c/\Below w.heap.size w wi/\wi.heap[X]?=some x/\o.ownBlock≠some X
theorem WSt.grew{w wi wj:World}{o o' cv:Value}{l l' c:List UInt8}{X:Nat}{x:Obj}(h:WSt w wi o l cv c X x)(g:j4y wi wj w.heap.size o o' l'):WSt w wj o' l' cv c X x:=by
 obtain⟨h1,h2,h3,h4,h5⟩:=h
 have hl:=(iG h4)
 exact⟨g.1,h2.grew g,h3.trans g.2.1,(g.2.2.1.block X hl (fun e=>h5 e.symm)).trans h4,fun e=>(g.2.2.2 X e).elim h5 fun h'=>by omega⟩
theorem WSt.call{w wi wj:World}{o cv:Value}{l c:List UInt8}{X:Nat}{x:Obj}(h:WSt w wi o l cv c X x)(g:Below wi.heap.size wi wj):WSt w wj o l cv c X x:=by
 obtain⟨h1,h2,h3,h4,h5⟩:=h
 have hl:=(iG h4)
 exact⟨kV h1 g,h2.below g,h3.trans (g.mono h3.size),(g.block X hl).trans h4,h5⟩
theorem WSt.tagc{w wi:World}{o cv:Value}{l c:List UInt8}{X:Nat}{t v k:Value}{ty:TypeId}(h:WSt w wi o l cv c X (.cells #[t,v,k] ty)):wi.cell? ⟨X,0,none⟩=some t:=by
 rw [cell_of_row _ _ _ _ _ _ h.2.2.2.1]<;>rfl
theorem WSt.own{w wi:World}{o cv:Value}{l c:List UInt8}{X:Nat}{x:Obj}(h:WSt w wi o l cv c X x):OwnB wi w.heap.size o l:=h.1
theorem WSt.bes{w wi:World}{o cv:Value}{l c:List UInt8}{X:Nat}{x:Obj}(h:WSt w wi o l cv c X x):Beside wi o cv c:=h.2.1
theorem WSt.size{w wi:World}{o cv:Value}{l c:List UInt8}{X:Nat}{x:Obj}(h:WSt w wi o l cv c X x):w.heap.size<=wi.heap.size:=h.2.2.1.size
theorem WSt.form{w wi:World}{o cv:Value}{l c:List UInt8}{X:Nat}{x:Obj}(h:WSt w wi o l cv c X x):∃A k,o=.slice A l.length k:=h.1.form
theorem KR{w wr w1:World}{oa ca:Option Addr}{oc cc:Nat}{l c:List UInt8}{o:Obj}(ho:OwnB wr w.heap.size (.slice oa l.length oc) l)(hb:Below w.heap.size w wr)
 (hc:BsS w1 (New (wr.alloc o) w1) (.slice ca c.length cc) c) (hbw:Below (wr.alloc o).heap.size (wr.alloc o) w1):WSt w w1 (.slice oa l.length oc) l (.slice ca c.length cc) c wr.heap.size o:=
 ⟨kV (ho.alloc o) hbw,Beside.new hc (ho.alloc o),(hb.alloc hb.size o).trans (hbw.mono (Nat.le_trans hb.size (by simp))),(hbw.block _ (by simp)).trans (iN),fun e=>by have:=(ho.lt _ e).2;omega⟩
theorem KS{w wr:World}{oa xa:Option Addr}{oc xc:Nat}{l v:List UInt8}(ho:OwnB wr w.heap.size (.slice oa l.length oc) l)(hb:Below w.heap.size w wr)
 (hx:BsS wr (·<w.heap.size) (.slice xa v.length xc) v) (o:Obj):WSt w (wr.alloc o) (.slice oa l.length oc) l (.slice xa v.length xc) v wr.heap.size o:=
 ⟨ho.alloc o,(Beside.old hx ho).alloc o,hb.alloc hb.size o,iN,fun e=>by have:=(ho.lt _ e).2;omega⟩
theorem Uc{w wr:World}{r:Ns}{b off:Nat}(hbl:b<w.heap.size)(hb:Below w.heap.size w wr)(h:NsAt wr (·<w.heap.size) r b off):∀w6,Below w.heap.size w w6->NsAt w6 (·<w.heap.size) r b off:=
 fun _ h6=>NsAt.keep (fun i hi _=>⟨(h6.block i hi).trans (hb.block i hi).symm,hi⟩) r b off hbl (iZ hbl hb.size) h
theorem k8(l:List UInt8)(n:Nat)(h:l.length<=n):∃m,Hid (l=m)/\m.length<=n:=⟨l,rfl,h⟩
theorem qo(t:Int)(v:List UInt8)(k r:Ns)(c:List UInt8)(hc:c=if jY t then k.enc else v):(Ns.cons t v k r).enc=km t++xk c.length++c++r.enc:=by subst hc;rfl
theorem Jj(n:Nat):(xk n).length<=9:=by
 unfold xk;split
 ·simp
 ·simp;exact UX 8 n
theorem j0f(n:Nat):∀(L:Ns) (v:Value) (w:World),L.all<=n->NsS w (·<w.heap.size) v L->L.enc.length<=1000000000000->
 Calls Tryz.prog 111 #[v] w fun e w'=>∃v',e=.returned v'/\BsS w' (New w w') v' L.enc/\Below w.heap.size w w':=by
 induction n with
 |zero=>
  intro L v w hn hv hb
  cases L with
  |cons t v k r=>simp only [Ns.all]at hn;omega
  |nil=>
   obtain⟨a,cap,rfl,hlc,hcap,hlen,hcells⟩:=hv
   clear hcells hb hn
   simp only [Ns.len]at*
   go_enter Tryz.func111,Tryz.ntmps111
   go_wp2_with fail
   refine wp_loop_rounds 1 ?_
   rw [rounds_succ]
   go_wp2
   go_ret
   exact⟨_,rfl,(BsS.of_own (OwnB.nil w w.heap.size) (Nat.zero_le _)),Below.refl _ _⟩
 |succ n ih=>
  intro L v w hn hv hB
  obtain⟨a,cap,rfl,hlc,hcap,hlen,hcells⟩:=hv
  have hcap':cap<=9223372036854775807:=hcap
  obtain⟨b,off,hb⟩:∃b off,Hid (0<L.len->a=some ⟨b,off,none⟩/\b<w.heap.size/\NsAt w (·<w.heap.size) L b off):=by
   rcases Nat.eq_zero_or_pos L.len with h0|h0
   ·exact⟨0,0,fun h=>by omega⟩
   ·obtain⟨b,off,h1,h2,h3,h4⟩:=hcells h0
    exact⟨b,off,fun _=>⟨h1,h2,h4⟩⟩
  clear hcells hcap
  have HB:=iH hB;clear hB
  go_enter Tryz.func111,Tryz.ntmps111
  go_wp2_with fail
  go_loopg [3,9] L.len (fun m o i wr=>∃(R:Ns) (j:Nat) (l:List UInt8),R.len=m/\j+R.len=L.len/\i=.int .i64 j/\Hid (l++R.enc=L.enc)/\R.all<=n+1/\
   NsAt wr (·<w.heap.size) R b (off+j*3)/\OwnB wr w.heap.size o l/\Below w.heap.size w wr)
  case atStart=>
   exact⟨L,0,[],rfl,by omega,rfl,rfl,hn,by rw [Nat.zero_mul,Nat.add_zero];exact NsAt.zero hb.out,OwnB.nil _ _,Below.refl _ _⟩
  case round=>
   obtain⟨R,j,l,rfl,hj,rfl,hl,hRn,hat,hown,hbel⟩:=hrel
   obtain⟨oa,oc,rfl⟩:=hown.form
   cases R with
   |nil=>
    simp only [Ns.len,Nat.add_zero]at hj
    subst hj
    have hl:=hl.out
    simp only [Ns.enc,List.append_nil]at hl
    subst hl
    have Hown:=iH hown;have Hbel:=iH hbel;clear hown hbel
    go_wp2_with fail
    go_ret
    exact⟨_,rfl,Hown.out.out (by have:=HB.out;omega) w iL,Hbel.out⟩
   |cons t v k r=>
    obtain⟨h1,h2,⟨x,h3,h4⟩,⟨ka,kc,h5,h6,h7,h8x,h9⟩,h10⟩:=hat
    simp only [Ns.len]at hj
    simp only [Ns.all]at hRn
    have hlt:(j:Int)<L.len:=by omega
    obtain⟨rfl,hbl,_⟩:=hb.out (by omega)
    have hbl':b<wr.heap.size:=iZ hbl hbel.size
    obtain⟨xa,xc,rfl⟩:=h4.form2
    have hz:=hbel.size
    have hkid:NsS (wr.alloc (.cells #[.int .i64 t,.slice xa v.length xc,.slice ka k.len kc] 61)) (·<(wr.alloc (.cells #[.int .i64 t,.slice xa v.length xc,.slice ka k.len kc] 61)).heap.size) (.slice ka k.len kc) k:=
     NsS.keep (w:=wr) (S:=(·<w.heap.size)) ⟨ka,kc,rfl,h6,h7,h8x,h9⟩ (fun b hs hl=>⟨Below.heap_alloc _ _ _ hl,by simp;omega⟩)
    have Hc:=iH (zT t h2)
    have Hkid:=iH hkid;have H4x:=iH h4;have Hown:=iH hown;have Hbel:=iH hbel
    have hkn:k.all<=n:=by omega
    have H10:Hid (∀w6,Below w.heap.size w w6->NsAt w6 (·<w.heap.size) r b (off+j*3+3)):=Uc hbl hbel h10
    clear hkid h4 h9 h10 hown hbel
    cases ec:jY t with
    |true=>
     rw [ec]at Hc
     by_cases hb255:255<t
     ·skip
      have E:=iH (qo t v k r k.enc (by rw [ec]<;>rfl))
      have hlen:l.length+(km t).length+(xk k.enc.length).length+k.enc.length<=1000000000000:=by have h:=HB.out;rw [<-hl.out,E.out]at h;simp only [List.length_append]at h;omega
      have hg9:=Jj k.enc.length
      have htb:(km t).length=2:=by unfold km;rw [iT hb255]<;>rfl
      rw [htb]at hlen
      have T:=iH (show km t= [ofI (t / 256),ofI t]by unfold km;rw [iT hb255])
      have d255:decide (t>255)=true:=decide_eq_true hb255
      clear ec htb hb255
      go_wp2_with(first
       |(go_at_call 133;refine(Hc.out _).mono ?_;rintro e w' ⟨rfl,rfl⟩)
       |(go_at_call 111;refine(ih k _ _ hkn Hkid.out (by omega)).mono ?_;rintro e w1 ⟨cv,rfl,hcv,hbw⟩;obtain⟨ca,cc,rfl⟩:=hcv.form2;have H1:=iH (KR Hown.out Hbel.out hcv hbw);have z1:=H1.out.size;have q1:=H1.out.tagc;clear hcv hbw)
       |(at_builtin;(with_reducible refine jl rfl (.tmp 24) (.tmp 29) rfl w.heap.size (.slice oa l.length oc) l rfl H1.out.own (ofI (t / 256)) _ w1.heap.size rfl rfl (by omega) z1 ?_);intro v2 w2 hgr;obtain⟨l2,E2,k2⟩:=k8 (l++ [ofI (t / 256)]) (l.length+1) (by simp);rw [E2.out]at hgr;have H2:=iH (H1.out.grew hgr);obtain⟨a2,c2,rfl⟩:=H2.out.form;have z2:=H2.out.size;have q2:=H2.out.tagc;clear hgr)
       |(at_builtin;(with_reducible refine jl rfl (.tmp 31) (.tmp 35) rfl w.heap.size (.slice a2 l2.length c2) l2 rfl H2.out.own (ofI t) _ w2.heap.size rfl rfl (by omega) z2 ?_);intro v3 w3 hgr;obtain⟨l3,E3,k3⟩:=k8 (l2++ [ofI t]) (l2.length+1) (by simp);rw [E3.out]at hgr;have H3:=iH (H2.out.grew hgr);obtain⟨a3,c3,rfl⟩:=H3.out.form;have z3:=H3.out.size;have q3:=H3.out.tagc;clear hgr)
       |(go_at_call 135;refine(z7 k.enc.length (by omega) _).mono ?_;rintro e w4 ⟨lv,rfl,hlv,hb4⟩;obtain⟨la,lc,rfl⟩:=hlv.form2;have H4:=iH (H3.out.call hb4);have Hlv:=iH hlv;have z4:=H4.out.size;have q4:=H4.out.tagc;clear hlv hb4)
       |(at_builtin;(with_reducible refine jc rfl (.tmp 37) (.tmp 40) rfl w.heap.size (.slice a3 l3.length c3) l3 rfl H4.out.own la (xk k.enc.length).length lc (xk k.enc.length) _ rfl Hlv.out (by omega) z4 ?_);intro v5 w5 hgr;obtain⟨l5,E5,k5⟩:=k8 (l3++xk k.enc.length) (l3.length+(xk k.enc.length).length) (by simp);rw [E5.out]at hgr;have H5:=iH (H4.out.grew hgr);obtain⟨a5,c5,rfl⟩:=H5.out.form;have z5:=H5.out.size;have q5:=H5.out.tagc;clear hgr)
       |(at_builtin;(with_reducible refine jc rfl (.tmp 42) (.tmp 43) rfl w.heap.size (.slice a5 l5.length c5) l5 rfl H5.out.own ca k.enc.length cc k.enc _ rfl H5.out.bes (by omega) z5 ?_);intro v6 w6 hgr;obtain⟨l6,E6,k6⟩:=k8 (l5++k.enc) (l5.length+k.enc.length) (by simp);rw [E6.out]at hgr;have H6:=iH (H5.out.grew hgr);clear hgr))
      go_roundg r.len
      case measure=>simp [Ns.len]
      case rel=>
       obtain⟨g1,g2,g3,_,_⟩:=H6.out
       refine⟨r,j+1,_,rfl,by omega,by go_num,?_,by omega,?_,g1,g3⟩
       ·have e:=hl.out
        rw [E.out,T.out]at e
        show _=_
        rw [<-e,<-E6.out,<-E5.out,<-E3.out,<-E2.out]
        simp only [List.append_assoc,List.cons_append,List.nil_append]
       ·rw [Nat.add_mul,<-Nat.add_assoc]
        exact H10.out w6 g3
     ·skip
      have E:=iH (qo t v k r k.enc (by rw [ec]<;>rfl))
      have hlen:l.length+(km t).length+(xk k.enc.length).length+k.enc.length<=1000000000000:=by have h:=HB.out;rw [<-hl.out,E.out]at h;simp only [List.length_append]at h;omega
      have hg9:=Jj k.enc.length
      have htb:(km t).length=1:=by unfold km;rw [iF hb255]<;>rfl
      rw [htb]at hlen
      have T:=iH (show km t= [ofI t]by unfold km;rw [iF hb255])
      have d255:decide (t>255)=false:=decide_eq_false hb255
      clear ec htb hb255
      go_wp2_with(first
       |(go_at_call 133;refine(Hc.out _).mono ?_;rintro e w' ⟨rfl,rfl⟩)
       |(go_at_call 111;refine(ih k _ _ hkn Hkid.out (by omega)).mono ?_;rintro e w1 ⟨cv,rfl,hcv,hbw⟩;obtain⟨ca,cc,rfl⟩:=hcv.form2;have H1:=iH (KR Hown.out Hbel.out hcv hbw);have z1:=H1.out.size;have q1:=H1.out.tagc;clear hcv hbw)
       |(at_builtin;(with_reducible refine jl rfl (.tmp 31) (.tmp 35) rfl w.heap.size (.slice oa l.length oc) l rfl H1.out.own (ofI t) _ w1.heap.size rfl rfl (by omega) z1 ?_);intro v3 w3 hgr;obtain⟨l3,E3,k3⟩:=k8 (l++ [ofI t]) (l.length+1) (by simp);rw [E3.out]at hgr;have H3:=iH (H1.out.grew hgr);obtain⟨a3,c3,rfl⟩:=H3.out.form;have z3:=H3.out.size;have q3:=H3.out.tagc;clear hgr)
       |(go_at_call 135;refine(z7 k.enc.length (by omega) _).mono ?_;rintro e w4 ⟨lv,rfl,hlv,hb4⟩;obtain⟨la,lc,rfl⟩:=hlv.form2;have H4:=iH (H3.out.call hb4);have Hlv:=iH hlv;have z4:=H4.out.size;have q4:=H4.out.tagc;clear hlv hb4)
       |(at_builtin;(with_reducible refine jc rfl (.tmp 37) (.tmp 40) rfl w.heap.size (.slice a3 l3.length c3) l3 rfl H4.out.own la (xk k.enc.length).length lc (xk k.enc.length) _ rfl Hlv.out (by omega) z4 ?_);intro v5 w5 hgr;obtain⟨l5,E5,k5⟩:=k8 (l3++xk k.enc.length) (l3.length+(xk k.enc.length).length) (by simp);rw [E5.out]at hgr;have H5:=iH (H4.out.grew hgr);obtain⟨a5,c5,rfl⟩:=H5.out.form;have z5:=H5.out.size;have q5:=H5.out.tagc;clear hgr)
       |(at_builtin;(with_reducible refine jc rfl (.tmp 42) (.tmp 43) rfl w.heap.size (.slice a5 l5.length c5) l5 rfl H5.out.own ca k.enc.length cc k.enc _ rfl H5.out.bes (by omega) z5 ?_);intro v6 w6 hgr;obtain⟨l6,E6,k6⟩:=k8 (l5++k.enc) (l5.length+k.enc.length) (by simp);rw [E6.out]at hgr;have H6:=iH (H5.out.grew hgr);clear hgr))
      go_roundg r.len
      case measure=>simp [Ns.len]
      case rel=>
       obtain⟨g1,g2,g3,_,_⟩:=H6.out
       refine⟨r,j+1,_,rfl,by omega,by go_num,?_,by omega,?_,g1,g3⟩
       ·have e:=hl.out
        rw [E.out,T.out]at e
        show _=_
        rw [<-e,<-E6.out,<-E5.out,<-E3.out]
        simp only [List.append_assoc,List.cons_append,List.nil_append]
       ·rw [Nat.add_mul,<-Nat.add_assoc]
        exact H10.out w6 g3
    |false=>
     rw [ec]at Hc
     by_cases hb255:255<t
     ·skip
      have E:=iH (qo t v k r v (by rw [ec]<;>rfl))
      have hlen:l.length+(km t).length+(xk v.length).length+v.length<=1000000000000:=by have h:=HB.out;rw [<-hl.out,E.out]at h;simp only [List.length_append]at h;omega
      have hg9:=Jj v.length
      have htb:(km t).length=2:=by unfold km;rw [iT hb255]<;>rfl
      rw [htb]at hlen
      have T:=iH (show km t= [ofI (t / 256),ofI t]by unfold km;rw [iT hb255])
      have d255:decide (t>255)=true:=decide_eq_true hb255
      clear ec htb hb255
      have H1:=iH (KS Hown.out Hbel.out H4x.out (.cells #[.int .i64 t,.slice xa v.length xc,.slice ka k.len kc] 61))
      have z1:=H1.out.size;have q1:=H1.out.tagc
      go_wp2_with(first
       |(go_at_call 133;refine(Hc.out _).mono ?_;rintro e w' ⟨rfl,rfl⟩)
       |(at_builtin;(with_reducible refine jl rfl (.tmp 24) (.tmp 29) rfl w.heap.size (.slice oa l.length oc) l rfl H1.out.own (ofI (t / 256)) _ (wr.heap.size+1) rfl (by simp) (by omega) z1 ?_);intro v2 w2 hgr;obtain⟨l2,E2,k2⟩:=k8 (l++ [ofI (t / 256)]) (l.length+1) (by simp);rw [E2.out]at hgr;have H2:=iH (H1.out.grew hgr);obtain⟨a2,c2,rfl⟩:=H2.out.form;have z2:=H2.out.size;have q2:=H2.out.tagc;clear hgr)
       |(at_builtin;(with_reducible refine jl rfl (.tmp 31) (.tmp 35) rfl w.heap.size (.slice a2 l2.length c2) l2 rfl H2.out.own (ofI t) _ w2.heap.size rfl rfl (by omega) z2 ?_);intro v3 w3 hgr;obtain⟨l3,E3,k3⟩:=k8 (l2++ [ofI t]) (l2.length+1) (by simp);rw [E3.out]at hgr;have H3:=iH (H2.out.grew hgr);obtain⟨a3,c3,rfl⟩:=H3.out.form;have z3:=H3.out.size;have q3:=H3.out.tagc;clear hgr)
       |(go_at_call 135;refine(z7 v.length (by omega) _).mono ?_;rintro e w4 ⟨lv,rfl,hlv,hb4⟩;obtain⟨la,lc,rfl⟩:=hlv.form2;have H4:=iH (H3.out.call hb4);have Hlv:=iH hlv;have z4:=H4.out.size;have q4:=H4.out.tagc;clear hlv hb4)
       |(at_builtin;(with_reducible refine jc rfl (.tmp 37) (.tmp 40) rfl w.heap.size (.slice a3 l3.length c3) l3 rfl H4.out.own la (xk v.length).length lc (xk v.length) _ rfl Hlv.out (by omega) z4 ?_);intro v5 w5 hgr;obtain⟨l5,E5,k5⟩:=k8 (l3++xk v.length) (l3.length+(xk v.length).length) (by simp);rw [E5.out]at hgr;have H5:=iH (H4.out.grew hgr);obtain⟨a5,c5,rfl⟩:=H5.out.form;have z5:=H5.out.size;have q5:=H5.out.tagc;clear hgr)
       |(at_builtin;(with_reducible refine jc rfl (.tmp 42) (.tmp 43) rfl w.heap.size (.slice a5 l5.length c5) l5 rfl H5.out.own xa v.length xc v _ rfl H5.out.bes (by omega) z5 ?_);intro v6 w6 hgr;obtain⟨l6,E6,k6⟩:=k8 (l5++v) (l5.length+v.length) (by simp);rw [E6.out]at hgr;have H6:=iH (H5.out.grew hgr);clear hgr))
      go_roundg r.len
      case measure=>simp [Ns.len]
      case rel=>
       obtain⟨g1,g2,g3,_,_⟩:=H6.out
       refine⟨r,j+1,_,rfl,by omega,by go_num,?_,by omega,?_,g1,g3⟩
       ·have e:=hl.out
        rw [E.out,T.out]at e
        show _=_
        rw [<-e,<-E6.out,<-E5.out,<-E3.out,<-E2.out]
        simp only [List.append_assoc,List.cons_append,List.nil_append]
       ·rw [Nat.add_mul,<-Nat.add_assoc]
        exact H10.out w6 g3
     ·skip
      have E:=iH (qo t v k r v (by rw [ec]<;>rfl))
      have hlen:l.length+(km t).length+(xk v.length).length+v.length<=1000000000000:=by have h:=HB.out;rw [<-hl.out,E.out]at h;simp only [List.length_append]at h;omega
      have hg9:=Jj v.length
      have htb:(km t).length=1:=by unfold km;rw [iF hb255]<;>rfl
      rw [htb]at hlen
      have T:=iH (show km t= [ofI t]by unfold km;rw [iF hb255])
      have d255:decide (t>255)=false:=decide_eq_false hb255
      clear ec htb hb255
      have H1:=iH (KS Hown.out Hbel.out H4x.out (.cells #[.int .i64 t,.slice xa v.length xc,.slice ka k.len kc] 61))
      have z1:=H1.out.size;have q1:=H1.out.tagc
      go_wp2_with(first
       |(go_at_call 133;refine(Hc.out _).mono ?_;rintro e w' ⟨rfl,rfl⟩)
       |(at_builtin;(with_reducible refine jl rfl (.tmp 31) (.tmp 35) rfl w.heap.size (.slice oa l.length oc) l rfl H1.out.own (ofI t) _ (wr.heap.size+1) rfl (by simp) (by omega) z1 ?_);intro v3 w3 hgr;obtain⟨l3,E3,k3⟩:=k8 (l++ [ofI t]) (l.length+1) (by simp);rw [E3.out]at hgr;have H3:=iH (H1.out.grew hgr);obtain⟨a3,c3,rfl⟩:=H3.out.form;have z3:=H3.out.size;have q3:=H3.out.tagc;clear hgr)
       |(go_at_call 135;refine(z7 v.length (by omega) _).mono ?_;rintro e w4 ⟨lv,rfl,hlv,hb4⟩;obtain⟨la,lc,rfl⟩:=hlv.form2;have H4:=iH (H3.out.call hb4);have Hlv:=iH hlv;have z4:=H4.out.size;have q4:=H4.out.tagc;clear hlv hb4)
       |(at_builtin;(with_reducible refine jc rfl (.tmp 37) (.tmp 40) rfl w.heap.size (.slice a3 l3.length c3) l3 rfl H4.out.own la (xk v.length).length lc (xk v.length) _ rfl Hlv.out (by omega) z4 ?_);intro v5 w5 hgr;obtain⟨l5,E5,k5⟩:=k8 (l3++xk v.length) (l3.length+(xk v.length).length) (by simp);rw [E5.out]at hgr;have H5:=iH (H4.out.grew hgr);obtain⟨a5,c5,rfl⟩:=H5.out.form;have z5:=H5.out.size;have q5:=H5.out.tagc;clear hgr)
       |(at_builtin;(with_reducible refine jc rfl (.tmp 42) (.tmp 43) rfl w.heap.size (.slice a5 l5.length c5) l5 rfl H5.out.own xa v.length xc v _ rfl H5.out.bes (by omega) z5 ?_);intro v6 w6 hgr;obtain⟨l6,E6,k6⟩:=k8 (l5++v) (l5.length+v.length) (by simp);rw [E6.out]at hgr;have H6:=iH (H5.out.grew hgr);clear hgr))
      go_roundg r.len
      case measure=>simp [Ns.len]
      case rel=>
       obtain⟨g1,g2,g3,_,_⟩:=H6.out
       refine⟨r,j+1,_,rfl,by omega,by go_num,?_,by omega,?_,g1,g3⟩
       ·have e:=hl.out
        rw [E.out,T.out]at e
        show _=_
        rw [<-e,<-E6.out,<-E5.out,<-E3.out]
        simp only [List.append_assoc,List.cons_append,List.nil_append]
       ·rw [Nat.add_mul,<-Nat.add_assoc]
        exact H10.out w6 g3
end Go.Proofs.YtadndhgebgjlaaaGreat
