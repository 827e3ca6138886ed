/- Rows of objects of the call's own whose bytes lie outside of some blocks; append of any number of objects; Facts on words as the walk meets them: the operati... -/
import Derived.Deep.DeepCutAuto
import Derived.Test.YtadndhgebgjlaaaPq
import Derived.Test.YtadndhgebgjlaaaPr
import Derived.Test.YtadndhgebgjlaaaPp
set_option linter.unusedVariables false
set_option linter.unusedSimpArgs false
set_option maxRecDepth 100000
set_option maxHeartbeats 4000000
namespace Go.Proofs.Ytadndhgebgjlaaa
open Go.RowKit Go.Deep
def V8(base:Nat)(X:Nat->Prop)(w:World)(v:Value)(b:Nat):Prop:=zI base w v b/\¬X b
def OwnX(w:World)(base:Nat)(X:Nat->Prop)(o:Value)(L:Ns):Prop:=∃xs,w.ownsRow base 63 3 o L.len xs/\EachN w (V8 base X w o) L xs
theorem OwnX.own{w:World}{base:Nat}{X:Nat->Prop}{o:Value}{L:Ns}(h:OwnX w base X o L):OwnN w base o L:=by
 obtain⟨xs,h1,h2⟩:=h
 exact⟨xs,h1,h2.keep (fun b hs _=>⟨rfl,hs.1⟩) L xs⟩
theorem EachN.one'{w:World}{S:Nat->Prop}:∀(L:Ns) (xs:List Value),EachN w S L xs->xs.length=L.len*3/\∀u∈xs,u.oneCell'=true:=by
 intro L
 induction L with
 |nil=>intro xs h;have h:xs= []:=h;subst h;exact⟨rfl,by simp⟩
 |cons t v k r _ ih=>
  intro xs ⟨x,y,xs',e,hi,hv,hn,hr⟩
  obtain⟨h1,h2⟩:=ih xs' hr
  obtain⟨a,c,rfl,_⟩:=hv
  obtain⟨a',c',rfl,_⟩:=hn
  subst e
  refine⟨by simp [Ns.len,h1];omega,fun u hu=> ?_⟩
  simp only [List.mem_cons]at hu
  rcases hu with rfl|rfl|rfl|hu
  ·rfl
  ·rfl
  ·rfl
  ·exact h2 u hu
theorem EachN.app{w:World}{S:Nat->Prop}:∀(L:Ns) (xs:List Value),EachN w S L xs->∀ {M:Ns} {ys:List Value},EachN w S M ys->EachN w S (L.app M) (xs++ys):=by
 intro L
 induction L with
 |nil=>intro xs h M ys hm;have h:xs= []:=h;subst h;exact hm
 |cons t v k r _ ih=>
  intro xs ⟨x,y,xs',e,hi,hv,hn,hr⟩ M ys hm
  subst e
  exact⟨x,y,_,rfl,hi,hv,hn,ih xs' hr hm⟩
theorem BsS.off{w:World}{S:Nat->Prop}{v:Value}{l:List UInt8}{z:Nat}{C:Array Value}{t:TypeId}{f:Nat×Nat}(h:BsS w S v l)(hz:w.heap[z]?=some (.cells C t f)) (hC:∀(i:Nat) (x:UInt8),C[i]? ≠some (U8 x)):BsS w (fun b=>S b/\b≠z) v l:=by
 obtain⟨a,c,e,h1,h2,h3,h4⟩:=h
 refine⟨a,c,e,h1,h2,h3,fun h0=> ?_⟩
 obtain⟨b,off,ea,hb,hc⟩:=h4 h0
 refine⟨b,off,ea,⟨hb,fun e=> ?_⟩,hc⟩
 subst e
 have:=hc 0 h0
 rw [cell_of_row _ _ _ _ _ _ hz]at this
 exact hC _ _ this
def j04(w w':World)(base:Nat)(X:Nat->Prop)(o o':Value)(L:Ns):Prop:=OwnX w' base X o' L/\Below base w w'/\w.grownBy w' o.ownBlock/\(o'.ownBlock=o.ownBlock\/o'.ownBlock=some w.heap.size)
theorem ZJ(w:World)(base:Nat)(X:Nat->Prop)(o:Value)(L M:Ns)(ty:TypeId)(g:Nat)(ys:List Value)(C:Array Value)(tc:TypeId)(f:Nat×Nat)(hown:OwnX w base X o L)(hg:w.heap[g]?=some (.cells C tc f)) (hC:C.toList=ys)
 (hM:EachN w (V8 base X w o) M ys) (hl:L.len+M.len<=1000000000000) (hbase:base<=w.heap.size) (_:¬X w.heap.size):
 ∃o' w',(Builtin.append_ #[58,58] ty #[o,.slice (some ⟨g,0,none⟩) M.len M.len]).run Try.prog w=.ok o' w'/\j04 w w' base X o o' (L.app M):=by
 obtain⟨xs,h1,h2⟩:=hown
 obtain⟨i,hinfo,hzz⟩:=Option.map_eq_some_iff.1 Je
 simp only [Prod.mk.injEq]at hzz
 obtain⟨hz,hsize,hbb⟩:=hzz
 obtain⟨hy1,hy2⟩:=EachN.one' M ys hM
 subst hC
 obtain⟨o',w',hr,g1,g2,_,g3⟩:=run_append_own_at (P:=Try.prog) w base 58 ty 63 i _ 3 56 Try.underlying58 hinfo hz hsize hbb rfl (by omega) o L.len xs h1 ⟨g,0,none⟩ M.len M.len C.toList hy1 (fun j u hu=>by
  have e:(⟨g,0,none⟩:Addr).add j=⟨g,j,none⟩:=by unfold Addr.add;split<;>simp_all
  rw [e]
  simp [World.cell?,hg]
  simpa using hu) hy2 (by unfold maxLen;omega) (by omega) hbase
 have hkeep:∀b,V8 base X w o b->b<w.heap.size->w'.heap[b]?=w.heap[b]?/\V8 base X w' o' b:=fun b hs hl'=>
  ⟨g2.block b hl' (fun e=>hs.1.2.1 e.symm),⟨iZ hl' g2.size,fun e=>g3.elim (fun h'=>hs.1.2.1 (h'▸e)) fun h'=>by rw [h']at e;injection e with e;omega,hs.1.2.2⟩,hs.2⟩
 refine⟨o',w',hr,⟨xs++C.toList,by rw [Ns.len_app];exact g1,?_⟩,⟨g2.os,g2.tape,g2.output,g2.size,fun b hb'=>g2.block b (by omega) fun e=> ?_⟩,g2,g3⟩
 ·exact EachN.app L xs (h2.keep hkeep L xs) (hM.keep hkeep M C.toList)
 ·have:=(h1.lt b e.symm).1
  omega
theorem Uy{op:Oper}{a:Act}{w:World}{K:Act->World->Prop}{Q:Exit->Act->World->Prop}(s x:Operand)
 (ho:op.op=.call {callee:=.builtin .append,args:=#[s,x],argTypes:=#[58,58]})
 (base:Nat) (X:Nat->Prop) (o:Value) (L M:Ns) (hs:a.eval s=o) (hown:OwnX w base X o L) (g m:Nat) (ys:List Value) (C:Array Value) (tc:TypeId) (f:Nat×Nat) (hx:a.eval x=.slice (some ⟨g,0,none⟩) m m) (hm:m=M.len)
 (hg:w.heap[g]?=some (.cells C tc f)) (hC:C.toList=ys) (hM:EachN w (V8 base X w o) M ys) (hl:L.len+M.len<=1000000000000) (hbase:base<=w.heap.size) (hX:¬X w.heap.size)
 (h:∀o' w',j04 w w' base X o o' (L.app M)->K (a.put op.dst o') w'):op.wp Try.prog a w K Q:=by
 subst hm
 obtain⟨o',w',hr,hG⟩:=ZJ w base X o L M op.type g ys C tc f hown hg hC hM hl hbase hX
 unfold Oper.wp execOp
 simp only [ho,resolve,invoke,builtin,Sem.run_bind,Sem.run_pure,Result.andThen_ok,List.map_toArray,List.map_cons,List.map_nil,hs,hx,hr]
 exact h o' w' hG
section
open Go.RowKit
def wv(b:UInt32):Int:=(b.toNat:Int)
def ofW(z:Int):UInt32:=UInt32.ofNat (z % 4294967296).toNat
abbrev W32(b:UInt32):Value:=.int .u32 (wv b)
theorem j1q(b:UInt32):0<=wv b:=Int.natCast_nonneg _
theorem j1p(b:UInt32):wv b<4294967296:=by have:=b.toNat_lt;unfold wv;omega
theorem UA(b:UInt32):(wv b).toNat=b.toNat:=by simp [wv]
theorem zB(z:Int):wv (ofW z)=z % 4294967296:=by
 unfold wv ofW
 rw [UInt32.toNat_ofNat']
 have:0<=z % 4294967296:=Int.emod_nonneg _ (by omega)
 have:z % 4294967296<4294967296:=Int.emod_lt_of_pos _ (by omega)
 omega
theorem Yn{a b:UInt32}(h:wv a=wv b):a=b:=UInt32.toNat_inj.1 (by unfold wv at h;omega)
theorem j0u(b:UInt32):ofW (wv b)=b:=Yn (by rw [zB];have:=j1q b;have:=j1p b;omega)
theorem j1o{z:Int}(h0:0<=z)(h1:z<4294967296):wv (ofW z)=z:=by rw [zB];omega
theorem Zw{x y:Int}(h:x % 4294967296=y % 4294967296):ofW x=ofW y:=by unfold ofW;rw [h]
theorem VJ(x:Int):ofW (x % 4294967296)=ofW x:=Zw (by omega)
theorem VI(x y:Int):ofW (x+y)=ofW x+ofW y:=by
 apply Yn
 rw [zB]
 show _=((ofW x+ofW y).toNat:Int)
 rw [UInt32.toNat_add]
 have hx:=zB x;have hy:=zB y
 unfold wv at hx hy
 omega
theorem Q7(op:BinOp)(a a' b b':Int)(h:a % 4294967296=a' % 4294967296)(h':b % 4294967296=b' % 4294967296):bits op .u32 a b=bits op .u32 a' b':=by
 have e:∀x y:Int,x % 4294967296=y % 4294967296->BitVec.ofInt IntKind.u32.bits x=BitVec.ofInt IntKind.u32.bits y:=by
  intro x y h
  show BitVec.ofInt 32 x=BitVec.ofInt 32 y
  apply BitVec.eq_of_toNat_eq
  simp only [BitVec.toNat_ofInt]
  omega
 unfold bits
 rw [e _ _ h,e _ _ h']
theorem yt(op:BinOp)(x y:Int):bits op .u32 x y=bits op .u32 (wv (ofW x)) (wv (ofW y)):=Q7 op _ _ _ _ (by rw [zB];omega) (by rw [zB];omega)
theorem Yk(x y:Int):bits .xor .u32 x y=wv (ofW x ^^^ ofW y):=by
 rw [yt];unfold wv;rw [u32_xor_nat _ _ (UInt32.toNat_lt _) (UInt32.toNat_lt _),UInt32.toNat_xor]
theorem Yj(x y:Int):bits .and .u32 x y=wv (ofW x &&& ofW y):=by
 rw [yt];unfold wv;rw [u32_and_nat _ _ (UInt32.toNat_lt _) (UInt32.toNat_lt _),UInt32.toNat_and]
theorem Uw(x y:Int):bits .or .u32 x y=wv (ofW x ||| ofW y):=by
 rw [yt];unfold wv;rw [u32_or_nat _ _ (UInt32.toNat_lt _) (UInt32.toNat_lt _),UInt32.toNat_or]
theorem UK(a b:UInt32):(wv a==wv b)=(a==b):=by
 rw [Bool.eq_iff_iff,beq_iff_eq,beq_iff_eq];exact⟨Yn,fun h=>by rw [h]⟩
theorem j09(a b:UInt32):(wv a != wv b)=(a != b):=by rw [bne,bne,UK]
theorem VX(x:Int):Value.int .u32 (x % 4294967296)=W32 (ofW x):=by show Value.int .u32 (x % 4294967296)=Value.int .u32 (wv (ofW x));rw [zB]
theorem j0y(a:UInt32)(z:Int)(h0:0<=z)(h1:z<4294967296):wv a / z=wv (a / ofW z):=by
 have h:=j1o h0 h1
 unfold wv at*
 rw [UInt32.toNat_div,Int.natCast_ediv,h]
attribute [simp] Yk Yj Uw UK j09 VX j0y j0u VJ VI UA
end
theorem jb{w:World}{g o:Nat}{C:Array Value}{t:TypeId}{f:Nat×Nat}{v:Value}(h:w.heap[g]?=some (.cells C t f)):(w.setCell ⟨g,o,none⟩ v).heap[g]?=some (.cells (C.set! o v) t f):=by
 unfold World.setCell
 simp [Array.getElem?_modify,h]
theorem JB{ops:Array Oper}{rest:List Oper}{op:Oper}{a:Act}{w:World}{Q:Exit->Act->World->Prop}(hgd:op.guard=none)(s x:Operand)
 (ho:op.op=.call {callee:=.builtin .append,args:=#[s,x],argTypes:=#[23,3]})
 (base:Nat) (v:Value) (l:List UInt8) (hs:a.eval s=v) (hown:OwnB w base v l) (k:Nat) (hk:0<k) (hx:a.eval x=.int .i64 k) (hl:l.length+k<=140737488355328) (hbase:base<=w.heap.size)
 (h:∀v' w',OwnB w' base v' (l++List.replicate k 0)->Below base w w'->wpList Try.prog ops Q rest (a.put op.dst v') w'):wpList Try.prog ops Q (op :: rest) a w:=by
 obtain⟨v',w',hr,ho',hg⟩:=qo (P:=Try.prog) w base 23 3 op.type 5 (.int .u8 0) 1 .i64 .i64 Try.underlying23 Try.underlying3 qw rfl rfl (by omega) v l.length (l.map U8) hown k hk (by omega) hbase
 refine wpList_plain hgd fun K hK=> ?_
 unfold Oper.wp execOp
 simp only [ho,resolve,invoke,builtin,Sem.run_bind,Sem.run_pure,Result.andThen_ok,List.map_toArray,List.map_cons,List.map_nil,hs,hx,hr]
 refine hK _ _ (h v' w' ?_ (jS hown hg iL hbase))
 show w'.ownsRow base 5 1 v' (l++List.replicate k 0).length ((l++List.replicate k 0).map U8)
 rw [List.length_append,List.length_replicate,List.map_append,List.map_replicate]
 exact ho'
theorem OwnB.none_of{w:World}{base n c:Nat}{A:Option Addr}{l:List UInt8}(h:OwnB w base (.slice A n c) l)(h0:0<l.length):OwnB w base (.slice A 0 c) []:=by
 rcases h.2 with ⟨_,h1⟩|⟨g,cap,cur,hv,hb,hh,_,hm,hs,_⟩
 ·omega
 ·obtain⟨rfl,_,rfl⟩:=Value.slice.inj hv
  exact⟨rfl,.inr ⟨g,c,cur,rfl,hb,hh,Nat.zero_le _,hm,hs,by simp⟩⟩
theorem YK(n:Nat)(hn:n<=140737488355328)(w:World):Calls Try.prog 69 #[.slice none 0 0,.int .i64 n] w fun e w'=>∃v',e=.returned v'/\OwnB w' w.heap.size v' []/\Below w.heap.size w w':=by
 have hn2:(n:Int)<=140737488355328:=by omega
 by_cases h0:n=0
 ·subst h0
  go_enter Try.func69,Try.ntmps69
  go_wp2_with fail
  go_ret
  exact⟨_,rfl,OwnB.nil _ _,Below.refl _ _⟩
 ·have hp:(n:Int)>0:=by omega
  have HN:=iH hn
  have HP:Hid (0<n):=iH (by omega)
  clear h0
  go_enter Try.func69,Try.ntmps69
  go_wp2_with(at_builtin;(with_reducible refine JB rfl (.tmp 20) (.tmp 21) rfl w.heap.size (.slice none 0 0) [] rfl (OwnB.nil _ _) n HP.out rfl (by have:=HN.out;simp only [List.length_nil];omega) iL ?_);intro v1 w1 ho hb;obtain⟨A1,c1,e1⟩:=ho.form;rw [List.nil_append,List.length_replicate]at e1;subst e1;have HO1:=iH (OwnB.none_of ho (by rw [List.nil_append,List.length_replicate];exact HP.out));have HB1:=iH hb;clear ho hb)
  go_ret
  exact⟨_,rfl,HO1.out,HB1.out⟩
def yx(L:List (Value×List UInt8)):List UInt8:=(L.map (·.2)).flatten
theorem zV(L:List (Value×List UInt8))(p:Value×List UInt8):yx (L++ [p])=yx L++p.2:=by simp [yx]
theorem Qc(L M:List (Value×List UInt8)):(yx (L++M)).length=(yx L).length+(yx M).length:=by simp [yx]
theorem QS(L:List (Value×List UInt8))(g:Nat)(S:Nat->Prop)(w:World)(t:TypeId)(hg:w.heap[g]?=some (.cells (L.map (·.1)).toArray t (0,0))) (hb:∀p∈L,BsS w S p.1 p.2) (hl:(yx L).length<=140737488355000) (hn:L.length<=1000):
 Calls Try.prog 52 #[.slice (some ⟨g,0,none⟩) L.length L.length] w fun e w'=>∃v',e=.returned v'/\OwnB w' w.heap.size v' (yx L)/\Below w.heap.size w w':=by
 have hgl:=(iG hg)
 have HC:Hid (∀j (h:j<L.length),w.cell? ⟨g,j,none⟩=some L[j].1):=iH (fun j h=>by
  rw [cell_of_row _ _ _ _ _ _ hg]
  simp [h])
 have HB:=iH hb;have HL:=iH hl
 clear hg hb
 go_enter Try.func52,Try.ntmps52
 go_wp2_with fail
 go_loopg [3,11] L.length (fun m sv iv wr=>∃(D R:List (Value×List UInt8)) (N:Nat),R.length=m/\N=(yx D).length/\sv=.int .i64 (N:Int)/\iv=.int .i64 D.length/\D.length+R.length=L.length/\Hid (D++R=L)/\w=wr)
 case atStart=>exact⟨[],L,0,rfl,rfl,rfl,rfl,by simp,rfl,rfl⟩
 case round=>
  obtain⟨D,R,N,rfl,hN,rfl,rfl,hj,hab,rfl⟩:=hrel
  cases R with
  |nil=>
   have hD:D=L:=by have:=hab.out;rwa [List.append_nil]at this
   have hN2:N<=140737488355000:=by rw [hN,hD];exact hl
   have hN3:(N:Int)<=140737488355000:=by omega
   have HG:=iH (YK N (by omega) w)
   simp only [List.length_nil,Nat.add_zero]at hj
   clear hab hN hD hN2
   go_wp2_with(go_at_call 69;refine HG.out.mono ?_;rintro e w1 ⟨v1,rfl,ho,hb1⟩;obtain⟨A1,c1,rfl⟩:∃A c,v1=.slice A 0 c:=ho.form;have HO1:=iH ho;have HB1:=iH hb1;clear ho hb1)
   go_loopg [6,27] L.length (fun m ov iv wr=>∃(D R:List (Value×List UInt8)) (N:Nat) (A c:_),R.length=m/\N=(yx D).length/\ov=.slice A N c/\iv=.int .i64 D.length/\D.length+R.length=L.length/\Hid (D++R=L)/\Hid (OwnB wr w.heap.size (.slice A N c) (yx D))/\Below w.heap.size w wr)
   case atStart=>exact⟨[],L,0,A1,c1,rfl,rfl,rfl,rfl,by simp,rfl,HO1,HB1.out⟩
   case round=>
    obtain⟨D,R,N,A2,c2,rfl,hN,rfl,rfl,hj,hab,HO2,hbr⟩:=hrel
    have HBR:=iH hbr
    cases R with
    |nil=>
     have hD:D=L:=by have:=hab.out;rwa [List.append_nil]at this
     simp only [List.length_nil,Nat.add_zero]at hj
     clear hab hN
     go_wp2_with fail
     go_ret
     rw [hD]at HO2
     exact⟨_,rfl,HO2.out,HBR.out⟩
    |cons p R=>
     obtain⟨x,l⟩:=p
     simp only [List.length_cons]at hj
     have hlt:D.length<L.length:=by omega
     have hlt':(D.length:Int)<L.length:=by omega
     have c0:=HC.out D.length hlt
     have en:L[D.length]=(x,l):=by simp [<-hab.out]
     rw [en]at c0
     have hx:=HB.out (x,l) (by rw [<-hab.out];simp)
     obtain⟨ax,cx,hxe,_⟩:=id hx
     dsimp only at hxe
     subst hxe
     have q0:=(hbr.cell (p:=⟨g,D.length,none⟩) hgl).trans c0
     have HX:Hid (BsS wr (fun b=>S b/\b<w.heap.size) (.slice ax l.length cx) l):=iH (BsS.keep hx fun b hs hl=>⟨hbr.block b hl,hs,hl⟩)
     have hlen:(yx D).length+l.length<=140737488355000:=by
      have h:=HL.out
      rw [<-hab.out,Qc]at h
      have h2:l.length<=(yx ((.slice ax l.length cx,l) :: R)).length:=by simp [yx]
      omega
     have HLN:=iH hlen
     have HNN:=iH hN
     have HAB:Hid (D++ [(.slice ax l.length cx,l)]++R=L):=iH (by rw [List.append_assoc];exact hab.out)
     clear en hx c0 hab hbr hN hlen
     go_wp2_with(at_builtin;(with_reducible refine jp rfl (.tmp 31) (.tmp 32) rfl w.heap.size (.slice A2 N c2) (yx D) rfl HO2.out ax l.length cx l (fun b=>S b/\b<w.heap.size) rfl HX.out (by have:=HLN.out;omega) HBR.out.size ?_);intro o3 w3 hG;obtain⟨A3,c3,e3⟩:=hG.1.form;rw [List.length_append,<-HNN.out]at e3;subst e3;have HO3:=iH hG.1;have HB3:=iH (HBR.out.trans hG.2.1);clear hG)
     go_roundg R.length
     case measure=>simp
     case rel=>exact⟨D++ [(.slice ax l.length cx,l)],R,N+l.length,A3,c3,rfl,by rw [zV,List.length_append,HNN.out],rfl,by rw [List.length_append,List.length_singleton];go_num,by rw [List.length_append,List.length_singleton];omega,HAB,iH (by rw [zV];exact HO3.out),HB3.out⟩
  |cons p R=>
   obtain⟨x,l⟩:=p
   simp only [List.length_cons]at hj
   have hlt:D.length<L.length:=by omega
   have hlt':(D.length:Int)<L.length:=by omega
   have c0:=HC.out D.length hlt
   have en:L[D.length]=(x,l):=by simp [<-hab.out]
   rw [en]at c0
   have hx:=HB.out (x,l) (by rw [<-hab.out];simp)
   obtain⟨ax,cx,hxe,_⟩:=hx
   dsimp only at hxe
   subst hxe
   have hlen:(yx D).length+l.length<=140737488355000:=by
    have h:=HL.out
    rw [<-hab.out,Qc]at h
    have h2:l.length<=(yx ((.slice ax l.length cx,l) :: R)).length:=by simp [yx]
    omega
   have hN2:N+l.length<=140737488355000:=by rw [hN];exact hlen
   have HNN:=iH hN
   have HAB:Hid (D++ [(.slice ax l.length cx,l)]++R=L):=iH (by rw [List.append_assoc];exact hab.out)
   clear en hab hN hlen
   go_wp2_with fail
   go_roundg R.length
   case measure=>simp
   case rel=>exact⟨D++ [(.slice ax l.length cx,l)],R,N+l.length,rfl,by rw [zV,List.length_append,HNN.out],by go_num,by rw [List.length_append,List.length_singleton];go_num,by rw [List.length_append,List.length_singleton];omega,HAB,rfl⟩
theorem j9{w:World}{p:Nat}{a b c:Value}{t:TypeId}(h:w.heap[p]?=some (.cells #[a,b,c] t (0,0))):
 w.cell? ⟨p,0,none⟩=some a/\w.cell? ⟨p,1,none⟩=some b/\w.cell? ⟨p,2,none⟩=some c/\∀o,w.frozen? ⟨p,o,none⟩=false:=by
 have key:∀o v,#[a,b,c][o]?=some v->w.cell? ⟨p,o,none⟩=some v:=fun o v e=>by rw [cell_of_row _ _ _ _ _ _ h];exact e
 exact⟨key 0 _ rfl,key 1 _ rfl,key 2 _ rfl,fun o=>by simp [World.frozen?,h]⟩
def set3(w:World)(g:Nat)(a b c:Value):World:=((w.setCell ⟨g,0,none⟩ a).setCell ⟨g,1,none⟩ b).setCell ⟨g,2,none⟩ c
theorem kG{w:World}{g:Nat}{x y z:Value}{t:TypeId}(a b c:Value)(h:w.heap[g]?=some (.cells #[x,y,z] t (0,0))):(set3 w g a b c).heap[g]?=some (.cells #[a,b,c] t (0,0)):=
 jb (o:=2) (jb (o:=1) (jb (o:=0) h))
theorem qd{w w':World}{B g:Nat}{a b c:Value}(h:Below B w w')(hg:B<=g):Below B w (set3 w' g a b c):=((h.setCell hg _).setCell hg _).setCell hg _
theorem jr{w:World}{g j:Nat}{a b c:Value}(h:j≠g):(set3 w g a b c).heap[j]?=w.heap[j]? :=by
 unfold set3
 rw [iO (by exact h),iO (by exact h),iO (by exact h)]
def xk(w:World)(S:Nat->Prop)(v:Value)(k1 k2:List UInt8)(n:Int):Prop:=∃a b,v=.agg #[a,b,.int .i64 n]/\BsS w S a k1/\BsS w S b k2
theorem j01(A B:Option Addr)(n m c d:Nat)(k:Int):∀(i:Nat) (x:UInt8),(#[.slice A n c,.slice B m d,.int .i64 k]:Array Value)[i]? ≠some (U8 x):=by
 intro i x
 rcases i with _|_|_|i
 ·simp
 ·simp
 ·simp
 ·simp
theorem Bs.formL{w:World}{S:Nat->Prop}{v:Value}{l:List UInt8}(h:BsS w S v l):∃A c,v=.slice A l.length c:=by
 obtain⟨a,c,e,_⟩:=h
 exact⟨a,c,e⟩
theorem OwnB.rd{w w':World}{v:Value}{l:List UInt8}(h:OwnB w' w.heap.size v l)(hl:l.length<=140737488355328):Bs w' w'.heap.size v l:=(h.out hl w iL).keep fun _ hs _=>⟨rfl,hs.2⟩
theorem BsS.rd{w w':World}{v:Value}{l:List UInt8}(h:BsS w' (New w w') v l):Bs w' w'.heap.size v l:=h.keep fun _ hs _=>⟨rfl,hs.2⟩
theorem Bs.setr{w:World}{v:Value}{l:List UInt8}(h:Bs w w.heap.size v l){z k:Nat}{C:Array Value}{t:TypeId}{f:Nat×Nat}(u:Value)(hz:w.heap[z]?=some (.cells C t f)) (hC:∀(i:Nat) (x:UInt8),C[i]? ≠some (U8 x)):Bs (w.setCell ⟨z,k,none⟩ u) (w.setCell ⟨z,k,none⟩ u).heap.size v l:=
 BsS.keep (h.off hz hC) fun g hs _=>⟨iO hs.2,by simpa using hs.1⟩
theorem jz{w:World}{p:Nat}{a b c d:Value}{t:TypeId}(h:w.heap[p]?=some (.cells #[a,b,c,d] t (0,0))):
 w.cell? ⟨p,0,none⟩=some a/\w.cell? ⟨p,1,none⟩=some b/\w.cell? ⟨p,2,none⟩=some c/\w.cell? ⟨p,3,none⟩=some d/\∀o,w.frozen? ⟨p,o,none⟩=false:=by
 have key:∀o v,#[a,b,c,d][o]?=some v->w.cell? ⟨p,o,none⟩=some v:=fun o v e=>by rw [cell_of_row _ _ _ _ _ _ h];exact e
 exact⟨key 0 _ rfl,key 1 _ rfl,key 2 _ rfl,key 3 _ rfl,fun o=>by simp [World.frozen?,h]⟩
def ZR(w:World)(g:Nat)(a b c d:Value):World:=(((w.setCell ⟨g,0,none⟩ a).setCell ⟨g,1,none⟩ b).setCell ⟨g,2,none⟩ c).setCell ⟨g,3,none⟩ d
theorem QC{w:World}{g:Nat}{x y z u:Value}{t:TypeId}(a b c d:Value)(h:w.heap[g]?=some (.cells #[x,y,z,u] t (0,0))):(ZR w g a b c d).heap[g]?=some (.cells #[a,b,c,d] t (0,0)):=
 jb (o:=3) (jb (o:=2) (jb (o:=1) (jb (o:=0) h)))
theorem zm{w:World}{g j:Nat}{a b c d:Value}(h:j≠g):(ZR w g a b c d).heap[j]?=w.heap[j]? :=by
 unfold ZR
 rw [iO (by exact h),iO (by exact h),iO (by exact h),iO (by exact h)]
theorem yS{w w':World}{B g:Nat}{a b c d:Value}(h:Below B w w')(hg:B<=g):Below B w (ZR w' g a b c d):=(((h.setCell hg _).setCell hg _).setCell hg _).setCell hg _
theorem yn(w:World)(g:Nat)(a b c d:Value):(ZR w g a b c d).heap.size=w.heap.size:=by simp [ZR]
def noB(C:Array Value):Prop:=∀(i:Nat) (x:UInt8),C[i]? ≠some (U8 x)
theorem j1h{a b c d:Value}(ha:∀x,a≠U8 x)(hb:∀x,b≠U8 x)(hc:∀x,c≠U8 x)(hd:∀x,d≠U8 x):noB #[a,b,c,d]:=by
 intro i x
 rcases i with _|_|_|_|i
 ·simpa using ha x
 ·simpa using hb x
 ·simpa using hc x
 ·simpa using hd x
 ·simp
structure Cm where
 cl:Int
 ins:Int
 p1:Int
 p2:Int
 data:List UInt8
 ex:Int
def QI(w:World)(S:Nat->Prop)(v:Value)(c:Cm):Prop:=∃d,v=.agg #[.int .i64 c.cl,.int .i64 c.ins,.int .i64 c.p1,.int .i64 c.p2,d,.int .i64 c.ex]/\BsS w S d c.data
def Yw(w:World)(S:Nat->Prop)(v:Value)(l:List UInt8)(st:Int):Prop:=∃d,v=.agg #[d,.int .i64 st]/\BsS w S d l
def vS(k1 k2:List UInt8)(n:Int):Bool:=decide (k1.length=16/\k2.length=16/\0<=n/\n<=1099511627776)
def xT(n:Int):Bool:=decide (0<=n/\n<=255)
def vC(c:Cm):Bool:=decide (0<=c.cl/\c.cl<=254/\(0<=c.ins/\c.ins<=255)/\(0<=c.p1/\c.p1<=255)/\(0<=c.p2/\c.p2<=255)/\c.data.length<=4096/\(c.ex= -1\/(1<=c.ex/\c.ex<=65536)))
theorem jd(v:Value)(k1 k2:List UInt8)(n:Int)(S:Nat->Prop)(w:World)(h:xk w S v k1 k2 n):
 Calls Try.prog 25 #[v] w fun e w'=>e=.returned (.bool (vS k1 k2 n))/\Below w.heap.size w w':=by
 obtain⟨u1,u2,rfl,h1,h2⟩:=h
 obtain⟨A1,n1,c1,rfl⟩:=h1.form
 obtain⟨A2,n2,c2,rfl⟩:=h2.form
 obtain rfl:=Bs.lenEq h1
 obtain rfl:=Bs.lenEq h2
 have hb:Below w.heap.size w (w.alloc (.cells #[.slice A1 k1.length c1,.slice A2 k2.length c2,.int .i64 n] 29)):=iA
 have HB:=iH hb
 clear hb h1 h2
 by_cases a1:k1.length=16
 ·have t1:((k1.length:Int)==16)=true:=by simp;omega
  by_cases a2:k2.length=16
  ·have t2:((k2.length:Int)==16)=true:=by simp;omega
   by_cases a3:0<=n
   ·by_cases a4:n<=1099511627776
    ·have R:Hid (vS k1 k2 n=true):=iH (decide_eq_true ⟨a1,a2,a3,a4⟩)
     clear a1 a2
     go_enter Try.func25,Try.ntmps25
     go_wp2_with fail
     go_ret
     rw [R.out]
     exact⟨rfl,HB.out⟩
    ·have R:Hid (vS k1 k2 n=false):=iH (decide_eq_false fun h=>a4 h.2.2.2)
     clear a1 a2
     go_enter Try.func25,Try.ntmps25
     go_wp2_with fail
     go_ret
     rw [R.out]
     exact⟨rfl,HB.out⟩
   ·have R:Hid (vS k1 k2 n=false):=iH (decide_eq_false fun h=>a3 h.2.2.1)
    clear a1 a2
    go_enter Try.func25,Try.ntmps25
    go_wp2_with fail
    go_ret
    rw [R.out]
    exact⟨rfl,HB.out⟩
  ·have t2:((k2.length:Int)==16)=false:=by simp;omega
   have R:Hid (vS k1 k2 n=false):=iH (decide_eq_false fun h=>a2 h.2.1)
   clear a1 a2
   go_enter Try.func25,Try.ntmps25
   go_wp2_with fail
   go_ret
   rw [R.out]
   exact⟨rfl,HB.out⟩
 ·have t1:((k1.length:Int)==16)=false:=by simp;omega
  have R:Hid (vS k1 k2 n=false):=iH (decide_eq_false fun h=>a1 h.1)
  clear a1
  go_enter Try.func25,Try.ntmps25
  go_wp2_with fail
  go_ret
  rw [R.out]
  exact⟨rfl,HB.out⟩
theorem jK(v:Value)(c:Cm)(S:Nat->Prop)(w:World)(h:QI w S v c):Calls Try.prog 26 #[v] w fun e w'=>e=.returned (.bool (vC c))/\Below w.heap.size w w':=by
 obtain⟨u,rfl,h1⟩:=h
 obtain⟨A,m,k,rfl⟩:=h1.form
 obtain rfl:=Bs.lenEq h1
 obtain⟨w0,hw0⟩:∃w0,w0=w.alloc (.cells #[.int .i64 c.cl,.int .i64 c.ins,.int .i64 c.p1,.int .i64 c.p2,.slice A c.data.length k,.int .i64 c.ex] 32):=⟨_,rfl⟩
 have hh0:w0.heap[w.heap.size]?=some (.cells #[.int .i64 c.cl,.int .i64 c.ins,.int .i64 c.p1,.int .i64 c.p2,.slice A c.data.length k,.int .i64 c.ex] 32 (0,0)):=by rw [hw0];exact iN
 have hb0:Below w.heap.size w w0:=by rw [hw0];exact iA
 have HB:=iH hb0;have HW:=iH hw0
 have FC:Hid (∀W,Below w0.heap.size w0 W->W.cell? ⟨w.heap.size,0,none⟩=some (.int .i64 c.cl)/\W.cell? ⟨w.heap.size,1,none⟩=some (.int .i64 c.ins)/\W.cell? ⟨w.heap.size,2,none⟩=some (.int .i64 c.p1)/\W.cell? ⟨w.heap.size,3,none⟩=some (.int .i64 c.p2)/\W.cell? ⟨w.heap.size,4,none⟩=some (.slice A c.data.length k)/\W.cell? ⟨w.heap.size,5,none⟩=some (.int .i64 c.ex)):=iH fun W hb=>by
  have hr:=(hb.block w.heap.size (iG hh0)).trans hh0
  refine⟨?_,?_,?_,?_,?_,?_⟩<;>(rw [cell_of_row _ _ _ _ _ _ hr]<;>rfl)
 clear h1 hw0 hh0 hb0
 obtain⟨w1,hw1⟩:∃w1,w1=w0.alloc (.cells #[.int .i64 c.ins,.int .i64 c.p1,.int .i64 c.p2] 3):=⟨_,rfl⟩
 have hb1:Below w0.heap.size w0 w1:=by rw [hw1];exact iA
 have hr1:w1.heap[w0.heap.size]?=some (.cells #[.int .i64 c.ins,.int .i64 c.p1,.int .i64 c.p2] 3 (0,0)):=by rw [hw1];exact iN
 have S3:=iH (j9 hr1)
 have HB1:=iH hb1;have HW1:=iH hw1
 have HBW:=iH (HB.out.trans (hb1.mono HB.out.size))
 clear hb1 hr1 hw1
 obtain⟨vc,hvc⟩:∃vc,vC c=vc:=⟨_,rfl⟩
 have HV:=iH hvc
 rw [hvc]
 clear hvc
 go_enter Try.func26,Try.ntmps26
 go_upto_region 1 with fail
 rw [<-HW.out]
 obtain⟨f0,f1,f2,f3,f4,f5⟩:=FC.out w0 iB
 go_wp2_with fail
 rw [<-HW1.out]
 clear f0 f1 f2 f3 f4 f5
 go_loopg [4,14] 3 (fun q _ i wr=>∃j:Nat,j+q=3/\i=.int .i64 j/\w1=wr/\Hid ((0<j->xT c.ins=true)/\(1<j->xT c.p1=true)/\(2<j->xT c.p2=true)))
 case atStart=>exact⟨0,rfl,rfl,rfl,iH ⟨fun h=>absurd h (by decide),fun h=>absurd h (by decide),fun h=>absurd h (by decide)⟩⟩
 case round=>
  obtain⟨j,hj,rfl,rfl,HO⟩:=hrel
  obtain⟨s0,s1,s2,_⟩:=S3.out
  obtain rfl|rfl|rfl|rfl:j=0\/j=1\/j=2\/j=3:=by omega
  ·obtain rfl:gk=3:=by omega
   by_cases b1:c.ins<0
   ·have R:Hid (vc=false):=iH (by rw [<-HV.out];exact decide_eq_false fun h=>absurd h.2.2.1 (by omega))
    clear hj
    go_wp2_with fail
    go_ret
    rw [R.out]
    exact⟨rfl,HBW.out⟩
   ·by_cases b2:c.ins>255
    ·have R:Hid (vc=false):=iH (by rw [<-HV.out];exact decide_eq_false fun h=>absurd h.2.2.1 (by omega))
     clear hj
     go_wp2_with fail
     go_ret
     rw [R.out]
     exact⟨rfl,HBW.out⟩
    ·have HO2:Hid ((0<1->xT c.ins=true)/\(1<1->xT c.p1=true)/\(2<1->xT c.p2=true)):=iH ⟨fun _=>decide_eq_true ⟨by omega,by omega⟩,fun h=>absurd h (by decide),fun h=>absurd h (by decide)⟩
     clear hj
     go_wp2_with fail
     go_roundg 2
     case measure=>omega
     case rel=>exact⟨1,rfl,rfl,rfl,HO2⟩
  ·obtain rfl:gk=2:=by omega
   by_cases b1:c.p1<0
   ·have R:Hid (vc=false):=iH (by rw [<-HV.out];exact decide_eq_false fun h=>absurd h.2.2.2.1 (by omega))
    clear hj
    go_wp2_with fail
    go_ret
    rw [R.out]
    exact⟨rfl,HBW.out⟩
   ·by_cases b2:c.p1>255
    ·have R:Hid (vc=false):=iH (by rw [<-HV.out];exact decide_eq_false fun h=>absurd h.2.2.2.1 (by omega))
     clear hj
     go_wp2_with fail
     go_ret
     rw [R.out]
     exact⟨rfl,HBW.out⟩
    ·have HO2:Hid ((0<2->xT c.ins=true)/\(1<2->xT c.p1=true)/\(2<2->xT c.p2=true)):=iH ⟨fun _=>HO.out.1 (by decide),fun _=>decide_eq_true ⟨by omega,by omega⟩,fun h=>absurd h (by decide)⟩
     clear hj
     go_wp2_with fail
     go_roundg 1
     case measure=>omega
     case rel=>exact⟨2,rfl,rfl,rfl,HO2⟩
  ·obtain rfl:gk=1:=by omega
   by_cases b1:c.p2<0
   ·have R:Hid (vc=false):=iH (by rw [<-HV.out];exact decide_eq_false fun h=>absurd h.2.2.2.2.1 (by omega))
    clear hj
    go_wp2_with fail
    go_ret
    rw [R.out]
    exact⟨rfl,HBW.out⟩
   ·by_cases b2:c.p2>255
    ·have R:Hid (vc=false):=iH (by rw [<-HV.out];exact decide_eq_false fun h=>absurd h.2.2.2.2.1 (by omega))
     clear hj
     go_wp2_with fail
     go_ret
     rw [R.out]
     exact⟨rfl,HBW.out⟩
    ·have HO2:Hid ((0<3->xT c.ins=true)/\(1<3->xT c.p1=true)/\(2<3->xT c.p2=true)):=iH ⟨fun _=>HO.out.1 (by decide),fun _=>HO.out.2.1 (by decide),fun _=>decide_eq_true ⟨by omega,by omega⟩⟩
     clear hj
     go_wp2_with fail
     go_roundg 0
     case measure=>omega
     case rel=>exact⟨3,rfl,rfl,rfl,HO2⟩
  ·obtain rfl:gk=0:=by omega
   clear hj s0 s1 s2
   have i1:=of_decide_eq_true (HO.out.1 (by decide))
   have i2:=of_decide_eq_true (HO.out.2.1 (by decide))
   have i3:=of_decide_eq_true (HO.out.2.2 (by decide))
   obtain⟨f0,f1,f2,f3,f4,f5⟩:=FC.out w1 HB1.out
   by_cases b6:c.ex= -1
   ·have t6:(c.ex== -1)=true:=by simp [b6]
    have H6:=iH b6
    clear b6
    by_cases b1:0<=c.cl
    ·by_cases b2:c.cl<=254
     ·by_cases b3:c.data.length<=4096
      ·have t3:decide ((c.data.length:Int)<=4096)=true:=decide_eq_true (by omega)
       have R:Hid (vc=true):=iH (by rw [<-HV.out];exact decide_eq_true ⟨b1,b2,i1,i2,i3,b3,.inl H6.out⟩)
       go_wp2_with fail
       go_ret
       rw [R.out]
       exact⟨rfl,HBW.out⟩
      ·have t3:decide ((c.data.length:Int)<=4096)=false:=decide_eq_false (by omega)
       have R:Hid (vc=false):=iH (by rw [<-HV.out];exact decide_eq_false fun h=>b3 h.2.2.2.2.2.1)
       go_wp2_with fail
       go_ret
       rw [R.out]
       exact⟨rfl,HBW.out⟩
     ·have R:Hid (vc=false):=iH (by rw [<-HV.out];exact decide_eq_false fun h=>b2 h.2.1)
      go_wp2_with fail
      go_ret
      rw [R.out]
      exact⟨rfl,HBW.out⟩
    ·have R:Hid (vc=false):=iH (by rw [<-HV.out];exact decide_eq_false fun h=>b1 h.1)
     go_wp2_with fail
     go_ret
     rw [R.out]
     exact⟨rfl,HBW.out⟩
   ·have t6:(c.ex== -1)=false:=by simpa using b6
    by_cases b7:1<=c.ex
    ·by_cases b8:c.ex<=65536
     ·by_cases b1:0<=c.cl
      ·by_cases b2:c.cl<=254
       ·by_cases b3:c.data.length<=4096
        ·have t3:decide ((c.data.length:Int)<=4096)=true:=decide_eq_true (by omega)
         have R:Hid (vc=true):=iH (by rw [<-HV.out];exact decide_eq_true ⟨b1,b2,i1,i2,i3,b3,.inr ⟨b7,b8⟩⟩)
         go_wp2_with fail
         go_ret
         rw [R.out]
         exact⟨rfl,HBW.out⟩
        ·have t3:decide ((c.data.length:Int)<=4096)=false:=decide_eq_false (by omega)
         have R:Hid (vc=false):=iH (by rw [<-HV.out];exact decide_eq_false fun h=>b3 h.2.2.2.2.2.1)
         go_wp2_with fail
         go_ret
         rw [R.out]
         exact⟨rfl,HBW.out⟩
       ·have R:Hid (vc=false):=iH (by rw [<-HV.out];exact decide_eq_false fun h=>b2 h.2.1)
        go_wp2_with fail
        go_ret
        rw [R.out]
        exact⟨rfl,HBW.out⟩
      ·have R:Hid (vc=false):=iH (by rw [<-HV.out];exact decide_eq_false fun h=>b1 h.1)
       go_wp2_with fail
       go_ret
       rw [R.out]
       exact⟨rfl,HBW.out⟩
     ·by_cases b1:0<=c.cl
      ·by_cases b2:c.cl<=254
       ·by_cases b3:c.data.length<=4096
        ·have t3:decide ((c.data.length:Int)<=4096)=true:=decide_eq_true (by omega)
         have R:Hid (vc=false):=iH (by rw [<-HV.out];exact decide_eq_false fun h=>h.2.2.2.2.2.2.elim b6 (fun h=>b8 h.2))
         go_wp2_with fail
         go_ret
         rw [R.out]
         exact⟨rfl,HBW.out⟩
        ·have t3:decide ((c.data.length:Int)<=4096)=false:=decide_eq_false (by omega)
         have R:Hid (vc=false):=iH (by rw [<-HV.out];exact decide_eq_false fun h=>b3 h.2.2.2.2.2.1)
         go_wp2_with fail
         go_ret
         rw [R.out]
         exact⟨rfl,HBW.out⟩
       ·have R:Hid (vc=false):=iH (by rw [<-HV.out];exact decide_eq_false fun h=>b2 h.2.1)
        go_wp2_with fail
        go_ret
        rw [R.out]
        exact⟨rfl,HBW.out⟩
      ·have R:Hid (vc=false):=iH (by rw [<-HV.out];exact decide_eq_false fun h=>b1 h.1)
       go_wp2_with fail
       go_ret
       rw [R.out]
       exact⟨rfl,HBW.out⟩
    ·by_cases b1:0<=c.cl
     ·by_cases b2:c.cl<=254
      ·by_cases b3:c.data.length<=4096
       ·have t3:decide ((c.data.length:Int)<=4096)=true:=decide_eq_true (by omega)
        have R:Hid (vc=false):=iH (by rw [<-HV.out];exact decide_eq_false fun h=>h.2.2.2.2.2.2.elim b6 (fun h=>b7 h.1))
        go_wp2_with fail
        go_ret
        rw [R.out]
        exact⟨rfl,HBW.out⟩
       ·have t3:decide ((c.data.length:Int)<=4096)=false:=decide_eq_false (by omega)
        have R:Hid (vc=false):=iH (by rw [<-HV.out];exact decide_eq_false fun h=>b3 h.2.2.2.2.2.1)
        go_wp2_with fail
        go_ret
        rw [R.out]
        exact⟨rfl,HBW.out⟩
      ·have R:Hid (vc=false):=iH (by rw [<-HV.out];exact decide_eq_false fun h=>b2 h.2.1)
       go_wp2_with fail
       go_ret
       rw [R.out]
       exact⟨rfl,HBW.out⟩
     ·have R:Hid (vc=false):=iH (by rw [<-HV.out];exact decide_eq_false fun h=>b1 h.1)
      go_wp2_with fail
      go_ret
      rw [R.out]
      exact⟨rfl,HBW.out⟩
end Go.Proofs.Ytadndhgebgjlaaa
