/- Rows of objects of the call's own whose bytes lie outside of some blocks; append of any number of objects; Facts on words as the walk meets them: the operati... -/
import Derived.Deep.DeepCutAuto
import Derived.Test.YtadndhgebgjlaaaGreatPr
import Derived.Test.YtadndhgebgjlaaaGreatPs
import Derived.Test.YtadndhgebgjlaaaGreatPt
set_option linter.all false
set_option maxRecDepth 100000
set_option maxHeartbeats 2000000
namespace Go.Proofs.YtadndhgebgjlaaaGreat
open Go.RowKit Go.Deep
theorem m9{P:Prop}(h:P:=by
 go_wp2_with fail
 go_ret
 rw [R.out]
 exact⟨rfl,HB.out⟩):P:=h
theorem m32{P:Prop}(h:P:=by
 have h:=HL.out
 rw [<-hab.out,Yb]at h
 have h2:l.length<=(Kv ((.slice ax l.length cx,l) :: R)).length:=by simp [Kv]
 omega):P:=h
def j4j(base:Nat)(X:Nat->Prop)(w:World)(v:Value)(b:Nat):Prop:=xM base w v b/\¬X b
def OwnX(w:World)(base:Nat)(X:Nat->Prop)(o:Value)(L:Ns):Prop:=∃xs,w.ownsRow base 61 3 o L.len xs/\EachN w (j4j base X w o) L xs
theorem OwnX.own{w:World}{base:Nat}{X:Nat->Prop}{o:Value}{L:Ns}(h:OwnX w base X o L):OwnN w base o L:=by
 obtain⟨xs,h1,h2⟩:=h
 exact⟨xs,h1,h2.keep (fun b hs _=>⟨rfl,hs.1⟩) L xs⟩
section
variable{w:World}{S:Nat->Prop}
include w S
theorem EachN.one':∀(L:Ns) (xs:List Value),EachN w S L xs->xs.length=L.len*3/\∀u∈xs,u.oneCell'=true:=by
 intro L
 induction L with
 |nil=>intro xs h;have h:xs= []:=h;subst h;exact⟨rfl,by simp⟩
 |cons t v k r _ ih=>
  intro xs ⟨x,y,xs',e,hi,hv,hn,hr⟩
  obtain⟨h1,h2⟩:=ih xs' hr
  obtain⟨a,c,rfl,_⟩:=hv
  obtain⟨a',c',rfl,_⟩:=hn
  subst e
  refine⟨by simp [Ns.len,h1];omega,fun u hu=> ?_⟩
  simp only [List.mem_cons]at hu
  rcases hu with rfl|rfl|rfl|hu
  ·rfl
  ·rfl
  ·rfl
  ·exact h2 u hu
theorem EachN.app:∀(L:Ns) (xs:List Value),EachN w S L xs->∀ {M:Ns} {ys:List Value},EachN w S M ys->EachN w S (L.app M) (xs++ys):=by
 intro L
 induction L with
 |nil=>intro xs h M ys hm;have h:xs= []:=h;subst h;exact hm
 |cons t v k r _ ih=>
  intro xs ⟨x,y,xs',e,hi,hv,hn,hr⟩ M ys hm
  subst e
  exact⟨x,y,_,rfl,hi,hv,hn,ih xs' hr hm⟩
theorem BsS.off{v:Value}{l:List UInt8}{z:Nat}{C:Array Value}{t:TypeId}{f:Nat×Nat}(h:BsS w S v l)(hz:w.heap[z]?=some (.cells C t f))(hC:∀(i:Nat) (x:UInt8),C[i]? ≠some (U8 x)):BsS w (fun b=>S b/\b≠z) v l:=by
 obtain⟨a,c,e,h1,h2,h3,h4⟩:=h
 refine⟨a,c,e,h1,h2,h3,fun h0=> ?_⟩
 obtain⟨b,off,ea,hb,hc⟩:=h4 h0
 refine⟨b,off,ea,⟨hb,fun e=> ?_⟩,hc⟩
 subst e
 have:=hc 0 h0
 rw [cell_of_row _ _ _ _ _ _ hz]at this
 exact hC _ _ this
end
def j6f(w w':World)(base:Nat)(X:Nat->Prop)(o o':Value)(L:Ns):Prop:=OwnX w' base X o' L/\Below base w w'/\w.grownBy w' o.ownBlock/\(o'.ownBlock=o.ownBlock\/o'.ownBlock=some w.heap.size)
theorem j0n(w:World)(base:Nat)(X:Nat->Prop)(o:Value)(L M:Ns)(ty:TypeId)(g:Nat)(ys:List Value)(C:Array Value)(tc:TypeId)(f:Nat×Nat)(hown:OwnX w base X o L)(hg:w.heap[g]?=some (.cells C tc f))(hC:C.toList=ys)(hM:EachN w (j4j base X w o) M ys)(hl:L.len+M.len<=1000000000000)(hbase:base<=w.heap.size)(_:¬X w.heap.size):
 ∃o' w',(Builtin.append_ #[58,58] ty #[o,.slice (some ⟨g,0,none⟩) M.len M.len]).run Tryz.prog w=.ok o' w'/\j6f w w' base X o o' (L.app M):=by
 obtain⟨xs,h1,h2⟩:=hown
 obtain⟨i,hinfo,hzz⟩:=Option.map_eq_some_iff.1 zk
 simp only [Prod.mk.injEq]at hzz
 obtain⟨hz,hsize,hbb⟩:=hzz
 obtain⟨hy1,hy2⟩:=EachN.one' M ys hM
 subst hC
 obtain⟨o',w',hr,g1,g2,_,g3⟩:=run_append_own_at (P:=Tryz.prog) w base 58 ty 61 i _ 3 56 Tryz.underlying58 hinfo hz hsize hbb rfl (by omega) o L.len xs h1 ⟨g,0,none⟩ M.len M.len C.toList hy1 (fun j u hu=>by
  have e:(⟨g,0,none⟩:Addr).add j=⟨g,j,none⟩:=by unfold Addr.add;split<;>simp_all
  rw [e]
  simp [World.cell?,hg]
  simpa using hu) hy2 (by unfold maxLen;omega) (by omega) hbase
 have hkeep:∀b,j4j base X w o b->b<w.heap.size->w'.heap[b]?=w.heap[b]?/\j4j base X w' o' b:=fun b hs hl'=>
  ⟨g2.block b hl' (fun e=>hs.1.2.1 e.symm),⟨iZ hl' g2.size,fun e=>g3.elim (fun h'=>hs.1.2.1 (h'▸e)) fun h'=>by rw [h']at e;injection e with e;omega,hs.1.2.2⟩,hs.2⟩
 refine⟨o',w',hr,⟨xs++C.toList,by rw [Ns.len_app];exact g1,?_⟩,⟨g2.os,g2.tape,g2.output,g2.size,fun b hb'=>g2.block b (by omega) fun e=> ?_⟩,g2,g3⟩
 ·exact EachN.app L xs (h2.keep hkeep L xs) (hM.keep hkeep M C.toList)
 ·have:=(h1.lt b e.symm).1
  omega
theorem j3p{op:Oper}{a:Act}{w:World}{K:Act->World->Prop}{Q:Exit->Act->World->Prop}(s x:Operand)(ho:op.op=.call {callee:=.builtin .append,args:=#[s,x],argTypes:=#[58,58]})(base:Nat)(X:Nat->Prop)(o:Value)(L M:Ns)(hs:a.eval s=o)(hown:OwnX w base X o L)(g m:Nat)(ys:List Value)(C:Array Value)(tc:TypeId)(f:Nat×Nat)(hx:a.eval x=.slice (some ⟨g,0,none⟩) m m)(hm:m=M.len)(hg:w.heap[g]?=some (.cells C tc f))(hC:C.toList=ys)(hM:EachN w (j4j base X w o) M ys)(hl:L.len+M.len<=1000000000000)(hbase:base<=w.heap.size)(hX:¬X w.heap.size)(h:∀o' w',j6f w w' base X o o' (L.app M)->K (a.put op.dst o') w'):op.wp Tryz.prog a w K Q:=by
 subst hm
 obtain⟨o',w',hr,hG⟩:=j0n w base X o L M op.type g ys C tc f hown hg hC hM hl hbase hX
 unfold Oper.wp execOp
 simp only [ho,resolve,invoke,builtin,Sem.run_bind,Sem.run_pure,Result.andThen_ok,List.map_toArray,List.map_cons,List.map_nil,hs,hx,hr]
 exact h o' w' hG
section
open Go.RowKit
def wv(b:UInt32):Int:=(b.toNat:Int)
def ofW(z:Int):UInt32:=UInt32.ofNat (z % 4294967296).toNat
abbrev W32(b:UInt32):Value:=.int .u32 (wv b)
theorem j80(b:UInt32):0<=wv b:=Int.natCast_nonneg _
theorem j7z(b:UInt32):wv b<4294967296:=by have:=b.toNat_lt;unfold wv;omega
theorem j3s(b:UInt32):(wv b).toNat=b.toNat:=by simp [wv]
theorem Jl(z:Int):wv (ofW z)=z % 4294967296:=by
 unfold wv ofW
 rw [UInt32.toNat_ofNat']
 have:0<=z % 4294967296:=Int.emod_nonneg _ (by omega)
 have:z % 4294967296<4294967296:=Int.emod_lt_of_pos _ (by omega)
 omega
theorem j1j{a b:UInt32}(h:wv a=wv b):a=b:=UInt32.toNat_inj.1 (by unfold wv at h;omega)
theorem j6z(b:UInt32):ofW (wv b)=b:=j1j (by rw [Jl];have:=j80 b;have:=j7z b;omega)
theorem j7y{z:Int}(h0:0<=z)(h1:z<4294967296):wv (ofW z)=z:=by rw [Jl];omega
theorem j00{x y:Int}(h:x % 4294967296=y % 4294967296):ofW x=ofW y:=by unfold ofW;rw [h]
theorem j5p(x:Int):ofW (x % 4294967296)=ofW x:=j00 (by omega)
theorem j5o(x y:Int):ofW (x+y)=ofW x+ofW y:=by
 apply j1j
 rw [Jl]
 show _=((ofW x+ofW y).toNat:Int)
 rw [UInt32.toNat_add]
 have hx:=Jl x;have hy:=Jl y
 unfold wv at hx hy
 omega
theorem Y6(op:BinOp)(a a' b b':Int)(h:a % 4294967296=a' % 4294967296)(h':b % 4294967296=b' % 4294967296):bits op .u32 a b=bits op .u32 a' b':=by
 have e:∀x y:Int,x % 4294967296=y % 4294967296->BitVec.ofInt IntKind.u32.bits x=BitVec.ofInt IntKind.u32.bits y:=by
  intro x y h
  show BitVec.ofInt 32 x=BitVec.ofInt 32 y
  exact m46
 unfold bits
 rw [e _ _ h,e _ _ h']
theorem Kt(op:BinOp)(x y:Int):bits op .u32 x y=bits op .u32 (wv (ofW x)) (wv (ofW y)):=Y6 op _ _ _ _ (by rw [Jl];omega) (by rw [Jl];omega)
theorem j1g(x y:Int):bits .xor .u32 x y=wv (ofW x ^^^ ofW y):=by
 rw [Kt];unfold wv;rw [u32_xor_nat _ _ (UInt32.toNat_lt _) (UInt32.toNat_lt _),UInt32.toNat_xor]
theorem j1f(x y:Int):bits .and .u32 x y=wv (ofW x &&& ofW y):=by
 rw [Kt];unfold wv;rw [u32_and_nat _ _ (UInt32.toNat_lt _) (UInt32.toNat_lt _),UInt32.toNat_and]
theorem j3o(x y:Int):bits .or .u32 x y=wv (ofW x ||| ofW y):=by
 rw [Kt];unfold wv;rw [u32_or_nat _ _ (UInt32.toNat_lt _) (UInt32.toNat_lt _),UInt32.toNat_or]
theorem j43(a b:UInt32):(wv a==wv b)=(a==b):=by
 rw [Bool.eq_iff_iff,beq_iff_eq,beq_iff_eq];exact⟨j1j,fun h=>by rw [h]⟩
theorem j6j(a b:UInt32):(wv a != wv b)=(a != b):=by rw [bne,bne,j43]
theorem j67(x:Int):Value.int .u32 (x % 4294967296)=W32 (ofW x):=by show Value.int .u32 (x % 4294967296)=Value.int .u32 (wv (ofW x));rw [Jl]
theorem j74(a:UInt32)(z:Int)(h0:0<=z)(h1:z<4294967296):wv a / z=wv (a / ofW z):=by
 have h:=j7y h0 h1
 unfold wv at*
 rw [UInt32.toNat_div,Int.natCast_ediv,h]
attribute [simp] j1g j1f j3o j43 j6j j67 j74 j6z j5p j5o j3s
end
theorem jg{w:World}{g o:Nat}{C:Array Value}{t:TypeId}{f:Nat×Nat}{v:Value}(h:w.heap[g]?=some (.cells C t f)):(w.setCell ⟨g,o,none⟩ v).heap[g]?=some (.cells (C.set! o v) t f):=by
 unfold World.setCell
 simp [Array.getElem?_modify,h]
theorem zl(va vb:Value)(a b:List UInt8)(S S':Nat->Prop)(w:World)(ha:BsS w S va a)(hb:BsS w S' vb b)(hl:a.length+b.length<=140737488355000):
 Calls Tryz.prog 65 #[va,vb] w fun e w'=>∃v',e=.returned v'/\OwnB w' w.heap.size v' (a++b)/\Below w.heap.size w w':=by
 obtain⟨A,n,c,rfl⟩:∃A n c,va=.slice A n c:=by obtain⟨a,c,e,_⟩:=ha;exact⟨_,_,_,e⟩
 obtain⟨B,m,d,rfl⟩:∃A n c,vb=.slice A n c:=by obtain⟨a,c,e,_⟩:=hb;exact⟨_,_,_,e⟩
 have HA:=iH ha;have HB:=iH hb;have HL:=iH hl
 clear ha hb
 go_enter Tryz.func65,Tryz.ntmps65
 go_wp2_with(first
  |(at_builtin;(with_reducible refine je rfl (.tmp 6) (.tmp 7) rfl w.heap.size v1 a rfl HO1.out B m d b (fun g=>S' g/\g<w.heap.size) rfl HB1.out (by have:=HL.out;omega) HBW.out.size ?_);intro v2 w2 hG;have HO2:=iH hG.1;have HB2:=iH (HBW.out.trans hG.2.1);clear hG)
  |(at_builtin;(with_reducible refine je rfl (.const (.slice none 0 0)) (.tmp 5) rfl w.heap.size (.slice none 0 0) [] rfl (OwnB.nil _ _) A n c a S rfl HA.out (by have:=HL.out;simp only [List.length_nil];omega) iL ?_);intro v1 w1 hG;rw [List.nil_append]at hG;have HO1:=iH hG.1;have HBW:=iH hG.2.1;have HB1:Hid (BsS w1 (fun g=>S' g/\g<w.heap.size) (.slice B m d) b):=iH (BsS.keep HB.out fun g hs hl=>⟨hG.2.1.block g hl,hs,hl⟩);clear hG))
 go_ret
 exact⟨_,rfl,HO2.out,HB2.out⟩
theorem QS{ops:Array Oper}{rest:List Oper}{op:Oper}{a:Act}{w:World}{Q:Exit->Act->World->Prop}(hgd:op.guard=none)(s x:Operand)(ho:op.op=.call {callee:=.builtin .append,args:=#[s,x],argTypes:=#[27,3]})(base:Nat)(v:Value)(l:List UInt8)(hs:a.eval s=v)(hown:OwnB w base v l)(k:Nat)(hk:0<k)(hx:a.eval x=.int .i64 k)(hl:l.length+k<=140737488355328)(hbase:base<=w.heap.size)(h:∀v' w',OwnB w' base v' (l++List.replicate k 0)->Below base w w'->wpList Tryz.prog ops Q rest (a.put op.dst v') w'):wpList Tryz.prog ops Q (op :: rest) a w:=by
 obtain⟨v',w',hr,ho',hg⟩:=xI (P:=Tryz.prog) w base 27 3 op.type 5 (.int .u8 0) 1 .i64 .i64 Tryz.underlying27 Tryz.underlying3 kJ rfl rfl (by omega) v l.length (l.map U8) hown k hk (by omega) hbase
 refine wpList_plain hgd fun K hK=> ?_
 unfold Oper.wp execOp
 simp only [ho,resolve,invoke,builtin,Sem.run_bind,Sem.run_pure,Result.andThen_ok,List.map_toArray,List.map_cons,List.map_nil,hs,hx,hr]
 refine hK _ _ (h v' w' ?_ (jn hown hg iL hbase))
 show w'.ownsRow base 5 1 v' (l++List.replicate k 0).length ((l++List.replicate k 0).map U8)
 rw [List.length_append,List.length_replicate,List.map_append,List.map_replicate]
 exact ho'
theorem OwnB.none_of{w:World}{base n c:Nat}{A:Option Addr}{l:List UInt8}(h:OwnB w base (.slice A n c) l)(h0:0<l.length):OwnB w base (.slice A 0 c) []:=by
 rcases h.2 with ⟨_,h1⟩|⟨g,cap,cur,hv,hb,hh,_,hm,hs,_⟩
 ·omega
 ·obtain⟨rfl,_,rfl⟩:=Value.slice.inj hv
  exact⟨rfl,.inr ⟨g,c,cur,rfl,hb,hh,Nat.zero_le _,hm,hs,by simp⟩⟩
theorem j29(n:Nat)(hn:n<=140737488355328)(w:World):Calls Tryz.prog 117 #[.slice none 0 0,.int .i64 n] w fun e w'=>∃v',e=.returned v'/\OwnB w' w.heap.size v' []/\Below w.heap.size w w':=by
 have hn2:(n:Int)<=140737488355328:=by omega
 by_cases h0:n=0
 ·subst h0
  go_enter Tryz.func117,Tryz.ntmps117
  go_wp2_with fail
  go_ret
  exact⟨_,rfl,OwnB.nil _ _,Below.refl _ _⟩
 ·have hp:(n:Int)>0:=by omega
  have HN:=iH hn
  have HP:Hid (0<n):=iH (by omega)
  clear h0
  go_enter Tryz.func117,Tryz.ntmps117
  go_wp2_with(at_builtin;(with_reducible refine QS rfl (.tmp 20) (.tmp 21) rfl w.heap.size (.slice none 0 0) [] rfl (OwnB.nil _ _) n HP.out rfl (by have:=HN.out;simp only [List.length_nil];omega) iL ?_);intro v1 w1 ho hb;obtain⟨A1,c1,e1⟩:=ho.form;rw [List.nil_append,List.length_replicate]at e1;subst e1;have HO1:=iH (OwnB.none_of ho (by rw [List.nil_append,List.length_replicate];exact HP.out));have HB1:=iH hb;clear ho hb)
  go_ret
  exact⟨_,rfl,HO1.out,HB1.out⟩
def Kv(L:List (Value×List UInt8)):List UInt8:=(L.map (·.2)).flatten
theorem JI(L:List (Value×List UInt8))(p:Value×List UInt8):Kv (L++ [p])=Kv L++p.2:=by simp [Kv]
theorem Yb(L M:List (Value×List UInt8)):(Kv (L++M)).length=(Kv L).length+(Kv M).length:=by simp [Kv]
theorem U7(L:List (Value×List UInt8))(g:Nat)(S:Nat->Prop)(w:World)(t:TypeId)(hg:w.heap[g]?=some (.cells (L.map (·.1)).toArray t (0,0)))(hb:∀p∈L,BsS w S p.1 p.2)(hl:(Kv L).length<=140737488355000)(hn:L.length<=1000):
 Calls Tryz.prog 89 #[.slice (some ⟨g,0,none⟩) L.length L.length] w fun e w'=>∃v',e=.returned v'/\OwnB w' w.heap.size v' (Kv L)/\Below w.heap.size w w':=by
 have hgl:=(iG hg)
 have HC:Hid (∀j (h:j<L.length),w.cell? ⟨g,j,none⟩=some L[j].1):=iH (fun j h=>by
  rw [cell_of_row _ _ _ _ _ _ hg]
  simp [h])
 have HB:=iH hb;have HL:=iH hl
 clear hg hb
 go_enter Tryz.func89,Tryz.ntmps89
 go_wp2_with fail
 go_loopg [3,11] L.length (fun m sv iv wr=>∃(D R:List (Value×List UInt8)) (N:Nat),R.length=m/\N=(Kv D).length/\sv=.int .i64 (N:Int)/\iv=.int .i64 D.length/\D.length+R.length=L.length/\Hid (D++R=L)/\w=wr)
 case atStart=>exact⟨[],L,0,rfl,rfl,rfl,rfl,by simp,rfl,rfl⟩
 case round=>
  obtain⟨D,R,N,rfl,hN,rfl,rfl,hj,hab,rfl⟩:=hrel
  cases R with
  |nil=>
   have hD:D=L:=by have:=hab.out;rwa [List.append_nil]at this
   have hN2:N<=140737488355000:=by rw [hN,hD];exact hl
   have hN3:(N:Int)<=140737488355000:=by omega
   have HG:=iH (j29 N (by omega) w)
   simp only [List.length_nil,Nat.add_zero]at hj
   clear hab hN hD hN2
   go_wp2_with(go_at_call 117;refine HG.out.mono ?_;rintro e w1 ⟨v1,rfl,ho,hb1⟩;obtain⟨A1,c1,rfl⟩:∃A c,v1=.slice A 0 c:=ho.form;have HO1:=iH ho;have HB1:=iH hb1;clear ho hb1)
   go_loopg [6,27] L.length (fun m ov iv wr=>∃(D R:List (Value×List UInt8)) (N:Nat) (A c:_),R.length=m/\N=(Kv D).length/\ov=.slice A N c/\iv=.int .i64 D.length/\D.length+R.length=L.length/\Hid (D++R=L)/\Hid (OwnB wr w.heap.size (.slice A N c) (Kv D))/\Below w.heap.size w wr)
   case atStart=>exact⟨[],L,0,A1,c1,rfl,rfl,rfl,rfl,by simp,rfl,HO1,HB1.out⟩
   case round=>
    obtain⟨D,R,N,A2,c2,rfl,hN,rfl,rfl,hj,hab,HO2,hbr⟩:=hrel
    have HBR:=iH hbr
    cases R with
    |nil=>
     have hD:D=L:=by have:=hab.out;rwa [List.append_nil]at this
     simp only [List.length_nil,Nat.add_zero]at hj
     clear hab hN
     go_wp2_with fail
     go_ret
     rw [hD]at HO2
     exact⟨_,rfl,HO2.out,HBR.out⟩
    |cons p R=>
     obtain⟨x,l⟩:=p
     simp only [List.length_cons]at hj
     have hlt:D.length<L.length:=by omega
     have hlt':(D.length:Int)<L.length:=by omega
     have c0:=HC.out D.length hlt
     have en:L[D.length]=(x,l):=by simp [<-hab.out]
     rw [en]at c0
     have hx:=HB.out (x,l) (by rw [<-hab.out];simp)
     obtain⟨ax,cx,hxe,_⟩:=id hx
     dsimp only at hxe
     subst hxe
     have q0:=(hbr.cell (p:=⟨g,D.length,none⟩) hgl).trans c0
     have HX:Hid (BsS wr (fun b=>S b/\b<w.heap.size) (.slice ax l.length cx) l):=iH (BsS.keep hx fun b hs hl=>⟨hbr.block b hl,hs,hl⟩)
     have hlen:(Kv D).length+l.length<=140737488355000:=by
      exact m32
     have HLN:=iH hlen
     have HNN:=iH hN
     have HAB:Hid (D++ [(.slice ax l.length cx,l)]++R=L):=iH (by rw [List.append_assoc];exact hab.out)
     clear en hx c0 hab hbr hN hlen
     go_wp2_with(at_builtin;(with_reducible refine je rfl (.tmp 31) (.tmp 32) rfl w.heap.size (.slice A2 N c2) (Kv D) rfl HO2.out ax l.length cx l (fun b=>S b/\b<w.heap.size) rfl HX.out (by have:=HLN.out;omega) HBR.out.size ?_);intro o3 w3 hG;obtain⟨A3,c3,e3⟩:=hG.1.form;rw [List.length_append,<-HNN.out]at e3;subst e3;have HO3:=iH hG.1;have HB3:=iH (HBR.out.trans hG.2.1);clear hG)
     go_roundg R.length
     case measure=>simp
     case rel=>exact⟨D++ [(.slice ax l.length cx,l)],R,N+l.length,A3,c3,rfl,by rw [JI,List.length_append,HNN.out],rfl,by rw [List.length_append,List.length_singleton];go_num,by rw [List.length_append,List.length_singleton];omega,HAB,iH (by rw [JI];exact HO3.out),HB3.out⟩
  |cons p R=>
   obtain⟨x,l⟩:=p
   simp only [List.length_cons]at hj
   have hlt:D.length<L.length:=by omega
   have hlt':(D.length:Int)<L.length:=by omega
   have c0:=HC.out D.length hlt
   have en:L[D.length]=(x,l):=by simp [<-hab.out]
   rw [en]at c0
   have hx:=HB.out (x,l) (by rw [<-hab.out];simp)
   obtain⟨ax,cx,hxe,_⟩:=hx
   dsimp only at hxe
   subst hxe
   have hlen:(Kv D).length+l.length<=140737488355000:=by
    exact m32
   have hN2:N+l.length<=140737488355000:=by rw [hN];exact hlen
   have HNN:=iH hN
   have HAB:Hid (D++ [(.slice ax l.length cx,l)]++R=L):=iH (by rw [List.append_assoc];exact hab.out)
   clear en hab hN hlen
   go_wp2_with fail
   go_roundg R.length
   case measure=>simp
   case rel=>exact⟨D++ [(.slice ax l.length cx,l)],R,N+l.length,rfl,by rw [JI,List.length_append,HNN.out],by go_num,by rw [List.length_append,List.length_singleton];go_num,by rw [List.length_append,List.length_singleton];omega,HAB,rfl⟩
theorem j7{w:World}{p:Nat}{a b c:Value}{t:TypeId}(h:w.heap[p]?=some (.cells #[a,b,c] t (0,0))):
 w.cell? ⟨p,0,none⟩=some a/\w.cell? ⟨p,1,none⟩=some b/\w.cell? ⟨p,2,none⟩=some c/\∀o,w.frozen? ⟨p,o,none⟩=false:=by
 have key:∀o v,#[a,b,c][o]?=some v->w.cell? ⟨p,o,none⟩=some v:=fun o v e=>by rw [cell_of_row _ _ _ _ _ _ h];exact e
 exact⟨key 0 _ rfl,key 1 _ rfl,key 2 _ rfl,fun o=>by simp [World.frozen?,h]⟩
def set3(w:World)(g:Nat)(a b c:Value):World:=((w.setCell ⟨g,0,none⟩ a).setCell ⟨g,1,none⟩ b).setCell ⟨g,2,none⟩ c
theorem qa{w:World}{g:Nat}{x y z:Value}{t:TypeId}(a b c:Value)(h:w.heap[g]?=some (.cells #[x,y,z] t (0,0))):(set3 w g a b c).heap[g]?=some (.cells #[a,b,c] t (0,0)):=
 jg (o:=2) (jg (o:=1) (jg (o:=0) h))
theorem kV{w w':World}{B g:Nat}{a b c:Value}(h:Below B w w')(hg:B<=g):Below B w (set3 w' g a b c):=((h.setCell hg _).setCell hg _).setCell hg _
theorem jC{w:World}{g j:Nat}{a b c:Value}(h:j≠g):(set3 w g a b c).heap[j]?=w.heap[j]? :=by
 unfold set3
 rw [iO (by exact h),iO (by exact h),iO (by exact h)]
def qs(w:World)(S:Nat->Prop)(v:Value)(k1 k2:List UInt8)(n:Int):Prop:=∃a b,v=.agg #[a,b,.int .i64 n]/\BsS w S a k1/\BsS w S b k2
theorem xP(w:World):(w.alloc (.cells #[.slice none 0 0,.slice none 0 0,.int .i64 0] 29)).heap[w.heap.size]?=some (.cells #[.slice none 0 0,.slice none 0 0,.int .i64 0] 29 (0,0)):=iN
abbrev j53(w:World)(a b c:Value):World:=w.alloc (.cells #[a,b,c] 29)
theorem j20(w:World)(a b c:Value):(j53 w a b c).heap[w.heap.size]?=some (.cells #[a,b,c] 29 (0,0)):=iN
theorem YZ{w w':World}(h:Below w.heap.size w w'){a b c:Value}:Below w.heap.size w (j53 w' a b c):=h.alloc h.size _
theorem Zi(w:World)(a b c:Value):Below w.heap.size w (j53 w a b c):=YZ iB
def VW(w:World)(L:List (Value×List UInt8)):Prop:=∀x∈L,Bs w w.heap.size x.1 x.2
theorem VW.nil{w:World}:VW w []:=fun _ h=>by simp at h
theorem VW.on{w wq:World}{L:List (Value×List UInt8)}(h:VW w L)(hb:Below w.heap.size w wq):VW wq L:=fun x hx=>(h x hx).lift hb
section
variable{w:World}{L:List (Value×List UInt8)}(h:VW w L)
include w L h
theorem VW.add{v:Value}{l:List UInt8}{S:Nat->Prop}(hS:∀b,S b->b<w.heap.size)(hv:BsS w S v l):VW w ((v,l) :: L):=fun x hx=>by
 rcases List.mem_cons.1 hx with rfl|hx
 ·exact BsS.keep hv fun g hs _=>⟨rfl,hS g hs⟩
 ·exact h x hx
theorem VW.at(i:Nat){v:Value}{l:List UInt8}(hi:L[i]?=some (v,l)):Bs w w.heap.size v l:=h (v,l) (List.mem_of_getElem? hi)
end
theorem j5e(A B:Option Addr)(n m c d:Nat)(k:Int):∀(i:Nat) (x:UInt8),(#[.slice A n c,.slice B m d,.int .i64 k]:Array Value)[i]? ≠some (U8 x):=by
 intro i x
 rcases i with _|_|_|i
 all_goals
  simp
theorem Bs.formL{w:World}{S:Nat->Prop}{v:Value}{l:List UInt8}(h:BsS w S v l):∃A c,v=.slice A l.length c:=by
 obtain⟨a,c,e,_⟩:=h
 exact⟨a,c,e⟩
theorem OwnB.rd{w w':World}{v:Value}{l:List UInt8}(h:OwnB w' w.heap.size v l)(hl:l.length<=140737488355328):Bs w' w'.heap.size v l:=(h.out hl w iL).keep fun _ hs _=>⟨rfl,hs.2⟩
theorem BsS.rd{w w':World}{v:Value}{l:List UInt8}(h:BsS w' (New w w') v l):Bs w' w'.heap.size v l:=h.keep fun _ hs _=>⟨rfl,hs.2⟩
theorem Bs.setr{w:World}{v:Value}{l:List UInt8}(h:Bs w w.heap.size v l){z k:Nat}{C:Array Value}{t:TypeId}{f:Nat×Nat}(u:Value)(hz:w.heap[z]?=some (.cells C t f))(hC:∀(i:Nat) (x:UInt8),C[i]? ≠some (U8 x)):Bs (w.setCell ⟨z,k,none⟩ u) (w.setCell ⟨z,k,none⟩ u).heap.size v l:=
 BsS.keep (h.off hz hC) fun g hs _=>⟨iO hs.2,by simpa using hs.1⟩
theorem ki{w:World}{p:Nat}{a b c d:Value}{t:TypeId}(h:w.heap[p]?=some (.cells #[a,b,c,d] t (0,0))):
 w.cell? ⟨p,0,none⟩=some a/\w.cell? ⟨p,1,none⟩=some b/\w.cell? ⟨p,2,none⟩=some c/\w.cell? ⟨p,3,none⟩=some d/\∀o,w.frozen? ⟨p,o,none⟩=false:=by
 have key:∀o v,#[a,b,c,d][o]?=some v->w.cell? ⟨p,o,none⟩=some v:=fun o v e=>by rw [cell_of_row _ _ _ _ _ _ h];exact e
 exact⟨key 0 _ rfl,key 1 _ rfl,key 2 _ rfl,key 3 _ rfl,fun o=>by simp [World.frozen?,h]⟩
def j0t(w:World)(g:Nat)(a b c d:Value):World:=(((w.setCell ⟨g,0,none⟩ a).setCell ⟨g,1,none⟩ b).setCell ⟨g,2,none⟩ c).setCell ⟨g,3,none⟩ d
theorem YK{w:World}{g:Nat}{x y z u:Value}{t:TypeId}(a b c d:Value)(h:w.heap[g]?=some (.cells #[x,y,z,u] t (0,0))):(j0t w g a b c d).heap[g]?=some (.cells #[a,b,c,d] t (0,0)):=
 jg (o:=3) (jg (o:=2) (jg (o:=1) (jg (o:=0) h)))
theorem J7{w:World}{g j:Nat}{a b c d:Value}(h:j≠g):(j0t w g a b c d).heap[j]?=w.heap[j]? :=by
 unfold j0t
 rw [iO (by exact h),iO (by exact h),iO (by exact h),iO (by exact h)]
theorem Q1{w w':World}{B g:Nat}{a b c d:Value}(h:Below B w w')(hg:B<=g):Below B w (j0t w' g a b c d):=(((h.setCell hg _).setCell hg _).setCell hg _).setCell hg _
theorem Kn(w:World)(g:Nat)(a b c d:Value):(j0t w g a b c d).heap.size=w.heap.size:=by simp [j0t]
def noB(C:Array Value):Prop:=∀(i:Nat) (x:UInt8),C[i]? ≠some (U8 x)
theorem j7q{a b c d:Value}(ha:∀x,a≠U8 x)(hb:∀x,b≠U8 x)(hc:∀x,c≠U8 x)(hd:∀x,d≠U8 x):noB #[a,b,c,d]:=by
 intro i x
 rcases i with _|_|_|_|i
 ·simpa using ha x
 ·simpa using hb x
 ·simpa using hc x
 ·simpa using hd x
 ·simp
structure Cm where
 cl:Int
 ins:Int
 p1:Int
 p2:Int
 data:List UInt8
 ex:Int
def Jm(w:World)(S:Nat->Prop)(v:Value)(c:Cm):Prop:=∃d,v=.agg #[.int .i64 c.cl,.int .i64 c.ins,.int .i64 c.p1,.int .i64 c.p2,d,.int .i64 c.ex]/\BsS w S d c.data
def QU(w:World)(S:Nat->Prop)(v:Value)(l:List UInt8)(st:Int):Prop:=∃d,v=.agg #[d,.int .i64 st]/\BsS w S d l
end Go.Proofs.YtadndhgebgjlaaaGreat
