/- Rows of objects of the call's own whose bytes lie outside of some blocks; append of any number of objects; Facts on words as the walk meets them: the operati... -/
import Derived.Deep.DeepCutAuto
import Derived.Lib.BitFns
import Derived.Lib.Slices
import Derived.Lib.Small
import Derived.Lib.Strings
import Derived.Lib.Walk
import Derived.Test.YtadndhgebgjlaaaGreatChecked
import Derived.Test.YtadndhgebgjlaaaGreatPt
import Derived.Test.YtadndhgebgjlaaaGreatPs
import Derived.Test.YtadndhgebgjlaaaGreatPr
set_option maxRecDepth 100000
set_option maxHeartbeats 4000000
namespace Go.Proofs.YtadndhgebgjlaaaGreat
open Go.RowKit Go.Deep
theorem BsS.off{w:World}{S:Nat->Prop}{v:Value}{l:List UInt8}{z:Nat}{C:Array Value}{t:TypeId}{f:Nat×Nat}(h:BsS w S v l)(hz:w.heap[z]?=some (.cells C t f)) (hC:∀(i:Nat) (x:UInt8),C[i]? ≠some (U8 x)):BsS w (fun b=>S b/\b≠z) v l:=by
 obtain⟨a,c,e,h1,h2,h3,h4⟩:=h
 refine⟨a,c,e,h1,h2,h3,fun h0=> ?_⟩
 obtain⟨b,off,ea,hb,hc⟩:=h4 h0
 refine⟨b,off,ea,⟨hb,fun e=> ?_⟩,hc⟩
 subst e
 have:=hc 0 h0
 rw [cell_of_row _ _ _ _ _ _ hz]at this
 exact hC _ _ this
section
open Go.RowKit
def wv(b:UInt32):Int:=(b.toNat:Int)
def ofW(z:Int):UInt32:=UInt32.ofNat (z % 4294967296).toNat
abbrev W32(b:UInt32):Value:=.int .u32 (wv b)
theorem j63(b:UInt32):0<=wv b:=Int.natCast_nonneg _
theorem j64(b:UInt32):wv b<4294967296:=by have:=b.toNat_lt;unfold wv;omega
theorem j1e(b:UInt32):(wv b).toNat=b.toNat:=by simp [wv]
theorem yK(z:Int):wv (ofW z)=z % 4294967296:=by
 unfold wv ofW
 rw [UInt32.toNat_ofNat']
 have:0<=z % 4294967296:=Int.emod_nonneg _ (by omega)
 have:z % 4294967296<4294967296:=Int.emod_lt_of_pos _ (by omega)
 omega
theorem Vy{a b:UInt32}(h:wv a=wv b):a=b:=UInt32.toNat_inj.1 (by unfold wv at h;omega)
theorem j51(b:UInt32):ofW (wv b)=b:=Vy (by rw [yK];have:=j63 b;have:=j64 b;omega)
theorem j5j{z:Int}(h0:0<=z)(h1:z<4294967296):wv (ofW z)=z:=by rw [yK];omega
theorem VM{x y:Int}(h:x % 4294967296=y % 4294967296):ofW x=ofW y:=by unfold ofW;rw [h]
theorem j33(x:Int):ofW (x % 4294967296)=ofW x:=VM (by omega)
theorem j2t(x y:Int):ofW (x+y)=ofW x+ofW y:=by
 apply Vy
 rw [yK]
 show _=((ofW x+ofW y).toNat:Int)
 rw [UInt32.toNat_add]
 have hx:=yK x;have hy:=yK y
 unfold wv at hx hy
 omega
theorem XH(op:BinOp)(a a' b b':Int)(h:a % 4294967296=a' % 4294967296)(h':b % 4294967296=b' % 4294967296):bits op .u32 a b=bits op .u32 a' b':=by
 have e:∀x y:Int,x % 4294967296=y % 4294967296->BitVec.ofInt IntKind.u32.bits x=BitVec.ofInt IntKind.u32.bits y:=by
  intro x y h
  show BitVec.ofInt 32 x=BitVec.ofInt 32 y
  apply BitVec.eq_of_toNat_eq
  simp only [BitVec.toNat_ofInt]
  omega
 unfold bits
 rw [e _ _ h,e _ _ h']
theorem Jv(op:BinOp)(x y:Int):bits op .u32 x y=bits op .u32 (wv (ofW x)) (wv (ofW y)):=XH op _ _ _ _ (by rw [yK];omega) (by rw [yK];omega)
theorem UF(x y:Int):bits .xor .u32 x y=wv (ofW x ^^^ ofW y):=by
 rw [Jv];unfold wv;rw [u32_xor_nat _ _ (UInt32.toNat_lt _) (UInt32.toNat_lt _),UInt32.toNat_xor]
theorem UX(x y:Int):bits .and .u32 x y=wv (ofW x &&& ofW y):=by
 rw [Jv];unfold wv;rw [u32_and_nat _ _ (UInt32.toNat_lt _) (UInt32.toNat_lt _),UInt32.toNat_and]
theorem j04(x y:Int):bits .or .u32 x y=wv (ofW x ||| ofW y):=by
 rw [Jv];unfold wv;rw [u32_or_nat _ _ (UInt32.toNat_lt _) (UInt32.toNat_lt _),UInt32.toNat_or]
theorem j2k(a b:UInt32):(wv a==wv b)=(a==b):=by
 rw [Bool.eq_iff_iff,beq_iff_eq,beq_iff_eq];exact⟨Vy,fun h=>by rw [h]⟩
theorem j4n(a b:UInt32):(wv a != wv b)=(a != b):=by rw [bne,bne,j2k]
theorem j4c(x:Int):Value.int .u32 (x % 4294967296)=W32 (ofW x):=by show Value.int .u32 (x % 4294967296)=Value.int .u32 (wv (ofW x));rw [yK]
theorem j4p(a:UInt32)(z:Int)(h0:0<=z)(h1:z<4294967296):wv a / z=wv (a / ofW z):=by
 have h:=j5j h0 h1
 unfold wv at*
 rw [UInt32.toNat_div,Int.natCast_ediv,h]
attribute [simp] UF UX j04 j2k j4n j4c j4p j51 j33 j2t j1e
end
theorem ja{w:World}{g o:Nat}{C:Array Value}{t:TypeId}{f:Nat×Nat}{v:Value}(h:w.heap[g]?=some (.cells C t f)):(w.setCell ⟨g,o,none⟩ v).heap[g]?=some (.cells (C.set! o v) t f):=by
 unfold World.setCell
 simp [Array.getElem?_modify,h]
theorem zu(va vb:Value)(a b:List UInt8)(S S':Nat->Prop)(w:World)(ha:BsS w S va a)(hb:BsS w S' vb b)(hl:a.length+b.length<=140737488355000):
 Calls Tryz.prog 65 #[va,vb] w fun e w'=>∃v',e=.returned v'/\OwnB w' w.heap.size v' (a++b)/\Below w.heap.size w w':=by
 obtain⟨A,n,c,rfl⟩:∃A n c,va=.slice A n c:=by obtain⟨a,c,e,_⟩:=ha;exact⟨_,_,_,e⟩
 obtain⟨B,m,d,rfl⟩:∃A n c,vb=.slice A n c:=by obtain⟨a,c,e,_⟩:=hb;exact⟨_,_,_,e⟩
 have HA:=iH ha;have HB:=iH hb;have HL:=iH hl
 clear ha hb
 go_enter Tryz.func65,Tryz.ntmps65
 go_wp2_with(first
  |(at_builtin;(with_reducible refine jb rfl (.tmp 6) (.tmp 7) rfl w.heap.size v1 a rfl HO1.out B m d b (fun g=>S' g/\g<w.heap.size) rfl HB1.out (by have:=HL.out;omega) HBW.out.size ?_);intro v2 w2 hG;have HO2:=iH hG.1;have HB2:=iH (HBW.out.trans hG.2.1);clear hG)
  |(at_builtin;(with_reducible refine jb rfl (.const (.slice none 0 0)) (.tmp 5) rfl w.heap.size (.slice none 0 0) [] rfl (OwnB.nil _ _) A n c a S rfl HA.out (by have:=HL.out;simp only [List.length_nil];omega) iL ?_);intro v1 w1 hG;rw [List.nil_append]at hG;have HO1:=iH hG.1;have HBW:=iH hG.2.1;have HB1:Hid (BsS w1 (fun g=>S' g/\g<w.heap.size) (.slice B m d) b):=iH (BsS.keep HB.out fun g hs hl=>⟨hG.2.1.block g hl,hs,hl⟩);clear hG))
 go_ret
 exact⟨_,rfl,HO2.out,HB2.out⟩
theorem Q1{ops:Array Oper}{rest:List Oper}{op:Oper}{a:Act}{w:World}{Q:Exit->Act->World->Prop}(hgd:op.guard=none)(s x:Operand)
 (ho:op.op=.call {callee:=.builtin .append,args:=#[s,x],argTypes:=#[27,3]})
 (base:Nat) (v:Value) (l:List UInt8) (hs:a.eval s=v) (hown:OwnB w base v l) (k:Nat) (hk:0<k) (hx:a.eval x=.int .i64 k) (hl:l.length+k<=140737488355328) (hbase:base<=w.heap.size)
 (h:∀v' w',OwnB w' base v' (l++List.replicate k 0)->Below base w w'->wpList Tryz.prog ops Q rest (a.put op.dst v') w'):wpList Tryz.prog ops Q (op :: rest) a w:=by
 obtain⟨v',w',hr,ho',hg⟩:=xk (P:=Tryz.prog) w base 27 3 op.type 5 (.int .u8 0) 1 .i64 .i64 Tryz.underlying27 Tryz.underlying3 ku rfl rfl (by omega) v l.length (l.map U8) hown k hk (by omega) hbase
 refine wpList_plain hgd fun K hK=> ?_
 unfold Oper.wp execOp
 simp only [ho,resolve,invoke,builtin,Sem.run_bind,Sem.run_pure,Result.andThen_ok,List.map_toArray,List.map_cons,List.map_nil,hs,hx,hr]
 refine hK _ _ (h v' w' ?_ (jj hown hg iL hbase))
 show w'.ownsRow base 5 1 v' (l++List.replicate k 0).length ((l++List.replicate k 0).map U8)
 rw [List.length_append,List.length_replicate,List.map_append,List.map_replicate]
 exact ho'
theorem OwnB.none_of{w:World}{base n c:Nat}{A:Option Addr}{l:List UInt8}(h:OwnB w base (.slice A n c) l)(h0:0<l.length):OwnB w base (.slice A 0 c) []:=by
 rcases h.2 with ⟨_,h1⟩|⟨g,cap,cur,hv,hb,hh,_,hm,hs,_⟩
 ·omega
 ·obtain⟨rfl,_,rfl⟩:=Value.slice.inj hv
  exact⟨rfl,.inr ⟨g,c,cur,rfl,hb,hh,Nat.zero_le _,hm,hs,by simp⟩⟩
theorem j19(n:Nat)(hn:n<=140737488355328)(w:World):Calls Tryz.prog 117 #[.slice none 0 0,.int .i64 n] w fun e w'=>∃v',e=.returned v'/\OwnB w' w.heap.size v' []/\Below w.heap.size w w':=by
 have hn2:(n:Int)<=140737488355328:=by omega
 by_cases h0:n=0
 ·subst h0
  go_enter Tryz.func117,Tryz.ntmps117
  go_wp2_with fail
  go_ret
  exact⟨_,rfl,OwnB.nil _ _,Below.refl _ _⟩
 ·have hp:(n:Int)>0:=by omega
  have HN:=iH hn
  have HP:Hid (0<n):=iH (by omega)
  clear h0
  go_enter Tryz.func117,Tryz.ntmps117
  go_wp2_with(at_builtin;(with_reducible refine Q1 rfl (.tmp 20) (.tmp 21) rfl w.heap.size (.slice none 0 0) [] rfl (OwnB.nil _ _) n HP.out rfl (by have:=HN.out;simp only [List.length_nil];omega) iL ?_);intro v1 w1 ho hb;obtain⟨A1,c1,e1⟩:=ho.form;rw [List.nil_append,List.length_replicate]at e1;subst e1;have HO1:=iH (OwnB.none_of ho (by rw [List.nil_append,List.length_replicate];exact HP.out));have HB1:=iH hb;clear ho hb)
  go_ret
  exact⟨_,rfl,HO1.out,HB1.out⟩
def JU(L:List (Value×List UInt8)):List UInt8:=(L.map (·.2)).flatten
theorem JQ(L:List (Value×List UInt8))(p:Value×List UInt8):JU (L++ [p])=JU L++p.2:=by simp [JU]
theorem Zg(L M:List (Value×List UInt8)):(JU (L++M)).length=(JU L).length+(JU M).length:=by simp [JU]
theorem ZQ(L:List (Value×List UInt8))(g:Nat)(S:Nat->Prop)(w:World)(t:TypeId)(hg:w.heap[g]?=some (.cells (L.map (·.1)).toArray t (0,0))) (hb:∀p∈L,BsS w S p.1 p.2) (hl:(JU L).length<=140737488355000) (hn:L.length<=1000):
 Calls Tryz.prog 89 #[.slice (some ⟨g,0,none⟩) L.length L.length] w fun e w'=>∃v',e=.returned v'/\OwnB w' w.heap.size v' (JU L)/\Below w.heap.size w w':=by
 have hgl:=(iG hg)
 have HC:Hid (∀j (h:j<L.length),w.cell? ⟨g,j,none⟩=some L[j].1):=iH (fun j h=>by
  rw [cell_of_row _ _ _ _ _ _ hg]
  simp [h])
 have HB:=iH hb;have HL:=iH hl
 clear hg hb
 go_enter Tryz.func89,Tryz.ntmps89
 go_wp2_with fail
 go_loopg [3,11] L.length (fun m sv iv wr=>∃(D R:List (Value×List UInt8)) (N:Nat),R.length=m/\N=(JU D).length/\sv=.int .i64 (N:Int)/\iv=.int .i64 D.length/\D.length+R.length=L.length/\Hid (D++R=L)/\w=wr)
 case atStart=>exact⟨[],L,0,rfl,rfl,rfl,rfl,by simp,rfl,rfl⟩
 case round=>
  obtain⟨D,R,N,rfl,hN,rfl,rfl,hj,hab,rfl⟩:=hrel
  cases R with
  |nil=>
   have hD:D=L:=by have:=hab.out;rwa [List.append_nil]at this
   have hN2:N<=140737488355000:=by rw [hN,hD];exact hl
   have hN3:(N:Int)<=140737488355000:=by omega
   have HG:=iH (j19 N (by omega) w)
   simp only [List.length_nil,Nat.add_zero]at hj
   clear hab hN hD hN2
   go_wp2_with(go_at_call 117;refine HG.out.mono ?_;rintro e w1 ⟨v1,rfl,ho,hb1⟩;obtain⟨A1,c1,rfl⟩:∃A c,v1=.slice A 0 c:=ho.form;have HO1:=iH ho;have HB1:=iH hb1;clear ho hb1)
   go_loopg [6,27] L.length (fun m ov iv wr=>∃(D R:List (Value×List UInt8)) (N:Nat) (A c:_),R.length=m/\N=(JU D).length/\ov=.slice A N c/\iv=.int .i64 D.length/\D.length+R.length=L.length/\Hid (D++R=L)/\Hid (OwnB wr w.heap.size (.slice A N c) (JU D))/\Below w.heap.size w wr)
   case atStart=>exact⟨[],L,0,A1,c1,rfl,rfl,rfl,rfl,by simp,rfl,HO1,HB1.out⟩
   case round=>
    obtain⟨D,R,N,A2,c2,rfl,hN,rfl,rfl,hj,hab,HO2,hbr⟩:=hrel
    have HBR:=iH hbr
    cases R with
    |nil=>
     have hD:D=L:=by have:=hab.out;rwa [List.append_nil]at this
     simp only [List.length_nil,Nat.add_zero]at hj
     clear hab hN
     go_wp2_with fail
     go_ret
     rw [hD]at HO2
     exact⟨_,rfl,HO2.out,HBR.out⟩
    |cons p R=>
     obtain⟨x,l⟩:=p
     simp only [List.length_cons]at hj
     have hlt:D.length<L.length:=by omega
     have hlt':(D.length:Int)<L.length:=by omega
     have c0:=HC.out D.length hlt
     have en:L[D.length]=(x,l):=by simp [<-hab.out]
     rw [en]at c0
     have hx:=HB.out (x,l) (by rw [<-hab.out];simp)
     obtain⟨ax,cx,hxe,_⟩:=id hx
     dsimp only at hxe
     subst hxe
     have q0:=(hbr.cell (p:=⟨g,D.length,none⟩) hgl).trans c0
     have HX:Hid (BsS wr (fun b=>S b/\b<w.heap.size) (.slice ax l.length cx) l):=iH (BsS.keep hx fun b hs hl=>⟨hbr.block b hl,hs,hl⟩)
     have hlen:(JU D).length+l.length<=140737488355000:=by
      have h:=HL.out
      rw [<-hab.out,Zg]at h
      have h2:l.length<=(JU ((.slice ax l.length cx,l) :: R)).length:=by simp [JU]
      omega
     have HLN:=iH hlen
     have HNN:=iH hN
     have HAB:Hid (D++ [(.slice ax l.length cx,l)]++R=L):=iH (by rw [List.append_assoc];exact hab.out)
     clear en hx c0 hab hbr hN hlen
     go_wp2_with(at_builtin;(with_reducible refine jb rfl (.tmp 31) (.tmp 32) rfl w.heap.size (.slice A2 N c2) (JU D) rfl HO2.out ax l.length cx l (fun b=>S b/\b<w.heap.size) rfl HX.out (by have:=HLN.out;omega) HBR.out.size ?_);intro o3 w3 hG;obtain⟨A3,c3,e3⟩:=hG.1.form;rw [List.length_append,<-HNN.out]at e3;subst e3;have HO3:=iH hG.1;have HB3:=iH (HBR.out.trans hG.2.1);clear hG)
     go_roundg R.length
     case measure=>simp
     case rel=>exact⟨D++ [(.slice ax l.length cx,l)],R,N+l.length,A3,c3,rfl,by rw [JQ,List.length_append,HNN.out],rfl,by rw [List.length_append,List.length_singleton];go_num,by rw [List.length_append,List.length_singleton];omega,HAB,iH (by rw [JQ];exact HO3.out),HB3.out⟩
  |cons p R=>
   obtain⟨x,l⟩:=p
   simp only [List.length_cons]at hj
   have hlt:D.length<L.length:=by omega
   have hlt':(D.length:Int)<L.length:=by omega
   have c0:=HC.out D.length hlt
   have en:L[D.length]=(x,l):=by simp [<-hab.out]
   rw [en]at c0
   have hx:=HB.out (x,l) (by rw [<-hab.out];simp)
   obtain⟨ax,cx,hxe,_⟩:=hx
   dsimp only at hxe
   subst hxe
   have hlen:(JU D).length+l.length<=140737488355000:=by
    have h:=HL.out
    rw [<-hab.out,Zg]at h
    have h2:l.length<=(JU ((.slice ax l.length cx,l) :: R)).length:=by simp [JU]
    omega
   have hN2:N+l.length<=140737488355000:=by rw [hN];exact hlen
   have HNN:=iH hN
   have HAB:Hid (D++ [(.slice ax l.length cx,l)]++R=L):=iH (by rw [List.append_assoc];exact hab.out)
   clear en hab hN hlen
   go_wp2_with fail
   go_roundg R.length
   case measure=>simp
   case rel=>exact⟨D++ [(.slice ax l.length cx,l)],R,N+l.length,rfl,by rw [JQ,List.length_append,HNN.out],by go_num,by rw [List.length_append,List.length_singleton];go_num,by rw [List.length_append,List.length_singleton];omega,HAB,rfl⟩
theorem jc{w:World}{p:Nat}{a b c:Value}{t:TypeId}(h:w.heap[p]?=some (.cells #[a,b,c] t (0,0))):
 w.cell? ⟨p,0,none⟩=some a/\w.cell? ⟨p,1,none⟩=some b/\w.cell? ⟨p,2,none⟩=some c/\∀o,w.frozen? ⟨p,o,none⟩=false:=by
 have key:∀o v,#[a,b,c][o]?=some v->w.cell? ⟨p,o,none⟩=some v:=fun o v e=>by rw [cell_of_row _ _ _ _ _ _ h];exact e
 exact⟨key 0 _ rfl,key 1 _ rfl,key 2 _ rfl,fun o=>by simp [World.frozen?,h]⟩
def set3(w:World)(g:Nat)(a b c:Value):World:=((w.setCell ⟨g,0,none⟩ a).setCell ⟨g,1,none⟩ b).setCell ⟨g,2,none⟩ c
theorem kB{w:World}{g:Nat}{x y z:Value}{t:TypeId}(a b c:Value)(h:w.heap[g]?=some (.cells #[x,y,z] t (0,0))):(set3 w g a b c).heap[g]?=some (.cells #[a,b,c] t (0,0)):=
 ja (o:=2) (ja (o:=1) (ja (o:=0) h))
theorem qs{w w':World}{B g:Nat}{a b c:Value}(h:Below B w w')(hg:B<=g):Below B w (set3 w' g a b c):=((h.setCell hg _).setCell hg _).setCell hg _
theorem jR{w:World}{g j:Nat}{a b c:Value}(h:j≠g):(set3 w g a b c).heap[j]?=w.heap[j]? :=by
 unfold set3
 rw [Below.heap_setCell _ _ _ _ (by exact h),Below.heap_setCell _ _ _ _ (by exact h),Below.heap_setCell _ _ _ _ (by exact h)]
def xp(w:World)(S:Nat->Prop)(v:Value)(k1 k2:List UInt8)(n:Int):Prop:=∃a b,v=.agg #[a,b,.int .i64 n]/\BsS w S a k1/\BsS w S b k2
theorem JI(w:World):(w.alloc (.cells #[.slice none 0 0,.slice none 0 0,.int .i64 0] 29)).heap[w.heap.size]?=some (.cells #[.slice none 0 0,.slice none 0 0,.int .i64 0] 29 (0,0)):=iN
abbrev j2z(w:World)(a b c:Value):World:=w.alloc (.cells #[a,b,c] 29)
theorem j1h(w:World)(a b c:Value):(j2z w a b c).heap[w.heap.size]?=some (.cells #[a,b,c] 29 (0,0)):=iN
theorem Yk{w w':World}(h:Below w.heap.size w w'){a b c:Value}:Below w.heap.size w (j2z w' a b c):=h.alloc h.size _
theorem Xy(w:World)(a b c:Value):Below w.heap.size w (j2z w a b c):=Yk iB
def VW(w:World)(L:List (Value×List UInt8)):Prop:=∀x∈L,Bs w w.heap.size x.1 x.2
theorem VW.nil{w:World}:VW w []:=fun _ h=>by simp at h
theorem VW.on{w wq:World}{L:List (Value×List UInt8)}(h:VW w L)(hb:Below w.heap.size w wq):VW wq L:=fun x hx=>(h x hx).lift hb
theorem VW.add{w:World}{L:List (Value×List UInt8)}(h:VW w L){v:Value}{l:List UInt8}{S:Nat->Prop}(hS:∀b,S b->b<w.heap.size)(hv:BsS w S v l):VW w ((v,l) :: L):=fun x hx=>by
 rcases List.mem_cons.1 hx with rfl|hx
 ·exact BsS.keep hv fun g hs _=>⟨rfl,hS g hs⟩
 ·exact h x hx
theorem VW.at{w:World}{L:List (Value×List UInt8)}(h:VW w L)(i:Nat){v:Value}{l:List UInt8}(hi:L[i]?=some (v,l)):Bs w w.heap.size v l:=h (v,l) (List.mem_of_getElem? hi)
theorem j4k(A B:Option Addr)(n m c d:Nat)(k:Int):∀(i:Nat) (x:UInt8),(#[.slice A n c,.slice B m d,.int .i64 k]:Array Value)[i]? ≠some (U8 x):=by
 intro i x
 rcases i with _|_|_|i
 ·simp
 ·simp
 ·simp
 ·simp
theorem Bs.formL{w:World}{S:Nat->Prop}{v:Value}{l:List UInt8}(h:BsS w S v l):∃A c,v=.slice A l.length c:=by
 obtain⟨a,c,e,_⟩:=h
 exact⟨a,c,e⟩
theorem OwnB.rd{w w':World}{v:Value}{l:List UInt8}(h:OwnB w' w.heap.size v l)(hl:l.length<=140737488355328):Bs w' w'.heap.size v l:=(h.out hl w iL).keep fun _ hs _=>⟨rfl,hs.2⟩
theorem BsS.rd{w w':World}{v:Value}{l:List UInt8}(h:BsS w' (New w w') v l):Bs w' w'.heap.size v l:=h.keep fun _ hs _=>⟨rfl,hs.2⟩
theorem Bs.setr{w:World}{v:Value}{l:List UInt8}(h:Bs w w.heap.size v l){z k:Nat}{C:Array Value}{t:TypeId}{f:Nat×Nat}(u:Value)(hz:w.heap[z]?=some (.cells C t f)) (hC:∀(i:Nat) (x:UInt8),C[i]? ≠some (U8 x)):Bs (w.setCell ⟨z,k,none⟩ u) (w.setCell ⟨z,k,none⟩ u).heap.size v l:=
 BsS.keep (h.off hz hC) fun g hs _=>⟨Below.heap_setCell _ _ _ _ hs.2,by simpa using hs.1⟩
theorem kG{w:World}{p:Nat}{a b c d:Value}{t:TypeId}(h:w.heap[p]?=some (.cells #[a,b,c,d] t (0,0))):
 w.cell? ⟨p,0,none⟩=some a/\w.cell? ⟨p,1,none⟩=some b/\w.cell? ⟨p,2,none⟩=some c/\w.cell? ⟨p,3,none⟩=some d/\∀o,w.frozen? ⟨p,o,none⟩=false:=by
 have key:∀o v,#[a,b,c,d][o]?=some v->w.cell? ⟨p,o,none⟩=some v:=fun o v e=>by rw [cell_of_row _ _ _ _ _ _ h];exact e
 exact⟨key 0 _ rfl,key 1 _ rfl,key 2 _ rfl,key 3 _ rfl,fun o=>by simp [World.frozen?,h]⟩
def set4(w:World)(g:Nat)(a b c d:Value):World:=(((w.setCell ⟨g,0,none⟩ a).setCell ⟨g,1,none⟩ b).setCell ⟨g,2,none⟩ c).setCell ⟨g,3,none⟩ d
theorem Zv{w:World}{g:Nat}{x y z u:Value}{t:TypeId}(a b c d:Value)(h:w.heap[g]?=some (.cells #[x,y,z,u] t (0,0))):(set4 w g a b c d).heap[g]?=some (.cells #[a,b,c,d] t (0,0)):=
 ja (o:=3) (ja (o:=2) (ja (o:=1) (ja (o:=0) h)))
theorem yh{w:World}{g j:Nat}{a b c d:Value}(h:j≠g):(set4 w g a b c d).heap[j]?=w.heap[j]? :=by
 unfold set4
 rw [Below.heap_setCell _ _ _ _ (by exact h),Below.heap_setCell _ _ _ _ (by exact h),Below.heap_setCell _ _ _ _ (by exact h),Below.heap_setCell _ _ _ _ (by exact h)]
theorem Kd{w w':World}{B g:Nat}{a b c d:Value}(h:Below B w w')(hg:B<=g):Below B w (set4 w' g a b c d):=(((h.setCell hg _).setCell hg _).setCell hg _).setCell hg _
theorem JA(w:World)(g:Nat)(a b c d:Value):(set4 w g a b c d).heap.size=w.heap.size:=by simp [set4]
def noB(C:Array Value):Prop:=∀(i:Nat) (x:UInt8),C[i]? ≠some (U8 x)
theorem j62{a b c d:Value}(ha:∀x,a≠U8 x)(hb:∀x,b≠U8 x)(hc:∀x,c≠U8 x)(hd:∀x,d≠U8 x):noB #[a,b,c,d]:=by
 intro i x
 rcases i with _|_|_|_|i
 ·simpa using ha x
 ·simpa using hb x
 ·simpa using hc x
 ·simpa using hd x
 ·simp
structure Cm where
 cl:Int
 ins:Int
 p1:Int
 p2:Int
 data:List UInt8
 ex:Int
def ye(w:World)(S:Nat->Prop)(v:Value)(c:Cm):Prop:=∃d,v=.agg #[.int .i64 c.cl,.int .i64 c.ins,.int .i64 c.p1,.int .i64 c.p2,d,.int .i64 c.ex]/\BsS w S d c.data
def vS(k1 k2:List UInt8)(n:Int):Bool:=decide (k1.length=16/\k2.length=16/\0<=n/\n<=1099511627776)
def q8(n:Int):Bool:=decide (0<=n/\n<=255)
def vC(c:Cm):Bool:=decide (0<=c.cl/\c.cl<=254/\(0<=c.ins/\c.ins<=255)/\(0<=c.p1/\c.p1<=255)/\(0<=c.p2/\c.p2<=255)/\c.data.length<=4096/\(c.ex= -1\/(1<=c.ex/\c.ex<=65536)))
theorem jT(v:Value)(k1 k2:List UInt8)(n:Int)(S:Nat->Prop)(w:World)(h:xp w S v k1 k2 n):
 Calls Tryz.prog 47 #[v] w fun e w'=>e=.returned (.bool (vS k1 k2 n))/\Below w.heap.size w w':=by
 obtain⟨u1,u2,rfl,h1,h2⟩:=h
 obtain⟨A1,n1,c1,rfl⟩:=h1.form
 obtain⟨A2,n2,c2,rfl⟩:=h2.form
 obtain rfl:=Bs.lenEq h1
 obtain rfl:=Bs.lenEq h2
 have hb:Below w.heap.size w (w.alloc (.cells #[.slice A1 k1.length c1,.slice A2 k2.length c2,.int .i64 n] 29)):=iA
 have HB:=iH hb
 clear hb h1 h2
 by_cases a1:k1.length=16
 ·have t1:((k1.length:Int)==16)=true:=by simp;omega
  by_cases a2:k2.length=16
  ·have t2:((k2.length:Int)==16)=true:=by simp;omega
   by_cases a3:0<=n
   ·by_cases a4:n<=1099511627776
    ·have R:Hid (vS k1 k2 n=true):=iH (decide_eq_true ⟨a1,a2,a3,a4⟩)
     clear a1 a2
     go_enter Tryz.func47,Tryz.ntmps47
     go_wp2_with fail
     go_ret
     rw [R.out]
     exact⟨rfl,HB.out⟩
    ·have R:Hid (vS k1 k2 n=false):=iH (decide_eq_false fun h=>a4 h.2.2.2)
     clear a1 a2
     go_enter Tryz.func47,Tryz.ntmps47
     go_wp2_with fail
     go_ret
     rw [R.out]
     exact⟨rfl,HB.out⟩
   ·have R:Hid (vS k1 k2 n=false):=iH (decide_eq_false fun h=>a3 h.2.2.1)
    clear a1 a2
    go_enter Tryz.func47,Tryz.ntmps47
    go_wp2_with fail
    go_ret
    rw [R.out]
    exact⟨rfl,HB.out⟩
  ·have t2:((k2.length:Int)==16)=false:=by simp;omega
   have R:Hid (vS k1 k2 n=false):=iH (decide_eq_false fun h=>a2 h.2.1)
   clear a1 a2
   go_enter Tryz.func47,Tryz.ntmps47
   go_wp2_with fail
   go_ret
   rw [R.out]
   exact⟨rfl,HB.out⟩
 ·have t1:((k1.length:Int)==16)=false:=by simp;omega
  have R:Hid (vS k1 k2 n=false):=iH (decide_eq_false fun h=>a1 h.1)
  clear a1
  go_enter Tryz.func47,Tryz.ntmps47
  go_wp2_with fail
  go_ret
  rw [R.out]
  exact⟨rfl,HB.out⟩
theorem jS(v:Value)(k1 k2:List UInt8)(n:Int)(S:Nat->Prop)(w:World)(h:xp w S v k1 k2 n):
 Calls Tryz.prog 28 #[v] w fun e w'=>e=.returned (.bool (vS k1 k2 n))/\Below w.heap.size w w':=by
 obtain⟨u1,u2,rfl,h1,h2⟩:=h
 obtain⟨A1,n1,c1,rfl⟩:=h1.form
 obtain⟨A2,n2,c2,rfl⟩:=h2.form
 obtain rfl:=Bs.lenEq h1
 obtain rfl:=Bs.lenEq h2
 have hb:Below w.heap.size w (w.alloc (.cells #[.slice A1 k1.length c1,.slice A2 k2.length c2,.int .i64 n] 29)):=iA
 have HB:=iH hb
 clear hb h1 h2
 by_cases a1:k1.length=16
 ·have t1:((k1.length:Int)==16)=true:=by simp;omega
  by_cases a2:k2.length=16
  ·have t2:((k2.length:Int)==16)=true:=by simp;omega
   by_cases a3:0<=n
   ·by_cases a4:n<=1099511627776
    ·have R:Hid (vS k1 k2 n=true):=iH (decide_eq_true ⟨a1,a2,a3,a4⟩)
     clear a1 a2
     go_enter Tryz.func28,Tryz.ntmps28
     go_wp2_with fail
     go_ret
     rw [R.out]
     exact⟨rfl,HB.out⟩
    ·have R:Hid (vS k1 k2 n=false):=iH (decide_eq_false fun h=>a4 h.2.2.2)
     clear a1 a2
     go_enter Tryz.func28,Tryz.ntmps28
     go_wp2_with fail
     go_ret
     rw [R.out]
     exact⟨rfl,HB.out⟩
   ·have R:Hid (vS k1 k2 n=false):=iH (decide_eq_false fun h=>a3 h.2.2.1)
    clear a1 a2
    go_enter Tryz.func28,Tryz.ntmps28
    go_wp2_with fail
    go_ret
    rw [R.out]
    exact⟨rfl,HB.out⟩
  ·have t2:((k2.length:Int)==16)=false:=by simp;omega
   have R:Hid (vS k1 k2 n=false):=iH (decide_eq_false fun h=>a2 h.2.1)
   clear a1 a2
   go_enter Tryz.func28,Tryz.ntmps28
   go_wp2_with fail
   go_ret
   rw [R.out]
   exact⟨rfl,HB.out⟩
 ·have t1:((k1.length:Int)==16)=false:=by simp;omega
  have R:Hid (vS k1 k2 n=false):=iH (decide_eq_false fun h=>a1 h.1)
  clear a1
  go_enter Tryz.func28,Tryz.ntmps28
  go_wp2_with fail
  go_ret
  rw [R.out]
  exact⟨rfl,HB.out⟩
theorem qd(n:Int)(w:World):Calls Tryz.prog 60 #[.int .i64 n] w fun e w'=>e=.returned (.bool (q8 n))/\w'=w:=by
 have e8:q8 n=(decide (0<=n)&&decide (n<=255)):=by unfold q8;rw [Bool.decide_and]
 rw [e8]
 go_enter Tryz.func60,Tryz.ntmps60
 by_cases h:0<=n<;>by_cases h2:n<=255<;>(go_wp2_with fail;go_ret;exact⟨by simp [h,h2],rfl⟩)
theorem kg(v:Value)(c:Cm)(S:Nat->Prop)(w:World)(h:ye w S v c):Calls Tryz.prog 29 #[v] w fun e w'=>e=.returned (.bool (vC c))/\Below w.heap.size w w':=by
 obtain⟨u,rfl,h1⟩:=h
 obtain⟨A,m,k,rfl⟩:=h1.form
 obtain rfl:=Bs.lenEq h1
 obtain⟨w0,hw0⟩:∃w0,w0=w.alloc (.cells #[.int .i64 c.cl,.int .i64 c.ins,.int .i64 c.p1,.int .i64 c.p2,.slice A c.data.length k,.int .i64 c.ex] 32):=⟨_,rfl⟩
 have hh0:w0.heap[w.heap.size]?=some (.cells #[.int .i64 c.cl,.int .i64 c.ins,.int .i64 c.p1,.int .i64 c.p2,.slice A c.data.length k,.int .i64 c.ex] 32 (0,0)):=by rw [hw0];exact iN
 have hb0:Below w.heap.size w w0:=by rw [hw0];exact iA
 have HB:=iH hb0;have HW:=iH hw0
 have FC:Hid (∀W,Below w0.heap.size w0 W->W.cell? ⟨w.heap.size,0,none⟩=some (.int .i64 c.cl)/\W.cell? ⟨w.heap.size,1,none⟩=some (.int .i64 c.ins)/\W.cell? ⟨w.heap.size,2,none⟩=some (.int .i64 c.p1)/\W.cell? ⟨w.heap.size,3,none⟩=some (.int .i64 c.p2)/\W.cell? ⟨w.heap.size,4,none⟩=some (.slice A c.data.length k)/\W.cell? ⟨w.heap.size,5,none⟩=some (.int .i64 c.ex)):=iH fun W hb=>by
  have hr:=(hb.block w.heap.size (iG hh0)).trans hh0
  refine⟨?_,?_,?_,?_,?_,?_⟩<;>(rw [cell_of_row _ _ _ _ _ _ hr];rfl)
 clear h1 hw0 hh0 hb0
 by_cases b1:q8 c.cl=true
 ·have B1:Hid (∀w,Calls Tryz.prog 60 #[.int .i64 c.cl] w fun e w'=>e=.returned (.bool true)/\w'=w):=iH (fun w=>by have h:=qd c.cl w;rw [b1]at h;exact h)
  have iB1:=of_decide_eq_true b1
  by_cases b9:c.cl=255
  ·have t9:(c.cl != 255)=false:=by simp [b9]
   have R:Hid (vC c=false):=iH (decide_eq_false fun h=>by have:=h.2.1;omega)
   clear b1 b9
   go_enter Tryz.func29,Tryz.ntmps29
   go_upto_region 1 with fail
   rw [<-HW.out]
   obtain⟨f0,f1,f2,f3,f4,f5⟩:=FC.out w0 iB
   go_wp2_with(first|(go_at_call 60;(with_reducible refine(B1.out _).mono ?_);rintro e w' ⟨rfl,hw'⟩;rw [hw'];clear hw' w'))
   go_ret
   rw [R.out]
   exact⟨rfl,HB.out⟩
  ·have t9:(c.cl != 255)=true:=by simpa using b9
   by_cases b2:q8 c.ins=true
   ·have B2:Hid (∀w,Calls Tryz.prog 60 #[.int .i64 c.ins] w fun e w'=>e=.returned (.bool true)/\w'=w):=iH (fun w=>by have h:=qd c.ins w;rw [b2]at h;exact h)
    have iB2:=of_decide_eq_true b2
    by_cases b3:q8 c.p1=true
    ·have B3:Hid (∀w,Calls Tryz.prog 60 #[.int .i64 c.p1] w fun e w'=>e=.returned (.bool true)/\w'=w):=iH (fun w=>by have h:=qd c.p1 w;rw [b3]at h;exact h)
     have iB3:=of_decide_eq_true b3
     by_cases b4:q8 c.p2=true
     ·have B4:Hid (∀w,Calls Tryz.prog 60 #[.int .i64 c.p2] w fun e w'=>e=.returned (.bool true)/\w'=w):=iH (fun w=>by have h:=qd c.p2 w;rw [b4]at h;exact h)
      have iB4:=of_decide_eq_true b4
      by_cases b5:c.data.length<=4096
      ·have t5:decide ((c.data.length:Int)<=4096)=true:=decide_eq_true (by omega)
       by_cases b6:c.ex= -1
       ·have t6:(c.ex== -1)=true:=by simp [b6]
        have R:Hid (vC c=true):=iH (decide_eq_true ⟨iB1.1,by omega,iB2,iB3,iB4,b5,.inl b6⟩)
        clear b1 b9 b2 b3 b4 b5 b6
        go_enter Tryz.func29,Tryz.ntmps29
        go_upto_region 1 with fail
        rw [<-HW.out]
        obtain⟨f0,f1,f2,f3,f4,f5⟩:=FC.out w0 iB
        go_wp2_with(first|(go_at_call 60;(with_reducible refine(B4.out _).mono ?_);rintro e w' ⟨rfl,hw'⟩;rw [hw'];clear hw' w')|(go_at_call 60;(with_reducible refine(B3.out _).mono ?_);rintro e w' ⟨rfl,hw'⟩;rw [hw'];clear hw' w')|(go_at_call 60;(with_reducible refine(B2.out _).mono ?_);rintro e w' ⟨rfl,hw'⟩;rw [hw'];clear hw' w')|(go_at_call 60;(with_reducible refine(B1.out _).mono ?_);rintro e w' ⟨rfl,hw'⟩;rw [hw'];clear hw' w'))
        go_ret
        rw [R.out]
        exact⟨rfl,HB.out⟩
       ·have t6:(c.ex== -1)=false:=by simpa using b6
        by_cases b7:1<=c.ex
        ·by_cases b8:c.ex<=65536
         ·have R:Hid (vC c=true):=iH (decide_eq_true ⟨iB1.1,by omega,iB2,iB3,iB4,b5,.inr ⟨b7,b8⟩⟩)
          clear b1 b9 b2 b3 b4 b5 b6
          go_enter Tryz.func29,Tryz.ntmps29
          go_upto_region 1 with fail
          rw [<-HW.out]
          obtain⟨f0,f1,f2,f3,f4,f5⟩:=FC.out w0 iB
          go_wp2_with(first|(go_at_call 60;(with_reducible refine(B4.out _).mono ?_);rintro e w' ⟨rfl,hw'⟩;rw [hw'];clear hw' w')|(go_at_call 60;(with_reducible refine(B3.out _).mono ?_);rintro e w' ⟨rfl,hw'⟩;rw [hw'];clear hw' w')|(go_at_call 60;(with_reducible refine(B2.out _).mono ?_);rintro e w' ⟨rfl,hw'⟩;rw [hw'];clear hw' w')|(go_at_call 60;(with_reducible refine(B1.out _).mono ?_);rintro e w' ⟨rfl,hw'⟩;rw [hw'];clear hw' w'))
          go_ret
          rw [R.out]
          exact⟨rfl,HB.out⟩
         ·have t8:decide (c.ex<=65536)=false:=decide_eq_false b8
          have R:Hid (vC c=false):=iH (decide_eq_false fun h=>h.2.2.2.2.2.2.elim b6 (fun h=>b8 h.2))
          clear b1 b9 b2 b3 b4 b5 b6
          go_enter Tryz.func29,Tryz.ntmps29
          go_upto_region 1 with fail
          rw [<-HW.out]
          obtain⟨f0,f1,f2,f3,f4,f5⟩:=FC.out w0 iB
          go_wp2_with(first|(go_at_call 60;(with_reducible refine(B4.out _).mono ?_);rintro e w' ⟨rfl,hw'⟩;rw [hw'];clear hw' w')|(go_at_call 60;(with_reducible refine(B3.out _).mono ?_);rintro e w' ⟨rfl,hw'⟩;rw [hw'];clear hw' w')|(go_at_call 60;(with_reducible refine(B2.out _).mono ?_);rintro e w' ⟨rfl,hw'⟩;rw [hw'];clear hw' w')|(go_at_call 60;(with_reducible refine(B1.out _).mono ?_);rintro e w' ⟨rfl,hw'⟩;rw [hw'];clear hw' w'))
          go_ret
          rw [R.out]
          exact⟨rfl,HB.out⟩
        ·have R:Hid (vC c=false):=iH (decide_eq_false fun h=>h.2.2.2.2.2.2.elim b6 (fun h=>b7 h.1))
         clear b1 b9 b2 b3 b4 b5 b6
         go_enter Tryz.func29,Tryz.ntmps29
         go_upto_region 1 with fail
         rw [<-HW.out]
         obtain⟨f0,f1,f2,f3,f4,f5⟩:=FC.out w0 iB
         go_wp2_with(first|(go_at_call 60;(with_reducible refine(B4.out _).mono ?_);rintro e w' ⟨rfl,hw'⟩;rw [hw'];clear hw' w')|(go_at_call 60;(with_reducible refine(B3.out _).mono ?_);rintro e w' ⟨rfl,hw'⟩;rw [hw'];clear hw' w')|(go_at_call 60;(with_reducible refine(B2.out _).mono ?_);rintro e w' ⟨rfl,hw'⟩;rw [hw'];clear hw' w')|(go_at_call 60;(with_reducible refine(B1.out _).mono ?_);rintro e w' ⟨rfl,hw'⟩;rw [hw'];clear hw' w'))
         go_ret
         rw [R.out]
         exact⟨rfl,HB.out⟩
      ·have t5:decide ((c.data.length:Int)<=4096)=false:=decide_eq_false (by omega)
       have R:Hid (vC c=false):=iH (decide_eq_false fun h=>b5 h.2.2.2.2.2.1)
       clear b1 b9 b2 b3 b4 b5
       go_enter Tryz.func29,Tryz.ntmps29
       go_upto_region 1 with fail
       rw [<-HW.out]
       obtain⟨f0,f1,f2,f3,f4,f5⟩:=FC.out w0 iB
       go_wp2_with(first|(go_at_call 60;(with_reducible refine(B4.out _).mono ?_);rintro e w' ⟨rfl,hw'⟩;rw [hw'];clear hw' w')|(go_at_call 60;(with_reducible refine(B3.out _).mono ?_);rintro e w' ⟨rfl,hw'⟩;rw [hw'];clear hw' w')|(go_at_call 60;(with_reducible refine(B2.out _).mono ?_);rintro e w' ⟨rfl,hw'⟩;rw [hw'];clear hw' w')|(go_at_call 60;(with_reducible refine(B1.out _).mono ?_);rintro e w' ⟨rfl,hw'⟩;rw [hw'];clear hw' w'))
       go_ret
       rw [R.out]
       exact⟨rfl,HB.out⟩
     ·have b4':q8 c.p2=false:=by simpa using b4
      have B4:Hid (∀w,Calls Tryz.prog 60 #[.int .i64 c.p2] w fun e w'=>e=.returned (.bool false)/\w'=w):=iH (fun w=>by have h:=qd c.p2 w;rw [b4']at h;exact h)
      have R:Hid (vC c=false):=iH (decide_eq_false fun h=>b4 (decide_eq_true h.2.2.2.2.1))
      clear b1 b9 b2 b3 b4 b4'
      go_enter Tryz.func29,Tryz.ntmps29
      go_upto_region 1 with fail
      rw [<-HW.out]
      obtain⟨f0,f1,f2,f3,f4,f5⟩:=FC.out w0 iB
      go_wp2_with(first|(go_at_call 60;(with_reducible refine(B4.out _).mono ?_);rintro e w' ⟨rfl,hw'⟩;rw [hw'];clear hw' w')|(go_at_call 60;(with_reducible refine(B3.out _).mono ?_);rintro e w' ⟨rfl,hw'⟩;rw [hw'];clear hw' w')|(go_at_call 60;(with_reducible refine(B2.out _).mono ?_);rintro e w' ⟨rfl,hw'⟩;rw [hw'];clear hw' w')|(go_at_call 60;(with_reducible refine(B1.out _).mono ?_);rintro e w' ⟨rfl,hw'⟩;rw [hw'];clear hw' w'))
      go_ret
      rw [R.out]
      exact⟨rfl,HB.out⟩
    ·have b3':q8 c.p1=false:=by simpa using b3
     have B3:Hid (∀w,Calls Tryz.prog 60 #[.int .i64 c.p1] w fun e w'=>e=.returned (.bool false)/\w'=w):=iH (fun w=>by have h:=qd c.p1 w;rw [b3']at h;exact h)
     have R:Hid (vC c=false):=iH (decide_eq_false fun h=>b3 (decide_eq_true h.2.2.2.1))
     clear b1 b9 b2 b3 b3'
     go_enter Tryz.func29,Tryz.ntmps29
     go_upto_region 1 with fail
     rw [<-HW.out]
     obtain⟨f0,f1,f2,f3,f4,f5⟩:=FC.out w0 iB
     go_wp2_with(first|(go_at_call 60;(with_reducible refine(B3.out _).mono ?_);rintro e w' ⟨rfl,hw'⟩;rw [hw'];clear hw' w')|(go_at_call 60;(with_reducible refine(B2.out _).mono ?_);rintro e w' ⟨rfl,hw'⟩;rw [hw'];clear hw' w')|(go_at_call 60;(with_reducible refine(B1.out _).mono ?_);rintro e w' ⟨rfl,hw'⟩;rw [hw'];clear hw' w'))
     go_ret
     rw [R.out]
     exact⟨rfl,HB.out⟩
   ·have b2':q8 c.ins=false:=by simpa using b2
    have B2:Hid (∀w,Calls Tryz.prog 60 #[.int .i64 c.ins] w fun e w'=>e=.returned (.bool false)/\w'=w):=iH (fun w=>by have h:=qd c.ins w;rw [b2']at h;exact h)
    have R:Hid (vC c=false):=iH (decide_eq_false fun h=>b2 (decide_eq_true h.2.2.1))
    clear b1 b9 b2 b2'
    go_enter Tryz.func29,Tryz.ntmps29
    go_upto_region 1 with fail
    rw [<-HW.out]
    obtain⟨f0,f1,f2,f3,f4,f5⟩:=FC.out w0 iB
    go_wp2_with(first|(go_at_call 60;(with_reducible refine(B2.out _).mono ?_);rintro e w' ⟨rfl,hw'⟩;rw [hw'];clear hw' w')|(go_at_call 60;(with_reducible refine(B1.out _).mono ?_);rintro e w' ⟨rfl,hw'⟩;rw [hw'];clear hw' w'))
    go_ret
    rw [R.out]
    exact⟨rfl,HB.out⟩
 ·have b1':q8 c.cl=false:=by simpa using b1
  have B1:Hid (∀w,Calls Tryz.prog 60 #[.int .i64 c.cl] w fun e w'=>e=.returned (.bool false)/\w'=w):=iH (fun w=>by have h:=qd c.cl w;rw [b1']at h;exact h)
  have R:Hid (vC c=false):=iH (decide_eq_false fun h=>b1 (decide_eq_true ⟨h.1,by have:=h.2.1;omega⟩))
  clear b1 b1'
  go_enter Tryz.func29,Tryz.ntmps29
  go_upto_region 1 with fail
  rw [<-HW.out]
  obtain⟨f0,f1,f2,f3,f4,f5⟩:=FC.out w0 iB
  go_wp2_with(first|(go_at_call 60;(with_reducible refine(B1.out _).mono ?_);rintro e w' ⟨rfl,hw'⟩;rw [hw'];clear hw' w'))
  go_ret
  rw [R.out]
  exact⟨rfl,HB.out⟩
theorem kC(v:Value)(c:Cm)(S:Nat->Prop)(w:World)(h:ye w S v c):Calls Tryz.prog 48 #[v] w fun e w'=>e=.returned (.bool (vC c))/\Below w.heap.size w w':=by
 obtain⟨u,rfl,h1⟩:=h
 obtain⟨A,m,k,rfl⟩:=h1.form
 obtain rfl:=Bs.lenEq h1
 obtain⟨w0,hw0⟩:∃w0,w0=w.alloc (.cells #[.int .i64 c.cl,.int .i64 c.ins,.int .i64 c.p1,.int .i64 c.p2,.slice A c.data.length k,.int .i64 c.ex] 32):=⟨_,rfl⟩
 have hh0:w0.heap[w.heap.size]?=some (.cells #[.int .i64 c.cl,.int .i64 c.ins,.int .i64 c.p1,.int .i64 c.p2,.slice A c.data.length k,.int .i64 c.ex] 32 (0,0)):=by rw [hw0];exact iN
 have hb0:Below w.heap.size w w0:=by rw [hw0];exact iA
 have HB:=iH hb0;have HW:=iH hw0
 have FC:Hid (∀W,Below w0.heap.size w0 W->W.cell? ⟨w.heap.size,0,none⟩=some (.int .i64 c.cl)/\W.cell? ⟨w.heap.size,1,none⟩=some (.int .i64 c.ins)/\W.cell? ⟨w.heap.size,2,none⟩=some (.int .i64 c.p1)/\W.cell? ⟨w.heap.size,3,none⟩=some (.int .i64 c.p2)/\W.cell? ⟨w.heap.size,4,none⟩=some (.slice A c.data.length k)/\W.cell? ⟨w.heap.size,5,none⟩=some (.int .i64 c.ex)):=iH fun W hb=>by
  have hr:=(hb.block w.heap.size (iG hh0)).trans hh0
  refine⟨?_,?_,?_,?_,?_,?_⟩<;>(rw [cell_of_row _ _ _ _ _ _ hr];rfl)
 clear h1 hw0 hh0 hb0
 obtain⟨w1,hw1⟩:∃w1,w1=w0.alloc (.cells #[.int .i64 c.ins,.int .i64 c.p1,.int .i64 c.p2] 3):=⟨_,rfl⟩
 have hb1:Below w0.heap.size w0 w1:=by rw [hw1];exact iA
 have hr1:w1.heap[w0.heap.size]?=some (.cells #[.int .i64 c.ins,.int .i64 c.p1,.int .i64 c.p2] 3 (0,0)):=by rw [hw1];exact iN
 have S3:=iH (jc hr1)
 have HB1:=iH hb1;have HW1:=iH hw1
 have HBW:=iH (HB.out.trans (hb1.mono HB.out.size))
 clear hb1 hr1 hw1
 obtain⟨vc,hvc⟩:∃vc,vC c=vc:=⟨_,rfl⟩
 have HV:=iH hvc
 rw [hvc]
 clear hvc
 go_enter Tryz.func48,Tryz.ntmps48
 go_upto_region 1 with fail
 rw [<-HW.out]
 obtain⟨f0,f1,f2,f3,f4,f5⟩:=FC.out w0 iB
 go_wp2_with fail
 rw [<-HW1.out]
 clear f0 f1 f2 f3 f4 f5
 go_loopg [4,14] 3 (fun q _ i wr=>∃j:Nat,j+q=3/\i=.int .i64 j/\w1=wr/\Hid ((0<j->q8 c.ins=true)/\(1<j->q8 c.p1=true)/\(2<j->q8 c.p2=true)))
 case atStart=>exact⟨0,rfl,rfl,rfl,iH ⟨fun h=>absurd h (by decide),fun h=>absurd h (by decide),fun h=>absurd h (by decide)⟩⟩
 case round=>
  obtain⟨j,hj,rfl,rfl,HO⟩:=hrel
  obtain⟨s0,s1,s2,_⟩:=S3.out
  obtain rfl|rfl|rfl|rfl:j=0\/j=1\/j=2\/j=3:=by omega
  ·obtain rfl:gk=3:=by omega
   by_cases b1:c.ins<0
   ·have R:Hid (vc=false):=iH (by rw [<-HV.out];exact decide_eq_false fun h=>absurd h.2.2.1 (by omega))
    clear hj
    go_wp2_with fail
    go_ret
    rw [R.out]
    exact⟨rfl,HBW.out⟩
   ·by_cases b2:c.ins>255
    ·have R:Hid (vc=false):=iH (by rw [<-HV.out];exact decide_eq_false fun h=>absurd h.2.2.1 (by omega))
     clear hj
     go_wp2_with fail
     go_ret
     rw [R.out]
     exact⟨rfl,HBW.out⟩
    ·have HO2:Hid ((0<1->q8 c.ins=true)/\(1<1->q8 c.p1=true)/\(2<1->q8 c.p2=true)):=iH ⟨fun _=>decide_eq_true ⟨by omega,by omega⟩,fun h=>absurd h (by decide),fun h=>absurd h (by decide)⟩
     clear hj
     go_wp2_with fail
     go_roundg 2
     case measure=>omega
     case rel=>exact⟨1,rfl,rfl,rfl,HO2⟩
  ·obtain rfl:gk=2:=by omega
   by_cases b1:c.p1<0
   ·have R:Hid (vc=false):=iH (by rw [<-HV.out];exact decide_eq_false fun h=>absurd h.2.2.2.1 (by omega))
    clear hj
    go_wp2_with fail
    go_ret
    rw [R.out]
    exact⟨rfl,HBW.out⟩
   ·by_cases b2:c.p1>255
    ·have R:Hid (vc=false):=iH (by rw [<-HV.out];exact decide_eq_false fun h=>absurd h.2.2.2.1 (by omega))
     clear hj
     go_wp2_with fail
     go_ret
     rw [R.out]
     exact⟨rfl,HBW.out⟩
    ·have HO2:Hid ((0<2->q8 c.ins=true)/\(1<2->q8 c.p1=true)/\(2<2->q8 c.p2=true)):=iH ⟨fun _=>HO.out.1 (by decide),fun _=>decide_eq_true ⟨by omega,by omega⟩,fun h=>absurd h (by decide)⟩
     clear hj
     go_wp2_with fail
     go_roundg 1
     case measure=>omega
     case rel=>exact⟨2,rfl,rfl,rfl,HO2⟩
  ·obtain rfl:gk=1:=by omega
   by_cases b1:c.p2<0
   ·have R:Hid (vc=false):=iH (by rw [<-HV.out];exact decide_eq_false fun h=>absurd h.2.2.2.2.1 (by omega))
    clear hj
    go_wp2_with fail
    go_ret
    rw [R.out]
    exact⟨rfl,HBW.out⟩
   ·by_cases b2:c.p2>255
    ·have R:Hid (vc=false):=iH (by rw [<-HV.out];exact decide_eq_false fun h=>absurd h.2.2.2.2.1 (by omega))
     clear hj
     go_wp2_with fail
     go_ret
     rw [R.out]
     exact⟨rfl,HBW.out⟩
    ·have HO2:Hid ((0<3->q8 c.ins=true)/\(1<3->q8 c.p1=true)/\(2<3->q8 c.p2=true)):=iH ⟨fun _=>HO.out.1 (by decide),fun _=>HO.out.2.1 (by decide),fun _=>decide_eq_true ⟨by omega,by omega⟩⟩
     clear hj
     go_wp2_with fail
     go_roundg 0
     case measure=>omega
     case rel=>exact⟨3,rfl,rfl,rfl,HO2⟩
  ·obtain rfl:gk=0:=by omega
   clear hj s0 s1 s2
   have i1:=of_decide_eq_true (HO.out.1 (by decide))
   have i2:=of_decide_eq_true (HO.out.2.1 (by decide))
   have i3:=of_decide_eq_true (HO.out.2.2 (by decide))
   obtain⟨f0,f1,f2,f3,f4,f5⟩:=FC.out w1 HB1.out
   by_cases b6:c.ex= -1
   ·have t6:(c.ex== -1)=true:=by simp [b6]
    have H6:=iH b6
    clear b6
    by_cases b1:0<=c.cl
    ·by_cases b2:c.cl<=254
     ·by_cases b3:c.data.length<=4096
      ·have t3:decide ((c.data.length:Int)<=4096)=true:=decide_eq_true (by omega)
       have R:Hid (vc=true):=iH (by rw [<-HV.out];exact decide_eq_true ⟨b1,b2,i1,i2,i3,b3,.inl H6.out⟩)
       go_wp2_with fail
       go_ret
       rw [R.out]
       exact⟨rfl,HBW.out⟩
      ·have t3:decide ((c.data.length:Int)<=4096)=false:=decide_eq_false (by omega)
       have R:Hid (vc=false):=iH (by rw [<-HV.out];exact decide_eq_false fun h=>b3 h.2.2.2.2.2.1)
       go_wp2_with fail
       go_ret
       rw [R.out]
       exact⟨rfl,HBW.out⟩
     ·have R:Hid (vc=false):=iH (by rw [<-HV.out];exact decide_eq_false fun h=>b2 h.2.1)
      go_wp2_with fail
      go_ret
      rw [R.out]
      exact⟨rfl,HBW.out⟩
    ·have R:Hid (vc=false):=iH (by rw [<-HV.out];exact decide_eq_false fun h=>b1 h.1)
     go_wp2_with fail
     go_ret
     rw [R.out]
     exact⟨rfl,HBW.out⟩
   ·have t6:(c.ex== -1)=false:=by simpa using b6
    by_cases b7:1<=c.ex
    ·by_cases b8:c.ex<=65536
     ·by_cases b1:0<=c.cl
      ·by_cases b2:c.cl<=254
       ·by_cases b3:c.data.length<=4096
        ·have t3:decide ((c.data.length:Int)<=4096)=true:=decide_eq_true (by omega)
         have R:Hid (vc=true):=iH (by rw [<-HV.out];exact decide_eq_true ⟨b1,b2,i1,i2,i3,b3,.inr ⟨b7,b8⟩⟩)
         go_wp2_with fail
         go_ret
         rw [R.out]
         exact⟨rfl,HBW.out⟩
        ·have t3:decide ((c.data.length:Int)<=4096)=false:=decide_eq_false (by omega)
         have R:Hid (vc=false):=iH (by rw [<-HV.out];exact decide_eq_false fun h=>b3 h.2.2.2.2.2.1)
         go_wp2_with fail
         go_ret
         rw [R.out]
         exact⟨rfl,HBW.out⟩
       ·have R:Hid (vc=false):=iH (by rw [<-HV.out];exact decide_eq_false fun h=>b2 h.2.1)
        go_wp2_with fail
        go_ret
        rw [R.out]
        exact⟨rfl,HBW.out⟩
      ·have R:Hid (vc=false):=iH (by rw [<-HV.out];exact decide_eq_false fun h=>b1 h.1)
       go_wp2_with fail
       go_ret
       rw [R.out]
       exact⟨rfl,HBW.out⟩
     ·by_cases b1:0<=c.cl
      ·by_cases b2:c.cl<=254
       ·by_cases b3:c.data.length<=4096
        ·have t3:decide ((c.data.length:Int)<=4096)=true:=decide_eq_true (by omega)
         have R:Hid (vc=false):=iH (by rw [<-HV.out];exact decide_eq_false fun h=>h.2.2.2.2.2.2.elim b6 (fun h=>b8 h.2))
         go_wp2_with fail
         go_ret
         rw [R.out]
         exact⟨rfl,HBW.out⟩
        ·have t3:decide ((c.data.length:Int)<=4096)=false:=decide_eq_false (by omega)
         have R:Hid (vc=false):=iH (by rw [<-HV.out];exact decide_eq_false fun h=>b3 h.2.2.2.2.2.1)
         go_wp2_with fail
         go_ret
         rw [R.out]
         exact⟨rfl,HBW.out⟩
       ·have R:Hid (vc=false):=iH (by rw [<-HV.out];exact decide_eq_false fun h=>b2 h.2.1)
        go_wp2_with fail
        go_ret
        rw [R.out]
        exact⟨rfl,HBW.out⟩
      ·have R:Hid (vc=false):=iH (by rw [<-HV.out];exact decide_eq_false fun h=>b1 h.1)
       go_wp2_with fail
       go_ret
       rw [R.out]
       exact⟨rfl,HBW.out⟩
    ·by_cases b1:0<=c.cl
     ·by_cases b2:c.cl<=254
      ·by_cases b3:c.data.length<=4096
       ·have t3:decide ((c.data.length:Int)<=4096)=true:=decide_eq_true (by omega)
        have R:Hid (vc=false):=iH (by rw [<-HV.out];exact decide_eq_false fun h=>h.2.2.2.2.2.2.elim b6 (fun h=>b7 h.1))
        go_wp2_with fail
        go_ret
        rw [R.out]
        exact⟨rfl,HBW.out⟩
       ·have t3:decide ((c.data.length:Int)<=4096)=false:=decide_eq_false (by omega)
        have R:Hid (vc=false):=iH (by rw [<-HV.out];exact decide_eq_false fun h=>b3 h.2.2.2.2.2.1)
        go_wp2_with fail
        go_ret
        rw [R.out]
        exact⟨rfl,HBW.out⟩
      ·have R:Hid (vc=false):=iH (by rw [<-HV.out];exact decide_eq_false fun h=>b2 h.2.1)
       go_wp2_with fail
       go_ret
       rw [R.out]
       exact⟨rfl,HBW.out⟩
     ·have R:Hid (vc=false):=iH (by rw [<-HV.out];exact decide_eq_false fun h=>b1 h.1)
      go_wp2_with fail
      go_ret
      rw [R.out]
      exact⟨rfl,HBW.out⟩
theorem xW(w:World)(o:Obj):(w.alloc o).heap.size=w.heap.size+1:=by simp
def jf:List (Option Tmp)->Nat->(Nat->Value)->Act->Act
 |[],_,_,a=>a
 |d :: ds,k,v,a=>jf ds (k+1) v (a.put d (v k))
def kz(v:Nat->Value)(i:Nat)(y:Value):Nat->Value:=fun k=>if k=i then y else v k
def jY(L:Nat->Bool)(i:Nat):Nat->Bool:=fun k=>if k=i then true else L k
def XW(s:List Nat)(v:Nat->Value):Nat->Value:=fun k=>if k∈s then v k else undef
def QI(a:Act):Option Tmp->Value
 |some d=>a.tmps.getD d undef
 |none=>undef
theorem Act.put_get(a:Act)(d:Option Tmp):a.put d (QI a d)=a:=by
 cases d with
 |none=>rfl
 |some d=>
  obtain⟨t,de⟩:=a
  simp only [Act.put,QI]
  congr 1
  apply Array.ext
  ·simp
  ·intro i h1 h2
   by_cases h:d=i
   ·subst h;simp [h2]
   ·rw [Array.getElem_setIfInBounds_ne _ h]
theorem Act.put_put(a:Act)(d:Option Tmp)(u v:Value):(a.put d u).put d v=a.put d v:=by
 cases d with
 |none=>rfl
 |some d=>
  obtain⟨t,de⟩:=a
  simp only [Act.put]
  congr 1
  apply Array.ext
  ·simp
  ·intro i h1 h2
   by_cases h:d=i
   ·subst h;simp
   ·simp
theorem YM:∀(ds:List (Option Tmp)) (k:Nat) (a:Act),jf ds k (fun j=>QI a (ds.getD (j - k) none)) a=a:=by
 intro ds
 induction ds with
 |nil=>intros;rfl
 |cons d ds ih=>
  intro k a
  unfold jf
  simp only [Nat.sub_self,List.getD_cons_zero]
  rw [Act.put_get]
  have:∀(b:Act),jf ds (k+1) (fun j=>QI a ((d :: ds).getD (j - k) none)) b=jf ds (k+1) (fun j=>QI a (ds.getD (j - (k+1)) none)) b:=by
   suffices h:∀(l:List (Option Tmp)) (m:Nat),k<m->∀b,jf l m (fun j=>QI a ((d :: ds).getD (j - k) none)) b=jf l m (fun j=>QI a (ds.getD (j - (k+1)) none)) b from h ds (k+1) (by omega)
   intro l
   induction l with
   |nil=>intros;rfl
   |cons e l ihl=>
    intro m hm b
    unfold jf
    rw [ihl (m+1) (by omega)]
    obtain⟨q,hq⟩:∃q,m - k=q+1:=⟨m - k - 1,by omega⟩
    have hq':m - (k+1)=q:=by omega
    simp only [hq,hq',List.getD_cons_succ]
  rw [this,ih]
def zl:List (Option Tmp)->Bool
 |[]=>true
 |none :: ds=>zl ds
 |some d :: ds=> !ds.contains (some d)&&zl ds
theorem YB(x:Option Tmp)(y:Value):∀(ds:List (Option Tmp)) (k:Nat) (v:Nat->Value) (a:Act),(∀d,x=some d->some d ∉ ds)->(jf ds k v a).put x y=jf ds k v (a.put x y):=by
 intro ds
 induction ds with
 |nil=>intros;rfl
 |cons d ds ih=>
  intro k v a h
  unfold jf
  rw [ih _ _ _ (fun e he hm=>h e he (List.mem_cons_of_mem _ hm)),Act.put_comm a (v k) y (fun e he hx=>h e hx (he▸List.mem_cons_self))]
theorem Qt:∀(ds:List (Option Tmp)) (k:Nat) (v u:Nat->Value) (a:Act),(∀j,k<=j->v j=u j)->jf ds k v a=jf ds k u a:=by
 intro ds
 induction ds with
 |nil=>intros;rfl
 |cons d ds ih=>intro k v u a h;unfold jf;rw [h k iL,ih _ v u _ (fun j hj=>h j (by omega))]
theorem Yn(y:Value):∀(ds:List (Option Tmp)) (k:Nat) (v:Nat->Value) (a:Act) (i:Nat),zl ds=true->i<ds.length->
 (jf ds k v a).put (ds.getD i none) y=jf ds k (kz v (k+i) y) a:=by
 intro ds
 induction ds with
 |nil=>intro k v a i _ h;cases h
 |cons d ds ih=>
  intro k v a i hap hi
  have hap2:zl ds=true:=by
   cases d with
   |none=>exact hap
   |some d=>simp only [zl,Bool.and_eq_true]at hap;exact hap.2
  have hd:∀e,d=some e->some e ∉ ds:=by
   intro e he;subst he
   simp only [zl,Bool.and_eq_true,Bool.not_eq_true',List.contains_eq_mem,decide_eq_false_iff_not]at hap
   exact hap.1
  cases i with
  |zero=>
   simp only [List.getD_cons_zero,Nat.add_zero]
   show(jf ds (k+1) v (a.put d (v k))).put d y=jf ds (k+1) (kz v k y) (a.put d (kz v k y k))
   rw [YB d y ds _ _ _ hd,Act.put_put,Qt ds (k+1) v (kz v k y) _ (fun j hj=>by simp only [kz];rw [if_neg (by omega)])]
   simp [kz]
  |succ i=>
   simp only [List.getD_cons_succ]
   show(jf ds (k+1) v (a.put d (v k))).put _ y=jf ds (k+1) (kz v (k+(i+1)) y) (a.put d (kz v (k+(i+1)) y k))
   rw [ih (k+1) v _ i hap2 (by simpa using hi)]
   have e1:kz v (k+(i+1)) y k=v k:=by simp only [kz];rw [if_neg (by omega)]
   rw [e1,show k+1+i=k+(i+1)by omega]
section
variable {P:Program} {Q:Exit->Act->World->Prop}
def j4x(P:Program)(ops:Array Oper)(Q:Exit->Act->World->Prop)(ds:List (Option Tmp))(anc:List (List Nat))(J:(Nat->Bool)->(Nat->Value)->World->Prop)(R:World->World->Prop)(F:List ((Nat->Value)->World->Prop))(a0:Act)(i:Nat)(o:Oper):Prop:=
 ∀(L:Nat->Bool) (v:Nat->Value) (w:World),J L v w->L i=false->(∀k,k∈anc.getD i []->L k=true)->(∀k,L k=true->(F.getD k fun _ _=>True) (XW (k :: anc.getD k []) v) w)->∀K:Act->World->Prop,
  (∀y w',J (jY L i) (kz v i y) w'->R w w'->(F.getD i fun _ _=>True) (XW (i :: anc.getD i []) (kz v i y)) w'->K ((jf ds 0 v a0).put o.dst y) w')->
  if Region.wanted o (yielded ops (jf ds 0 v a0).tmps)=true then Oper.wp P o (jf ds 0 v a0) w K Q else K ((jf ds 0 v a0).put o.dst undef) w
def StepsRG(S:Nat->Oper->Prop):List Oper->Nat->Prop
 |[],_=>True
 |o :: l,i=>S i o/\StepsRG S l (i+1)
theorem StepsRG.cons{S:Nat->Oper->Prop}{o:Oper}{l:List Oper}{i:Nat}(h:S i o)(hs:StepsRG S l (i+1)):StepsRG S (o :: l) i:=⟨h,hs⟩
theorem StepsRG.nil{S:Nat->Oper->Prop}{i:Nat}:StepsRG S [] i:=trivial
theorem StepsRG.get{S:Nat->Oper->Prop}:∀ {l:List Oper} {k:Nat},StepsRG S l k->∀i o,l[i]?=some o->S (k+i) o:=by
 intro l
 induction l with
 |nil=>intro k _ i o h;simp at h
 |cons x l ih=>
  intro k h i o ho
  cases i with
  |zero=>simp at ho;subst ho;exact h.1
  |succ i=>have:=ih h.2 i o (by simpa using ho);rwa [show k+1+i=k+(i+1)by omega]at this
def Va(J:(Nat->Bool)->(Nat->Value)->World->Prop)(R:World->World->Prop)(f:(Nat->Value)->World->Prop):Prop:=∀v w w',(∃L u,J L u w)->(∃L u,J L u w')->R w w'->f v w->f v w'
def StabsRG(J:(Nat->Bool)->(Nat->Value)->World->Prop)(R:World->World->Prop):List ((Nat->Value)->World->Prop)->Prop
 |[]=>True
 |f :: l=>Va J R f/\StabsRG J R l
theorem StabsRG.cons{J:(Nat->Bool)->(Nat->Value)->World->Prop}{R:World->World->Prop}{f:(Nat->Value)->World->Prop}{l:List ((Nat->Value)->World->Prop)}(h:Va J R f)(hs:StabsRG J R l):StabsRG J R (f :: l):=⟨h,hs⟩
theorem StabsRG.nil{J:(Nat->Bool)->(Nat->Value)->World->Prop}{R:World->World->Prop}:StabsRG J R []:=trivial
theorem StabsRG.get{J:(Nat->Bool)->(Nat->Value)->World->Prop}{R:World->World->Prop}:∀ {l:List ((Nat->Value)->World->Prop)},StabsRG J R l->∀i,Va J R (l.getD i fun _ _=>True):=by
 intro l
 induction l with
 |nil=>intro _ i v w w' _ _ _ _;simp
 |cons x l ih=>
  intro h i
  cases i with
  |zero=>exact h.1
  |succ i=>exact ih h.2 i
def Vv(ops:Array Oper)(n:Nat)(ds:List (Option Tmp))(anc:List (List Nat)):Bool:=
 decide (n<=ops.size)&&decide (ds=(ops.toList.take n).map (·.dst))&&zl ds&&
 ((List.range n).all fun i=>match ops[i]? with
   |some o=>(o.after.all fun e=> !Region.binds .any e||decide (e.on<i))&&(anc.getD i []).all fun k=>o.after.any fun e=>Region.binds .any e&&(e.on==k||(anc.getD e.on []).contains k)
   |none=>false)&&
 (decide (n=ops.size)||(Region.sinkB .any ops n&&Region.chainB .any ops n))&&
 Region.seqB .any ops (ops.size - n) n ((List.replicate n true++List.replicate (ops.size - n) false).toArray)
theorem Za(p q:Nat->Bool)(i:Nat):∀n,i<n->(∀j,j≠i->q j=p j)->p i=true->q i=false->(List.range n).countP q+1=(List.range n).countP p:=by
 intro n
 induction n with
 |zero=>intro h;cases h
 |succ n ih=>
  intro hi hj hp hq
  rw [List.range_succ,List.countP_append,List.countP_append]
  by_cases h:i=n
  ·subst h
   have:(List.range i).countP q=(List.range i).countP p:=List.countP_congr fun x hx=>by rw [hj x (by have:=List.mem_range.1 hx;omega)]
   simp [hp,hq,this]
  ·have:=ih (by omega) hj hp hq
   simp only [List.countP_cons,List.countP_nil,hj n (Ne.symm h)]
   omega
structure j5w (ops:Array Oper) (n:Nat) (ds:List (Option Tmp)) (anc:List (List Nat)) (J:(Nat->Bool)->(Nat->Value)->World->Prop) (F:List ((Nat->Value)->World->Prop)) (a0:Act) (L:Array Bool) (a:Act) (w:World):Prop where
 hd:HeadInv .any ops n L
 f:∃v,a=jf ds 0 v a0/\J (fun k=>L.getD k false) v w/\∀k,L.getD k false=true->(F.getD k fun _ _=>True) (XW (k :: anc.getD k []) v) w
theorem jg{id:Nat}{l:List Oper}{a0:Act}{w:World}(n:Nat)(ds:List (Option Tmp))(anc:List (List Nat))(J:(Nat->Bool)->(Nat->Value)->World->Prop)(R:World->World->Prop)(F:List ((Nat->Value)->World->Prop))
 (hm:P.follows .mixedOrders=true) (hc:Vv l.toArray n ds anc=true) (hG:∀v,J (fun _=>false) v w.drew) (hst:StabsRG J R F)
 (hs:StepsRG (j4x P l.toArray Q ds anc J R F a0) (l.take n) 0)
 (ht:∀v w,J (fun k=>decide (k<n)) v w->(∀k,k<n->(F.getD k fun _ _=>True) (XW (k :: anc.getD k []) v) w)->wpList P l.toArray Q (l.drop n) (jf ds 0 v a0) w):
 (Code.region id l.toArray true).wp P Q a0 w:=by
 simp only [Vv,Bool.and_eq_true,decide_eq_true_eq,Bool.or_eq_true]at hc
 obtain⟨⟨⟨⟨⟨hn,hds⟩,hap⟩,hed⟩,htl⟩,hsq⟩:=hc
 have hn':n<=l.length:=by simpa using hn
 have hlen:ds.length=n:=by rw [hds];simp;omega
 have hops:∀i (o:Oper),l.toArray[i]?=some o->i<n->(l.take n)[i]?=some o/\ds.getD i none=o.dst:=by
  intro i o ho hi
  have h1:(l.take n)[i]?=some o:=by rw [List.getElem?_take];simp only [hi,if_true];simpa using ho
  refine⟨h1,?_⟩
  rw [hds]
  have h2:(l.take n)[i]?=some o:=h1
  simp only [List.getD_eq_getElem?_getD,List.getElem?_map]
  rw [show(l.toArray.toList.take n)[i]?=some o from h2]
  rfl
 have hedge:∀i o,l.toArray[i]?=some o->i<n->(∀e∈o.after,Region.binds .any e=true->e.on<i)/\∀k,k∈anc.getD i []->∃e∈o.after,Region.binds .any e=true/\(e.on=k\/k∈anc.getD e.on []):=by
  intro i o ho hi
  have h:=List.all_eq_true.1 hed i (List.mem_range.2 hi)
  simp only [ho,Bool.and_eq_true]at h
  refine⟨fun e he hb=> ?_,fun k hk=> ?_⟩
  ·have:=Array.all_eq_true_iff_forall_mem.1 h.1 e he
   simpa [hb]using this
  ·have:=List.all_eq_true.1 h.2 k hk
   obtain⟨e,he,hb⟩:=Array.any_eq_true'.1 this
   simp only [Bool.and_eq_true,Bool.or_eq_true,beq_iff_eq,List.contains_eq_mem,decide_eq_true_eq]at hb
   exact⟨e,he,hb.1,hb.2⟩
 have hanc:∀(L:Array Bool),HeadInv .any l.toArray n L->∀i,∀j,j<=i->j<n->∀o,l.toArray[j]?=some o->(∀e∈o.after,Region.binds .any e=true->L.getD e.on false=true)->∀k,k∈anc.getD j []->k<n/\L.getD k false=true:=by
  intro L hL i
  induction i with
  |zero=>
   intro j hj hjn o ho hall k hk
   obtain⟨e,he,hb,_⟩:=(hedge j o ho hjn).2 k hk
   have:=(hedge j o ho hjn).1 e he hb
   omega
  |succ i ih=>
   intro j hj hjn o ho hall k hk
   obtain⟨e,he,hb,hek⟩:=(hedge j o ho hjn).2 k hk
   have hlt:=(hedge j o ho hjn).1 e he hb
   rcases hek with rfl|hek
   ·exact⟨by omega,hall e he hb⟩
   ·have hsz:e.on<l.toArray.size:=iZ (Nat.lt_trans hlt hjn) hn
    exact ih e.on (by omega) (by omega) _ (Array.getElem?_eq_getElem hsz) (fun e' he' hb'=>hL.closed e.on _ (Array.getElem?_eq_getElem hsz) (hall e he hb) e' he' hb') k hek
 have hprog:∀(L:Array Bool),HeadInv .any l.toArray n L->∀i,i<n->L.getD i true=false->(∃j,j<n/\j∈Region.ready .any l.toArray L)/\∀t,n<=t->t ∉ Region.ready .any l.toArray L:=by
  intro L hL i hi hun
  constructor
  ·induction i using Nat.strongRecOn with
   |_ i ih=>
    have hsz:i<l.toArray.size:=iZ hi hn
    rcases Classical.em (∀e∈l.toArray[i].after,Region.binds .any e=true->L.getD e.on false=true)with h|h
    ·exact⟨i,hi,mem_ready.2 ⟨hun,_,Array.getElem?_eq_getElem hsz,h⟩⟩
    ·have⟨e,h1⟩:=Classical.not_forall.1 h
     have⟨he,h2⟩:=Classical.not_imp.1 h1
     have⟨hb,h3⟩:=Classical.not_imp.1 h2
     have hlt:=(hedge i _ (Array.getElem?_eq_getElem hsz) hi).1 e he hb
     exact ih e.on hlt (by omega) (getD_in (by rw [hL.size];omega) (by simpa using h3))
  ·intro t htn hr
   rcases htl with h|h
   ·obtain⟨_,o,ho,_⟩:=mem_ready.1 hr
    have:=(iG ho)
    omega
   ·rcases Nat.lt_or_ge n l.toArray.size with h'|h'
    ·exact tail_waits h.1 h.2 h' hL (n - i) i rfl hi hun t htn hr
    ·obtain⟨_,o,ho,_⟩:=mem_ready.1 hr
     have:=(iG ho)
     omega
 have hfull:∀(L:Array Bool),HeadInv .any l.toArray n L->(∀i,i<n->L.getD i false=true)->L=(List.replicate n true++List.replicate (l.toArray.size - n) false).toArray:=by
  intro L hL hall
  apply Array.ext
  ·rw [hL.size];simp;simp at hn;omega
  ·intro i h1 h2
   rcases Nat.lt_or_ge i n with h|h
   ·have:=hall i h
    simp [h1]at this
    simp [h,this]
   ·have:=hL.tail i h (by rw [<-hL.size];exact h1)
    simp [h1]at this
    simp [List.getElem_append,Nat.not_lt.2 h,this]
 have main:∀c (L:Array Bool) (a:Act) (w:World),(List.range n).countP (fun j=> !L.getD j false)=c->j5w l.toArray n ds anc J F a0 L a w->wpAny P .any l.toArray Q (c+(l.toArray.size - n)) L a w:=by
  intro c
  induction c with
  |zero=>
   intro L a w hcnt hI
   have hall:∀i,i<n->L.getD i false=true:=fun i hi=>by
    have:=List.countP_eq_zero.1 hcnt i (List.mem_range.2 hi)
    simpa using this
   obtain⟨v,ha,hJ,hF⟩:=hI.f
   have hL:=hfull L hI.hd hall
   have hLd:(fun k=>L.getD k false)=fun k=>decide (k<n):=by
    funext k
    rcases Nat.lt_or_ge k n with h|h
    ·rw [hall k h,decide_eq_true h]
    ·rw [decide_eq_false (Nat.not_lt.2 h)]
     rcases Nat.lt_or_ge k l.toArray.size with h'|h'
     ·exact getD_both (hI.hd.tail k h h')
     ·have:L.size<=k:=by rw [hI.hd.size];exact h'
      simp [Array.getElem?_eq_none this]
   rw [hLd]at hJ
   have h2:=ht v w hJ (fun k hk=>hF k (hall k hk))
   rw [<-ha]at h2
   rw [Nat.zero_add]
   have hdl:(l.drop n).length=l.toArray.size - n:=by simp
   have:=wpAny_of_seq (md:=.any) (ops:=l.toArray) (Q':=Q) (l.drop n) n L a w (fun j=>by simp [List.getElem?_drop]) (by rw [hdl,hL];exact hsq) h2
   rwa [hdl]at this
  |succ c ih=>
   intro L a w hcnt hI
   have hex:∃i,i<n/\L.getD i false=false:=by
    rcases Classical.em (∃i,i<n/\L.getD i false=false)with h|h
    ·exact h
    ·have:(List.range n).countP (fun j=> !L.getD j false)=0:=List.countP_eq_zero.2 fun j hj hb=>h ⟨j,List.mem_range.1 hj,by simpa using hb⟩
     omega
   obtain⟨i0,hi0,hun0⟩:=hex
   have hP:=hprog L hI.hd i0 hi0 (getD_in (by rw [hI.hd.size];omega) hun0)
   rw [show c+1+(l.toArray.size - n)=(c+(l.toArray.size - n))+1 by omega]
   refine⟨fun h=> ?_,fun i hi=> ?_⟩
   ·obtain⟨j,_,hj⟩:=hP.1
    rw [h]at hj;cases hj
   ·have hin:i<n:=by
     rcases Nat.lt_or_ge i n with h|h
     ·exact h
     ·exact absurd hi (hP.2 i h)
    obtain⟨hun,o,ho,hall⟩:=mem_ready.1 hi
    obtain⟨v,ha,hJ,hF⟩:=hI.f
    obtain⟨h1,h2⟩:=hops i o ho hin
    have hA:=hanc L hI.hd i i iL hin o ho hall
    have hstep:=hs.get i o h1
    rw [Nat.zero_add]at hstep
    rw [ha]
    refine wpOp_step ho fun K hK=>hstep (fun k=>L.getD k false) v w hJ (getD_both hun) (fun k hk=>(hA k hk).2) hF K fun y w' hg' hr' hf'=>hK _ _ (ih _ _ _ ?_ ⟨hI.hd.set hi hin,kz v i y,?_,?_,?_⟩)
    ·have:=Za (fun j=> !L.getD j false) (fun j=> !(L.setIfInBounds i true).getD j false) i n hin (fun j hj=>by simp only [getD_set_ne false (Ne.symm hj)]) (by simp only [getD_both hun,Bool.not_false]) (by
      have hls:i<L.size:=by rw [hI.hd.size];omega
      simp [hls])
     omega
    ·rw [<-h2]
     have:=Yn y ds 0 v a0 i hap (by omega)
     rwa [Nat.zero_add]at this
    ·have hls:i<L.size:=by rw [hI.hd.size];omega
     have:(fun k=>(L.setIfInBounds i true).getD k false)=jY (fun k=>L.getD k false) i:=by
      funext k
      unfold jY
      by_cases h:k=i
      ·subst h;simp [hls]
      ·rw [if_neg h,getD_set_ne false (Ne.symm h)]
     rw [this]
     exact hg'
    ·intro k hl
     by_cases hki:k=i
     ·subst hki;exact hf'
     ·rw [getD_set_ne false (Ne.symm hki)]at hl
      have hk:k<n:=by
       rcases Nat.lt_or_ge k n with h|h
       ·exact h
       ·rcases Nat.lt_or_ge k l.toArray.size with h'|h'
        ·rw [getD_both (hI.hd.tail k h h')]at hl;cases hl
        ·have:L.size<=k:=by rw [hI.hd.size];exact h'
         simp [Array.getElem?_eq_none this]at hl
      have hne:∀m,m∈k :: anc.getD k []->m≠i:=by
       intro m hm he
       subst he
       rcases List.mem_cons.1 hm with h|h
       ·exact hki h.symm
       ·have hsz:k<l.toArray.size:=iZ hk hn
        have:=(hanc L hI.hd k k iL hk _ (Array.getElem?_eq_getElem hsz) (fun e he hb=>hI.hd.closed k _ (Array.getElem?_eq_getElem hsz) hl e he hb) m h).2
        rw [getD_both hun]at this
        cases this
      have hres:XW (k :: anc.getD k []) (kz v i y)=XW (k :: anc.getD k []) v:=by
       funext m
       unfold XW kz
       split
       ·rename_i hm
        rw [if_neg (hne m hm)]
       ·rfl
      rw [hres]
      exact hst.get k _ _ _ ⟨_,_,hJ⟩ ⟨_,_,hg'⟩ hr' (hF k hl)
 refine wp_region_any hm ?_
 have inv0:HeadInv .any l.toArray n (Array.replicate l.toArray.size false):=
  ⟨by simp,fun j oj _ hl=>(by rw [getD_replicate_false]at hl;cases hl),fun t _ ht=>getD_in (by simpa using ht) (getD_replicate_false _ _)⟩
 have h0:=main n (Array.replicate l.toArray.size false) a0 w.drew (by
  have:(List.range n).countP (fun j=> !(Array.replicate l.toArray.size false).getD j false)=(List.range n).length:=List.countP_eq_length.2 fun j _=>by rw [getD_replicate_false];rfl
  rw [this,List.length_range]) ⟨inv0,fun j=>QI a0 (ds.getD (j - 0) none),(YM ds 0 a0).symm,by simp only [getD_replicate_false];exact hG _,fun k hl=>by rw [getD_replicate_false]at hl;cases hl⟩
 rw [show n+(l.toArray.size - n)=l.toArray.size by omega]at h0
 exact h0
end
def j5g(w:World)(S:Nat->Prop)(v:Value)(k1 k2:List UInt8)(n:Int):Prop:=∃A c B d,v=.agg #[.slice A 16 c,.slice B 16 d,.int .i64 n]/\BsS w S (.slice A 16 c) k1/\BsS w S (.slice B 16 d) k2
theorem XN(va vb:Value)(k1 k2:List UInt8)(n:Int)(w:World)(ha:Bs w w.heap.size va k1)(hb:Bs w w.heap.size vb k2)(h1:k1.length=16)(h2:k2.length=16)(h0:0<=n)(hn:n<=1099511627776):
 Calls Tryz.prog 61 #[va,vb,.int .i64 n] w fun e w'=>∃v,e=.returned (.tuple #[v,.int .i64 0])/\j5g w' (New w w') v k1 k2 n/\Below w.heap.size w w':=by
 obtain⟨w0,hw0⟩:∃w0,w0=w.alloc (.cells #[.slice none 0 0,.slice none 0 0,.int .i64 0] 29):=⟨_,rfl⟩
 have hB0:Below w.heap.size w w0:=by rw [hw0];exact iA
 have hh0:w0.heap[w.heap.size]?=some (.cells #[.slice none 0 0,.slice none 0 0,.int .i64 0] 29 (0,0)):=by rw [hw0];exact iN
 have HA:=iH ha;have HB:=iH hb;have H1:=iH h1;have H2:=iH h2
 obtain⟨A,na,ca,rfl⟩:=ha.form
 obtain⟨B,nb,cb,rfl⟩:=hb.form
 obtain rfl:na=16:=by rw [Bs.lenEq ha];exact h1
 obtain rfl:nb=16:=by rw [Bs.lenEq hb];exact h2
 have HW0:=iH hw0;have HB0:=iH hB0;have HH0:=iH hh0
 have HA0:=iH (HA.out.lift hB0);have HBB0:=iH (HB.out.lift hB0)
 have g1:decide (n<0)=false:=decide_eq_false (by omega)
 have g2:decide (n>1099511627776)=false:=decide_eq_false (by omega)
 clear ha hb h1 h2 hw0 hB0 hh0
 go_enter Tryz.func61,Tryz.ntmps61
 go_upto_region 1 with fail
 rw [<-HW0.out]
 clear HW0
 go_upto_region 5 with fail
 have s0:=HB0.out.size
 have hlt0:=(iG HH0.out)
 go_wp2_with(first
  |(at_builtin;(with_reducible refine jb rfl (.const (.slice none 0 0)) (.tmp 26) rfl w1.heap.size (.slice none 0 0) [] rfl (OwnB.nil _ _) B 16 cb k2 (fun g=>g<w1.heap.size) rfl HK2.out (by simp only [List.length_nil];rw [H2.out];omega) iL ?_);intro v2 w2 hG;rw [List.nil_append]at hG;obtain⟨A2,c2,hv2⟩:=hG.1.form;rw [H2.out]at hv2;subst hv2;have HO2:=iH (OwnB.out hG.1 (by rw [H2.out];omega) w1 iL);have HB2:=iH hG.2.1;have hz2:=(HB2.out.block w.heap.size (iZ hlt0 HB1.out.size)).trans ((HB1.out.block w.heap.size hlt0).trans HH0.out);have HZ2:=iH hz2;obtain⟨z0,z1,z2,zf⟩:=jc hz2;have zf0:=zf 0;have zf1:=zf 1;have zf2:=zf 2;clear hG hz2 zf)
  |(at_builtin;(with_reducible refine jb rfl (.const (.slice none 0 0)) (.tmp 24) rfl w0.heap.size (.slice none 0 0) [] rfl (OwnB.nil _ _) A 16 ca k1 (fun g=>g<w0.heap.size) rfl HA0.out (by simp only [List.length_nil];rw [H1.out];omega) iL ?_);intro v1 w1 hG;rw [List.nil_append]at hG;obtain⟨A1,c1,hv1⟩:=hG.1.form;rw [H1.out]at hv1;subst hv1;have HO1:=iH (OwnB.out hG.1 (by rw [H1.out];omega) w0 iL);have HB1:=iH hG.2.1;have HK2:=iH (HBB0.out.lift hG.2.1);clear hG))
 obtain⟨y0,y1,y2,_⟩:=jc (kB (.slice A1 16 c1) (.slice A2 16 c2) (.int .i64 n) HZ2.out)
 refine bodyPost_ret (v:=.tuple #[.agg #[.slice A1 16 c1,.slice A2 16 c2,.int .i64 n],.int .i64 0]) (by simp only [set3]at y0 y1 y2;simp [results,Tryz.results61,go_sem,y0,y1,y2]) rfl ?_
 have s1:=HB1.out.size;have s2:=HB2.out.size
 have hb02:Below w.heap.size w w2:=HB0.out.trans ((HB1.out.trans (HB2.out.mono s1)).mono s0)
 have hsz:(set3 w2 w.heap.size (.slice A1 16 c1) (.slice A2 16 c2) (.int .i64 n)).heap.size=w2.heap.size:=by simp [set3]
 refine⟨_,rfl,⟨A1,c1,A2,c2,rfl,?_,?_⟩,qs hb02 iL⟩
 ·refine BsS.keep HO1.out fun g hg hl=>⟨(jR (by have:=hg.1;omega)).trans (HB2.out.block g hg.2),by have:=hg.1;omega,?_⟩
  show g<(set3 w2 w.heap.size (.slice A1 16 c1) (.slice A2 16 c2) (.int .i64 n)).heap.size
  rw [hsz];have:=hg.2;omega
 ·refine BsS.keep HO2.out fun g hg hl=>⟨jR (by have:=hg.1;omega),by have:=hg.1;omega,?_⟩
  show g<(set3 w2 w.heap.size (.slice A1 16 c1) (.slice A2 16 c2) (.int .i64 n)).heap.size
  rw [hsz];exact hg.2
def ZO(k:Int):List UInt8:=[ofI (k)]
theorem j4q(w:World):(Instr.makeSlice 27 (.int .i64 1) (.int .i64 1)).run Tryz.prog w=.ok (.slice (some ⟨w.heap.size,0,none⟩) 1 1) (w.alloc (.cells #[.int .u8 0] 5)):=by kernel_rfl
def j0x(k:Int)(j:Nat):Array Value:=#[U8 (if 1<=j then ofI (k)else 0)]
theorem j1u(k:Int)(w:World)(h0:0<=k)(h1:k<256):Calls Tryz.prog 51 #[.int .i64 k,.int .i64 1] w fun e w'=>∃v',e=.returned (.tuple #[v',.int .i64 0])/\OwnB w' w.heap.size v' (ZO k)/\Below w.heap.size w w':=by
 have g1:decide (k<0)=false:=decide_eq_false (by omega)
 have g2:(k / 256 != 0)=false:=by simp;omega
 have hm:=j4q w
 have hB0:Below w.heap.size w (w.alloc (.cells #[.int .u8 0] 5)):=iA
 have HB0:=iH hB0
 clear hB0
 go_enter Tryz.func51,Tryz.ntmps51
 go_wp2_with fail
 go_loopg [26] 1 (fun m i wr=>∃j n:Nat,n=m/\j+n=1/\i=.int .i64 j/\wr.heap[w.heap.size]?=some (.cells (j0x k j) 5 (0,0))/\Below w.heap.size w wr)
 case atStart=>exact⟨0,1,rfl,rfl,rfl,iN,HB0.out⟩
 case round=>
  obtain⟨j,n,rfl,hj,rfl,hr,hb⟩:=hrel
  have HB:=iH hb;have HR:=iH hr
  have hf:∀o,wr.frozen? ⟨w.heap.size,o,none⟩=false:=fun o=>by simp [World.frozen?,hr]
  have hc:∀o,o<1->wr.cell? ⟨w.heap.size,o,none⟩=(j0x k j)[o]? :=fun o ho=>by rw [cell_of_row _ _ _ _ _ _ hr]
  clear hr hb
  obtain rfl|rfl:j=0\/j=1:=by omega
  ·obtain rfl:n=1:=by omega
   go_wp2_with fail
   go_roundg 0
   case measure=>omega
   case rel=>
    have hs:=ja (o:=0) (v:=.int .u8 (k)) HR.out
    rw [show(j0x k 0).set! 0 (.int .u8 (k))=j0x k 1 by rw [show Value.int .u8 (k)=U8 (ofI (k))by rw [<-j6,Int.emod_eq_of_lt (by omega) (by omega)]];rfl]at hs
    exact⟨1,0,rfl,rfl,rfl,hs,HB.out.setCell iL _⟩
  ·obtain rfl:n=0:=by omega
   go_wp2_with fail
   go_ret2
   exact⟨_,rfl,⟨by simp [ZO],.inr ⟨w.heap.size,1,_,rfl,Nat.le_refl _,HR.out,Nat.le_refl _,by decide,rfl,rfl⟩⟩,HB.out⟩
def Xo(k:Int):List UInt8:=[ofI (k / 256),ofI (k)]
theorem j4t(w:World):(Instr.makeSlice 27 (.int .i64 2) (.int .i64 2)).run Tryz.prog w=.ok (.slice (some ⟨w.heap.size,0,none⟩) 2 2) (w.alloc (.cells #[.int .u8 0,.int .u8 0] 5)):=by kernel_rfl
def j0n(k:Int)(j:Nat):Array Value:=#[U8 (if 2<=j then ofI (k / 256)else 0),U8 (if 1<=j then ofI (k)else 0)]
theorem j0h(k:Int)(w:World)(h0:0<=k)(h1:k<65536):Calls Tryz.prog 51 #[.int .i64 k,.int .i64 2] w fun e w'=>∃v',e=.returned (.tuple #[v',.int .i64 0])/\OwnB w' w.heap.size v' (Xo k)/\Below w.heap.size w w':=by
 have g1:decide (k<0)=false:=decide_eq_false (by omega)
 have g2:(k / 65536 != 0)=false:=by simp;omega
 have hm:=j4t w
 have hB0:Below w.heap.size w (w.alloc (.cells #[.int .u8 0,.int .u8 0] 5)):=iA
 have HB0:=iH hB0
 clear hB0
 go_enter Tryz.func51,Tryz.ntmps51
 go_wp2_with fail
 go_loopg [26] 2 (fun m i wr=>∃j n:Nat,n=m/\j+n=2/\i=.int .i64 j/\wr.heap[w.heap.size]?=some (.cells (j0n k j) 5 (0,0))/\Below w.heap.size w wr)
 case atStart=>exact⟨0,2,rfl,rfl,rfl,iN,HB0.out⟩
 case round=>
  obtain⟨j,n,rfl,hj,rfl,hr,hb⟩:=hrel
  have HB:=iH hb;have HR:=iH hr
  have hf:∀o,wr.frozen? ⟨w.heap.size,o,none⟩=false:=fun o=>by simp [World.frozen?,hr]
  have hc:∀o,o<2->wr.cell? ⟨w.heap.size,o,none⟩=(j0n k j)[o]? :=fun o ho=>by rw [cell_of_row _ _ _ _ _ _ hr]
  clear hr hb
  obtain rfl|rfl|rfl:j=0\/j=1\/j=2:=by omega
  ·obtain rfl:n=2:=by omega
   go_wp2_with fail
   go_roundg 1
   case measure=>omega
   case rel=>
    have hs:=ja (o:=1) (v:=.int .u8 (k % 256)) HR.out
    rw [show Value.int .u8 (k % 256)=U8 (ofI (k)) from j6 (k)]at hs
    exact⟨1,1,rfl,rfl,rfl,hs,HB.out.setCell iL _⟩
  ·obtain rfl:n=1:=by omega
   go_wp2_with fail
   go_roundg 0
   case measure=>omega
   case rel=>
    have hs:=ja (o:=0) (v:=.int .u8 (k / 256)) HR.out
    rw [show(j0n k 1).set! 0 (.int .u8 (k / 256))=j0n k 2 by rw [show Value.int .u8 (k / 256)=U8 (ofI (k / 256))by rw [<-j6,Int.emod_eq_of_lt (by omega) (by omega)]];rfl]at hs
    exact⟨2,0,rfl,rfl,rfl,hs,HB.out.setCell iL _⟩
  ·obtain rfl:n=0:=by omega
   go_wp2_with fail
   go_ret2
   exact⟨_,rfl,⟨by simp [Xo],.inr ⟨w.heap.size,2,_,rfl,Nat.le_refl _,HR.out,Nat.le_refl _,by decide,rfl,rfl⟩⟩,HB.out⟩
def j4f(k:Int):List UInt8:=[ofI (k / 281474976710656),ofI (k / 1099511627776),ofI (k / 4294967296),ofI (k / 16777216),ofI (k / 65536),ofI (k / 256),ofI (k)]
theorem yV(k:Int):(j4f k).length=7:=rfl
theorem j4m(w:World):(Instr.makeSlice 27 (.int .i64 7) (.int .i64 7)).run Tryz.prog w=.ok (.slice (some ⟨w.heap.size,0,none⟩) 7 7) (w.alloc (.cells #[.int .u8 0,.int .u8 0,.int .u8 0,.int .u8 0,.int .u8 0,.int .u8 0,.int .u8 0] 5)):=by kernel_rfl
def j08(k:Int)(j:Nat):Array Value:=#[U8 (if 7<=j then ofI (k / 281474976710656)else 0),U8 (if 6<=j then ofI (k / 1099511627776)else 0),U8 (if 5<=j then ofI (k / 4294967296)else 0),U8 (if 4<=j then ofI (k / 16777216)else 0),U8 (if 3<=j then ofI (k / 65536)else 0),U8 (if 2<=j then ofI (k / 256)else 0),U8 (if 1<=j then ofI (k)else 0)]
theorem j0u(k:Int)(w:World)(h0:0<=k)(h1:k<72057594037927936):Calls Tryz.prog 51 #[.int .i64 k,.int .i64 7] w fun e w'=>∃v',e=.returned (.tuple #[v',.int .i64 0])/\OwnB w' w.heap.size v' (j4f k)/\Below w.heap.size w w':=by
 have g1:decide (k<0)=false:=decide_eq_false (by omega)
 have g2:(k / 72057594037927936 != 0)=false:=by simp;omega
 have hm:=j4m w
 have hB0:Below w.heap.size w (w.alloc (.cells #[.int .u8 0,.int .u8 0,.int .u8 0,.int .u8 0,.int .u8 0,.int .u8 0,.int .u8 0] 5)):=iA
 have HB0:=iH hB0
 clear hB0
 go_enter Tryz.func51,Tryz.ntmps51
 go_wp2_with fail
 go_loopg [26] 7 (fun m i wr=>∃j n:Nat,n=m/\j+n=7/\i=.int .i64 j/\wr.heap[w.heap.size]?=some (.cells (j08 k j) 5 (0,0))/\Below w.heap.size w wr)
 case atStart=>exact⟨0,7,rfl,rfl,rfl,iN,HB0.out⟩
 case round=>
  obtain⟨j,n,rfl,hj,rfl,hr,hb⟩:=hrel
  have HB:=iH hb;have HR:=iH hr
  have hf:∀o,wr.frozen? ⟨w.heap.size,o,none⟩=false:=fun o=>by simp [World.frozen?,hr]
  have hc:∀o,o<7->wr.cell? ⟨w.heap.size,o,none⟩=(j08 k j)[o]? :=fun o ho=>by rw [cell_of_row _ _ _ _ _ _ hr]
  clear hr hb
  obtain rfl|rfl|rfl|rfl|rfl|rfl|rfl|rfl:j=0\/j=1\/j=2\/j=3\/j=4\/j=5\/j=6\/j=7:=by omega
  ·obtain rfl:n=7:=by omega
   go_wp2_with fail
   go_roundg 6
   case measure=>omega
   case rel=>
    have hs:=ja (o:=6) (v:=.int .u8 (k % 256)) HR.out
    rw [show Value.int .u8 (k % 256)=U8 (ofI (k)) from j6 (k)]at hs
    exact⟨1,6,rfl,rfl,rfl,hs,HB.out.setCell iL _⟩
  ·obtain rfl:n=6:=by omega
   go_wp2_with fail
   go_roundg 5
   case measure=>omega
   case rel=>
    have hs:=ja (o:=5) (v:=.int .u8 (k / 256 % 256)) HR.out
    rw [show Value.int .u8 (k / 256 % 256)=U8 (ofI (k / 256)) from j6 (k / 256)]at hs
    exact⟨2,5,rfl,rfl,rfl,hs,HB.out.setCell iL _⟩
  ·obtain rfl:n=5:=by omega
   go_wp2_with fail
   go_roundg 4
   case measure=>omega
   case rel=>
    have hs:=ja (o:=4) (v:=.int .u8 (k / 65536 % 256)) HR.out
    rw [show Value.int .u8 (k / 65536 % 256)=U8 (ofI (k / 65536)) from j6 (k / 65536)]at hs
    exact⟨3,4,rfl,rfl,rfl,hs,HB.out.setCell iL _⟩
  ·obtain rfl:n=4:=by omega
   go_wp2_with fail
   go_roundg 3
   case measure=>omega
   case rel=>
    have hs:=ja (o:=3) (v:=.int .u8 (k / 16777216 % 256)) HR.out
    rw [show Value.int .u8 (k / 16777216 % 256)=U8 (ofI (k / 16777216)) from j6 (k / 16777216)]at hs
    exact⟨4,3,rfl,rfl,rfl,hs,HB.out.setCell iL _⟩
  ·obtain rfl:n=3:=by omega
   go_wp2_with fail
   go_roundg 2
   case measure=>omega
   case rel=>
    have hs:=ja (o:=2) (v:=.int .u8 (k / 4294967296 % 256)) HR.out
    rw [show Value.int .u8 (k / 4294967296 % 256)=U8 (ofI (k / 4294967296)) from j6 (k / 4294967296)]at hs
    exact⟨5,2,rfl,rfl,rfl,hs,HB.out.setCell iL _⟩
  ·obtain rfl:n=2:=by omega
   go_wp2_with fail
   go_roundg 1
   case measure=>omega
   case rel=>
    have hs:=ja (o:=1) (v:=.int .u8 (k / 1099511627776 % 256)) HR.out
    rw [show Value.int .u8 (k / 1099511627776 % 256)=U8 (ofI (k / 1099511627776)) from j6 (k / 1099511627776)]at hs
    exact⟨6,1,rfl,rfl,rfl,hs,HB.out.setCell iL _⟩
  ·obtain rfl:n=1:=by omega
   go_wp2_with fail
   go_roundg 0
   case measure=>omega
   case rel=>
    have hs:=ja (o:=0) (v:=.int .u8 (k / 281474976710656)) HR.out
    rw [show(j08 k 6).set! 0 (.int .u8 (k / 281474976710656))=j08 k 7 by rw [show Value.int .u8 (k / 281474976710656)=U8 (ofI (k / 281474976710656))by rw [<-j6,Int.emod_eq_of_lt (by omega) (by omega)]];rfl]at hs
    exact⟨7,0,rfl,rfl,rfl,hs,HB.out.setCell iL _⟩
  ·obtain rfl:n=0:=by omega
   go_wp2_with fail
   go_ret2
   exact⟨_,rfl,⟨by simp [j4f],.inr ⟨w.heap.size,7,_,rfl,Nat.le_refl _,HR.out,Nat.le_refl _,by decide,rfl,rfl⟩⟩,HB.out⟩
def JW(v:List UInt8):Int:=v.foldl (fun n b=>256*n+bv b) 0
theorem j1t(n b:Nat)(hn:n<36028797018963968)(hb:b<256):bits .or .i64 ((n:Int)*256) (b:Int)=(n:Int)*256+b:=by
 have h1:(BitVec.ofInt 64 ((n*256:Nat):Int)).toNat=n*256:=by
  rw [BitVec.ofInt_natCast,BitVec.toNat_ofNat];exact Nat.mod_eq_of_lt (by omega)
 have h2:(BitVec.ofInt 64 (b:Int)).toNat=b:=by
  rw [BitVec.ofInt_natCast,BitVec.toNat_ofNat];exact Nat.mod_eq_of_lt (by omega)
 have h3:n*256 ||| b=n*256+b:=by
  have:=Nat.two_pow_add_eq_or_of_lt (i:=8) (b:=b) (by omega) n
  rw [Nat.mul_comm]at this
  exact this.symm
 have e:(n:Int)*256=((n*256:Nat):Int):=by omega
 rw [e]
 show IntKind.i64.wrap ((BitVec.ofInt 64 ((n*256:Nat):Int) ||| BitVec.ofInt 64 (b:Int)).toNat:Int)=_
 rw [BitVec.toNat_or,h1,h2,h3,IntKind.wrap_i64]
 omega
theorem JE{l:List UInt8}{j:Nat}(h:j<l.length):JW (l.take (j+1))=JW (l.take j)*256+bv (gb l j):=by
 unfold JW
 rw [List.take_succ_eq_append_getElem h,List.foldl_append]
 simp [gb,h]
 omega
theorem Ub(l:List UInt8):∀j,j<=l.length->0<=JW (l.take j)/\JW (l.take j)<256 ^ j:=by
 intro j
 induction j with
 |zero=>intro _;exact⟨Int.le_refl _,show(0:Int)<1 by decide⟩
 |succ j ih=>
  intro h
  have:=ih (by omega)
  have b0:=jL (gb l j);have b1:=jP (gb l j)
  rw [JE (by omega),Int.pow_succ]
  omega
def z7(l:List UInt8):Int×Int:=if 7<l.length then(0,2)else(JW l,0)
theorem XD(l:List UInt8)(v:Value)(S:Nat->Prop)(w:World)(hv:BsS w S v l):Calls Tryz.prog 59 #[v] w fun e w'=>e=.returned (.tuple #[.int .i64 (z7 l).1,.int .i64 (z7 l).2])/\w'=w:=by
 obtain⟨a,c,rfl⟩:=hv.form2
 have hll:=hv.len
 have HV:=iH hv
 clear hv
 by_cases h7:7<l.length
 ·have E:Hid (z7 l=(0,2)):=by show _=_;unfold z7;rw [if_pos h7]
  rw [E.out]
  go_enter Tryz.func59,Tryz.ntmps59
  go_wp2_with fail
  go_ret2
  exact⟨rfl,rfl⟩
 ·have E:Hid (z7 l=(JW l,0)):=by show _=_;unfold z7;rw [if_neg h7]
  rw [E.out]
  clear E
  go_enter Tryz.func59,Tryz.ntmps59
  go_wp2_with fail
  go_loopg [12,4] l.length (fun m i n wr=>∃j X r:Nat,r=m/\j+r=l.length/\i=.int .i64 j/\n=.int .i64 X/\Hid ((X:Int)=JW (l.take j))/\wr=w)
  case atStart=>exact⟨0,0,l.length,rfl,by omega,rfl,rfl,iH rfl,rfl⟩
  case round=>
   obtain⟨j,X,m,rfl,hj,rfl,rfl,hX,rfl⟩:=hrel
   rcases Nat.eq_zero_or_pos m with h0|h0
   ·subst h0
    have hj':j=l.length:=by omega
    have HXE:Hid ((X:Int)=JW l):=iH (by have:=hX.out;rwa [hj',List.take_length]at this)
    subst hj'
    clear hX
    go_wp2_with fail
    go_ret2
    rw [HXE.out]
    exact⟨rfl,rfl⟩
   ·obtain⟨m,rfl⟩:∃k,m=k+1:=⟨m - 1,by omega⟩
    have hlt:j<l.length:=by omega
    have hin:=Ub l j (by omega)
    have hxb:(X:Int)<256 ^ j:=by rw [hX.out];exact hin.2
    have hp:(256:Int) ^ j<=256 ^ 6:=by exact_mod_cast Nat.pow_le_pow_right (by decide) (show j<=6 by omega)
    have hx6:X<281474976710656:=by have:(256:Int) ^ 6=281474976710656:=by decide
                                   omega
    obtain⟨y,hy⟩:∃y:Nat,y=(gb l j).toNat:=⟨_,rfl⟩
    have hyl:y<256:=by rw [hy];exact UInt8.toNat_lt _
    have q1:∃b off,a=some ⟨b,off,none⟩/\wr.cell? ⟨b,off+j,none⟩=some (.int .u8 (y:Int)):=by
     obtain⟨a',c',e,_,_,_,h4⟩:=HV.out
     injection e with e1 e2 e3
     subst e1
     obtain⟨b,off,e2,_,hc⟩:=h4 (by omega)
     exact⟨b,off,e2,by rw [hy];exact hc j hlt⟩
    obtain⟨b,off,rfl,q2⟩:=q1
    have o1:=j1t X y (by omega) hyl
    have HN:Hid (((X*256+y:Nat):Int)=JW (l.take (j+1))):=iH (by rw [JE hlt,<-hX.out];show _=_+((gb l j).toNat:Int);rw [<-hy];omega)
    clear hX hin hxb hp hy
    go_wp2_with fail
    go_roundg m
    case measure=>omega
    case rel=>exact⟨j+1,X*256+y,m,rfl,by omega,by go_num,by first|rfl|(congr 1),HN,rfl⟩
theorem XR(l:List UInt8)(v:Value)(S:Nat->Prop)(w:World)(hv:BsS w S v l):Calls Tryz.prog 75 #[v] w fun e w'=>e=.returned (.tuple #[.int .i64 (z7 l).1,.int .i64 (z7 l).2])/\w'=w:=by
 obtain⟨a,c,rfl⟩:=hv.form2
 have hll:=hv.len
 have HV:=iH hv
 clear hv
 by_cases h7:7<l.length
 ·have E:Hid (z7 l=(0,2)):=by show _=_;unfold z7;rw [if_pos h7]
  rw [E.out]
  go_enter Tryz.func75,Tryz.ntmps75
  go_wp2_with fail
  go_ret2
  exact⟨rfl,rfl⟩
 ·have E:Hid (z7 l=(JW l,0)):=by show _=_;unfold z7;rw [if_neg h7]
  rw [E.out]
  clear E
  go_enter Tryz.func75,Tryz.ntmps75
  go_wp2_with fail
  go_loopg [5,4] l.length (fun m i n wr=>∃j X r:Nat,r=m/\j+r=l.length/\i=.int .i64 j/\n=.int .i64 X/\Hid ((X:Int)=JW (l.take j))/\wr=w)
  case atStart=>exact⟨0,0,l.length,rfl,by omega,rfl,rfl,iH rfl,rfl⟩
  case round=>
   obtain⟨j,X,m,rfl,hj,rfl,rfl,hX,rfl⟩:=hrel
   rcases Nat.eq_zero_or_pos m with h0|h0
   ·subst h0
    have hj':j=l.length:=by omega
    have HXE:Hid ((X:Int)=JW l):=iH (by have:=hX.out;rwa [hj',List.take_length]at this)
    subst hj'
    clear hX
    go_wp2_with fail
    go_ret2
    rw [HXE.out]
    exact⟨rfl,rfl⟩
   ·obtain⟨m,rfl⟩:∃k,m=k+1:=⟨m - 1,by omega⟩
    have hlt:j<l.length:=by omega
    have hin:=Ub l j (by omega)
    have hxb:(X:Int)<256 ^ j:=by rw [hX.out];exact hin.2
    have hp:(256:Int) ^ j<=256 ^ 6:=by exact_mod_cast Nat.pow_le_pow_right (by decide) (show j<=6 by omega)
    have hx6:X<281474976710656:=by have:(256:Int) ^ 6=281474976710656:=by decide
                                   omega
    obtain⟨y,hy⟩:∃y:Nat,y=(gb l j).toNat:=⟨_,rfl⟩
    have hyl:y<256:=by rw [hy];exact UInt8.toNat_lt _
    have q1:∃b off,a=some ⟨b,off,none⟩/\wr.cell? ⟨b,off+j,none⟩=some (.int .u8 (y:Int)):=by
     obtain⟨a',c',e,_,_,_,h4⟩:=HV.out
     injection e with e1 e2 e3
     subst e1
     obtain⟨b,off,e2,_,hc⟩:=h4 (by omega)
     exact⟨b,off,e2,by rw [hy];exact hc j hlt⟩
    obtain⟨b,off,rfl,q2⟩:=q1
    have HN:Hid (((X*256+y:Nat):Int)=JW (l.take (j+1))):=iH (by rw [JE hlt,<-hX.out];show _=_+((gb l j).toNat:Int);rw [<-hy];omega)
    clear hX hin hxb hp hy
    go_wp2_with fail
    go_roundg m
    case measure=>omega
    case rel=>exact⟨j+1,X*256+y,m,rfl,by omega,by go_num,by congr 1;omega,HN,rfl⟩
def K4(n:Int):List UInt8:=List.replicate 9 0++j4f n
theorem ZA(n:Int):(K4 n).length=16:=rfl
def wz9(w:World):World:=w.alloc (.cells (kD 9 fun _=>0) 5)
theorem j60(w:World):(Instr.makeSlice 27 (.int .i64 9) (.int .i64 9)).run Tryz.prog w=.ok (.slice (some ⟨w.heap.size,0,none⟩) 9 9) (wz9 w):=by kernel_rfl
theorem j24(w:World):Below w.heap.size w (wz9 w):=iA
theorem j5t(w:World):OwnB (wz9 w) w.heap.size (.slice (some ⟨w.heap.size,0,none⟩) 9 9) (List.replicate 9 0):=
 ⟨rfl,.inr ⟨w.heap.size,9,_,rfl,Nat.le_refl _,iN,Nat.le_refl _,by decide,rfl,rfl⟩⟩
theorem Xi(va vb:Value)(k1 k2:List UInt8)(n:Int)(h0:0<=n)(h1:n<=1099511627776)(w:World)(ha:Bs w w.heap.size va k1)(hb:Bs w w.heap.size vb k2):
 Calls Tryz.prog 49 #[.agg #[va,vb,.int .i64 n]] w fun e w'=>∃x y z,e=.returned (.agg #[x,y,.int .i64 (n+1),z])/\Bs w' w'.heap.size x k1/\Bs w' w'.heap.size y k2/\Bs w' w'.heap.size z (K4 (n+1))/\Below w.heap.size w w':=by
 obtain⟨A1,n1,d1,rfl⟩:=ha.form
 obtain⟨A2,n2,d2,rfl⟩:=hb.form
 obtain⟨w0,hw0⟩:∃w0,w0=w.alloc (.cells #[.slice A1 n1 d1,.slice A2 n2 d2,.int .i64 n] 29):=⟨_,rfl⟩
 have hB0:Below w.heap.size w w0:=by rw [hw0];exact iA
 have hz0:w0.heap.size=w.heap.size+1:=by rw [hw0];simp
 have hh0:w0.heap[w.heap.size]?=some (.cells #[.slice A1 n1 d1,.slice A2 n2 d2,.int .i64 n] 29 (0,0)):=by rw [hw0];exact iN
 obtain⟨wa,hwa⟩:∃wa,wa=w0.alloc (.cells #[.slice none 0 0,.slice none 0 0,.int .i64 0,.slice none 0 0] 77):=⟨_,rfl⟩
 have hBa:Below w0.heap.size w0 wa:=by rw [hwa];exact iA
 have hra:wa.heap[w.heap.size+1]?=some (.cells #[.slice none 0 0,.slice none 0 0,.int .i64 0,.slice none 0 0] 77 (0,0)):=by rw [hwa,<-hz0];exact iN
 have hh1:=(hBa.block w.heap.size (by omega)).trans hh0
 have hlt:=(iG hh1)
 have CS:Hid (∀W,Below wa.heap.size wa W->W.cell? ⟨w.heap.size,0,none⟩=some (.slice A1 n1 d1)/\W.cell? ⟨w.heap.size,1,none⟩=some (.slice A2 n2 d2)/\W.cell? ⟨w.heap.size,2,none⟩=some (.int .i64 n)):=iH fun W h=>(by obtain⟨a,b,c,_⟩:=jc ((h.block w.heap.size hlt).trans hh1);exact⟨a,b,c⟩)
 have HB:=iH (hB0.trans (hBa.mono hB0.size))
 have H1:=iH ha;have H2:=iH hb;have HRA:=iH hra
 have WN:Hid (IntKind.i64.wrap (n+1)=n+1):=iH (IntWalk.i64_in _ (by omega))
 have HW0:=iH hw0;have HWA:=iH hwa
 clear ha hb hw0 hB0 hh0 hwa hBa hra hh1 hlt hz0
 go_enter Tryz.func49,Tryz.ntmps49
 go_upto_region 1 with fail
 rw [<-HW0.out,<-HWA.out]
 refine jg 12 [some 6,some 7,some 8,some 9,some 10,some 11,some 12,some 13,some 14,some 15,some 16,some 3] [[],[0],[0,1],[],[3],[0,1,2,3,4],[],[6],[6,7],[0,1,2,3,4,5,6,7,8],[0,1,2,3,4,5,6,7,8,9],[]]
  (fun _ _ w1=>Below wa.heap.size wa w1) (fun w1 w2=>Below w1.heap.size w1 w2)
  [fun v _=>v 0=.pointer (some ⟨w.heap.size,0,none⟩),
   fun v _=>v 1=.slice A1 n1 d1,
   fun v w1=>∃a c,v 2=.slice a (k1).length c/\Bs w1 w1.heap.size (.slice a (k1).length c) (k1),
   fun v _=>v 3=.pointer (some ⟨w.heap.size,1,none⟩),
   fun v _=>v 4=.slice A2 n2 d2,
   fun v w1=>∃a c,v 5=.slice a (k2).length c/\Bs w1 w1.heap.size (.slice a (k2).length c) (k2),
   fun v _=>v 6=.pointer (some ⟨w.heap.size,2,none⟩),
   fun v _=>v 7=.int .i64 n,
   fun v _=>v 8=.int .i64 (n+1),
   fun v w1=>∃a c a' c',v 9=.agg #[.slice a k1.length c,.slice a' k2.length c',.int .i64 (n+1)]/\Bs w1 w1.heap.size (.slice a k1.length c) k1/\Bs w1 w1.heap.size (.slice a' k2.length c') k2,
   fun v w1=>∃a c a' c',v 10=.agg #[.slice a k1.length c,.slice a' k2.length c',.int .i64 (n+1),.slice none 0 0]/\Bs w1 w1.heap.size (.slice a k1.length c) k1/\Bs w1 w1.heap.size (.slice a' k2.length c') k2,
   fun v w1=>∃g,v 11=.pointer (some ⟨g,0,none⟩)/\w1.heap[g]?=some (.cells #[.slice none 0 0,.slice none 0 0,.int .i64 0,.slice none 0 0] 77 (0,0))/\wa.heap.size<=g]
  (by kernel_rfl) (by kernel_rfl) (fun _=>iB.drew) ?st ?steps ?tail
 case st=>
  exact(.cons (fun _ _ _ _ _ _ h=>h) (.cons (fun _ _ _ _ _ _ h=>h) (.cons (fun _ _ _ _ _ hr ⟨a,c,e,h⟩=>⟨a,c,e,h.lift hr⟩) (.cons (fun _ _ _ _ _ _ h=>h) (.cons (fun _ _ _ _ _ _ h=>h) (.cons (fun _ _ _ _ _ hr ⟨a,c,e,h⟩=>⟨a,c,e,h.lift hr⟩) (.cons (fun _ _ _ _ _ _ h=>h) (.cons (fun _ _ _ _ _ _ h=>h) (.cons (fun _ _ _ _ _ _ h=>h) (.cons (fun _ _ _ _ _ hr ⟨a,c,a',c',e,h,h'⟩=>⟨a,c,a',c',e,h.lift hr,h'.lift hr⟩) (.cons (fun _ _ _ _ _ hr ⟨a,c,a',c',e,h,h'⟩=>⟨a,c,a',c',e,h.lift hr,h'.lift hr⟩) (.cons (fun _ _ _ _ _ hr ⟨g,e,h,hg⟩=>⟨g,e,(hr.block g (iG h)).trans h,hg⟩) .nil))))))))))))
 case steps=>
  simp only [List.take_succ_cons,List.take_zero]
  refine(.cons ?_ (.cons ?_ (.cons ?_ (.cons ?_ (.cons ?_ (.cons ?_ (.cons ?_ (.cons ?_ (.cons ?_ (.cons ?_ (.cons ?_ (.cons ?_ .nil))))))))))))
  all_goals(intro L v w1 hJ hL hA hF K hK;simp only [jf,Act.put,Nat.zero_add,Nat.reduceAdd,List.setIfInBounds_toArray,List.set_cons_zero,List.set_cons_succ]at hK |-)
  ·go_simp
   refine hK _ _ hJ iB ?_
   first|exact rfl|exact j6 _
  ·have e0:v 0=.pointer (some ⟨w.heap.size,0,none⟩):=hF 0 (hA 0 (by simp))
   obtain⟨c0,c1,c2⟩:=CS.out _ hJ
   simp only [e0]at hK
   go_simp
   refine hK _ _ hJ iB ?_
   first|exact rfl|exact j6 _
  ·have e1:v 1=.slice A1 n1 d1:=hF 1 (hA 1 (by simp))
   simp only [e1]at hK
   go_simp
   refine(kw _ k1 w1 ((H1.out.lift HB.out).lift hJ)).mono ?_
   rintro e w5 ⟨v5,rfl,ho,hb⟩
   have hx:Bs w5 w5.heap.size v5 k1:=OwnB.rd ho (H1.out.len)
   obtain⟨A5,C5,hv5⟩:=Bs.formL hx
   subst hv5
   exact hK _ _ (hJ.trans (hb.mono hJ.size)) hb ⟨_,_,rfl,hx⟩
  ·go_simp
   refine hK _ _ hJ iB ?_
   first|exact rfl|exact j6 _
  ·have e3:v 3=.pointer (some ⟨w.heap.size,1,none⟩):=hF 3 (hA 3 (by simp))
   obtain⟨c0,c1,c2⟩:=CS.out _ hJ
   simp only [e3]at hK
   go_simp
   refine hK _ _ hJ iB ?_
   first|exact rfl|exact j6 _
  ·have e4:v 4=.slice A2 n2 d2:=hF 4 (hA 4 (by simp))
   simp only [e4]at hK
   go_simp
   refine(kw _ k2 w1 ((H2.out.lift HB.out).lift hJ)).mono ?_
   rintro e w5 ⟨v5,rfl,ho,hb⟩
   have hx:Bs w5 w5.heap.size v5 k2:=OwnB.rd ho (H2.out.len)
   obtain⟨A5,C5,hv5⟩:=Bs.formL hx
   subst hv5
   exact hK _ _ (hJ.trans (hb.mono hJ.size)) hb ⟨_,_,rfl,hx⟩
  ·go_simp
   refine hK _ _ hJ iB ?_
   first|exact rfl|exact j6 _
  ·have e6:v 6=.pointer (some ⟨w.heap.size,2,none⟩):=hF 6 (hA 6 (by simp))
   obtain⟨c0,c1,c2⟩:=CS.out _ hJ
   simp only [e6]at hK
   go_simp
   refine hK _ _ hJ iB ?_
   first|exact rfl|exact j6 _
  ·have e7:v 7=.int .i64 n:=hF 7 (hA 7 (by simp))
   simp only [e7]at hK
   go_simp
   refine hK _ _ hJ iB ?_
   show Value.int .i64 (IntKind.i64.wrap (n+1))=_
   rw [WN.out]
  ·have e8:v 8=.int .i64 (n+1):=hF 8 (hA 8 (by simp))
   simp only [e8]at hK
   obtain⟨a2,c2,e2,h2⟩:∃a c,v 2=.slice a (k1).length c/\Bs w1 w1.heap.size (.slice a (k1).length c) (k1):=hF 2 (hA 2 (by simp))
   obtain⟨a5,c5,e5,h5⟩:∃a c,v 5=.slice a (k2).length c/\Bs w1 w1.heap.size (.slice a (k2).length c) (k2):=hF 5 (hA 5 (by simp))
   simp only [e2,e5]at hK
   go_simp
   exact hK _ _ hJ iB ⟨_,_,_,_,rfl,h2,h5⟩
  ·obtain⟨a,c,a',c',e9,h9,h9'⟩:∃a c a' c',v 9=.agg #[.slice a k1.length c,.slice a' k2.length c',.int .i64 (n+1)]/\Bs w1 w1.heap.size (.slice a k1.length c) k1/\Bs w1 w1.heap.size (.slice a' k2.length c') k2:=hF 9 (hA 9 (by simp))
   simp only [e9]at hK
   go_simp
   exact hK _ _ hJ iB ⟨_,_,_,_,rfl,h9,h9'⟩
  ·go_simp
   have hz:=(Below.refl w1.heap.size w1).alloc iL (.cells #[.slice none 0 0,.slice none 0 0,.int .i64 0,.slice none 0 0] 77)
   exact hK _ _ (hJ.trans (hz.mono hJ.size)) hz ⟨_,rfl,iN,hJ.size⟩
 case tail=>
  intro v w1 hJ hF
  have e0:v 0=.pointer (some ⟨w.heap.size,0,none⟩):=hF 0 (by simp)
  have e1:v 1=.slice A1 n1 d1:=hF 1 (by simp)
  have e3:v 3=.pointer (some ⟨w.heap.size,1,none⟩):=hF 3 (by simp)
  have e4:v 4=.slice A2 n2 d2:=hF 4 (by simp)
  have e6:v 6=.pointer (some ⟨w.heap.size,2,none⟩):=hF 6 (by simp)
  have e7:v 7=.int .i64 n:=hF 7 (by simp)
  have e8:v 8=.int .i64 (n+1):=hF 8 (by simp)
  obtain⟨a,c,a',c',e10,h10,h10'⟩:∃a c a' c',v 10=.agg #[.slice a k1.length c,.slice a' k2.length c',.int .i64 (n+1),.slice none 0 0]/\Bs w1 w1.heap.size (.slice a k1.length c) k1/\Bs w1 w1.heap.size (.slice a' k2.length c') k2:=hF 10 (by simp)
  obtain⟨g,e11,hg,hgs⟩:∃g,v 11=.pointer (some ⟨g,0,none⟩)/\w1.heap[g]?=some (.cells #[.slice none 0 0,.slice none 0 0,.int .i64 0,.slice none 0 0] 77 (0,0))/\wa.heap.size<=g:=hF 11 (by simp)
  simp only [List.drop_succ_cons,List.drop_zero,jf,Act.put,Nat.zero_add,Nat.reduceAdd,List.setIfInBounds_toArray,List.set_cons_zero,List.set_cons_succ]
  simp only [e10,e11]
  clear e0 e1 e3 e4 e6 e7 e8 e10 e11
  have HX:=iH h10;have HY:=iH h10';have HG:=iH hg;have HGS:=iH hgs;have HJ:=iH hJ
  obtain⟨z0,z1,z2,z3,zf⟩:=kG hg
  have zf0:=zf 0;have zf1:=zf 1;have zf2:=zf 2;have zf3:=zf 3;clear zf
  clear h10 h10' hg hgs hJ hF
  go_upto_region 2 with fail
  obtain⟨w2,hw2⟩:∃w2,w2=set4 w1 g (.slice a k1.length c) (.slice a' k2.length c') (.int .i64 (n+1)) (.slice none 0 0):=⟨_,rfl⟩
  have hw3:=hw2
  simp only [set4]at hw3
  rw [<-hw3]
  clear hw3
  have NB:=iH (j62 (a:=.slice none 0 0) (b:=.slice none 0 0) (c:=.int .i64 0) (d:=.slice none 0 0) (by simp) (by simp) (by simp) (by simp))
  have HX2:Hid (Bs w2 w2.heap.size (.slice a k1.length c) k1):=iH (by rw [hw2];exact(BsS.keep (HX.out.off HG.out NB.out) fun j hs _=>⟨yh hs.2,by rw [JA];exact hs.1⟩))
  have HY2:Hid (Bs w2 w2.heap.size (.slice a' k2.length c') k2):=iH (by rw [hw2];exact(BsS.keep (HY.out.off HG.out NB.out) fun j hs _=>⟨yh hs.2,by rw [JA];exact hs.1⟩))
  have HG2:Hid (w2.heap[g]?=some (.cells #[.slice a k1.length c,.slice a' k2.length c',.int .i64 (n+1),.slice none 0 0] 77 (0,0))):=iH (by rw [hw2];exact Zv _ _ _ _ HG.out)
  have HJ2:Hid (Below wa.heap.size wa w2):=iH (by rw [hw2];exact Kd HJ.out HGS.out)
  clear hw2 z0 z1 z2 z3 zf0 zf1 zf2 zf3
  obtain⟨z0,z1,z2,z3,zf⟩:=kG HG2.out
  clear zf
  have O7:=iH (j0u (n+1) w2 (by omega) (by omega))
  go_upto_region 4 with (first
   |(go_at_call 51;refine O7.out.mono ?_;rintro e w3 ⟨v3,rfl,ho,hb⟩;obtain⟨oA,oc,hv3⟩:=ho.form;rw [yV]at hv3;subst hv3;have HO3:Hid (Bs w3 w3.heap.size (.slice oA 7 oc) (j4f (n+1))):=iH (OwnB.rd ho (by rw [yV];omega));have HB3:=iH hb;have H9:=iH (j5t w3);have hm9:=j60 w3;clear ho hb z0 z1 z2 z3)
   |(at_builtin;go_loud((with_reducible refine jb rfl (.tmp 24) (.tmp 25) rfl w3.heap.size (.slice (some ⟨w3.heap.size,0,none⟩) 9 9) (List.replicate 9 0) rfl H9.out oA 7 oc (j4f (n+1)) (·<(wz9 w3).heap.size) rfl (HO3.out.lift (j24 w3)) (by rw [yV];simp) (j24 w3).size ?_);intro v4 w4 hgr;have hb4:Below w3.heap.size w3 w4:=(iA).trans hgr.2.1;have HN4:Hid (Bs w4 w4.heap.size v4 (K4 (n+1))):=iH (OwnB.rd (w:=w3) (l:=K4 (n+1)) hgr.1 (by rw [ZA];omega));obtain⟨nA,nc,hv4⟩:=hgr.1.form;rw [List.length_append,yV,List.length_replicate]at hv4;subst hv4;have hg4:w4.heap[g]?=some (.cells #[.slice a k1.length c,.slice a' k2.length c',.int .i64 (n+1),.slice none 0 0] 77 (0,0)):=(hb4.block g (iZ (iG HG2.out) HB3.out.size)).trans ((HB3.out.block g (iG HG2.out)).trans HG2.out);have HG4:=iH hg4;have H34:=iH hb4;have HB4:=iH (HB3.out.trans (hb4.mono HB3.out.size));obtain⟨z0,z1,z2,z3,zf⟩:=kG hg4;have zf3:=zf 3;clear zf hg4 hb4 hgr hm9)))
  have NB2:=iH (j62 (a:=.slice a k1.length c) (b:=.slice a' k2.length c') (c:=.int .i64 (n+1)) (d:=.slice none 0 0) (by simp) (by simp) (by simp) (by simp))
  obtain⟨w5,hw5⟩:∃w5,w5=w4.setCell ⟨g,3,none⟩ (.slice nA (9+7) nc):=⟨_,rfl⟩
  rw [<-hw5]
  have NX5:∀ {v l},Bs w4 w4.heap.size v l->Bs w5 w5.heap.size v l:=fun h=>by rw [hw5];exact Bs.setr h _ HG4.out NB2.out
  have HX5:=iH (NX5 ((HX2.out.lift HB3.out).lift H34.out));have HY5:=iH (NX5 ((HY2.out.lift HB3.out).lift H34.out));have HN5:=iH (NX5 HN4.out)
  have HG5:Hid (w5.heap[g]?=some (.cells #[.slice a k1.length c,.slice a' k2.length c',.int .i64 (n+1),.slice nA (9+7) nc] 77 (0,0))):=iH (by rw [hw5];exact ja (o:=3) HG4.out)
  have HJ5:Hid (Below wa.heap.size wa w5):=iH (by rw [hw5];exact(HJ2.out.trans (HB4.out.mono HJ2.out.size)).setCell HGS.out _)
  clear hw5 z0 z1 z2 z3 zf3 NX5
  obtain⟨z0,z1,z2,z3,zf⟩:=kG HG5.out
  clear zf
  have HR5:Hid (w5.heap[w.heap.size+1]?=some (.cells #[.slice none 0 0,.slice none 0 0,.int .i64 0,.slice none 0 0] 77 (0,0))):=iH ((HJ5.out.block _ (iG HRA.out)).trans HRA.out)
  obtain⟨r0,r1,r2,r3,rf⟩:=kG HR5.out
  have rf0:=rf 0;have rf1:=rf 1;have rf2:=rf 2;have rf3:=rf 3;clear rf
  obtain⟨y0,y1,y2,y3,_⟩:=kG (Zv (.slice a k1.length c) (.slice a' k2.length c') (.int .i64 (n+1)) (.slice nA (9+7) nc) HR5.out)
  have NB0:=iH (j62 (a:=.slice none 0 0) (b:=.slice none 0 0) (c:=.int .i64 0) (d:=.slice none 0 0) (by simp) (by simp) (by simp) (by simp))
  go_wp2_with fail
  refine bodyPost_ret (v:=.agg #[.slice a k1.length c,.slice a' k2.length c',.int .i64 (n+1),.slice nA (9+7) nc]) (by simp only [set4]at y0 y1 y2 y3;simp [results,Tryz.results49,go_sem,y0,y1,y2,y3]) rfl ?_
  have hk:∀ {v l},Bs w5 w5.heap.size v l->Bs (set4 w5 (w.heap.size+1) (.slice a k1.length c) (.slice a' k2.length c') (.int .i64 (n+1)) (.slice nA (9+7) nc)) (set4 w5 (w.heap.size+1) (.slice a k1.length c) (.slice a' k2.length c') (.int .i64 (n+1)) (.slice nA (9+7) nc)).heap.size v l:=fun h=>BsS.keep (h.off HR5.out NB0.out) fun j hs _=>⟨yh hs.2,by rw [JA];exact hs.1⟩
  exact⟨_,_,_,rfl,hk HX5.out,hk HY5.out,hk HN5.out,Kd (HB.out.trans (HJ5.out.mono HB.out.size)) (by omega)⟩
def j4i(k:Int)(j:Nat):Array Value:=#[U8 0,U8 0,U8 0,U8 0,U8 0,U8 0,U8 0,U8 0,U8 0,U8 (if 7<=j then ofI (k / 281474976710656)else 0),U8 (if 6<=j then ofI (k / 1099511627776)else 0),U8 (if 5<=j then ofI (k / 4294967296)else 0),U8 (if 4<=j then ofI (k / 16777216)else 0),U8 (if 3<=j then ofI (k / 65536)else 0),U8 (if 2<=j then ofI (k / 256)else 0),U8 (if 1<=j then ofI (k)else 0)]
theorem j3h(w:World):(Instr.makeSlice 27 (.int .i64 16) (.int .i64 16)).run Tryz.prog w=.ok (.slice (some ⟨w.heap.size,0,none⟩) 16 16) (w.alloc (.cells #[.int .u8 0,.int .u8 0,.int .u8 0,.int .u8 0,.int .u8 0,.int .u8 0,.int .u8 0,.int .u8 0,.int .u8 0,.int .u8 0,.int .u8 0,.int .u8 0,.int .u8 0,.int .u8 0,.int .u8 0,.int .u8 0] 5)):=by kernel_rfl
theorem Xf(va vb:Value)(k1 k2:List UInt8)(l1:k1.length=16)(l2:k2.length=16)(n:Int)(h0:0<=n)(h1:n<1099511627776)(w:World)(ha:Bs w w.heap.size va k1)(hb:Bs w w.heap.size vb k2):
 Calls Tryz.prog 30 #[.agg #[va,vb,.int .i64 n]] w fun e w'=>∃x y z,e=.returned (.tuple #[.agg #[x,y,.int .i64 (n+1)],z])/\Bs w' w'.heap.size x k1/\Bs w' w'.heap.size y k2/\Bs w' w'.heap.size z (K4 (n+1))/\Below w.heap.size w w':=by
 obtain⟨m,hm⟩:∃m,n+1=m:=⟨_,rfl⟩
 have m0:0<=m:=by omega
 have m1:m<=1099511627776:=by omega
 obtain⟨w0,hw0⟩:∃w0,w0=w.alloc (.cells #[va,vb,.int .i64 n] 29):=⟨_,rfl⟩
 have hB0:Below w.heap.size w w0:=by rw [hw0];exact iA
 have hh0:w0.heap[w.heap.size]?=some (.cells #[va,vb,.int .i64 n] 29 (0,0)):=by rw [hw0];exact iN
 have hz0:w0.heap.size=w.heap.size+1:=by rw [hw0];simp
 obtain⟨wa,hwa⟩:∃wa,wa=w0.alloc (.cells #[.slice none 0 0,.slice none 0 0,.int .i64 0] 29):=⟨_,rfl⟩
 have hBa:Below w0.heap.size w0 wa:=by rw [hwa];exact iA
 have hra:wa.heap[w.heap.size+1]?=some (.cells #[.slice none 0 0,.slice none 0 0,.int .i64 0] 29 (0,0)):=by rw [hwa,<-hz0];exact iN
 obtain⟨q0,q1,q2,_⟩:=jc ((hBa.block w.heap.size (by omega)).trans hh0)
 have HB:=iH (hB0.trans (hBa.mono hB0.size))
 have HRA:=iH hra
 have HST:=iH (XN va vb k1 k2 m wa (ha.lift HB.out) (hb.lift HB.out) l1 l2 m0 m1)
 have WN:wrap64 (n+1)=m:=by rw [IntWalk.wrap64_in _ (by omega)];exact hm
 have HM:=iH hm
 have HW0:=iH hw0;have HWA:=iH hwa
 clear ha hb hw0 hB0 hh0 hwa hBa hra l1 l2 hz0 hm h0 h1
 go_enter Tryz.func30,Tryz.ntmps30
 go_upto_region 1 with fail
 rw [<-HW0.out,<-HWA.out]
 go_upto_region 2 with (go_at_call 61;refine HST.out.mono ?_;rintro e ws ⟨s1,rfl,⟨A1,c1,B1,d1,rfl,h1,h2⟩,hb⟩;have H1:=iH h1;have H2:=iH h2;have HBs:=iH hb;obtain⟨n0,n1,n2,nf⟩:=jc (JI ws);have nf0:=nf 0;have nf1:=nf 1;have nf2:=nf 2;clear nf;clear h1 h2 hb q0 q1 q2)
 have hbs:Below ws.heap.size ws (ws.alloc (.cells #[.slice A1 16 c1,.slice B1 16 d1,.int .i64 m] 29)):=Xy ws (.slice A1 16 c1) (.slice B1 16 d1) (.int .i64 m)
 have hrow:(ws.alloc (.cells #[.slice A1 16 c1,.slice B1 16 d1,.int .i64 m] 29)).heap[ws.heap.size]?=some (.cells #[.slice A1 16 c1,.slice B1 16 d1,.int .i64 m] 29 (0,0)):=j1h ws (.slice A1 16 c1) (.slice B1 16 d1) (.int .i64 m)
 have hzb:(ws.alloc (.cells #[.slice A1 16 c1,.slice B1 16 d1,.int .i64 m] 29)).heap.size=ws.heap.size+1:=by simp
 obtain⟨wb,hwb⟩:∃wb,wb=ws.alloc (.cells #[.slice A1 16 c1,.slice B1 16 d1,.int .i64 m] 29):=⟨_,rfl⟩
 rw [<-hwb]at hbs hrow hzb |-
 have HZB:=iH hzb;have HROW:=iH hrow;have HBS:=iH hbs
 have hm16:=j3h wb
 rw [hzb]at hm16
 clear hbs hrow hzb hwb n0 n1 n2 nf0 nf1 nf2 WN
 go_wp2_with fail
 go_loopg [7] 7 (fun q i wr=>∃j:Nat,j+q=7/\i=.int .i64 j/\wr.heap[ws.heap.size+1]?=some (.cells (j4i m j) 5 (0,0))/\Below (ws.heap.size+1) wb wr)
 case atStart=>exact⟨0,rfl,rfl,by rw [<-HZB.out];exact iN,iB.alloc (by rw [HZB.out];exact Nat.le_refl _) _⟩
 case round=>
  obtain⟨j,hj,rfl,hr,hs⟩:=hrel
  have HR:=iH hr;have HS:=iH hs
  have hf:∀o,wr.frozen? ⟨ws.heap.size+1,o,none⟩=false:=fun o=>by simp [World.frozen?,hr]
  have hc:∀o,o<16->wr.cell? ⟨ws.heap.size+1,o,none⟩=(j4i m j)[o]? :=fun o ho=>by rw [cell_of_row _ _ _ _ _ _ hr]
  obtain⟨z0,z1,z2,_⟩:=jc ((hs.block ws.heap.size (by omega)).trans HROW.out)
  clear hr hs hm16
  obtain rfl|rfl|rfl|rfl|rfl|rfl|rfl|rfl:j=0\/j=1\/j=2\/j=3\/j=4\/j=5\/j=6\/j=7:=by omega
  ·obtain rfl:gk=7:=by omega
   go_wp2_with fail
   go_roundg 6
   case measure=>omega
   case rel=>
    have hs:=ja (o:=15) (v:=U8 (ofI (m))) HR.out
    exact⟨1,rfl,rfl,hs,HS.out.setCell (p:=⟨ws.heap.size+1,15,none⟩) iL _⟩
  ·obtain rfl:gk=6:=by omega
   go_wp2_with fail
   go_roundg 5
   case measure=>omega
   case rel=>
    have hs:=ja (o:=14) (v:=U8 (ofI (m / 256))) HR.out
    exact⟨2,rfl,rfl,hs,HS.out.setCell (p:=⟨ws.heap.size+1,14,none⟩) iL _⟩
  ·obtain rfl:gk=5:=by omega
   go_wp2_with fail
   go_roundg 4
   case measure=>omega
   case rel=>
    have hs:=ja (o:=13) (v:=U8 (ofI (m / 65536))) HR.out
    exact⟨3,rfl,rfl,hs,HS.out.setCell (p:=⟨ws.heap.size+1,13,none⟩) iL _⟩
  ·obtain rfl:gk=4:=by omega
   go_wp2_with fail
   go_roundg 3
   case measure=>omega
   case rel=>
    have hs:=ja (o:=12) (v:=U8 (ofI (m / 16777216))) HR.out
    exact⟨4,rfl,rfl,hs,HS.out.setCell (p:=⟨ws.heap.size+1,12,none⟩) iL _⟩
  ·obtain rfl:gk=3:=by omega
   go_wp2_with fail
   go_roundg 2
   case measure=>omega
   case rel=>
    have hs:=ja (o:=11) (v:=U8 (ofI (m / 4294967296))) HR.out
    exact⟨5,rfl,rfl,hs,HS.out.setCell (p:=⟨ws.heap.size+1,11,none⟩) iL _⟩
  ·obtain rfl:gk=2:=by omega
   go_wp2_with fail
   go_roundg 1
   case measure=>omega
   case rel=>
    have hs:=ja (o:=10) (v:=U8 (ofI (m / 1099511627776))) HR.out
    have hv:Value.int .u8 (m / 1099511627776)=U8 (ofI (m / 1099511627776)):=by rw [<-j6,Int.emod_eq_of_lt (by omega) (by omega)]
    rw [show(j4i m 5).set! 10 (U8 (ofI (m / 1099511627776)))=j4i m 6 from rfl,<-hv]at hs
    exact⟨6,rfl,rfl,hs,HS.out.setCell (p:=⟨ws.heap.size+1,10,none⟩) iL _⟩
  ·obtain rfl:gk=1:=by omega
   go_wp2_with fail
   go_roundg 0
   case measure=>omega
   case rel=>
    have hs:=ja (o:=9) (v:=U8 (ofI (m / 281474976710656))) HR.out
    have hv:Value.int .u8 (m / 281474976710656)=U8 (ofI (m / 281474976710656)):=by rw [<-j6,Int.emod_eq_of_lt (by omega) (by omega)]
    rw [show(j4i m 6).set! 9 (U8 (ofI (m / 281474976710656)))=j4i m 7 from rfl,<-hv]at hs
    exact⟨7,rfl,rfl,hs,HS.out.setCell (p:=⟨ws.heap.size+1,9,none⟩) iL _⟩
  ·obtain rfl:gk=0:=by omega
   have hw:Below wa.heap.size wa wr:=((HBs.out.trans (HBS.out.mono HBs.out.size))).trans (HS.out.mono (by have:=HBs.out.size;omega))
   have HWR:=iH hw
   have HR5:Hid (wr.heap[w.heap.size+1]?=some (.cells #[.slice none 0 0,.slice none 0 0,.int .i64 0] 29 (0,0))):=iH ((hw.block _ (iG HRA.out)).trans HRA.out)
   obtain⟨r0,r1,r2,rf⟩:=jc HR5.out
   have rf0:=rf 0;have rf1:=rf 1;have rf2:=rf 2
   obtain⟨y0,y1,y2,_⟩:=jc (kB (.slice A1 16 c1) (.slice B1 16 d1) (.int .i64 m) HR5.out)
   clear rf hf hc hw
   go_wp2_with fail
   refine bodyPost_ret (v:=.tuple #[.agg #[.slice A1 16 c1,.slice B1 16 d1,.int .i64 m],.slice (some ⟨ws.heap.size+1,0,none⟩) 16 16]) (by simp only [set3]at y0 y1 y2;simp [results,Tryz.results30,go_sem,y0,y1,y2]) rfl ?_
   have NB0:noB #[.slice none 0 0,.slice none 0 0,.int .i64 0]:=j4k none none 0 0 0 0 0
   have hk:∀ {v l},Bs wr wr.heap.size v l->Bs (set3 wr (w.heap.size+1) (.slice A1 16 c1) (.slice B1 16 d1) (.int .i64 m)) (set3 wr (w.heap.size+1) (.slice A1 16 c1) (.slice B1 16 d1) (.int .i64 m)).heap.size v l:=fun h=>BsS.keep (h.off HR5.out NB0) fun j hs _=>⟨jR hs.2,by simpa [set3]using hs.1⟩
   have hold:∀ {v l},BsS ws (New wa ws) v l->Bs wr wr.heap.size v l:=fun h=>BsS.keep h fun g hg hl=>⟨(HS.out.block g (by omega)).trans (HBS.out.block g hl),iZ hl (Nat.le_trans HBS.out.size HS.out.size)⟩
   have hn:Bs wr wr.heap.size (.slice (some ⟨ws.heap.size+1,0,none⟩) 16 16) (K4 m):=by
    have ho:OwnB wr (ws.heap.size+1) (.slice (some ⟨ws.heap.size+1,0,none⟩) 16 16) (K4 m):=⟨rfl,.inr ⟨ws.heap.size+1,16,_,rfl,Nat.le_refl _,HR.out,Nat.le_refl _,by decide,rfl,rfl⟩⟩
    exact(BsS.of_own ho (by rw [ZA];omega)).keep fun _ hg _=>⟨rfl,hg.2⟩
   rw [HM.out]
   exact⟨_,_,_,rfl,hk (hold H1.out),hk (hold H2.out),hk hn,qs (HB.out.trans (HWR.out.mono HB.out.size)) (by omega)⟩
end Go.Proofs.YtadndhgebgjlaaaGreat
