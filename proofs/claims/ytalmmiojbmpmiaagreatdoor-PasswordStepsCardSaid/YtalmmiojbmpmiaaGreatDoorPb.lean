/- Facts on bytes as the walk meets them: the operations on the integer kind u8 said of Lean's UInt8. No program is named here; Words for memory: which blocks a... -/
import Derived.Deep.Draws
import Derived.Deep.MidRow
import Derived.Deep.OwnRows
import Derived.Deep.WholeRow
import Derived.Laws.CopyOwn
import Derived.WalkKit
import Derived.Test.YtalmmiojbmpmiaaGreatDoorPa
set_option linter.all false
namespace Go.Proofs.YtalmmiojbmpmiaaGreatDoor
open Go.RowKit
section
open Go.RowKit
def bv(b:UInt8):Int:=(b.toNat:Int)
def ofI(z:Int):UInt8:=UInt8.ofNat (z % 256).toNat
abbrev U8(b:UInt8):Value:=.int .u8 (bv b)
theorem jP(b:UInt8):0<=bv b:=Int.natCast_nonneg _
theorem jT(b:UInt8):bv b<256:=by have:=b.toNat_lt;unfold bv;omega
theorem j1z(b:UInt8):(bv b).toNat=b.toNat:=by simp [bv]
theorem qO(z:Int):bv (ofI z)=z % 256:=by
 unfold bv ofI
 rw [UInt8.toNat_ofNat']
 have:0<=z % 256:=Int.emod_nonneg _ (by omega)
 have:z % 256<256:=Int.emod_lt_of_pos _ (by omega)
 omega
theorem xy{a b:UInt8}(h:bv a=bv b):a=b:=UInt8.toNat_inj.1 (by unfold bv at h;omega)
theorem zU(b:UInt8):ofI (bv b)=b:=xy (by rw [qO];have:=jP b;have:=jT b;omega)
theorem yV{z:Int}(h0:0<=z)(h1:z<256):bv (ofI z)=z:=by rw [qO];omega
theorem kI{x y:Int}(h:x % 256=y % 256):ofI x=ofI y:=by unfold ofI;rw [h]
theorem j5c(x:Int):ofI (x % 256)=ofI x:=kI (by omega)
theorem j5b(x y:Int):ofI (x+y)=ofI x+ofI y:=by
 apply xy
 rw [qO]
 show _=((ofI x+ofI y).toNat:Int)
 rw [UInt8.toNat_add]
 have hx:=qO x;have hy:=qO y
 unfold bv at hx hy
 omega
theorem j5d(x y:Int):ofI (x*y)=ofI x*ofI y:=by
 apply xy
 rw [qO]
 show _=((ofI x*ofI y).toNat:Int)
 rw [UInt8.toNat_mul,Int.natCast_emod,Int.natCast_mul]
 have hx:=qO x;have hy:=qO y
 unfold bv at hx hy
 rw [hx,hy,Int.mul_emod]
 rfl
theorem Qb(op:BinOp)(a a' b b':Int)(h:a % 256=a' % 256)(h':b % 256=b' % 256):bits op .u8 a b=bits op .u8 a' b':=by
 have e:∀x y:Int,x % 256=y % 256->BitVec.ofInt IntKind.u8.bits x=BitVec.ofInt IntKind.u8.bits y:=by
  intro x y h
  show BitVec.ofInt 8 x=BitVec.ofInt 8 y
  apply BitVec.eq_of_toNat_eq
  simp only [BitVec.toNat_ofInt]
  omega
 unfold bits
 rw [e _ _ h,e _ _ h']
theorem Qd(op:BinOp)(x y:Int):bits op .u8 x y=bits op .u8 (bv (ofI x)) (bv (ofI y)):=Qb op _ _ _ _ (by rw [qO];omega) (by rw [qO];omega)
theorem Zs(x y:Int):bits .xor .u8 x y=bv (ofI x ^^^ ofI y):=by
 rw [Qd];unfold bv;rw [u8_xor_nat _ _ (UInt8.toNat_lt _) (UInt8.toNat_lt _),UInt8.toNat_xor]
theorem Zr(x y:Int):bits .and .u8 x y=bv (ofI x &&& ofI y):=by
 rw [Qd];unfold bv;rw [u8_and_nat _ _ (UInt8.toNat_lt _) (UInt8.toNat_lt _),UInt8.toNat_and]
theorem Uf(x y:Int):bits .or .u8 x y=bv (ofI x ||| ofI y):=by
 rw [Qd];unfold bv;rw [u8_or_nat _ _ (UInt8.toNat_lt _) (UInt8.toNat_lt _),UInt8.toNat_or]
theorem Vr(a b:UInt8):(bv a==bv b)=(a==b):=by
 rw [Bool.eq_iff_iff,beq_iff_eq,beq_iff_eq];exact⟨xy,fun h=>by rw [h]⟩
theorem j41(a b:UInt8):(bv a != bv b)=(a != b):=by rw [bne,bne,Vr]
theorem Ue(a:UInt8)(z:Int)(h0:0<=z)(h1:z<256):(bv a==z)=(a==ofI z):=by rw [<-Vr,yV h0 h1]
theorem Uh(a:UInt8)(z:Int)(h0:0<=z)(h1:z<256):(bv a != z)=(a != ofI z):=by rw [<-j41,yV h0 h1]
theorem jh(x:Int):Value.int .u8 (x % 256)=U8 (ofI x):=by show Value.int .u8 (x % 256)=Value.int .u8 (bv (ofI x));rw [qO]
theorem Yr(a:UInt8)(z:Int)(h0:0<=z)(h1:z<256):bv a / z=bv (a / ofI z):=by
 have h:=yV h0 h1
 unfold bv at*
 rw [UInt8.toNat_div,Int.natCast_ediv,h]
theorem j7g:ofI 0=0:=by decide
theorem j7h:ofI 1=1:=by decide
theorem j30:ofI 2=2:=by decide
theorem j6q:ofI 27=27:=by decide
theorem j5a:ofI 128=128:=by decide
theorem j5w(b:UInt8):IntKind.i64.wrap (bv b)=bv b:=IntWalk.i64_in _ (by have:=jP b;have:=jT b;omega)
theorem j1m(b:UInt8):wrap64 (bv b)=bv b:=IntWalk.wrap64_in _ (by have:=jP b;have:=jT b;omega)
attribute [simp] j5w j1m Zs Zr Uf Vr j41 Ue Uh jh Yr zU j5c j5b j5d j1z j7g j7h j30 j6q j5a
end
section
variable{a w:World}{row:Option Nat}(h:a.grownBy w row)
include a w row h
theorem jw(n:Nat):a.grownBy (w.drewN n) row:=⟨h.os,h.tape,h.output,h.size,h.block⟩
theorem kS:a.grownBy w.drew row:=⟨h.os,h.tape,h.output,h.size,h.block⟩
theorem jQ(o:Obj):a.grownBy (w.alloc o) row:=
 ⟨h.os,h.tape,h.output,Nat.le_trans h.size (by simp),fun i hi hne=>(Below.heap_alloc w o i (iZ hi h.size)).trans (h.block i hi hne)⟩
end
theorem j7{a w:World}{g:Nat}(h:a.grownBy w (some g)){p:Addr}(hp:p.block=g\/a.heap.size<=p.block)(u:Value):a.grownBy (w.setCell p u) (some g):=
 ⟨h.os,h.tape,h.output,by simpa [World.setCell]using h.size,fun i hi hne=>(Below.heap_setCell w p u i (by
  rintro rfl
  rcases hp with hp|hp
  ·exact hne (by rw [hp])
  ·omega)).trans (h.block i hi hne)⟩
theorem Qz{a w:World}(h:Below a.heap.size a w)(row:Option Nat):a.grownBy w row:=⟨h.os,h.tape,h.output,h.size,fun i hi _=>h.block i hi⟩
theorem j8{a w:World}{B g:Nat}(h:a.grownBy w (some g))(hB:B<=a.heap.size)(hg:B<=g):Below B a w:=
 ⟨h.os,h.tape,h.output,h.size,fun i hi=>h.block i (by omega) (by intro e;injection e;omega)⟩
theorem ky{a b c:World}{g:Nat}(h:a.grownBy b (some g))(k:b.grownBy c (some g)):a.grownBy c (some g):=
 ⟨k.os.trans h.os,k.tape.trans h.tape,k.output.trans h.output,Nat.le_trans h.size k.size,fun i hi hn=>(k.block i (iZ hi h.size) hn).trans (h.block i hi hn)⟩
theorem j31{a b c:World}{g k:Nat}(h:a.grownBy b (some g))(hk:b.grownBy c (some k))(hnew:a.heap.size<=k):a.grownBy c (some g):=
 ⟨hk.os.trans h.os,hk.tape.trans h.tape,hk.output.trans h.output,Nat.le_trans h.size hk.size,fun i hi hn=>(hk.block i (iZ hi h.size) (by intro e;injection e;omega)).trans (h.block i hi hn)⟩
theorem j3{B:Nat}{a w:World}(h:Below B a w)(n:Nat):Below B a (w.drewN n):=⟨h.os,h.tape,h.output,h.size,h.block⟩
theorem ZY{w:World}{b:Nat}{t:TypeId}{n:Nat}{f:Nat->Value}(h:w.rowIs b t n f)(k:Nat):(w.drewN k).rowIs b t n f:=h
theorem zD{w w':World}{b B:Nat}{t:TypeId}{n:Nat}{f:Nat->Value}(h:w.rowIs b t n f)(hg:Below B w w')(hlt:b<B):w'.rowIs b t n f:=
 h.of_block (hg.block b hlt)
def ArrB(w:World)(b off n:Nat)(f:Nat->UInt8):Prop:=∀j,j<n->w.cell? ⟨b,off+j,none⟩=some (U8 (f j))
theorem ArrB.at_{w:World}{b off n:Nat}{f:Nat->UInt8}(h:ArrB w b off n f){j:Nat}(hj:j<n):w.cell? ⟨b,off+j,none⟩=some (U8 (f j)):=h j hj
theorem ArrB.of_block{w w':World}{b off n:Nat}{f:Nat->UInt8}(h:ArrB w b off n f)(e:w'.heap[b]?=w.heap[b]?):ArrB w' b off n f:=
 fun j hj=>(World.cell?_of_block (w:=w) e).trans (h j hj)
theorem ArrB.lt{w:World}{b off n:Nat}{f:Nat->UInt8}(h:ArrB w b off n f)(hn:0<n):b<w.heap.size:=block_lt_of_cell (h 0 hn)
theorem ArrB.only{w w':World}{b off n g:Nat}{f:Nat->UInt8}(h:ArrB w b off n f)(hg:w.grownBy w' (some g))(hne:b≠g):ArrB w' b off n f:=by
 rcases Nat.eq_zero_or_pos n with h0|h0
 ·intro j hj;omega
 ·exact h.of_block (hg.block b (h.lt h0) (by intro e;injection e;exact hne ‹_›))
theorem ArrB.alloc{w:World}{b off n:Nat}{f:Nat->UInt8}(h:ArrB w b off n f)(o:Obj):ArrB (w.alloc o) b off n f:=by
 rcases Nat.eq_zero_or_pos n with h0|h0
 ·intro j hj;omega
 ·exact h.of_block (Below.heap_alloc _ _ _ (h.lt h0))
theorem ArrB.of_row{w:World}{b n off m:Nat}{t:TypeId}{f:Nat->UInt8}(h:w.rowIs b t n (fun j=>U8 (f j)))(hm:off+m<=n):ArrB w b off m (fun j=>f (off+j)):=
 fun j hj=>h.cell (i:=off+j) (by omega)
theorem ArrB.congr{w:World}{b off n:Nat}{f g:Nat->UInt8}(h:ArrB w b off n f)(e:∀i,i<n->f i=g i):ArrB w b off n g:=
 fun j hj=>by rw [<-e j hj];exact h j hj
def kO(n:Nat)(f:Nat->UInt8):Array Value:=((List.range n).map fun i=>U8 (f i)).toArray
theorem Js(n:Nat)(f:Nat->UInt8)(i:Nat)(h:i<n):(kO n f)[i]?=some (U8 (f i)):=by simp [kO,h]
theorem jI(n:Nat)(f:Nat->UInt8):(kO n f).size=n:=by simp [kO]
theorem Ud{n:Nat}{f g:Nat->UInt8}(h:∀j,j<n->f j=g j):kO n f=kO n g:=by
 unfold kO
 congr 1
 exact List.map_congr_left fun j hj=>by rw [h j (by simpa using hj)]
theorem jR(w:World)(n:Nat)(t:TypeId)(f:Nat->UInt8):(w.alloc (.cells (kO n f) t)).rowIs w.heap.size t n (fun j=>U8 (f j)):=
 ⟨_,iN,jI n f,fun i hi=>Js n f i hi⟩
theorem qD{w:World}{b n:Nat}{t:TypeId}{f:Nat->UInt8}(h:w.rowIs b t n (fun j=>U8 (f j))):w.heap[b]?=some (.cells (kO n f) t (0,0)):=by
 obtain⟨c,hb,hn,hc⟩:=h
 rw [hb]
 have:c=kO n f:=by
  apply Array.ext_getElem?
  intro i
  rcases Nat.lt_or_ge i n with hi|hi
  ·rw [hc i hi,Js n f i hi]
  ·rw [Array.getElem?_eq_none (by omega),Array.getElem?_eq_none (by rw [jI];omega)]
 rw [this]
theorem Q9(n:Nat)(f:Nat->UInt8):(kO n f).all (·.oneCell')=true:=by
 simp [kO,Value.oneCell']
theorem xP{P:Program}{T:TypeId}{n:Nat}(hi:(P.info? T).map (·.size)=some n)(f:Nat->UInt8)(W:World)(c:Array Value)(b:Nat)(hc:c.size=n)(hb:b=W.heap.size):
 (storeCells ⟨b,0,none⟩ (kO n f).toList).run P (W.alloc (.cells c T))=.ok () (W.alloc (.cells (kO n f) T)):=by
 subst hb
 exact run_storeCells_new W T c (kO n f) (by rw [hi,jI]) (by rw [hc,jI]) (Q9 n f)
def qI(n:Nat)(new old:Nat->UInt8)(j:Nat):UInt8:=if j<n then new j else old j
theorem Zh(new old:Nat->UInt8):qI 0 new old=old:=by funext j;unfold qI;rw [iF (by omega)]
theorem X7{n j:Nat}{new old:Nat->UInt8}(h:n<=j):qI n new old j=old j:=by unfold qI;rw [iF (by omega)]
theorem jy{w:World}{g N:Nat}{t:TypeId}{old:Nat->UInt8}(h:w.rowIs g t N (fun j=>U8 (old j)))(new:Nat->UInt8):w.rowIs g t N (fun j=>U8 (qI 0 new old j)):=by rw [Zh];exact h
section
variable{w:World}{g N n:Nat}{t:TypeId}{new old:Nat->UInt8}
include w g N n t new old
theorem jx(h:w.rowIs g t N (fun j=>U8 (qI n new old j)))(hn:N<=n):w.rowIs g t N (fun j=>U8 (new j)):=
 h.congr fun j hj=>by unfold qI;rw [iT (by omega)]
theorem jE{v:UInt8}(h:w.rowIs g t N (fun j=>U8 (qI n new old j)))(hv:v=new n):
 (w.setCell ⟨g,n,none⟩ (U8 v)).rowIs g t N (fun j=>U8 (qI (n+1) new old j)):=
 (h.set n _).congr fun j _=>by
   unfold qI
   by_cases e:j=n
   ·subst e;rw [iT rfl,iT (by omega),hv]
   ·rw [iF e]
    by_cases e2:j<n
    ·rw [iT e2,iT (by omega)]
    ·rw [iF e2,iF (by omega)]
theorem jJ(h:w.rowIs g t N (fun j=>U8 (qI n new old j)))(hn:n<N):w.cell? ⟨g,n,none⟩=some (U8 (old n)):=by
 have:=h.cell hn
 rwa [X7 iL]at this
end
def gb(l:List UInt8)(j:Nat):UInt8:=l.getD j 0
def BsS(w:World)(S:Nat->Prop)(v:Value)(l:List UInt8):Prop:=
 ∃a c,v=.slice a l.length c/\l.length<=c/\c<=9223372036854775807/\l.length<=140737488355328/\
  (0<l.length->∃b off,a=some ⟨b,off,none⟩/\S b/\∀j,j<l.length->w.cell? ⟨b,off+j,none⟩=some (U8 (gb l j)))
abbrev Bs(w:World)(B:Nat)(v:Value)(l:List UInt8):Prop:=BsS w (·<B) v l
theorem BsS.form{w:World}{S:Nat->Prop}{v:Value}{l:List UInt8}(h:BsS w S v l):∃A n c,v=.slice A n c:=by
 obtain⟨a,c,hv,_⟩:=h;exact⟨a,_,c,hv⟩
theorem BsS.keep{w w':World}{S S':Nat->Prop}{v:Value}{l:List UInt8}(h:BsS w S v l)(hk:∀b,S b->b<w.heap.size->w'.heap[b]?=w.heap[b]?/\S' b):BsS w' S' v l:=by
 obtain⟨a,c,hv,h1,h2,h3,h4⟩:=h
 refine⟨a,c,hv,h1,h2,h3,fun hn=> ?_⟩
 obtain⟨b,off,ha,hb,hc⟩:=h4 hn
 have hlt:=block_lt_of_cell (hc 0 hn)
 exact⟨b,off,ha,(hk b hb hlt).2,fun j hj=>(World.cell?_of_block (w:=w) (hk b hb hlt).1).trans (hc j hj)⟩
theorem Bs.form{w:World}{B:Nat}{v:Value}{l:List UInt8}(h:Bs w B v l):∃A n c,v=.slice A n c:=BsS.form h
theorem Bs.below{w w':World}{B:Nat}{v:Value}{l:List UInt8}(h:Bs w B v l)(hb:Below B w w'):Bs w' B v l:=BsS.keep h fun b hb' _=>⟨hb.block b hb',hb'⟩
theorem Bs.mono{w:World}{B B':Nat}{v:Value}{l:List UInt8}(h:Bs w B v l)(hB:B<=B'):Bs w B' v l:=BsS.keep h fun _ hb _=>⟨rfl,iZ hb hB⟩
abbrev New(w w':World)(b:Nat):Prop:=w.heap.size<=b/\b<w'.heap.size
theorem BsS.bs{w w0:World}{v:Value}{l:List UInt8}(h:BsS w (New w0 w) v l):Bs w w.heap.size v l:=h.keep fun _ hs _=>⟨rfl,hs.2⟩
theorem BsS.len{w:World}{S:Nat->Prop}{v:Value}{l:List UInt8}(h:BsS w S v l):l.length<=140737488355328:=by
 obtain⟨a,c,hv,h1,h2,h3,h4⟩:=h;exact h3
theorem Bs.nil(w:World)(B:Nat):Bs w B (.slice none 0 0) []:=⟨none,0,rfl,by simp,by simp,by simp,by simp⟩
theorem jK(l:List UInt8)(j:Nat)(hj:j<l.length):(l.map U8)[j]?=some (U8 (gb l j)):=by
 simp [gb,hj]
theorem BsS.of_own{w:World}{base:Nat}{e:TypeId}{v:Value}{n:Nat}{l:List UInt8}(h:w.ownsRow base e 1 v n (l.map U8))(hl:l.length<=140737488355328):BsS w (fun b=>base<=b/\b<w.heap.size) v l:=by
 have hn:n=l.length:=by have:=h.1;simpa using this.symm
 subst hn
 rcases h.2 with ⟨rfl,h0⟩|⟨g,cap,cur,hv,hg,hh,hlen,hcap,hrest⟩
 ·have hl0:l= []:=by simpa using h0
  subst hl0;exact⟨none,0,rfl,by simp,by simp,by simp,by simp⟩
 ·have hlt:g<w.heap.size:=(iG hh)
  refine⟨some ⟨g,0,none⟩,cap,hv,by omega,by unfold maxLen at hcap;omega,hl,fun hpos=>⟨g,0,rfl,⟨hg,hlt⟩,fun j hj=> ?_⟩⟩
  have:=h.cells (g:=g) (by rw [hv]<;>rfl) j (U8 (gb l j)) (jK l j hj)
  have e:(⟨g,0,none⟩:Addr).add j=⟨g,0+j,none⟩:=by unfold Addr.add;split<;>simp_all
  rwa [e]at this
theorem Y6(n m off:Nat)(f g:Nat->UInt8)(h:off+m<=n):
 (splice (kO n f).toList off ((List.range m).map fun j=>U8 (g j))).toArray=kO n (fun j=>if off<=j/\j<off+m then g (j - off)else f j):=by
 apply Array.ext_getElem?
 intro i
 have hlen:(List.take off (List.map (fun i=>U8 (f i)) (List.range n))).length=off:=by simp;omega
 simp only [splice,kO,List.getElem?_toArray,List.length_map,List.length_range]
 by_cases h1:i<off
 ·rw [List.getElem?_append_left (by omega)]
  simp only [List.getElem?_take,iT h1,List.getElem?_map,List.getElem?_range (show i<n by omega),Option.map_some]
  rw [iF (by omega)]
 ·rw [List.getElem?_append_right (by omega),hlen]
  by_cases h2:i<off+m
  ·rw [List.getElem?_append_left (by simp;omega)]
   simp only [List.getElem?_map,List.getElem?_range (show i<n by omega),List.getElem?_range (show i - off<m by omega),Option.map_some]
   rw [iT (by omega)]
  ·rw [List.getElem?_append_right (by simp;omega)]
   simp only [List.length_map,List.length_range,List.getElem?_drop,List.getElem?_map]
   rw [show off+m+(i - off - m)=i by omega]
   by_cases h3:i<n
   ·simp only [List.getElem?_range h3,Option.map_some]
    rw [iF (by omega)]
   ·rw [List.getElem?_eq_none (by simp;omega)]<;>rfl
theorem jp{P:Program}{ops:Array Oper}{rest:List Oper}{op:Oper}{a:Act}{w:World}{Q:Exit->Act->World->Prop}(hgd:op.guard=none)(ty:TypeId)(x:Operand)(ho:op.op=.load ty x)(b o n:Nat)(f:Nat->UInt8)(hx:a.eval x=.pointer (some ⟨b,o,none⟩))(d:TypeDesc)(hc:ArrB w b o n f)(hu:P.underlying ty=some d)(hd:d.isRow=true)(hi:(P.info? ty).map (·.size)=some n)(h:wpList P ops Q rest (a.put op.dst (.agg (kO n f))) w):wpList P ops Q (op :: rest) a w:=
 wpList_load_mid hgd ty x ho b o hx ((List.range n).map fun i=>U8 (f i)) d (fun j v hv=>by
  have hj:j<n:=by
   rcases Nat.lt_or_ge j n with h'|h'
   ·exact h'
   ·rw [List.getElem?_eq_none (by simp;omega)]at hv;cases hv
  rw [hc j hj,<-hv]
  simp [hj]) hu hd (by simpa using hi) h
theorem kV{P:Program}{ops:Array Oper}{rest:List Oper}{o:Oper}{a:Act}{w:World}{Q:Exit->Act->World->Prop}(hgd:o.guard=none)(ty:TypeId)(x y:Operand)(ho:o.op=.store ty x y)(g n:Nat)(f:Nat->UInt8)(hx:a.eval x=.pointer (some ⟨g,0,none⟩))(hy:a.eval y=.agg (kO n f))(t:TypeId)(f0:Nat->UInt8)(hg:w.rowIs g t n (fun j=>U8 (f0 j)))(hi:(P.info? ty).map (·.size)=some n)(h:∀w',w'.rowIs g t n (fun j=>U8 (f j))->w.grownBy w' (some g)->wpList P ops Q rest (a.put o.dst undef) w'):wpList P ops Q (o :: rest) a w:=by
 refine wpList_store_row hgd ty x y ho g (kO n f) hx hy t (kO n f0) (qD hg) (by rw [jI];exact hi) (by rw [jI,jI]) (Q9 n f) (h _ ?_ ?_)
 ·exact⟨_,setRow_heap _ _ _ _ _ _ (qD hg),jI n f,fun i hi=>Js n f i hi⟩
 ·exact⟨rfl,rfl,rfl,by simp [World.setRow],fun i hi hne=>setRow_other _ _ _ _ (by rintro rfl;exact hne rfl)⟩
def jC(n:Nat)(f:Nat->UInt8):List UInt8:=(List.range n).map f
theorem jr(n:Nat)(f:Nat->UInt8):(jC n f).length=n:=by simp [jC]
theorem kx(n:Nat)(f:Nat->UInt8)(j:Nat)(h:j<n):gb (jC n f) j=f j:=by simp [gb,jC,h]
theorem j1t(l:List UInt8)(n:Nat)(h:l.length=n):jC n (fun j=>gb l j)=l:=by
 subst h
 apply List.ext_getElem
 ·simp [jC]
 ·intro i h1 h2
  have h3:i<l.length:=by simpa [jC]using h1
  simp [gb,jC,h3]
theorem BsS.of_row{w:World}{g n:Nat}{t:TypeId}{f:Nat->UInt8}{S:Nat->Prop}(h:w.rowIs g t n (fun j=>U8 (f j)))(hn:n<=140737488355328)(hS:S g):BsS w S (.slice (some ⟨g,0,none⟩) n n) (jC n f):=
 ⟨some ⟨g,0,none⟩,n,by rw [jr],by rw [jr];exact Nat.le_refl _,by omega,by rw [jr];exact hn,fun _=>⟨g,0,rfl,hS,fun j hj=>by
  rw [jr]at hj
  rw [kx _ _ _ hj,Nat.zero_add]
  exact h.cell hj⟩⟩
theorem Bs.of_row{w:World}{g n:Nat}{t:TypeId}{f:Nat->UInt8}(h:w.rowIs g t n (fun j=>U8 (f j)))(hn:n<=140737488355328):Bs w w.heap.size (.slice (some ⟨g,0,none⟩) n n) (jC n f):=
 ⟨some ⟨g,0,none⟩,n,by rw [jr],by rw [jr];exact Nat.le_refl _,by omega,by rw [jr];exact hn,fun _=>⟨g,0,rfl,h.lt,fun j hj=>by
  rw [jr]at hj
  rw [kx _ _ _ hj,Nat.zero_add]
  exact h.cell hj⟩⟩
theorem xT{P:Program}{ops:Array Oper}{rest:List Oper}{o:Oper}{a:Act}{w:World}{Q:Exit->Act->World->Prop}(hg:o.guard=none)(t:TypeId)(parts:Array (Nat×Operand))(ho:o.op=.build t parts)(l:List (Nat×Value))(hl:(parts.map fun(i,x)=>(i,a.eval x)).toList=l)(cs:Array Value)(hb:P.built t l=some cs)(h:wpList P ops Q rest (a.put o.dst (.agg cs)) w):wpList P ops Q (o :: rest) a w:=by
 subst hl
 exact wpList_build hg t parts ho (by rw [hb]<;>rfl) (by rw [hb];exact h)
end Go.Proofs.YtalmmiojbmpmiaaGreatDoor
