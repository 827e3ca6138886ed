/- Facts on bytes as the walk meets them: the operations on the integer kind u8 said of Lean's UInt8. No program is named here; Words for memory: which blocks a... -/
import Derived.Deep.AppendLies
import Derived.Deep.Draws
import Derived.Deep.MidRow
import Derived.Deep.OwnRows
import Derived.Deep.WholeRow
import Derived.Laws.CopyOwn
import Derived.WalkKit
import Derived.Test.YtadndhgebgjlaaaPa
set_option linter.unusedVariables false
set_option linter.unusedSimpArgs false
namespace Go.Proofs.Ytadndhgebgjlaaa
open Go.RowKit
section
open Go.RowKit
def bv(b:UInt8):Int:=(b.toNat:Int)
def ofI(z:Int):UInt8:=UInt8.ofNat (z % 256).toNat
abbrev U8(b:UInt8):Value:=.int .u8 (bv b)
theorem jF(b:UInt8):0<=bv b:=Int.natCast_nonneg _
theorem jJ(b:UInt8):bv b<256:=by have:=b.toNat_lt;unfold bv;omega
theorem Yy(b:UInt8):(bv b).toNat=b.toNat:=by simp [bv]
theorem kd(z:Int):bv (ofI z)=z % 256:=by
 unfold bv ofI
 rw [UInt8.toNat_ofNat']
 have:0<=z % 256:=Int.emod_nonneg _ (by omega)
 have:z % 256<256:=Int.emod_lt_of_pos _ (by omega)
 omega
theorem qn{a b:UInt8}(h:bv a=bv b):a=b:=UInt8.toNat_inj.1 (by unfold bv at h;omega)
theorem xG(b:UInt8):ofI (bv b)=b:=qn (by rw [kd];have:=jF b;have:=jJ b;omega)
theorem zU{z:Int}(h0:0<=z)(h1:z<256):bv (ofI z)=z:=by rw [kd];omega
theorem yh{x y:Int}(h:x % 256=y % 256):ofI x=ofI y:=by unfold ofI;rw [h]
theorem VG(x:Int):ofI (x % 256)=ofI x:=yh (by omega)
theorem VF(x y:Int):ofI (x+y)=ofI x+ofI y:=by
 apply qn
 rw [kd]
 show _=((ofI x+ofI y).toNat:Int)
 rw [UInt8.toNat_add]
 have hx:=kd x;have hy:=kd y
 unfold bv at hx hy
 omega
theorem VH(x y:Int):ofI (x*y)=ofI x*ofI y:=by
 apply qn
 rw [kd]
 show _=((ofI x*ofI y).toNat:Int)
 rw [UInt8.toNat_mul,Int.natCast_emod,Int.natCast_mul]
 have hx:=kd x;have hy:=kd y
 unfold bv at hx hy
 rw [hx,hy,Int.mul_emod]
 rfl
theorem J7(op:BinOp)(a a' b b':Int)(h:a % 256=a' % 256)(h':b % 256=b' % 256):bits op .u8 a b=bits op .u8 a' b':=by
 have e:∀x y:Int,x % 256=y % 256->BitVec.ofInt IntKind.u8.bits x=BitVec.ofInt IntKind.u8.bits y:=by
  intro x y h
  show BitVec.ofInt 8 x=BitVec.ofInt 8 y
  apply BitVec.eq_of_toNat_eq
  simp only [BitVec.toNat_ofInt]
  omega
 unfold bits
 rw [e _ _ h,e _ _ h']
theorem J8(op:BinOp)(x y:Int):bits op .u8 x y=bits op .u8 (bv (ofI x)) (bv (ofI y)):=J7 op _ _ _ _ (by rw [kd];omega) (by rw [kd];omega)
theorem Kz(x y:Int):bits .xor .u8 x y=bv (ofI x ^^^ ofI y):=by
 rw [J8];unfold bv;rw [u8_xor_nat _ _ (UInt8.toNat_lt _) (UInt8.toNat_lt _),UInt8.toNat_xor]
theorem Kx(x y:Int):bits .and .u8 x y=bv (ofI x &&& ofI y):=by
 rw [J8];unfold bv;rw [u8_and_nat _ _ (UInt8.toNat_lt _) (UInt8.toNat_lt _),UInt8.toNat_and]
theorem QN(x y:Int):bits .or .u8 x y=bv (ofI x ||| ofI y):=by
 rw [J8];unfold bv;rw [u8_or_nat _ _ (UInt8.toNat_lt _) (UInt8.toNat_lt _),UInt8.toNat_or]
theorem XP(a b:UInt8):(bv a==bv b)=(a==b):=by
 rw [Bool.eq_iff_iff,beq_iff_eq,beq_iff_eq];exact⟨qn,fun h=>by rw [h]⟩
theorem UL(a b:UInt8):(bv a != bv b)=(a != b):=by rw [bne,bne,XP]
theorem QM(a:UInt8)(z:Int)(h0:0<=z)(h1:z<256):(bv a==z)=(a==ofI z):=by rw [<-XP,zU h0 h1]
theorem QP(a:UInt8)(z:Int)(h0:0<=z)(h1:z<256):(bv a != z)=(a != ofI z):=by rw [<-UL,zU h0 h1]
theorem j4(x:Int):Value.int .u8 (x % 256)=U8 (ofI x):=by show Value.int .u8 (x % 256)=Value.int .u8 (bv (ofI x));rw [kd]
theorem XT(a:UInt8)(z:Int)(h0:0<=z)(h1:z<256):bv a / z=bv (a / ofI z):=by
 have h:=zU h0 h1
 unfold bv at*
 rw [UInt8.toNat_div,Int.natCast_ediv,h]
theorem j1i:ofI 0=0:=by decide
theorem j1j:ofI 1=1:=by decide
theorem VE:ofI 2=2:=by decide
theorem j0t:ofI 27=27:=by decide
theorem VD:ofI 128=128:=by decide
theorem VY(b:UInt8):IntKind.i64.wrap (bv b)=bv b:=IntWalk.i64_in _ (by have:=jF b;have:=jJ b;omega)
theorem Yl(b:UInt8):wrap64 (bv b)=bv b:=IntWalk.wrap64_in _ (by have:=jF b;have:=jJ b;omega)
attribute [simp] VY Yl Kz Kx QN XP UL QM QP j4 XT xG VG VF VH Yy j1i j1j VE j0t VD
end
theorem jg{a w:World}{row:Option Nat}(h:a.grownBy w row)(n:Nat):a.grownBy (w.drewN n) row:=⟨h.os,h.tape,h.output,h.size,h.block⟩
theorem jO{a w:World}{row:Option Nat}(h:a.grownBy w row):a.grownBy w.drew row:=⟨h.os,h.tape,h.output,h.size,h.block⟩
theorem jt{a w:World}{row:Option Nat}(h:a.grownBy w row)(o:Obj):a.grownBy (w.alloc o) row:=
 ⟨h.os,h.tape,h.output,Nat.le_trans h.size (by simp),fun i hi hne=>(Below.heap_alloc w o i (iZ hi h.size)).trans (h.block i hi hne)⟩
theorem j5{a w:World}{g:Nat}(h:a.grownBy w (some g)){p:Addr}(hp:p.block=g\/a.heap.size<=p.block)(u:Value):a.grownBy (w.setCell p u) (some g):=
 ⟨h.os,h.tape,h.output,by simpa [World.setCell]using h.size,fun i hi hne=>(Below.heap_setCell w p u i (by
  rintro rfl
  rcases hp with hp|hp
  ·exact hne (by rw [hp])
  ·omega)).trans (h.block i hi hne)⟩
theorem jh{a w:World}(h:Below a.heap.size a w)(row:Option Nat):a.grownBy w row:=⟨h.os,h.tape,h.output,h.size,fun i hi _=>h.block i hi⟩
theorem j7{a w:World}{B g:Nat}(h:a.grownBy w (some g))(hB:B<=a.heap.size)(hg:B<=g):Below B a w:=
 ⟨h.os,h.tape,h.output,h.size,fun i hi=>h.block i (by omega) (by intro e;injection e;omega)⟩
theorem jA{a b c:World}{g:Nat}(h:a.grownBy b (some g))(k:b.grownBy c (some g)):a.grownBy c (some g):=
 ⟨k.os.trans h.os,k.tape.trans h.tape,k.output.trans h.output,Nat.le_trans h.size k.size,fun i hi hn=>(k.block i (iZ hi h.size) hn).trans (h.block i hi hn)⟩
theorem Ub{a b c:World}{g k:Nat}(h:a.grownBy b (some g))(hk:b.grownBy c (some k))(hnew:a.heap.size<=k):a.grownBy c (some g):=
 ⟨hk.os.trans h.os,hk.tape.trans h.tape,hk.output.trans h.output,Nat.le_trans h.size hk.size,fun i hi hn=>(hk.block i (iZ hi h.size) (by intro e;injection e;omega)).trans (h.block i hi hn)⟩
theorem jf{B:Nat}{a w:World}(h:Below B a w)(n:Nat):Below B a (w.drewN n):=⟨h.os,h.tape,h.output,h.size,h.block⟩
theorem KV{w:World}{b:Nat}{t:TypeId}{n:Nat}{f:Nat->Value}(h:w.rowIs b t n f)(k:Nat):(w.drewN k).rowIs b t n f:=h
theorem ym{w w':World}{b B:Nat}{t:TypeId}{n:Nat}{f:Nat->Value}(h:w.rowIs b t n f)(hg:Below B w w')(hlt:b<B):w'.rowIs b t n f:=
 h.of_block (hg.block b hlt)
def ArrB(w:World)(b off n:Nat)(f:Nat->UInt8):Prop:=∀j,j<n->w.cell? ⟨b,off+j,none⟩=some (U8 (f j))
theorem ArrB.at_{w:World}{b off n:Nat}{f:Nat->UInt8}(h:ArrB w b off n f){j:Nat}(hj:j<n):w.cell? ⟨b,off+j,none⟩=some (U8 (f j)):=h j hj
theorem ArrB.of_block{w w':World}{b off n:Nat}{f:Nat->UInt8}(h:ArrB w b off n f)(e:w'.heap[b]?=w.heap[b]?):ArrB w' b off n f:=
 fun j hj=>(World.cell?_of_block (w:=w) e).trans (h j hj)
theorem ArrB.lt{w:World}{b off n:Nat}{f:Nat->UInt8}(h:ArrB w b off n f)(hn:0<n):b<w.heap.size:=block_lt_of_cell (h 0 hn)
theorem ArrB.only{w w':World}{b off n g:Nat}{f:Nat->UInt8}(h:ArrB w b off n f)(hg:w.grownBy w' (some g))(hne:b≠g):ArrB w' b off n f:=by
 rcases Nat.eq_zero_or_pos n with h0|h0
 ·intro j hj;omega
 ·exact h.of_block (hg.block b (h.lt h0) (by intro e;injection e;exact hne ‹_›))
theorem ArrB.alloc{w:World}{b off n:Nat}{f:Nat->UInt8}(h:ArrB w b off n f)(o:Obj):ArrB (w.alloc o) b off n f:=by
 rcases Nat.eq_zero_or_pos n with h0|h0
 ·intro j hj;omega
 ·exact h.of_block (Below.heap_alloc _ _ _ (h.lt h0))
theorem ArrB.of_row{w:World}{b n off m:Nat}{t:TypeId}{f:Nat->UInt8}(h:w.rowIs b t n (fun j=>U8 (f j)))(hm:off+m<=n):ArrB w b off m (fun j=>f (off+j)):=
 fun j hj=>h.cell (i:=off+j) (by omega)
theorem ArrB.congr{w:World}{b off n:Nat}{f g:Nat->UInt8}(h:ArrB w b off n f)(e:∀i,i<n->f i=g i):ArrB w b off n g:=
 fun j hj=>by rw [<-e j hj];exact h j hj
def kx(n:Nat)(f:Nat->UInt8):Array Value:=((List.range n).map fun i=>U8 (f i)).toArray
theorem J4(n:Nat)(f:Nat->UInt8)(i:Nat)(h:i<n):(kx n f)[i]?=some (U8 (f i)):=by simp [kx,h]
theorem jy(n:Nat)(f:Nat->UInt8):(kx n f).size=n:=by simp [kx]
theorem QL{n:Nat}{f g:Nat->UInt8}(h:∀j,j<n->f j=g j):kx n f=kx n g:=by
 unfold kx
 congr 1
 exact List.map_congr_left fun j hj=>by rw [h j (by simpa using hj)]
theorem jC(w:World)(n:Nat)(t:TypeId)(f:Nat->UInt8):(w.alloc (.cells (kx n f) t)).rowIs w.heap.size t n (fun j=>U8 (f j)):=
 ⟨_,iN,jy n f,fun i hi=>J4 n f i hi⟩
theorem qQ{w:World}{b n:Nat}{t:TypeId}{f:Nat->UInt8}(h:w.rowIs b t n (fun j=>U8 (f j))):w.heap[b]?=some (.cells (kx n f) t (0,0)):=by
 obtain⟨c,hb,hn,hc⟩:=h
 rw [hb]
 have:c=kx n f:=by
  apply Array.ext_getElem?
  intro i
  rcases Nat.lt_or_ge i n with hi|hi
  ·rw [hc i hi,J4 n f i hi]
  ·rw [Array.getElem?_eq_none (by omega),Array.getElem?_eq_none (by rw [jy];omega)]
 rw [this]
theorem Q9(n:Nat)(f:Nat->UInt8):(kx n f).all (·.oneCell')=true:=by
 simp [kx,Value.oneCell']
theorem qB{P:Program}{T:TypeId}{n:Nat}(hi:(P.info? T).map (·.size)=some n)(f:Nat->UInt8)(W:World)(c:Array Value)(b:Nat)(hc:c.size=n)(hb:b=W.heap.size):
 (storeCells ⟨b,0,none⟩ (kx n f).toList).run P (W.alloc (.cells c T))=.ok () (W.alloc (.cells (kx n f) T)):=by
 subst hb
 exact run_storeCells_new W T c (kx n f) (by rw [hi,jy]) (by rw [hc,jy]) (Q9 n f)
def qV(n:Nat)(new old:Nat->UInt8)(j:Nat):UInt8:=if j<n then new j else old j
theorem Kq(new old:Nat->UInt8):qV 0 new old=old:=by funext j;unfold qV;rw [iF (by omega)]
theorem QG{n j:Nat}{new old:Nat->UInt8}(h:n<=j):qV n new old j=old j:=by unfold qV;rw [iF (by omega)]
theorem k8{w:World}{g N:Nat}{t:TypeId}{old:Nat->UInt8}(h:w.rowIs g t N (fun j=>U8 (old j)))(new:Nat->UInt8):w.rowIs g t N (fun j=>U8 (qV 0 new old j)):=by rw [Kq];exact h
theorem k7{w:World}{g N n:Nat}{t:TypeId}{new old:Nat->UInt8}(h:w.rowIs g t N (fun j=>U8 (qV n new old j)))(hn:N<=n):w.rowIs g t N (fun j=>U8 (new j)):=
 h.congr fun j hj=>by unfold qV;rw [iT (by omega)]
theorem kz{w:World}{g N n:Nat}{t:TypeId}{new old:Nat->UInt8}{v:UInt8}(h:w.rowIs g t N (fun j=>U8 (qV n new old j)))(hv:v=new n):
 (w.setCell ⟨g,n,none⟩ (U8 v)).rowIs g t N (fun j=>U8 (qV (n+1) new old j)):=
 (h.set n _).congr fun j _=>by
   unfold qV
   by_cases e:j=n
   ·subst e;rw [iT rfl,iT (by omega),hv]
   ·rw [iF e]
    by_cases e2:j<n
    ·rw [iT e2,iT (by omega)]
    ·rw [iF e2,iF (by omega)]
theorem kF{w:World}{g N n:Nat}{t:TypeId}{new old:Nat->UInt8}(h:w.rowIs g t N (fun j=>U8 (qV n new old j)))(hn:n<N):w.cell? ⟨g,n,none⟩=some (U8 (old n)):=by
 have:=h.cell hn
 rwa [QG iL]at this
def gb(l:List UInt8)(j:Nat):UInt8:=l.getD j 0
def BsS(w:World)(S:Nat->Prop)(v:Value)(l:List UInt8):Prop:=
 ∃a c,v=.slice a l.length c/\l.length<=c/\c<=9223372036854775807/\l.length<=140737488355328/\
  (0<l.length->∃b off,a=some ⟨b,off,none⟩/\S b/\∀j,j<l.length->w.cell? ⟨b,off+j,none⟩=some (U8 (gb l j)))
abbrev Bs(w:World)(B:Nat)(v:Value)(l:List UInt8):Prop:=BsS w (·<B) v l
theorem BsS.form{w:World}{S:Nat->Prop}{v:Value}{l:List UInt8}(h:BsS w S v l):∃A n c,v=.slice A n c:=by
 obtain⟨a,c,hv,_⟩:=h;exact⟨a,_,c,hv⟩
theorem BsS.keep{w w':World}{S S':Nat->Prop}{v:Value}{l:List UInt8}(h:BsS w S v l)(hk:∀b,S b->b<w.heap.size->w'.heap[b]?=w.heap[b]?/\S' b):BsS w' S' v l:=by
 obtain⟨a,c,hv,h1,h2,h3,h4⟩:=h
 refine⟨a,c,hv,h1,h2,h3,fun hn=> ?_⟩
 obtain⟨b,off,ha,hb,hc⟩:=h4 hn
 have hlt:=block_lt_of_cell (hc 0 hn)
 exact⟨b,off,ha,(hk b hb hlt).2,fun j hj=>(World.cell?_of_block (w:=w) (hk b hb hlt).1).trans (hc j hj)⟩
theorem Bs.form{w:World}{B:Nat}{v:Value}{l:List UInt8}(h:Bs w B v l):∃A n c,v=.slice A n c:=BsS.form h
theorem Bs.below{w w':World}{B:Nat}{v:Value}{l:List UInt8}(h:Bs w B v l)(hb:Below B w w'):Bs w' B v l:=BsS.keep h fun b hb' _=>⟨hb.block b hb',hb'⟩
theorem Bs.mono{w:World}{B B':Nat}{v:Value}{l:List UInt8}(h:Bs w B v l)(hB:B<=B'):Bs w B' v l:=BsS.keep h fun _ hb _=>⟨rfl,iZ hb hB⟩
abbrev New(w w':World)(b:Nat):Prop:=w.heap.size<=b/\b<w'.heap.size
theorem BsS.bs{w w0:World}{v:Value}{l:List UInt8}(h:BsS w (New w0 w) v l):Bs w w.heap.size v l:=h.keep fun _ hs _=>⟨rfl,hs.2⟩
theorem BsS.len{w:World}{S:Nat->Prop}{v:Value}{l:List UInt8}(h:BsS w S v l):l.length<=140737488355328:=by
 obtain⟨a,c,hv,h1,h2,h3,h4⟩:=h;exact h3
theorem Bs.nil(w:World)(B:Nat):Bs w B (.slice none 0 0) []:=⟨none,0,rfl,by simp,by simp,by simp,by simp⟩
theorem ky(l:List UInt8)(j:Nat)(hj:j<l.length):(l.map U8)[j]?=some (U8 (gb l j)):=by
 simp [gb,hj]
theorem BsS.of_own{w:World}{base:Nat}{e:TypeId}{v:Value}{n:Nat}{l:List UInt8}(h:w.ownsRow base e 1 v n (l.map U8))(hl:l.length<=140737488355328):BsS w (fun b=>base<=b/\b<w.heap.size) v l:=by
 have hn:n=l.length:=by have:=h.1;simpa using this.symm
 subst hn
 rcases h.2 with ⟨rfl,h0⟩|⟨g,cap,cur,hv,hg,hh,hlen,hcap,hrest⟩
 ·have hl0:l= []:=by simpa using h0
  subst hl0;exact⟨none,0,rfl,by simp,by simp,by simp,by simp⟩
 ·have hlt:g<w.heap.size:=(iG hh)
  refine⟨some ⟨g,0,none⟩,cap,hv,by omega,by unfold maxLen at hcap;omega,hl,fun hpos=>⟨g,0,rfl,⟨hg,hlt⟩,fun j hj=> ?_⟩⟩
  have:=h.cells (g:=g) (by rw [hv]<;>rfl) j (U8 (gb l j)) (ky l j hj)
  have e:(⟨g,0,none⟩:Addr).add j=⟨g,0+j,none⟩:=by unfold Addr.add;split<;>simp_all
  rwa [e]at this
theorem Bs.of_own{w:World}{base:Nat}{e:TypeId}{v:Value}{n:Nat}{l:List UInt8}(h:w.ownsRow base e 1 v n (l.map U8))(hl:l.length<=140737488355328):Bs w w.heap.size v l:=
 (BsS.of_own h hl).keep fun _ hs _=>⟨rfl,hs.2⟩
theorem KZ(n m off:Nat)(f g:Nat->UInt8)(h:off+m<=n):
 (splice (kx n f).toList off ((List.range m).map fun j=>U8 (g j))).toArray=kx n (fun j=>if off<=j/\j<off+m then g (j - off)else f j):=by
 apply Array.ext_getElem?
 intro i
 have hlen:(List.take off (List.map (fun i=>U8 (f i)) (List.range n))).length=off:=by simp;omega
 simp only [splice,kx,List.getElem?_toArray,List.length_map,List.length_range]
 by_cases h1:i<off
 ·rw [List.getElem?_append_left (by omega)]
  simp only [List.getElem?_take,iT h1,List.getElem?_map,List.getElem?_range (show i<n by omega),Option.map_some]
  rw [iF (by omega)]
 ·rw [List.getElem?_append_right (by omega),hlen]
  by_cases h2:i<off+m
  ·rw [List.getElem?_append_left (by simp;omega)]
   simp only [List.getElem?_map,List.getElem?_range (show i<n by omega),List.getElem?_range (show i - off<m by omega),Option.map_some]
   rw [iT (by omega)]
  ·rw [List.getElem?_append_right (by simp;omega)]
   simp only [List.length_map,List.length_range,List.getElem?_drop,List.getElem?_map]
   rw [show off+m+(i - off - m)=i by omega]
   by_cases h3:i<n
   ·simp only [List.getElem?_range h3,Option.map_some]
    rw [iF (by omega)]
   ·rw [List.getElem?_eq_none (by simp;omega)]<;>rfl
theorem jn{P:Program}{ops:Array Oper}{rest:List Oper}{op:Oper}{a:Act}{w:World}{Q:Exit->Act->World->Prop}(hgd:op.guard=none)(ty:TypeId)(x:Operand)(ho:op.op=.load ty x)
 (b o n:Nat) (f:Nat->UInt8) (hx:a.eval x=.pointer (some ⟨b,o,none⟩)) (d:TypeDesc) (hc:ArrB w b o n f)
 (hu:P.underlying ty=some d) (hd:d.isRow=true) (hi:(P.info? ty).map (·.size)=some n)
 (h:wpList P ops Q rest (a.put op.dst (.agg (kx n f))) w):wpList P ops Q (op :: rest) a w:=
 wpList_load_mid hgd ty x ho b o hx ((List.range n).map fun i=>U8 (f i)) d (fun j v hv=>by
  have hj:j<n:=by
   rcases Nat.lt_or_ge j n with h'|h'
   ·exact h'
   ·rw [List.getElem?_eq_none (by simp;omega)]at hv;cases hv
  rw [hc j hj,<-hv]
  simp [hj]) hu hd (by simpa using hi) h
def kh(n:Nat)(f:Nat->UInt8):List UInt8:=(List.range n).map f
theorem jX(n:Nat)(f:Nat->UInt8):(kh n f).length=n:=by simp [kh]
theorem xV(n:Nat)(f:Nat->UInt8)(j:Nat)(h:j<n):gb (kh n f) j=f j:=by simp [gb,kh,h]
theorem zJ(l:List UInt8)(n:Nat)(h:l.length=n):kh n (fun j=>gb l j)=l:=by
 subst h
 apply List.ext_getElem
 ·simp [kh]
 ·intro i h1 h2
  have h3:i<l.length:=by simpa [kh]using h1
  simp [gb,kh,h3]
theorem BsS.of_row{w:World}{g n:Nat}{t:TypeId}{f:Nat->UInt8}{S:Nat->Prop}(h:w.rowIs g t n (fun j=>U8 (f j)))(hn:n<=140737488355328)(hS:S g):BsS w S (.slice (some ⟨g,0,none⟩) n n) (kh n f):=
 ⟨some ⟨g,0,none⟩,n,by rw [jX],by rw [jX];exact Nat.le_refl _,by omega,by rw [jX];exact hn,fun _=>⟨g,0,rfl,hS,fun j hj=>by
  rw [jX]at hj
  rw [xV _ _ _ hj,Nat.zero_add]
  exact h.cell hj⟩⟩
theorem yu{P:Program}{ops:Array Oper}{rest:List Oper}{o:Oper}{a:Act}{w:World}{Q:Exit->Act->World->Prop}(hg:o.guard=none)(t:TypeId)(parts:Array (Nat×Operand))(ho:o.op=.build t parts)
 (l:List (Nat×Value)) (hl:(parts.map fun(i,x)=>(i,a.eval x)).toList=l) (cs:Array Value) (hb:P.built t l=some cs)
 (h:wpList P ops Q rest (a.put o.dst (.agg cs)) w):wpList P ops Q (o :: rest) a w:=by
 subst hl
 exact wpList_build hg t parts ho (by rw [hb]<;>rfl) (by rw [hb];exact h)
theorem qE(b off j:Nat):(⟨b,off,none⟩:Addr).add j=⟨b,off+j,none⟩:=by unfold Addr.add;split<;>simp_all
def SrcAt(w:World)(A:Option Addr)(m:Nat)(news:List Value):Prop:=
 news.length=m/\(0<m->∃ad,A=some ad/\∀j u,news[j]?=some u->w.cell? (ad.add j)=some u)/\∀u∈news,u.oneCell'=true
section
variable {P:Program} (w:World)
theorem yG(base:Nat)(t ty e:TypeId)(i:TypeInfo)(size:Nat)(ht:P.underlying t=some (.slice e))(hi:P.info? e=some i)
 (v:Value) (n:Nat) (xs:List Value) (hown:w.ownsRow base e size v n xs) (c:Nat):(Builtin.append_ #[t,t] ty #[v,.slice none 0 c]).run P w=.ok v w:=by
 rcases hown.2 with ⟨rfl,rfl⟩|⟨g,cap,cur,rfl,_,_,hnc,_⟩
 ·simp [Builtin.append_,run_underlying ht,sizeOf,typeInfo,hi,Builtin.lenOf,Builtin.firstCells]
 ·simp [Builtin.append_,run_underlying ht,sizeOf,typeInfo,hi,Builtin.lenOf,Builtin.firstCells,hnc,storeCells]
theorem QK(base:Nat)(t ty e:TypeId)(i:TypeInfo)(z:Value)(ht:P.underlying t=some (.slice e))(hi:P.info? e=some i)(hz:i.zero=some z)(hsize:i.size=1)
 (v:Value) (n:Nat) (xs:List Value) (hown:w.ownsRow base e 1 v n xs) (ad:Addr) (m c:Nat) (news:List Value) (hl:news.length=m)
 (hcells:∀j u,news[j]?=some u->w.cell? (ad.add j)=some u) (h1:∀u∈news,u.oneCell'=true) (h63:n+m<=9223372036854775807) (hbytes:(n+m)*i.bytes<=140737488355328)
 {v':Value} {w':World} (hrun:(Builtin.append_ #[t,t] ty #[v,.slice (some ad) m c]).run P w=.ok v' w'):w'.ownsRow base e 1 v n xs:=by
 refine⟨hown.1,?_⟩
 rcases hown.2 with h0|⟨g,cap,cur,rfl,hbg,hg,hnc,hcm,hcs,htake⟩
 ·exact .inl h0
 ·refine .inr ?_
  have hcur:cur.size=cap:=by omega
  by_cases hroom:n+m<=cap
  ·have hr:=run_append_room (P:=P) w t ty e i ht hi g n cap cur hg ad m c news (by rw [hsize];omega) hcells h1 hroom (by rw [hsize];omega)
   rw [hrun]at hr
   injection hr with _ hw
   subst hw
   refine⟨g,cap,_,rfl,hbg,setRow_heap w g cur _ e _ hg,hnc,hcm,?_,?_⟩
   ·simp only [hsize,List.size_toArray,List.length_append,List.length_take,List.length_drop,Array.length_toList]
    omega
   ·rw [hsize,List.append_assoc,List.take_append_of_le_length (by rw [List.length_take,Array.length_toList];omega),List.take_take,Nat.min_self]
    exact htake
  ·have holds:∀j u,xs[j]?=some u->w.cell? ((⟨g,0,none⟩:Addr).add j)=some u:=hown.cells (g:=g) rfl
   have hr:=run_append_grow (P:=P) w t ty e i z ht hi hz ⟨g,0,none⟩ n cap xs (by rw [hsize];exact hown.1) holds ad m c news (by rw [hsize];omega) hcells (by omega) (by omega) (growslice_fits (by omega) hbytes)
   rw [hrun]at hr
   injection hr with _ hw
   subst hw
   exact⟨g,cap,cur,rfl,hbg,(Below.heap_alloc w.drew _ g (iG hg)).trans hg,hnc,hcm,hcs,htake⟩
theorem xi(base:Nat)(t ty e:TypeId)(z:Value)(bytes:Nat)(ht:P.underlying t=some (.slice e))(hinfo:(P.info? e).map (fun i=>(i.zero,i.size,i.bytes))=some (some z,1,bytes))
 (hzs:z.cells.size=1) (hby:0<bytes) (v:Value) (n:Nat) (xs:List Value) (hown:w.ownsRow base e 1 v n xs)
 (A:Option Addr) (m c:Nat) (news:List Value) (hsrc:SrcAt w A m news) (hbytes:(n+m)*bytes<=140737488355328) (hbase:base<=w.heap.size):
 ∃v' w',(Builtin.append_ #[t,t] ty #[v,.slice A m c]).run P w=.ok v' w'/\w'.ownsRow base e 1 v' (n+m) (xs++news)/\w.grownBy w' v.ownBlock/\
  (v'.ownBlock=v.ownBlock\/v'.ownBlock=some w.heap.size)/\w'.ownsRow base e 1 v n xs:=by
 obtain⟨i,hi,hzz⟩:=Option.map_eq_some_iff.1 hinfo
 simp only [Prod.mk.injEq]at hzz
 obtain⟨hz,hsize,hbb⟩:=hzz
 obtain⟨hl,hne,h1⟩:=hsrc
 have h63:n+m<=maxLen:=by
  have:(n+m)*1<=(n+m)*bytes:=Nat.mul_le_mul_left _ hby
  unfold maxLen
  omega
 rcases A with _|ad
 ·have hm:m=0:=by
   rcases Nat.eq_zero_or_pos m with h0|h0
   ·exact h0
   ·obtain⟨ad,h,_⟩:=hne h0
    cases h
  subst hm
  have hn:news= []:=List.eq_nil_of_length_eq_zero hl
  subst hn
  exact⟨v,w,yG w base t ty e i 1 ht hi v n xs hown c,by simpa using hown,World.grownBy.refl w _,.inl rfl,hown⟩
 ·have hcells:∀j u,news[j]?=some u->w.cell? (ad.add j)=some u:=by
   intro j u hu
   rcases Nat.eq_zero_or_pos m with h0|h0
   ·subst h0
    have hn:news= []:=List.eq_nil_of_length_eq_zero hl
    subst hn
    simp at hu
   ·obtain⟨ad',h,hc⟩:=hne h0
    injection h with h
    subst h
    exact hc j u hu
  obtain⟨v',w',hrun,h2,h3,_,h5⟩:=run_append_own_at (P:=P) w base t ty e i z 1 bytes ht hi hz hsize hbb hzs (by omega) v n xs hown ad m c news (by omega) hcells h1 h63 hbytes hbase
  exact⟨v',w',hrun,h2,h3,h5,QK (P:=P) w base t ty e i z ht hi hz hsize v n xs hown ad m c news hl hcells h1 (by unfold maxLen at h63;exact h63) (by rw [hbb];exact hbytes) hrun⟩
theorem XA{o:Oper}{a:Act}{K:Act->World->Prop}{Q:Exit->Act->World->Prop}(s x:Operand)(t:TypeId)
 (ho:o.op=.call {callee:=.builtin .append,args:=#[s,x],argTypes:=#[t,t]})
 (base:Nat) (e:TypeId) (z:Value) (bytes:Nat) (ht:P.underlying t=some (.slice e)) (hinfo:(P.info? e).map (fun i=>(i.zero,i.size,i.bytes))=some (some z,1,bytes))
 (hzs:z.cells.size=1) (hby:0<bytes) (v:Value) (n:Nat) (xs:List Value) (hs:a.eval s=v) (hown:w.ownsRow base e 1 v n xs)
 (A:Option Addr) (m c:Nat) (news:List Value) (hx:a.eval x=.slice A m c) (hsrc:SrcAt w A m news) (hbytes:(n+m)*bytes<=140737488355328) (hbase:base<=w.heap.size)
 (h:∀v' w',w'.ownsRow base e 1 v' (n+m) (xs++news)->w.grownBy w' v.ownBlock->(v'.ownBlock=v.ownBlock\/v'.ownBlock=some w.heap.size)->w'.ownsRow base e 1 v n xs->K (a.put o.dst v') w'):o.wp P a w K Q:=by
 obtain⟨v',w',hrun,h2,h3,h4,h5⟩:=xi (P:=P) w base t o.type e z bytes ht hinfo hzs hby v n xs hown A m c news hsrc hbytes hbase
 unfold Oper.wp execOp
 simp only [ho,resolve,invoke,builtin,Sem.run_bind,Sem.run_pure,Result.andThen_ok,List.map_toArray,List.map_cons,List.map_nil,hs,hx,hrun]
 exact h v' w' h2 h3 h4 h5
theorem kw{ops:Array Oper}{rest:List Oper}{o:Oper}{a:Act}{Q:Exit->Act->World->Prop}(hgd:o.guard=none)(s x:Operand)(t:TypeId)
 (ho:o.op=.call {callee:=.builtin .append,args:=#[s,x],argTypes:=#[t,t]})
 (base:Nat) (e:TypeId) (z:Value) (bytes:Nat) (ht:P.underlying t=some (.slice e)) (hinfo:(P.info? e).map (fun i=>(i.zero,i.size,i.bytes))=some (some z,1,bytes))
 (hzs:z.cells.size=1) (hby:0<bytes) (v:Value) (n:Nat) (xs:List Value) (hs:a.eval s=v) (hown:w.ownsRow base e 1 v n xs)
 (A:Option Addr) (m c:Nat) (news:List Value) (hx:a.eval x=.slice A m c) (hsrc:SrcAt w A m news) (hbytes:(n+m)*bytes<=140737488355328) (hbase:base<=w.heap.size)
 (h:∀v' w',w'.ownsRow base e 1 v' (n+m) (xs++news)->w.grownBy w' v.ownBlock->(v'.ownBlock=v.ownBlock\/v'.ownBlock=some w.heap.size)->w'.ownsRow base e 1 v n xs->wpList P ops Q rest (a.put o.dst v') w'):wpList P ops Q (o :: rest) a w:=
 wpList_plain hgd fun _ hK=>XA w s x t ho base e z bytes ht hinfo hzs hby v n xs hs hown A m c news hx hsrc hbytes hbase fun v' w' h2 h3 h4 h5=>hK _ _ (h v' w' h2 h3 h4 h5)
end
theorem jS{w w':World}{base B:Nat}{e:TypeId}{v:Value}{n size:Nat}{xs:List Value}(hown:w.ownsRow base e size v n xs)(hg:w.grownBy w' v.ownBlock)(hB:B<=base)(hbase:base<=w.heap.size):Below B w w':=
 ⟨hg.os,hg.tape,hg.output,hg.size,fun k hk=>hg.block k (by omega) (fun e=>by have:=(hown.lt k e.symm).1;omega)⟩
theorem qy{w w':World}{base:Nat}{e:TypeId}{v:Value}{n size:Nat}{xs:List Value}(h:w.ownsRow base e size v n xs)(hb:Below w.heap.size w w'):w'.ownsRow base e size v n xs:=by
 refine⟨h.1,?_⟩
 rcases h.2 with h2|⟨g,cap,cur,hv,hg,hh,r⟩
 ·exact .inl h2
 ·exact .inr ⟨g,cap,cur,hv,hg,(hb.block g (iG hh)).trans hh,r⟩
theorem BsS.src{w:World}{S:Nat->Prop}{A:Option Addr}{m c:Nat}{l:List UInt8}(h:BsS w S (.slice A m c) l):m=l.length/\SrcAt w A m (l.map U8):=by
 obtain⟨a,c',hv,h1,h2,h3,h4⟩:=h
 injection hv with ha hm hc
 subst ha hm
 refine⟨rfl,by simp,fun hn=> ?_,fun u hu=> ?_⟩
 ·obtain⟨b,off,rfl,hb,hcell⟩:=h4 hn
  refine⟨_,rfl,fun j u hu=> ?_⟩
  have hj:j<l.length:=by
   rcases Nat.lt_or_ge j l.length with h'|h'
   ·exact h'
   ·rw [List.getElem?_eq_none (by simpa using h')]at hu;cases hu
  rw [qE,hcell j hj,<-hu,ky l j hj]
 ·obtain⟨b,_,rfl⟩:=List.mem_map.1 hu
  rfl
theorem SrcAt.alloc{w:World}{A:Option Addr}{m:Nat}{news:List Value}(h:SrcAt w A m news)(o:Obj):SrcAt (w.alloc o) A m news:=by
 refine⟨h.1,fun hm=> ?_,h.2.2⟩
 obtain⟨ad,e,hc⟩:=h.2.1 hm
 refine⟨ad,e,fun j u hu=> ?_⟩
 have:=hc j u hu
 exact(((Below.refl w.heap.size w).alloc iL o).cell (block_lt_of_cell this)).trans this
theorem SrcAt.one{w:World}(u:Value)(t:TypeId)(h1:u.oneCell'=true):SrcAt (w.alloc (.cells #[u] t)) (some ⟨w.heap.size,0,none⟩) 1 [u]:=by
 refine⟨rfl,fun _=>⟨_,rfl,fun j x hx=> ?_⟩,by simpa using h1⟩
 have hj:j=0:=by
  rcases j with _|j
  ·rfl
  ·simp at hx
 subst hj
 rw [qE,cell_of_row _ _ _ _ _ _ (iN)]
 simpa using hx
end Go.Proofs.Ytadndhgebgjlaaa
