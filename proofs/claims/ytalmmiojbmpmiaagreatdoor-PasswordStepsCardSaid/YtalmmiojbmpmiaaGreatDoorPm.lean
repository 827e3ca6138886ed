/- Facts on words as the walk meets them: the operations on the integer kind u32 said of Lean's UInt32. No program is named here; The digest, in plain Lean. No ... -/
import Derived.BigQuiet
import Derived.Deep.DeepCutAuto
import Derived.Test.YtalmmiojbmpmiaaGreatDoorPl
set_option linter.all false
set_option maxRecDepth 100000
set_option maxHeartbeats 1000000
namespace Go.Proofs.YtalmmiojbmpmiaaGreatDoor
open Go.RowKit Go.Deep
section
open Go.RowKit
def wv(b:UInt32):Int:=(b.toNat:Int)
def ofW(z:Int):UInt32:=UInt32.ofNat (z % 4294967296).toNat
abbrev W32(b:UInt32):Value:=.int .u32 (wv b)
theorem j7o(b:UInt32):0<=wv b:=Int.natCast_nonneg _
theorem j7n(b:UInt32):wv b<4294967296:=by have:=b.toNat_lt;unfold wv;omega
theorem j3u(b:UInt32):(wv b).toNat=b.toNat:=by simp [wv]
theorem zr(z:Int):wv (ofW z)=z % 4294967296:=by
 unfold wv ofW
 rw [UInt32.toNat_ofNat']
 have:0<=z % 4294967296:=Int.emod_nonneg _ (by omega)
 have:z % 4294967296<4294967296:=Int.emod_lt_of_pos _ (by omega)
 omega
theorem j1o{a b:UInt32}(h:wv a=wv b):a=b:=UInt32.toNat_inj.1 (by unfold wv at h;omega)
theorem j6r(b:UInt32):ofW (wv b)=b:=j1o (by rw [zr];have:=j7o b;have:=j7n b;omega)
theorem j70{z:Int}(h0:0<=z)(h1:z<4294967296):wv (ofW z)=z:=by rw [zr];omega
theorem j06{x y:Int}(h:x % 4294967296=y % 4294967296):ofW x=ofW y:=by unfold ofW;rw [h]
theorem j5f(x:Int):ofW (x % 4294967296)=ofW x:=j06 (by omega)
theorem j5e(x y:Int):ofW (x+y)=ofW x+ofW y:=by
 apply j1o
 rw [zr]
 show _=((ofW x+ofW y).toNat:Int)
 rw [UInt32.toNat_add]
 have hx:=zr x;have hy:=zr y
 unfold wv at hx hy
 omega
theorem Ym(op:BinOp)(a a' b b':Int)(h:a % 4294967296=a' % 4294967296)(h':b % 4294967296=b' % 4294967296):bits op .u32 a b=bits op .u32 a' b':=by
 have e:∀x y:Int,x % 4294967296=y % 4294967296->BitVec.ofInt IntKind.u32.bits x=BitVec.ofInt IntKind.u32.bits y:=by
  intro x y h
  show BitVec.ofInt 32 x=BitVec.ofInt 32 y
  apply BitVec.eq_of_toNat_eq
  simp only [BitVec.toNat_ofInt]
  omega
 unfold bits
 rw [e _ _ h,e _ _ h']
theorem Kb(op:BinOp)(x y:Int):bits op .u32 x y=bits op .u32 (wv (ofW x)) (wv (ofW y)):=Ym op _ _ _ _ (by rw [zr];omega) (by rw [zr];omega)
theorem j1l(x y:Int):bits .xor .u32 x y=wv (ofW x ^^^ ofW y):=by
 rw [Kb];unfold wv;rw [u32_xor_nat _ _ (UInt32.toNat_lt _) (UInt32.toNat_lt _),UInt32.toNat_xor]
theorem j1k(x y:Int):bits .and .u32 x y=wv (ofW x &&& ofW y):=by
 rw [Kb];unfold wv;rw [u32_and_nat _ _ (UInt32.toNat_lt _) (UInt32.toNat_lt _),UInt32.toNat_and]
theorem j3s(x y:Int):bits .or .u32 x y=wv (ofW x ||| ofW y):=by
 rw [Kb];unfold wv;rw [u32_or_nat _ _ (UInt32.toNat_lt _) (UInt32.toNat_lt _),UInt32.toNat_or]
theorem j40(a b:UInt32):(wv a==wv b)=(a==b):=by
 rw [Bool.eq_iff_iff,beq_iff_eq,beq_iff_eq];exact⟨j1o,fun h=>by rw [h]⟩
theorem j6f(a b:UInt32):(wv a != wv b)=(a != b):=by rw [bne,bne,j40]
theorem yF(x:Int):Value.int .u32 (x % 4294967296)=W32 (ofW x):=by show Value.int .u32 (x % 4294967296)=Value.int .u32 (wv (ofW x));rw [zr]
theorem j4f(a:UInt32)(z:Int)(h0:0<=z)(h1:z<4294967296):wv a / z=wv (a / ofW z):=by
 have h:=j70 h0 h1
 unfold wv at*
 rw [UInt32.toNat_div,Int.natCast_ediv,h]
attribute [simp] j1l j1k j3s j40 j6f yF j4f j6r j5f j5e j3u
end
def jU(x:UInt32)(n:Nat):UInt32:=ofW (wv x / 2 ^ n) ||| ofW (wv x*2 ^ (32 - n))
def Z3(x:UInt32)(i j k:Nat):UInt32:=jU x i ^^^ jU x j ^^^ jU x k
def V6(a b c d:UInt8):UInt32:=ofW (wv (ofW (bv a))*16777216) ||| ofW (wv (ofW (bv b))*65536) ||| ofW (wv (ofW (bv c))*256) ||| ofW (bv d)
def kN(w:UInt32):List UInt8:=[ofI (wv (w / ofW 16777216)),ofI (wv (w / ofW 65536)),ofI (wv (w / ofW 256)),ofI (wv w)]
theorem kK(w:UInt32):(kN w).length=4:=rfl
def Qv(b:List UInt8)(l:List UInt32):UInt32:=
 if l.length<16 then V6 (b.getD (4*l.length) 0) (b.getD (4*l.length+1) 0) (b.getD (4*l.length+2) 0) (b.getD (4*l.length+3) 0)
 else((jU (l.getD (l.length - 2) 0) 17 ^^^ jU (l.getD (l.length - 2) 0) 19) ^^^ (l.getD (l.length - 2) 0 / ofW 1024))+l.getD (l.length - 7) 0+
  ((jU (l.getD (l.length - 15) 0) 7 ^^^ jU (l.getD (l.length - 15) 0) 18) ^^^ (l.getD (l.length - 15) 0 / ofW 8))+l.getD (l.length - 16) 0
def jV(b:List UInt8):Nat->List UInt32
 |0=>[]
 |t+1=>jV b t++ [Qv b (jV b t)]
theorem jg(b:List UInt8):∀t,(jV b t).length=t:=by
 intro t
 induction t with
 |zero=>rfl
 |succ t ih=>rw [jV,List.length_append,ih]<;>rfl
structure St8 where
 a:UInt32
 b:UInt32
 c:UInt32
 d:UInt32
 e:UInt32
 f:UInt32
 g:UInt32
 h:UInt32
def St8.list(s:St8):List UInt32:=[s.a,s.b,s.c,s.d,s.e,s.f,s.g,s.h]
def St8.cells(s:St8):Array Value:=#[W32 s.a,W32 s.b,W32 s.c,W32 s.d,W32 s.e,W32 s.f,W32 s.g,W32 s.h]
def t1W(s:St8)(k w:UInt32):UInt32:=s.h+Z3 s.e 6 11 25+((s.e &&& s.f) ^^^ ((ofW 4294967295 ^^^ s.e) &&& s.g))+k+w
def t2W(s:St8):UInt32:=Z3 s.a 2 13 22+((s.a &&& s.b) ^^^ (s.a &&& s.c) ^^^ (s.b &&& s.c))
def j83(s:St8)(k w:UInt32):St8:=⟨t1W s k w+t2W s,s.a,s.b,s.c,s.d+t1W s k w,s.e,s.f,s.g⟩
def j1p:List UInt32:=[
 0x428a2f98,0x71374491,0xb5c0fbcf,0xe9b5dba5,0x3956c25b,0x59f111f1,0x923f82a4,0xab1c5ed5,
 0xd807aa98,0x12835b01,0x243185be,0x550c7dc3,0x72be5d74,0x80deb1fe,0x9bdc06a7,0xc19bf174,
 0xe49b69c1,0xefbe4786,0x0fc19dc6,0x240ca1cc,0x2de92c6f,0x4a7484aa,0x5cb0a9dc,0x76f988da,
 0x983e5152,0xa831c66d,0xb00327c8,0xbf597fc7,0xc6e00bf3,0xd5a79147,0x06ca6351,0x14292967,
 0x27b70a85,0x2e1b2138,0x4d2c6dfc,0x53380d13,0x650a7354,0x766a0abb,0x81c2c92e,0x92722c85,
 0xa2bfe8a1,0xa81a664b,0xc24b8b70,0xc76c51a3,0xd192e819,0xd6990624,0xf40e3585,0x106aa070,
 0x19a4c116,0x1e376c08,0x2748774c,0x34b0bcb5,0x391c0cb3,0x4ed8aa4a,0x5b9cca4f,0x682e6ff3,
 0x748f82ee,0x78a5636f,0x84c87814,0x8cc70208,0x90befffa,0xa4506ceb,0xbef9a3f7,0xc67178f2]
def qw(b:List UInt8)(s:St8):Nat->St8
 |0=>s
 |t+1=>j83 (qw b s t) (j1p.getD t 0) ((jV b 64).getD t 0)
def j87(s r:St8):St8:=⟨s.a+r.a,s.b+r.b,s.c+r.c,s.d+r.d,s.e+r.e,s.f+r.f,s.g+r.g,s.h+r.h⟩
def zx(s:St8)(b:List UInt8):St8:=j87 s (qw b s 64)
def yT:St8:=⟨0x6a09e667,0xbb67ae85,0x3c6ef372,0xa54ff53a,0x510e527f,0x9b05688c,0x1f83d9ab,0x5be0cd19⟩
def zY(n:Nat):Nat:=(119 - n % 64) % 64
def kG(n:Int):List UInt8:=[ofI (n / 72057594037927936),ofI (n / 281474976710656),ofI (n / 1099511627776),ofI (n / 4294967296),ofI (n / 16777216),ofI (n / 65536),ofI (n / 256),ofI n]
def yk(b:List UInt8):List UInt8:=b++ [128]++List.replicate (zY b.length) 0++kG (8*(b.length:Int))
theorem YM(b:List UInt8):(yk b).length=64*((b.length+9+zY b.length) / 64):=by
 unfold yk zY kG
 simp only [List.length_append,List.length_cons,List.length_nil,List.length_replicate]
 omega
def Ug(p:List UInt8)(i:Nat):List UInt8:=(p.drop (64*i)).take 64
def zF(p:List UInt8):Nat->St8
 |0=>yT
 |i+1=>zx (zF p i) (Ug p i)
def xw(b:List UInt8):List UInt8:=((zF (yk b) ((yk b).length / 64)).list.map kN).flatten
theorem je(b:List UInt8):(xw b).length=32:=by
 simp [xw,St8.list,kK]
theorem j3t(b off n c:Nat)(b0 b1 b2 b3:UInt8)(w:World)(hn:4<=n)(h0:w.cell? ⟨b,off,none⟩=some (U8 b0))(h1:w.cell? ⟨b,off+1,none⟩=some (U8 b1))(h2:w.cell? ⟨b,off+2,none⟩=some (U8 b2))(h3:w.cell? ⟨b,off+3,none⟩=some (U8 b3)):
 Calls Tryz.prog 147 #[.slice (some ⟨b,off,none⟩) n c] w fun e w'=>e=.returned (W32 (V6 b0 b1 b2 b3))/\∃k,w'=w.drewN k:=by
 have hn1:(1:Int)<n:=by omega
 have hn2:(2:Int)<n:=by omega
 have hn3:(3:Int)<n:=by omega
 have hn0:(0:Int)<n:=by omega
 go_enter Tryz.func147,Tryz.ntmps147
 go_upto_region 1 with fail
 go_quiet (fail)
 go_wp2_with fail
 go_ret
 exact⟨rfl,_,rfl⟩
theorem j3q:∀n:Nat,n<32->0<n->bits .and .u64 (IntKind.u64.wrap (-(n:Int))) 31=32 - (n:Int):=by decide+kernel
theorem j3d(x:UInt32)(n:Nat)(w:World)(h0:0<n)(h1:n<32):Calls Tryz.prog 146 #[W32 x,.int .i64 (-(n:Int))] w fun e w'=>e=.returned (W32 (jU x n))/\w'=w:=by
 have hs:=j3q n h1 h0
 obtain⟨m,hm⟩:∃m:Nat,(32:Int) - n=m/\m=32 - n:=⟨32 - n,by omega,rfl⟩
 rw [hm.1]at hs
 have hm2:(m:Int)<=32:=by omega
 have hm3:(32:Int) - m=n:=by omega
 have E:Hid (jU x n=(ofW (wv x*2 ^ m) ||| ofW (wv x / 2 ^ n))):=Lib.hid (by unfold jU;rw [hm.2,UInt32.or_comm])
 clear hm
 go_enter Tryz.func146,Tryz.ntmps146
 go_wp2_with fail
 go_ret
 exact⟨by rw [E.out];rfl,rfl⟩
theorem j3e(x:UInt32)(n:Nat)(w:World)(h0:0<n)(h1:n<32):Calls Tryz.prog 148 #[W32 x,.int .u64 (n:Int)] w fun e w'=>e=.returned (W32 (jU x n))/\w'=w:=by
 go_enter Tryz.func148,Tryz.ntmps148
 go_wp2_with fail
 go_ret
 exact⟨rfl,rfl⟩
theorem Qs(w:World)(l:List UInt8)(t:TypeId)(hl:l.length<=140737488355328)(c:Array Value)(hc:c=(l.map U8).toArray):
 BsS (w.alloc (.cells c t)) (New w (w.alloc (.cells c t))) (.slice (some ⟨w.heap.size,0,none⟩) l.length l.length) l:=by
 subst hc
 refine⟨_,_,rfl,Nat.le_refl _,by omega,hl,fun _=>⟨_,_,rfl,⟨Nat.le_refl _,by simp⟩,fun j hj=> ?_⟩⟩
 rw [Nat.zero_add,cell_of_row _ _ _ _ _ _ (heap_alloc_new _ _)]
 exact(List.getElem?_toArray ..).trans (jK l j hj)
theorem zw(x:UInt32)(w:World):Calls Tryz.prog 100 #[W32 x] w fun e w'=>∃v',e=.returned v'/\BsS w' (New w w') v' (kN x)/\Below w.heap.size w w':=by
 go_enter Tryz.func100,Tryz.ntmps100
 go_wp2_with fail
 go_ret
 exact⟨_,rfl,Qs w (kN x) _ (by rw [kK];omega) _ rfl,(Below.refl _ _).alloc (Nat.le_refl _) _⟩
def StS(w:World)(S:Nat->Prop)(v:Value)(s:St8):Prop:=∃g,v=.slice (some ⟨g,0,none⟩) 8 8/\S g/\w.heap[g]?=some (.cells s.cells 113 (0,0))
theorem j12(w:World):Calls Tryz.prog 96 #[] w fun e w'=>∃v',e=.returned v'/\StS w' (New w w') v' yT/\Below w.heap.size w w':=by
 go_enter Tryz.func96,Tryz.ntmps96
 go_wp2_with fail
 go_ret
 exact⟨_,rfl,⟨_,rfl,⟨Nat.le_refl _,by simp⟩,heap_alloc_new _ _⟩,(Below.refl _ _).alloc (Nat.le_refl _) _⟩
def JY(x:UInt32)(ns:List Nat):UInt32:=ns.foldl (fun o n=>o ^^^ jU x n) 0
theorem UT(x:UInt32)(ns:List Nat)(n:Nat):JY x (ns++ [n])=JY x ns ^^^ jU x n:=by simp [JY]
theorem j6w(x:UInt32)(i j:Nat):JY x [i,j]=jU x i ^^^ jU x j:=by simp [JY]
theorem j6x(x:UInt32)(i j k:Nat):JY x [i,j,k]=Z3 x i j k:=by simp [JY,Z3]
theorem QN(x:UInt32)(ns:List Nat)(g:Nat)(w:World)(hn:∀n∈ns,0<n/\n<32)(hl:ns.length<=1000)(hg:w.heap[g]?=some (.cells (ns.map fun n:Nat=>Value.int .i64 (n:Int)).toArray 3 (0,0))):
 Calls Tryz.prog 145 #[W32 x,.slice (some ⟨g,0,none⟩) ns.length ns.length] w fun e w'=>e=.returned (W32 (JY x ns))/\w'=w:=by
 have HC:Hid (∀j (h:j<ns.length),w.cell? ⟨g,j,none⟩=some (.int .i64 (ns[j]:Int))):=Lib.hid (fun j h=>by
  rw [cell_of_row _ _ _ _ _ _ hg]
  simp [h])
 have HN:=Lib.hid hn
 clear hg hn
 go_enter Tryz.func145,Tryz.ntmps145
 go_wp2_with fail
 go_loopg [5,10] ns.length (fun m ov iv wr=>∃(D R:List Nat) (o:UInt32),R.length=m/\ov=W32 o/\iv=.int .i64 D.length/\D.length+R.length=ns.length/\Hid (D++R=ns/\o=JY x D)/\wr=w)
 case atStart=>exact⟨[],ns,0,rfl,rfl,rfl,by simp,Lib.hid ⟨rfl,rfl⟩,rfl⟩
 case round=>
  obtain⟨D,R,o,rfl,rfl,rfl,hj,hab,rfl⟩:=hrel
  cases R with
  |nil=>
   have E:Hid (o=JY x ns):=Lib.hid (by have:=hab.out;rw [List.append_nil]at this;rw [<-this.1];exact this.2)
   simp only [List.length_nil,Nat.add_zero]at hj
   clear hab
   go_wp2_with fail
   go_ret
   exact⟨by rw [<-E.out];rfl,rfl⟩
  |cons n R=>
   simp only [List.length_cons]at hj
   have hlt:D.length<ns.length:=by omega
   have hlt':(D.length:Int)<ns.length:=by omega
   have c0:=HC.out D.length hlt
   have en:ns[D.length]=n:=by simp [<-hab.out.1]
   rw [en]at c0
   have hnn:=HN.out n (by rw [<-hab.out.1];simp)
   have HR:=Lib.hid (fun w=>j3d x n w hnn.1 hnn.2)
   have hn31:(n:Int)<32:=by omega
   have E:Hid (D++ [n]++R=ns/\o ^^^ jU x n=JY x (D++ [n])):=Lib.hid ⟨by rw [List.append_assoc];exact hab.out.1,by rw [UT,<-hab.out.2]⟩
   clear en hab hnn
   go_wp2_with(go_at_call 146;refine(HR.out _).mono ?_;rintro e w2 ⟨rfl,hw2⟩;rw [hw2];clear hw2 w2)
   go_roundg R.length
   case measure=>simp
   case rel=>exact⟨D++ [n],R,_,rfl,by go_num,by rw [List.length_append,List.length_singleton];go_num,by rw [List.length_append,List.length_singleton];omega,E,rfl⟩
end Go.Proofs.YtalmmiojbmpmiaaGreatDoor
