/- Facts on words as the walk meets them: the operations on the integer kind u32 said of Lean's UInt32. No program is named here. -/
import Derived.Test.YtnogcnmoeekcpaaDoorQMem
import Derived.Laws.BitsAllLaws
namespace Go.Proofs.YtnogcnmoeekcpaaDoor
open Go.RowKit

/-- The integer of a word, closed to the walk's rules. -/
def wv (b : UInt32) : Int := (b.toNat : Int)
/-- The word of an integer: its rest by 2^32. -/
def ofW (z : Int) : UInt32 := UInt32.ofNat (z % 4294967296).toNat
/-- A word as a value of the model. -/
abbrev W32 (b : UInt32) : Value := .int .u32 (wv b)
theorem wv_nn (b : UInt32) : 0 ≤ wv b := Int.natCast_nonneg _
theorem wv_lt (b : UInt32) : wv b < 4294967296 := by have := b.toNat_lt; unfold wv; omega
theorem wv_toNat (b : UInt32) : (wv b).toNat = b.toNat := by simp [wv]
theorem wv_ofW (z : Int) : wv (ofW z) = z % 4294967296 := by
  unfold wv ofW
  rw [UInt32.toNat_ofNat']
  have : 0 ≤ z % 4294967296 := Int.emod_nonneg _ (by omega)
  have : z % 4294967296 < 4294967296 := Int.emod_lt_of_pos _ (by omega)
  omega
theorem wv_inj {a b : UInt32} (h : wv a = wv b) : a = b := UInt32.toNat_inj.1 (by unfold wv at h; omega)
theorem ofW_wv (b : UInt32) : ofW (wv b) = b := wv_inj (by rw [wv_ofW]; have := wv_nn b; have := wv_lt b; omega)
theorem wv_in {z : Int} (h0 : 0 ≤ z) (h1 : z < 4294967296) : wv (ofW z) = z := by rw [wv_ofW]; omega
theorem ofW_congr {x y : Int} (h : x % 4294967296 = y % 4294967296) : ofW x = ofW y := by unfold ofW; rw [h]
theorem ofW_mod (x : Int) : ofW (x % 4294967296) = ofW x := ofW_congr (by omega)
theorem ofW_add (x y : Int) : ofW (x + y) = ofW x + ofW y := by
  apply wv_inj
  rw [wv_ofW]
  show _ = ((ofW x + ofW y).toNat : Int)
  rw [UInt32.toNat_add]
  have hx := wv_ofW x; have hy := wv_ofW y
  unfold wv at hx hy
  omega
theorem wbits_congr (op : BinOp) (a a' b b' : Int) (h : a % 4294967296 = a' % 4294967296) (h' : b % 4294967296 = b' % 4294967296) : bits op .u32 a b = bits op .u32 a' b' := by
  have e : ∀ x y : Int, x % 4294967296 = y % 4294967296 → BitVec.ofInt IntKind.u32.bits x = BitVec.ofInt IntKind.u32.bits y := by
    intro x y h
    show BitVec.ofInt 32 x = BitVec.ofInt 32 y
    apply BitVec.eq_of_toNat_eq
    simp only [BitVec.toNat_ofInt]
    omega
  unfold bits
  rw [e _ _ h, e _ _ h']
theorem wbits_ofW (op : BinOp) (x y : Int) : bits op .u32 x y = bits op .u32 (wv (ofW x)) (wv (ofW y)) := wbits_congr op _ _ _ _ (by rw [wv_ofW]; omega) (by rw [wv_ofW]; omega)
theorem wbits_xor (x y : Int) : bits .xor .u32 x y = wv (ofW x ^^^ ofW y) := by
  rw [wbits_ofW]; unfold wv; rw [u32_xor_nat _ _ (UInt32.toNat_lt _) (UInt32.toNat_lt _), UInt32.toNat_xor]
theorem wbits_and (x y : Int) : bits .and .u32 x y = wv (ofW x &&& ofW y) := by
  rw [wbits_ofW]; unfold wv; rw [u32_and_nat _ _ (UInt32.toNat_lt _) (UInt32.toNat_lt _), UInt32.toNat_and]
theorem wbits_or (x y : Int) : bits .or .u32 x y = wv (ofW x ||| ofW y) := by
  rw [wbits_ofW]; unfold wv; rw [u32_or_nat _ _ (UInt32.toNat_lt _) (UInt32.toNat_lt _), UInt32.toNat_or]
theorem beq_wv (a b : UInt32) : (wv a == wv b) = (a == b) := by
  rw [Bool.eq_iff_iff, beq_iff_eq, beq_iff_eq]; exact ⟨wv_inj, fun h => by rw [h]⟩
theorem bne_wv (a b : UInt32) : (wv a != wv b) = (a != b) := by rw [bne, bne, beq_wv]
theorem wal_mod (x : Int) : Value.int .u32 (x % 4294967296) = W32 (ofW x) := by show Value.int .u32 (x % 4294967296) = Value.int .u32 (wv (ofW x)); rw [wv_ofW]
theorem wv_div (a : UInt32) (z : Int) (h0 : 0 ≤ z) (h1 : z < 4294967296) : wv a / z = wv (a / ofW z) := by
  have h := wv_in h0 h1
  unfold wv at *
  rw [UInt32.toNat_div, Int.natCast_ediv, h]
attribute [simp] wbits_xor wbits_and wbits_or beq_wv bne_wv wal_mod wv_div ofW_wv ofW_mod ofW_add wv_toNat
end Go.Proofs.YtnogcnmoeekcpaaDoor
/- The digest, in plain Lean. No program is named here. -/
namespace Go.Proofs.YtnogcnmoeekcpaaDoor
open Go.RowKit

/-- A word turned to the right. -/
def rotW (x : UInt32) (n : Nat) : UInt32 := ofW (wv x / 2 ^ n) ||| ofW (wv x * 2 ^ (32 - n))
def rot3 (x : UInt32) (i j k : Nat) : UInt32 := rotW x i ^^^ rotW x j ^^^ rotW x k
/-- The word of four bytes. -/
def wordB (a b c d : UInt8) : UInt32 := ofW (wv (ofW (bv a)) * 16777216) ||| ofW (wv (ofW (bv b)) * 65536) ||| ofW (wv (ofW (bv c)) * 256) ||| ofW (bv d)
/-- The bytes of a word. -/
def bytesW (w : UInt32) : List UInt8 := [ofI (wv (w / ofW 16777216)), ofI (wv (w / ofW 65536)), ofI (wv (w / ofW 256)), ofI (wv w)]
theorem bytesW_len (w : UInt32) : (bytesW w).length = 4 := rfl
/-- The next word of a block's schedule. -/
def nextW (b : List UInt8) (l : List UInt32) : UInt32 :=
  if l.length < 16 then wordB (b.getD (4 * l.length) 0) (b.getD (4 * l.length + 1) 0) (b.getD (4 * l.length + 2) 0) (b.getD (4 * l.length + 3) 0)
  else ((rotW (l.getD (l.length - 2) 0) 17 ^^^ rotW (l.getD (l.length - 2) 0) 19) ^^^ (l.getD (l.length - 2) 0 / ofW 1024)) + l.getD (l.length - 7) 0 +
    ((rotW (l.getD (l.length - 15) 0) 7 ^^^ rotW (l.getD (l.length - 15) 0) 18) ^^^ (l.getD (l.length - 15) 0 / ofW 8)) + l.getD (l.length - 16) 0
/-- The first words of a block's schedule. -/
def schedF (b : List UInt8) : Nat → List UInt32
  | 0 => []
  | t + 1 => schedF b t ++ [nextW b (schedF b t)]
theorem schedF_len (b : List UInt8) : ∀ t, (schedF b t).length = t := by
  intro t
  induction t with
  | zero => rfl
  | succ t ih => rw [schedF, List.length_append, ih]; rfl
/-- A state. -/
structure St8 where
  a : UInt32
  b : UInt32
  c : UInt32
  d : UInt32
  e : UInt32
  f : UInt32
  g : UInt32
  h : UInt32
def St8.list (s : St8) : List UInt32 := [s.a, s.b, s.c, s.d, s.e, s.f, s.g, s.h]
def St8.cells (s : St8) : Array Value := #[W32 s.a, W32 s.b, W32 s.c, W32 s.d, W32 s.e, W32 s.f, W32 s.g, W32 s.h]
def t1W (s : St8) (k w : UInt32) : UInt32 := s.h + rot3 s.e 6 11 25 + ((s.e &&& s.f) ^^^ ((ofW 4294967295 ^^^ s.e) &&& s.g)) + k + w
def t2W (s : St8) : UInt32 := rot3 s.a 2 13 22 + ((s.a &&& s.b) ^^^ (s.a &&& s.c) ^^^ (s.b &&& s.c))
def rndW (s : St8) (k w : UInt32) : St8 := ⟨t1W s k w + t2W s, s.a, s.b, s.c, s.d + t1W s k w, s.e, s.f, s.g⟩
def kTab : List UInt32 := [
  0x428a2f98, 0x71374491, 0xb5c0fbcf, 0xe9b5dba5, 0x3956c25b, 0x59f111f1, 0x923f82a4, 0xab1c5ed5,
  0xd807aa98, 0x12835b01, 0x243185be, 0x550c7dc3, 0x72be5d74, 0x80deb1fe, 0x9bdc06a7, 0xc19bf174,
  0xe49b69c1, 0xefbe4786, 0x0fc19dc6, 0x240ca1cc, 0x2de92c6f, 0x4a7484aa, 0x5cb0a9dc, 0x76f988da,
  0x983e5152, 0xa831c66d, 0xb00327c8, 0xbf597fc7, 0xc6e00bf3, 0xd5a79147, 0x06ca6351, 0x14292967,
  0x27b70a85, 0x2e1b2138, 0x4d2c6dfc, 0x53380d13, 0x650a7354, 0x766a0abb, 0x81c2c92e, 0x92722c85,
  0xa2bfe8a1, 0xa81a664b, 0xc24b8b70, 0xc76c51a3, 0xd192e819, 0xd6990624, 0xf40e3585, 0x106aa070,
  0x19a4c116, 0x1e376c08, 0x2748774c, 0x34b0bcb5, 0x391c0cb3, 0x4ed8aa4a, 0x5b9cca4f, 0x682e6ff3,
  0x748f82ee, 0x78a5636f, 0x84c87814, 0x8cc70208, 0x90befffa, 0xa4506ceb, 0xbef9a3f7, 0xc67178f2]
/-- The state behind some rounds. -/
def roundsW (b : List UInt8) (s : St8) : Nat → St8
  | 0 => s
  | t + 1 => rndW (roundsW b s t) (kTab.getD t 0) ((schedF b 64).getD t 0)
def addS (s r : St8) : St8 := ⟨s.a + r.a, s.b + r.b, s.c + r.c, s.d + r.d, s.e + r.e, s.f + r.f, s.g + r.g, s.h + r.h⟩
/-- The state behind a block. -/
def compW (s : St8) (b : List UInt8) : St8 := addS s (roundsW b s 64)
def startW : St8 := ⟨0x6a09e667, 0xbb67ae85, 0x3c6ef372, 0xa54ff53a, 0x510e527f, 0x9b05688c, 0x1f83d9ab, 0x5be0cd19⟩
/-- How many zeros stand behind the one. -/
def padZ (n : Nat) : Nat := (119 - n % 64) % 64
/-- A number as eight bytes. -/
def eightB (n : Int) : List UInt8 := [ofI (n / 72057594037927936), ofI (n / 281474976710656), ofI (n / 1099511627776), ofI (n / 4294967296), ofI (n / 16777216), ofI (n / 65536), ofI (n / 256), ofI n]
def padW (b : List UInt8) : List UInt8 := b ++ [128] ++ List.replicate (padZ b.length) 0 ++ eightB (8 * (b.length : Int))
theorem padW_len (b : List UInt8) : (padW b).length = 64 * ((b.length + 9 + padZ b.length) / 64) := by
  unfold padW padZ eightB
  simp only [List.length_append, List.length_cons, List.length_nil, List.length_replicate]
  omega
def blkW (p : List UInt8) (i : Nat) : List UInt8 := (p.drop (64 * i)).take 64
def statesW (p : List UInt8) : Nat → St8
  | 0 => startW
  | i + 1 => compW (statesW p i) (blkW p i)
def sumW (b : List UInt8) : List UInt8 := ((statesW (padW b) ((padW b).length / 64)).list.map bytesW).flatten
theorem sumW_len (b : List UInt8) : (sumW b).length = 32 := by
  simp [sumW, St8.list, bytesW_len]
end Go.Proofs.YtnogcnmoeekcpaaDoor
