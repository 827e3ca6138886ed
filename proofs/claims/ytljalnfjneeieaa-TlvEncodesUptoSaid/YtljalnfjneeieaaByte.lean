/- Facts on bytes as the walk meets them: the operations on the integer kind u8 said of Lean's UInt8. No program is named here. -/
import Derived.WalkKit
import Derived.Lib.Hide
namespace Go.Proofs.Ytljalnfjneeieaa
open Go.RowKit

/-- The integer of a byte, closed to the walk's rules. -/
def bv (b : UInt8) : Int := (b.toNat : Int)
/-- The byte of an integer: its rest by 256. -/
def ofI (z : Int) : UInt8 := UInt8.ofNat (z % 256).toNat
/-- A byte as a value of the model. -/
abbrev U8 (b : UInt8) : Value := .int .u8 (bv b)

theorem bv_nn (b : UInt8) : 0 ≤ bv b := Int.natCast_nonneg _
theorem bv_lt (b : UInt8) : bv b < 256 := by have := b.toNat_lt; unfold bv; omega
theorem bv_toNat (b : UInt8) : (bv b).toNat = b.toNat := by simp [bv]
theorem bv_ofI (z : Int) : bv (ofI z) = z % 256 := by
  unfold bv ofI
  rw [UInt8.toNat_ofNat']
  have : 0 ≤ z % 256 := Int.emod_nonneg _ (by omega)
  have : z % 256 < 256 := Int.emod_lt_of_pos _ (by omega)
  omega
theorem bv_inj {a b : UInt8} (h : bv a = bv b) : a = b := UInt8.toNat_inj.1 (by unfold bv at h; omega)
theorem ofI_bv (b : UInt8) : ofI (bv b) = b := bv_inj (by rw [bv_ofI]; have := bv_nn b; have := bv_lt b; omega)
theorem bv_in {z : Int} (h0 : 0 ≤ z) (h1 : z < 256) : bv (ofI z) = z := by rw [bv_ofI]; omega
theorem ofI_congr {x y : Int} (h : x % 256 = y % 256) : ofI x = ofI y := by unfold ofI; rw [h]
theorem ofI_mod (x : Int) : ofI (x % 256) = ofI x := ofI_congr (by omega)
theorem ofI_add (x y : Int) : ofI (x + y) = ofI x + ofI y := by
  apply bv_inj
  rw [bv_ofI]
  show _ = ((ofI x + ofI y).toNat : Int)
  rw [UInt8.toNat_add]
  have hx := bv_ofI x; have hy := bv_ofI y
  unfold bv at hx hy
  omega
theorem ofI_mul (x y : Int) : ofI (x * y) = ofI x * ofI y := by
  apply bv_inj
  rw [bv_ofI]
  show _ = ((ofI x * ofI y).toNat : Int)
  rw [UInt8.toNat_mul, Int.natCast_emod, Int.natCast_mul]
  have hx := bv_ofI x; have hy := bv_ofI y
  unfold bv at hx hy
  rw [hx, hy, Int.mul_emod]
  rfl

theorem bits_congr_u8 (op : BinOp) (a a' b b' : Int) (h : a % 256 = a' % 256) (h' : b % 256 = b' % 256) : bits op .u8 a b = bits op .u8 a' b' := by
  have e : ∀ x y : Int, x % 256 = y % 256 → BitVec.ofInt IntKind.u8.bits x = BitVec.ofInt IntKind.u8.bits y := by
    intro x y h
    show BitVec.ofInt 8 x = BitVec.ofInt 8 y
    apply BitVec.eq_of_toNat_eq
    simp only [BitVec.toNat_ofInt]
    omega
  unfold bits
  rw [e _ _ h, e _ _ h']
theorem bits_ofI (op : BinOp) (x y : Int) : bits op .u8 x y = bits op .u8 (bv (ofI x)) (bv (ofI y)) := bits_congr_u8 op _ _ _ _ (by rw [bv_ofI]; omega) (by rw [bv_ofI]; omega)
theorem bits_xor_u8 (x y : Int) : bits .xor .u8 x y = bv (ofI x ^^^ ofI y) := by
  rw [bits_ofI]; unfold bv; rw [u8_xor_nat _ _ (UInt8.toNat_lt _) (UInt8.toNat_lt _), UInt8.toNat_xor]
theorem bits_and_u8 (x y : Int) : bits .and .u8 x y = bv (ofI x &&& ofI y) := by
  rw [bits_ofI]; unfold bv; rw [u8_and_nat _ _ (UInt8.toNat_lt _) (UInt8.toNat_lt _), UInt8.toNat_and]
theorem bits_or_u8 (x y : Int) : bits .or .u8 x y = bv (ofI x ||| ofI y) := by
  rw [bits_ofI]; unfold bv; rw [u8_or_nat _ _ (UInt8.toNat_lt _) (UInt8.toNat_lt _), UInt8.toNat_or]
theorem beq_bv (a b : UInt8) : (bv a == bv b) = (a == b) := by
  rw [Bool.eq_iff_iff, beq_iff_eq, beq_iff_eq]; exact ⟨bv_inj, fun h => by rw [h]⟩
theorem bne_bv (a b : UInt8) : (bv a != bv b) = (a != b) := by rw [bne, bne, beq_bv]
theorem beq_bv_lit (a : UInt8) (z : Int) (h0 : 0 ≤ z) (h1 : z < 256) : (bv a == z) = (a == ofI z) := by rw [← beq_bv, bv_in h0 h1]
theorem bne_bv_lit (a : UInt8) (z : Int) (h0 : 0 ≤ z) (h1 : z < 256) : (bv a != z) = (a != ofI z) := by rw [← bne_bv, bv_in h0 h1]
theorem val_mod (x : Int) : Value.int .u8 (x % 256) = U8 (ofI x) := by show Value.int .u8 (x % 256) = Value.int .u8 (bv (ofI x)); rw [bv_ofI]
theorem bv_div (a : UInt8) (z : Int) (h0 : 0 ≤ z) (h1 : z < 256) : bv a / z = bv (a / ofI z) := by
  have h := bv_in h0 h1
  unfold bv at *
  rw [UInt8.toNat_div, Int.natCast_ediv, h]
theorem ofI_0 : ofI 0 = 0 := by decide
theorem ofI_1 : ofI 1 = 1 := by decide
theorem ofI_2 : ofI 2 = 2 := by decide
theorem ofI_27 : ofI 27 = 27 := by decide
theorem ofI_128 : ofI 128 = 128 := by decide
theorem wrap_bv (b : UInt8) : IntKind.i64.wrap (bv b) = bv b := IntWalk.i64_in _ (by have := bv_nn b; have := bv_lt b; omega)
theorem wrap64_bv (b : UInt8) : wrap64 (bv b) = bv b := IntWalk.wrap64_in _ (by have := bv_nn b; have := bv_lt b; omega)
attribute [simp] wrap_bv wrap64_bv bits_xor_u8 bits_and_u8 bits_or_u8 beq_bv bne_bv beq_bv_lit bne_bv_lit val_mod bv_div ofI_bv ofI_mod ofI_add ofI_mul bv_toNat ofI_0 ofI_1 ofI_2 ofI_27 ofI_128

end Go.Proofs.Ytljalnfjneeieaa
