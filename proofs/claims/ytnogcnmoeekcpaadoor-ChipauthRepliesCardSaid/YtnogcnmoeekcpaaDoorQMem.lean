/- Facts on bytes as the walk meets them: the operations on the integer kind u8 said of Lean's UInt8. No program is named here. -/
import Derived.WalkKit
import Derived.Lib.Hide
import Derived.Deep.OwnRows
import Derived.Deep.Draws
import Derived.Deep.WholeRow
namespace Go.Proofs.YtnogcnmoeekcpaaDoor
open Go.RowKit

/-- The integer of a byte, closed to the walk's rules. -/
def bv (b : UInt8) : Int := (b.toNat : Int)
/-- The byte of an integer: its rest by 256. -/
def ofI (z : Int) : UInt8 := UInt8.ofNat (z % 256).toNat
/-- A byte as a value of the model. -/
abbrev U8 (b : UInt8) : Value := .int .u8 (bv b)

theorem bv_nn (b : UInt8) : 0 ≤ bv b := Int.natCast_nonneg _
theorem bv_lt (b : UInt8) : bv b < 256 := by have := b.toNat_lt; unfold bv; omega
theorem bv_toNat (b : UInt8) : (bv b).toNat = b.toNat := by simp [bv]
theorem bv_ofI (z : Int) : bv (ofI z) = z % 256 := by
  unfold bv ofI
  rw [UInt8.toNat_ofNat']
  have : 0 ≤ z % 256 := Int.emod_nonneg _ (by omega)
  have : z % 256 < 256 := Int.emod_lt_of_pos _ (by omega)
  omega
theorem bv_inj {a b : UInt8} (h : bv a = bv b) : a = b := UInt8.toNat_inj.1 (by unfold bv at h; omega)
theorem ofI_bv (b : UInt8) : ofI (bv b) = b := bv_inj (by rw [bv_ofI]; have := bv_nn b; have := bv_lt b; omega)
theorem bv_in {z : Int} (h0 : 0 ≤ z) (h1 : z < 256) : bv (ofI z) = z := by rw [bv_ofI]; omega
theorem ofI_congr {x y : Int} (h : x % 256 = y % 256) : ofI x = ofI y := by unfold ofI; rw [h]
theorem ofI_mod (x : Int) : ofI (x % 256) = ofI x := ofI_congr (by omega)
theorem ofI_add (x y : Int) : ofI (x + y) = ofI x + ofI y := by
  apply bv_inj
  rw [bv_ofI]
  show _ = ((ofI x + ofI y).toNat : Int)
  rw [UInt8.toNat_add]
  have hx := bv_ofI x; have hy := bv_ofI y
  unfold bv at hx hy
  omega
theorem ofI_mul (x y : Int) : ofI (x * y) = ofI x * ofI y := by
  apply bv_inj
  rw [bv_ofI]
  show _ = ((ofI x * ofI y).toNat : Int)
  rw [UInt8.toNat_mul, Int.natCast_emod, Int.natCast_mul]
  have hx := bv_ofI x; have hy := bv_ofI y
  unfold bv at hx hy
  rw [hx, hy, Int.mul_emod]
  rfl

theorem bits_congr_u8 (op : BinOp) (a a' b b' : Int) (h : a % 256 = a' % 256) (h' : b % 256 = b' % 256) : bits op .u8 a b = bits op .u8 a' b' := by
  have e : ∀ x y : Int, x % 256 = y % 256 → BitVec.ofInt IntKind.u8.bits x = BitVec.ofInt IntKind.u8.bits y := by
    intro x y h
    show BitVec.ofInt 8 x = BitVec.ofInt 8 y
    apply BitVec.eq_of_toNat_eq
    simp only [BitVec.toNat_ofInt]
    omega
  unfold bits
  rw [e _ _ h, e _ _ h']
theorem bits_ofI (op : BinOp) (x y : Int) : bits op .u8 x y = bits op .u8 (bv (ofI x)) (bv (ofI y)) := bits_congr_u8 op _ _ _ _ (by rw [bv_ofI]; omega) (by rw [bv_ofI]; omega)
theorem bits_xor_u8 (x y : Int) : bits .xor .u8 x y = bv (ofI x ^^^ ofI y) := by
  rw [bits_ofI]; unfold bv; rw [u8_xor_nat _ _ (UInt8.toNat_lt _) (UInt8.toNat_lt _), UInt8.toNat_xor]
theorem bits_and_u8 (x y : Int) : bits .and .u8 x y = bv (ofI x &&& ofI y) := by
  rw [bits_ofI]; unfold bv; rw [u8_and_nat _ _ (UInt8.toNat_lt _) (UInt8.toNat_lt _), UInt8.toNat_and]
theorem bits_or_u8 (x y : Int) : bits .or .u8 x y = bv (ofI x ||| ofI y) := by
  rw [bits_ofI]; unfold bv; rw [u8_or_nat _ _ (UInt8.toNat_lt _) (UInt8.toNat_lt _), UInt8.toNat_or]
theorem beq_bv (a b : UInt8) : (bv a == bv b) = (a == b) := by
  rw [Bool.eq_iff_iff, beq_iff_eq, beq_iff_eq]; exact ⟨bv_inj, fun h => by rw [h]⟩
theorem bne_bv (a b : UInt8) : (bv a != bv b) = (a != b) := by rw [bne, bne, beq_bv]
theorem beq_bv_lit (a : UInt8) (z : Int) (h0 : 0 ≤ z) (h1 : z < 256) : (bv a == z) = (a == ofI z) := by rw [← beq_bv, bv_in h0 h1]
theorem bne_bv_lit (a : UInt8) (z : Int) (h0 : 0 ≤ z) (h1 : z < 256) : (bv a != z) = (a != ofI z) := by rw [← bne_bv, bv_in h0 h1]
theorem val_mod (x : Int) : Value.int .u8 (x % 256) = U8 (ofI x) := by show Value.int .u8 (x % 256) = Value.int .u8 (bv (ofI x)); rw [bv_ofI]
theorem bv_div (a : UInt8) (z : Int) (h0 : 0 ≤ z) (h1 : z < 256) : bv a / z = bv (a / ofI z) := by
  have h := bv_in h0 h1
  unfold bv at *
  rw [UInt8.toNat_div, Int.natCast_ediv, h]
theorem ofI_0 : ofI 0 = 0 := by decide
theorem ofI_1 : ofI 1 = 1 := by decide
theorem ofI_2 : ofI 2 = 2 := by decide
theorem ofI_27 : ofI 27 = 27 := by decide
theorem ofI_128 : ofI 128 = 128 := by decide
theorem wrap_bv (b : UInt8) : IntKind.i64.wrap (bv b) = bv b := IntWalk.i64_in _ (by have := bv_nn b; have := bv_lt b; omega)
theorem wrap64_bv (b : UInt8) : wrap64 (bv b) = bv b := IntWalk.wrap64_in _ (by have := bv_nn b; have := bv_lt b; omega)
attribute [simp] wrap_bv wrap64_bv bits_xor_u8 bits_and_u8 bits_or_u8 beq_bv bne_bv beq_bv_lit bne_bv_lit val_mod bv_div ofI_bv ofI_mod ofI_add ofI_mul bv_toNat ofI_0 ofI_1 ofI_2 ofI_27 ofI_128

end Go.Proofs.YtnogcnmoeekcpaaDoor
/- Words for memory: which blocks a call has turned; rows of bytes. No program is named here. -/
namespace Go.Proofs.YtnogcnmoeekcpaaDoor
open Go.RowKit

theorem only_drewN {a w : World} {row : Option Nat} (h : a.grownBy w row) (n : Nat) : a.grownBy (w.drewN n) row := ⟨h.os, h.tape, h.output, h.size, h.block⟩
theorem only_drew {a w : World} {row : Option Nat} (h : a.grownBy w row) : a.grownBy w.drew row := ⟨h.os, h.tape, h.output, h.size, h.block⟩
theorem only_alloc {a w : World} {row : Option Nat} (h : a.grownBy w row) (o : Obj) : a.grownBy (w.alloc o) row :=
  ⟨h.os, h.tape, h.output, Nat.le_trans h.size (by simp), fun i hi hne => (Below.heap_alloc w o i (Nat.lt_of_lt_of_le hi h.size)).trans (h.block i hi hne)⟩
theorem only_setCell {a w : World} {g : Nat} (h : a.grownBy w (some g)) {p : Addr} (hp : p.block = g ∨ a.heap.size ≤ p.block) (u : Value) : a.grownBy (w.setCell p u) (some g) :=
  ⟨h.os, h.tape, h.output, by simpa [World.setCell] using h.size, fun i hi hne => (Below.heap_setCell w p u i (by
    rintro rfl
    rcases hp with hp | hp
    · exact hne (by rw [hp])
    · omega)).trans (h.block i hi hne)⟩
theorem only_of_below {a w : World} (h : Below a.heap.size a w) (row : Option Nat) : a.grownBy w row := ⟨h.os, h.tape, h.output, h.size, fun i hi _ => h.block i hi⟩
theorem below_of_only {a w : World} {B g : Nat} (h : a.grownBy w (some g)) (hB : B ≤ a.heap.size) (hg : B ≤ g) : Below B a w :=
  ⟨h.os, h.tape, h.output, h.size, fun i hi => h.block i (by omega) (by intro e; injection e; omega)⟩
theorem only_trans {a b c : World} {g : Nat} (h : a.grownBy b (some g)) (k : b.grownBy c (some g)) : a.grownBy c (some g) :=
  ⟨k.os.trans h.os, k.tape.trans h.tape, k.output.trans h.output, Nat.le_trans h.size k.size, fun i hi hn => (k.block i (Nat.lt_of_lt_of_le hi h.size) hn).trans (h.block i hi hn)⟩
/-- A callee turned a block that is new to the caller. -/
theorem only_new {a b c : World} {g k : Nat} (h : a.grownBy b (some g)) (hk : b.grownBy c (some k)) (hnew : a.heap.size ≤ k) : a.grownBy c (some g) :=
  ⟨hk.os.trans h.os, hk.tape.trans h.tape, hk.output.trans h.output, Nat.le_trans h.size hk.size, fun i hi hn => (hk.block i (Nat.lt_of_lt_of_le hi h.size) (by intro e; injection e; omega)).trans (h.block i hi hn)⟩
theorem below_drewN {B : Nat} {a w : World} (h : Below B a w) (n : Nat) : Below B a (w.drewN n) := ⟨h.os, h.tape, h.output, h.size, h.block⟩
theorem rowIs_drewN {w : World} {b : Nat} {t : TypeId} {n : Nat} {f : Nat → Value} (h : w.rowIs b t n f) (k : Nat) : (w.drewN k).rowIs b t n f := h
theorem rowIs_only {w w' : World} {b g : Nat} {t : TypeId} {n : Nat} {f : Nat → Value} (h : w.rowIs b t n f) (hg : w.grownBy w' (some g)) (hne : b ≠ g) : w'.rowIs b t n f :=
  h.of_block (hg.block b h.lt (by intro e; injection e; exact hne ‹_›))
theorem rowIs_below {w w' : World} {b B : Nat} {t : TypeId} {n : Nat} {f : Nat → Value} (h : w.rowIs b t n f) (hg : Below B w w') (hlt : b < B) : w'.rowIs b t n f :=
  h.of_block (hg.block b hlt)

/-- n bytes from an address on. -/
def ArrB (w : World) (b off n : Nat) (f : Nat → UInt8) : Prop := ∀ j, j < n → w.cell? ⟨b, off + j, none⟩ = some (U8 (f j))
theorem ArrB.at_ {w : World} {b off n : Nat} {f : Nat → UInt8} (h : ArrB w b off n f) {j : Nat} (hj : j < n) : w.cell? ⟨b, off + j, none⟩ = some (U8 (f j)) := h j hj
theorem ArrB.of_block {w w' : World} {b off n : Nat} {f : Nat → UInt8} (h : ArrB w b off n f) (e : w'.heap[b]? = w.heap[b]?) : ArrB w' b off n f :=
  fun j hj => (World.cell?_of_block (w := w) e).trans (h j hj)
theorem ArrB.lt {w : World} {b off n : Nat} {f : Nat → UInt8} (h : ArrB w b off n f) (hn : 0 < n) : b < w.heap.size := block_lt_of_cell (h 0 hn)
theorem ArrB.only {w w' : World} {b off n g : Nat} {f : Nat → UInt8} (h : ArrB w b off n f) (hg : w.grownBy w' (some g)) (hne : b ≠ g) : ArrB w' b off n f := by
  rcases Nat.eq_zero_or_pos n with h0 | h0
  · intro j hj; omega
  · exact h.of_block (hg.block b (h.lt h0) (by intro e; injection e; exact hne ‹_›))
theorem ArrB.alloc {w : World} {b off n : Nat} {f : Nat → UInt8} (h : ArrB w b off n f) (o : Obj) : ArrB (w.alloc o) b off n f := by
  rcases Nat.eq_zero_or_pos n with h0 | h0
  · intro j hj; omega
  · exact h.of_block (Below.heap_alloc _ _ _ (h.lt h0))
theorem ArrB.of_row {w : World} {b n off m : Nat} {t : TypeId} {f : Nat → UInt8} (h : w.rowIs b t n (fun j => U8 (f j))) (hm : off + m ≤ n) : ArrB w b off m (fun j => f (off + j)) :=
  fun j hj => h.cell (i := off + j) (by omega)
theorem ArrB.congr {w : World} {b off n : Nat} {f g : Nat → UInt8} (h : ArrB w b off n f) (e : ∀ i, i < n → f i = g i) : ArrB w b off n g :=
  fun j hj => by rw [← e j hj]; exact h j hj

/-- The first n values of f, as an array's cells. -/
def bArr (n : Nat) (f : Nat → UInt8) : Array Value := ((List.range n).map fun i => U8 (f i)).toArray
theorem bArr_at (n : Nat) (f : Nat → UInt8) (i : Nat) (h : i < n) : (bArr n f)[i]? = some (U8 (f i)) := by simp [bArr, h]
theorem bArr_size (n : Nat) (f : Nat → UInt8) : (bArr n f).size = n := by simp [bArr]
theorem bArr_congr {n : Nat} {f g : Nat → UInt8} (h : ∀ j, j < n → f j = g j) : bArr n f = bArr n g := by
  unfold bArr
  congr 1
  exact List.map_congr_left fun j hj => by rw [h j (by simpa using hj)]
theorem rowIs_bArr (w : World) (n : Nat) (t : TypeId) (f : Nat → UInt8) : (w.alloc (.cells (bArr n f) t)).rowIs w.heap.size t n (fun j => U8 (f j)) :=
  ⟨_, heap_alloc_new _ _, bArr_size n f, fun i hi => bArr_at n f i hi⟩
/-- A row of bytes is one array. -/
theorem row_bArr {w : World} {b n : Nat} {t : TypeId} {f : Nat → UInt8} (h : w.rowIs b t n (fun j => U8 (f j))) : w.heap[b]? = some (.cells (bArr n f) t (0, 0)) := by
  obtain ⟨c, hb, hn, hc⟩ := h
  rw [hb]
  have : c = bArr n f := by
    apply Array.ext_getElem?
    intro i
    rcases Nat.lt_or_ge i n with hi | hi
    · rw [hc i hi, bArr_at n f i hi]
    · rw [Array.getElem?_eq_none (by omega), Array.getElem?_eq_none (by rw [bArr_size]; omega)]
  rw [this]

theorem bArr_one (n : Nat) (f : Nat → UInt8) : (bArr n f).all (·.oneCell') = true := by
  simp [bArr, Value.oneCell']
/-- A whole array of bytes laid into the block that was made last. -/
theorem store_new {P : Program} {T : TypeId} {n : Nat} (hi : (P.info? T).map (·.size) = some n) (f : Nat → UInt8) (W : World) (c : Array Value) (b : Nat) (hc : c.size = n) (hb : b = W.heap.size) :
    (storeCells ⟨b, 0, none⟩ (bArr n f).toList).run P (W.alloc (.cells c T)) = .ok () (W.alloc (.cells (bArr n f) T)) := by
  subst hb
  exact run_storeCells_new W T c (bArr n f) (by rw [hi, bArr_size]) (by rw [hc, bArr_size]) (bArr_one n f)

/-- The first n places new, the others old. -/
def upto (n : Nat) (new old : Nat → UInt8) (j : Nat) : UInt8 := if j < n then new j else old j
theorem upto_zero (new old : Nat → UInt8) : upto 0 new old = old := by funext j; unfold upto; rw [if_neg (by omega)]
theorem upto_old {n j : Nat} {new old : Nat → UInt8} (h : n ≤ j) : upto n new old j = old j := by unfold upto; rw [if_neg (by omega)]
theorem row_upto_zero {w : World} {g N : Nat} {t : TypeId} {old : Nat → UInt8} (h : w.rowIs g t N (fun j => U8 (old j))) (new : Nat → UInt8) : w.rowIs g t N (fun j => U8 (upto 0 new old j)) := by rw [upto_zero]; exact h
theorem row_upto_full {w : World} {g N n : Nat} {t : TypeId} {new old : Nat → UInt8} (h : w.rowIs g t N (fun j => U8 (upto n new old j))) (hn : N ≤ n) : w.rowIs g t N (fun j => U8 (new j)) :=
  h.congr fun j hj => by unfold upto; rw [if_pos (by omega)]
theorem row_upto_set {w : World} {g N n : Nat} {t : TypeId} {new old : Nat → UInt8} {v : UInt8} (h : w.rowIs g t N (fun j => U8 (upto n new old j))) (hv : v = new n) :
    (w.setCell ⟨g, n, none⟩ (U8 v)).rowIs g t N (fun j => U8 (upto (n + 1) new old j)) :=
  (h.set n _).congr fun j _ => by
    unfold upto
    by_cases e : j = n
    · subst e; rw [if_pos rfl, if_pos (by omega), hv]
    · rw [if_neg e]
      by_cases e2 : j < n
      · rw [if_pos e2, if_pos (by omega)]
      · rw [if_neg e2, if_neg (by omega)]
theorem row_upto_cell {w : World} {g N n : Nat} {t : TypeId} {new old : Nat → UInt8} (h : w.rowIs g t N (fun j => U8 (upto n new old j))) (hn : n < N) : w.cell? ⟨g, n, none⟩ = some (U8 (old n)) := by
  have := h.cell hn
  rwa [upto_old (Nat.le_refl _)] at this

end Go.Proofs.YtnogcnmoeekcpaaDoor
