/- Words for sessions. -/
import Derived.Test.YtnogcnmoeekcpaaDoorQDice2
import Derived.Test.YtnogcnmoeekcpaaDoorQCat
import Derived.Test.YtnogcnmoeekcpaaDoorDig2
namespace Go.Proofs.YtnogcnmoeekcpaaDoor
open Go.RowKit Go.Deep

theorem sess3 {w : World} {p : Nat} {a b c : Value} {t : TypeId} (h : w.heap[p]? = some (.cells #[a, b, c] t (0, 0))) :
    w.cell? ⟨p, 0, none⟩ = some a ∧ w.cell? ⟨p, 1, none⟩ = some b ∧ w.cell? ⟨p, 2, none⟩ = some c ∧ ∀ o, w.frozen? ⟨p, o, none⟩ = false := by
  have key : ∀ o v, #[a, b, c][o]? = some v → w.cell? ⟨p, o, none⟩ = some v := fun o v e => by rw [cell_of_row _ _ _ _ _ _ h]; exact e
  exact ⟨key 0 _ rfl, key 1 _ rfl, key 2 _ rfl, fun o => by simp [World.frozen?, h]⟩
def set3 (w : World) (g : Nat) (a b c : Value) : World := ((w.setCell ⟨g, 0, none⟩ a).setCell ⟨g, 1, none⟩ b).setCell ⟨g, 2, none⟩ c
theorem set3_row {w : World} {g : Nat} {x y z : Value} {t : TypeId} (a b c : Value) (h : w.heap[g]? = some (.cells #[x, y, z] t (0, 0))) : (set3 w g a b c).heap[g]? = some (.cells #[a, b, c] t (0, 0)) :=
  row_put (o := 2) (row_put (o := 1) (row_put (o := 0) h))
theorem set3_below {w w' : World} {B g : Nat} {a b c : Value} (h : Below B w w') (hg : B ≤ g) : Below B w (set3 w' g a b c) := ((h.setCell hg _).setCell hg _).setCell hg _
theorem set3_other {w : World} {g j : Nat} {a b c : Value} (h : j ≠ g) : (set3 w g a b c).heap[j]? = w.heap[j]? := by
  unfold set3
  rw [Below.heap_setCell _ _ _ _ (by exact h), Below.heap_setCell _ _ _ _ (by exact h), Below.heap_setCell _ _ _ _ (by exact h)]
theorem bs_nil (w : World) (S : Nat → Prop) : BsS w S (.slice none 0 0) [] := ⟨none, 0, rfl, by simp, by omega, by simp, fun h => by simp at h⟩
theorem bs_later {w w' : World} {v : Value} {l : List UInt8} {S : Nat → Prop} (h : BsS w S v l) (hS : ∀ b, S b → b < w.heap.size) (hb : Below w.heap.size w w') : Bs w' w'.heap.size v l := BsS.keep h fun g hs _ => ⟨hb.block g (hS g hs), Nat.lt_of_lt_of_le (hS g hs) hb.size⟩
/-- A session's value, of keys of any lengths. -/
def SessL (w : World) (S : Nat → Prop) (v : Value) (k1 k2 : List UInt8) (n : Int) : Prop := ∃ a b, v = .agg #[a, b, .int .i64 n] ∧ BsS w S a k1 ∧ BsS w S b k2
/-- A new session, empty, then filled. -/
abbrev freshS (w : World) : World := w.alloc (.cells #[.slice none 0 0, .slice none 0 0, .int .i64 0] 25)
theorem fresh_row (w : World) : (w.alloc (.cells #[.slice none 0 0, .slice none 0 0, .int .i64 0] 25)).heap[w.heap.size]? = some (.cells #[.slice none 0 0, .slice none 0 0, .int .i64 0] 25 (0, 0)) := heap_alloc_new _ _
abbrev fillS (w : World) (a b c : Value) : World := w.alloc (.cells #[a, b, c] 25)
theorem fill_size (w : World) (a b c : Value) : (fillS w a b c).heap.size = w.heap.size + 1 := by simp
theorem fill_lt (w : World) (a b c : Value) : w.heap.size < (fillS w a b c).heap.size := by rw [fill_size]; omega
theorem fill_row (w : World) (a b c : Value) : (fillS w a b c).heap[w.heap.size]? = some (.cells #[a, b, c] 25 (0, 0)) := heap_alloc_new _ _
theorem below_fill {w w' : World} (h : Below w.heap.size w w') {a b c : Value} : Below w.heap.size w (fillS w' a b c) := h.alloc h.size _
theorem below_fillS (w : World) (a b c : Value) : Below w.heap.size w (fillS w a b c) := below_fill (Below.refl _ _)
theorem BsS.onB {w w' : World} {p : Nat} {v : Value} {l : List UInt8} (h : BsS w (fun b => b < w.heap.size ∧ b ≠ p) v l) (hb : Below w.heap.size w w') : BsS w' (fun b => b < w'.heap.size ∧ b ≠ p) v l :=
  h.keep fun b hs hl => ⟨hb.block b hl, Nat.lt_of_lt_of_le hl hb.size, hs.2⟩
theorem BsS.madeB {w w' : World} {p : Nat} {v : Value} {l : List UInt8} (h : BsS w' (New w w') v l) (hp : p < w.heap.size) : BsS w' (fun b => b < w'.heap.size ∧ b ≠ p) v l :=
  h.keep fun b hs _ => ⟨rfl, hs.2, by have := hs.1; omega⟩
theorem BsS.loB {w : World} {p : Nat} {v : Value} {l : List UInt8} (h : BsS w (fun b => b < w.heap.size ∧ b ≠ p) v l) : Bs w w.heap.size v l := h.keep fun _ hs _ => ⟨rfl, hs.1⟩
theorem wf_i64' {z : Int} (h : (Lit.int .i64 z).wf = true) : I64in z := by
  simp [Lit.wf, IntKind.min, IntKind.max, IntKind.signed, IntKind.bits] at h
  exact ⟨by omega, by omega⟩
end Go.Proofs.YtnogcnmoeekcpaaDoor
