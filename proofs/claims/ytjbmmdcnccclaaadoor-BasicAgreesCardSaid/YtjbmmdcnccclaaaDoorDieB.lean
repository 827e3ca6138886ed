/- Bytes beside the dice. -/
import Derived.Test.YtjbmmdcnccclaaaDoorQDice2
import Derived.Test.YtjbmmdcnccclaaaDoorBas6
namespace Go.Proofs.YtjbmmdcnccclaaaDoor
open Go.RowKit Go.Deep

theorem BsS.dieB {B n : Nat} {w w' : World} {p : Nat} {v : Value} {l : List UInt8} (h : BsS w (fun b => b < w.heap.size ∧ b ≠ p) v l) (hd : DiePost B w p n w') : BsS w' (fun b => b < w'.heap.size ∧ b ≠ p) v l :=
  h.keep fun b hs hl => ⟨hd.2.block b hl (fun e => by injection e with e; exact hs.2 e), Nat.lt_of_lt_of_le hl hd.2.size, hs.2⟩
theorem BsS.onB {w w' : World} {p : Nat} {v : Value} {l : List UInt8} (h : BsS w (fun b => b < w.heap.size ∧ b ≠ p) v l) (hb : Below w.heap.size w w') : BsS w' (fun b => b < w'.heap.size ∧ b ≠ p) v l :=
  h.keep fun b hs hl => ⟨hb.block b hl, Nat.lt_of_lt_of_le hl hb.size, hs.2⟩
theorem BsS.madeB {w w' : World} {p : Nat} {v : Value} {l : List UInt8} (h : BsS w' (New w w') v l) (hp : p < w.heap.size) : BsS w' (fun b => b < w'.heap.size ∧ b ≠ p) v l :=
  h.keep fun b hs _ => ⟨rfl, hs.2, by have := hs.1; omega⟩
theorem BsS.loB {w : World} {p : Nat} {v : Value} {l : List UInt8} (h : BsS w (fun b => b < w.heap.size ∧ b ≠ p) v l) : Bs w w.heap.size v l := h.keep fun _ hs _ => ⟨rfl, hs.1⟩
theorem wf_i64' {z : Int} (h : (Lit.int .i64 z).wf = true) : I64in z := by
  simp [Lit.wf, IntKind.min, IntKind.max, IntKind.signed, IntKind.bits] at h
  exact ⟨by omega, by omega⟩
/-- A new session, empty, then filled. -/
abbrev freshS (w : World) : World := w.alloc (.cells #[.slice none 0 0, .slice none 0 0, .int .i64 0] 40)
theorem fresh_row (w : World) : (w.alloc (.cells #[.slice none 0 0, .slice none 0 0, .int .i64 0] 40)).heap[w.heap.size]? = some (.cells #[.slice none 0 0, .slice none 0 0, .int .i64 0] 40 (0, 0)) := heap_alloc_new _ _
abbrev fillS (w : World) (a b c : Value) : World := w.alloc (.cells #[a, b, c] 40)
theorem fill_size (w : World) (a b c : Value) : (fillS w a b c).heap.size = w.heap.size + 1 := by simp
theorem fill_lt (w : World) (a b c : Value) : w.heap.size < (fillS w a b c).heap.size := by rw [fill_size]; omega
theorem fill_row (w : World) (a b c : Value) : (fillS w a b c).heap[w.heap.size]? = some (.cells #[a, b, c] 40 (0, 0)) := heap_alloc_new _ _
theorem below_fill {w w' : World} (h : Below w.heap.size w w') {a b c : Value} : Below w.heap.size w (fillS w' a b c) := h.alloc h.size _
theorem below_fillS (w : World) (a b c : Value) : Below w.heap.size w (fillS w a b c) := below_fill (Below.refl _ _)
end Go.Proofs.YtjbmmdcnccclaaaDoor
