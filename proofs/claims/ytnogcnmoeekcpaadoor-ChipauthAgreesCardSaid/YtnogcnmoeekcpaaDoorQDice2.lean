/- made.Mod. -/
import Derived.Test.YtnogcnmoeekcpaaDoorTlv1
import Derived.Test.YtnogcnmoeekcpaaDoorQTlv3
import Derived.Test.YtnogcnmoeekcpaaDoorAppB
namespace Go.Proofs.YtnogcnmoeekcpaaDoor
open Go.RowKit Go.Deep

end Go.Proofs.YtnogcnmoeekcpaaDoor
/- made.Dice: what it is that a pointer points at dice, and Next, One. -/
namespace Go.Proofs.YtnogcnmoeekcpaaDoor
open Go.RowKit Go.Deep

/-- A slice of n numbers. -/
def IntsS (w : World) (S : Nat → Prop) (v : Value) (n : Nat) : Prop :=
  ∃ a c, v = .slice a n c ∧ n ≤ c ∧ c ≤ 9223372036854775807 ∧ n ≤ 1000000000000000000 ∧
    (0 < n → ∃ b off, a = some ⟨b, off, none⟩ ∧ S b ∧ b < w.heap.size ∧ ∀ j, j < n → ∃ z, I64in z ∧ w.cell? ⟨b, off + j, none⟩ = some (.int .i64 z))
theorem IntsS.keep {w w' : World} {S S' : Nat → Prop} {v : Value} {n : Nat} (h : IntsS w S v n) (hk : ∀ b, S b → b < w.heap.size → w'.heap[b]? = w.heap[b]? ∧ S' b) : IntsS w' S' v n := by
  obtain ⟨a, c, e, h1, h2, h3, h4⟩ := h
  refine ⟨a, c, e, h1, h2, h3, fun h0 => ?_⟩
  obtain ⟨b, off, ea, hb, hl, hr⟩ := h4 h0
  refine ⟨b, off, ea, (hk b hb hl).2, lt_of_same (hk b hb hl).1 hl, fun j hj => ?_⟩
  obtain ⟨z, hz, hc⟩ := hr j hj
  exact ⟨z, hz, (by simp [World.cell?, (hk b hb hl).1] : w'.cell? ⟨b, off + j, none⟩ = w.cell? ⟨b, off + j, none⟩).trans hc⟩
theorem IntsS.form {w : World} {S : Nat → Prop} {v : Value} {n : Nat} (h : IntsS w S v n) : ∃ a c, v = .slice a n c := by
  obtain ⟨a, c, e, _⟩ := h; exact ⟨a, c, e⟩
theorem two {w : World} {X : Nat} {a b : Value} {t : TypeId} (h : w.heap[X]? = some (.cells #[a, b] t (0, 0))) : w.cell? ⟨X, 0, none⟩ = some a ∧ w.cell? ⟨X, 1, none⟩ = some b ∧ ∀ o, w.frozen? ⟨X, o, none⟩ = false := by
  refine ⟨?_, ?_, fun o => by simp [World.frozen?, h]⟩ <;> (rw [cell_of_row _ _ _ _ _ _ h]; rfl)
theorem two_set1 {w : World} {p : Nat} {a b u : Value} {t : TypeId} (h : w.heap[p]? = some (.cells #[a, b] t (0, 0))) : (w.setCell ⟨p, 1, none⟩ u).heap[p]? = some (.cells #[a, u] t (0, 0)) := by
  show (w.heap.modify p _)[p]? = _
  rw [Array.getElem?_modify, if_pos rfl, h]
  rfl
end Go.Proofs.YtnogcnmoeekcpaaDoor
/- made.Dice: Tag and Bytes. -/
namespace Go.Proofs.YtnogcnmoeekcpaaDoor
open Go.RowKit Go.Deep

theorem tag_long {a b : Nat} (ha : (a : Int) < 4) (hb : (b : Int) < 127) : (tagV (256 * (31 + 64 * (a : Int)) + 1 + b) = true ∧ tagC (256 * (31 + 64 * (a : Int)) + 1 + b) = false) ∧ (tagV (256 * (31 + 64 * (a : Int)) + 1 + b + 8192) = true ∧ tagC (256 * (31 + 64 * (a : Int)) + 1 + b + 8192) = true) := by
  have h : ∀ a : Fin 4, ∀ b : Fin 127, (tagV (256 * (31 + 64 * (a.1 : Int)) + 1 + b.1) = true ∧ tagC (256 * (31 + 64 * (a.1 : Int)) + 1 + b.1) = false) ∧ (tagV (256 * (31 + 64 * (a.1 : Int)) + 1 + b.1 + 8192) = true ∧ tagC (256 * (31 + 64 * (a.1 : Int)) + 1 + b.1 + 8192) = true) := by decide +kernel
  exact h ⟨a, by omega⟩ ⟨b, by omega⟩
theorem tag_short {a b : Nat} (ha : (a : Int) < 30) (hb : (b : Int) < 4) : (tagV (1 + (a : Int) + 64 * b) = true ∧ tagC (1 + (a : Int) + 64 * b) = false) ∧ (tagV (1 + (a : Int) + 64 * b + 32) = true ∧ tagC (1 + (a : Int) + 64 * b + 32) = true) := by
  have h : ∀ a : Fin 30, ∀ b : Fin 4, (tagV (1 + (a.1 : Int) + 64 * b.1) = true ∧ tagC (1 + (a.1 : Int) + 64 * b.1) = false) ∧ (tagV (1 + (a.1 : Int) + 64 * b.1 + 32) = true ∧ tagC (1 + (a.1 : Int) + 64 * b.1 + 32) = true) := by decide +kernel
  exact h ⟨a, by omega⟩ ⟨b, by omega⟩
theorem val_byte {z : Int} (h0 : 0 ≤ z) (h1 : z ≤ 255) : Value.int .u8 z = U8 (ofI z) := by rw [← val_mod, Int.emod_eq_of_lt h0 (by omega)]
theorem wpList_push1s {ops : Array Oper} {rest : List Oper} {o : Oper} {a : Act} {w : World} {Q : Exit → Act → World → Prop} (hgd : o.guard = none) (s x : Operand)
    (ho : o.op = .call { callee := .builtin .append, args := #[s, x], argTypes := #[22, 22] })
    (base : Nat) (v : Value) (l : List UInt8) (hs : a.eval s = v) (hown : OwnB w base v l) (z : Int) (h0 : 0 ≤ z) (h1 : z ≤ 255) (t : TypeId) (g : Nat) (hx : a.eval x = .slice (some ⟨g, 0, none⟩) 1 1) (hg : g = w.heap.size)
    (hb : l.length + 1 ≤ 140737488355328) (hbase : base ≤ w.heap.size)
    (h : ∀ v' w', Grew w w' base v v' (l ++ [ofI z]) → wpList Tryd.prog ops Q rest (a.put o.dst v') w') : wpList Tryd.prog ops Q (o :: rest) a (w.alloc (.cells #[.int .u8 z] t)) := by
  rw [val_byte h0 h1]
  exact wpList_push1 hgd s x ho base v l hs hown (ofI z) t g hx hg hb hbase h
theorem ownsRow_only {wi wj : World} {base e size n p : Nat} {o : Value} {xs : List Value} (h : wi.ownsRow base e size o n xs) (hp : p < base) (hg : wi.grownBy wj (some p)) : wj.ownsRow base e size o n xs :=
  World.ownsRow.kept h hg (by
    rcases e : o.ownBlock with _ | b
    · exact .inl rfl
    · refine .inr fun e2 => ?_
      have := (h.lt b e).1
      injection e2 with e2
      omega)
/-- What turns nothing below w but the dice. -/
theorem only_row {w wi wj : World} {p : Nat} {row : Option Nat} (h : w.grownBy wi (some p)) (hg : wi.grownBy wj row) (hr : ∀ b, row = some b → w.heap.size ≤ b) : w.grownBy wj (some p) :=
  ⟨hg.os.trans h.os, hg.tape.trans h.tape, hg.output.trans h.output, Nat.le_trans h.size hg.size, fun k hk hne => (hg.block k (Nat.lt_of_lt_of_le hk h.size) (fun e => by have := hr k e.symm; omega)).trans (h.block k hk hne)⟩
end Go.Proofs.YtnogcnmoeekcpaaDoor
