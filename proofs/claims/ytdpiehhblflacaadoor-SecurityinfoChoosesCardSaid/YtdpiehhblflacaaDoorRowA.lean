/- append of the values in a block that the call has made onto a row of the call's own, whatever the elements. -/
import Derived.Test.YtdpiehhblflacaaDoorChecked
import Derived.Test.YtdpiehhblflacaaDoorQMem
import Derived.Maps.AppendAt
namespace Go.Proofs.YtdpiehhblflacaaDoor
open Go.RowKit

/-- What an append onto an own row leaves. -/
structure GrewV (w w' : World) (base : Nat) (e : TypeId) (size : Nat) (v v' : Value) (n : Nat) (xs : List Value) : Prop where
  own : w'.ownsRow base e size v' n xs
  below : Below base w w'
  grown : w.grownBy w' v.ownBlock
  at_ : v'.ownBlock = v.ownBlock ∨ v'.ownBlock = some w.heap.size
theorem wp_row {op : Oper} {a : Act} {w : World} {K : Act → World → Prop} {Q : Exit → Act → World → Prop} (s x : Operand) (t e : TypeId) (size bytes : Nat) (z : Value)
    (ho : op.op = .call { callee := .builtin .append, args := #[s, x], argTypes := #[t, t] })
    (ht : Tryd.prog.underlying t = some (.slice e)) (hinf : (Tryd.prog.info? e).map (fun i => (i.zero, i.size, i.bytes)) = some (some z, size, bytes)) (hz : z.cells.size = size) (h0 : 0 < size)
    (base : Nat) (v : Value) (n : Nat) (xs : List Value) (hs : a.eval s = v) (hown : w.ownsRow base e size v n xs)
    (g m : Nat) (C : Array Value) (tc : TypeId) (f : Nat × Nat) (hx : a.eval x = .slice (some ⟨g, 0, none⟩) m m) (hg : w.heap[g]? = some (.cells C tc f)) (hC : C.toList.length = m * size) (h1 : ∀ u ∈ C.toList, u.oneCell' = true)
    (h63 : n + m ≤ maxLen) (hb : (n + m) * bytes ≤ 140737488355328) (hbase : base ≤ w.heap.size)
    (h : ∀ v' w', GrewV w w' base e size v v' (n + m) (xs ++ C.toList) → K (a.put op.dst v') w') : op.wp Tryd.prog a w K Q := by
  obtain ⟨i, hinfo, hzz⟩ := Option.map_eq_some_iff.1 hinf
  simp only [Prod.mk.injEq] at hzz
  obtain ⟨hz', hsize, hbb⟩ := hzz
  obtain ⟨v', w', hr, g1, g2, _, g3⟩ := run_append_own_at (P := Tryd.prog) w base t op.type e i z size bytes ht hinfo hz' hsize hbb hz h0 v n xs hown ⟨g, 0, none⟩ m m C.toList hC (fun j u hu => by
    have e : (⟨g, 0, none⟩ : Addr).add j = ⟨g, j, none⟩ := by unfold Addr.add; split <;> simp_all
    rw [e]
    simp [World.cell?, hg]
    simpa using hu) h1 h63 hb hbase
  unfold Oper.wp execOp
  simp only [ho, resolve, invoke, builtin, Sem.run_bind, Sem.run_pure, Result.andThen_ok, List.map_toArray, List.map_cons, List.map_nil, hs, hx, hr]
  refine h v' w' ⟨g1, ⟨g2.os, g2.tape, g2.output, g2.size, fun b hb' => g2.block b (by omega) fun e => ?_⟩, g2, g3⟩
  have := (hown.lt b e.symm).1
  omega
theorem wpList_row {ops : Array Oper} {rest : List Oper} {op : Oper} {a : Act} {w : World} {Q : Exit → Act → World → Prop} (hgd : op.guard = none) (s x : Operand) (t e : TypeId) (size bytes : Nat) (z : Value)
    (ho : op.op = .call { callee := .builtin .append, args := #[s, x], argTypes := #[t, t] })
    (ht : Tryd.prog.underlying t = some (.slice e)) (hinf : (Tryd.prog.info? e).map (fun i => (i.zero, i.size, i.bytes)) = some (some z, size, bytes)) (hz : z.cells.size = size) (h0 : 0 < size)
    (base : Nat) (v : Value) (n : Nat) (xs : List Value) (hs : a.eval s = v) (hown : w.ownsRow base e size v n xs)
    (g m : Nat) (C : Array Value) (tc : TypeId) (f : Nat × Nat) (hx : a.eval x = .slice (some ⟨g, 0, none⟩) m m) (hg : w.heap[g]? = some (.cells C tc f)) (hC : C.toList.length = m * size) (h1 : ∀ u ∈ C.toList, u.oneCell' = true)
    (h63 : n + m ≤ maxLen) (hb : (n + m) * bytes ≤ 140737488355328) (hbase : base ≤ w.heap.size)
    (h : ∀ v' w', GrewV w w' base e size v v' (n + m) (xs ++ C.toList) → wpList Tryd.prog ops Q rest (a.put op.dst v') w') : wpList Tryd.prog ops Q (op :: rest) a w :=
  wpList_plain hgd fun _ hK => wp_row s x t e size bytes z ho ht hinf hz h0 base v n xs hs hown g m C tc f hx hg hC h1 h63 hb hbase fun v' w' hG => hK _ _ (h v' w' hG)
end Go.Proofs.YtdpiehhblflacaaDoor
