/- Words: a slice of one object in its block; a row of plain objects that grows beside a row of bytes. -/
import Derived.Test.YtljalnfjneeieaaTlv6
import Derived.Test.YtljalnfjneeieaaTlvF
import Derived.Test.YtljalnfjneeieaaLimP
import Derived.Test.YtljalnfjneeieaaNodes
namespace Go.Proofs.Ytljalnfjneeieaa
open Go.RowKit Go.Deep

/-- A slice of one object, in a block of its own. -/
theorem NsS.one {w : World} {S : Nat → Prop} {g : Nat} {t : Int} {x y : Value} {v : List UInt8} {k : Ns} {ty : TypeId} (h : w.heap[g]? = some (.cells #[.int .i64 t, x, y] ty (0, 0))) (hs : S g) (hi : I64in t) (hv : BsS w S x v) (hk : NsS w S y k) :
    NsS w S (.slice (some ⟨g, 0, none⟩) 1 1) (.cons t v k .nil) := by
  obtain ⟨c0, c1, c2, _⟩ := three h
  obtain ⟨a, c, rfl, h1, h2, h3, h4⟩ := hk
  exact ⟨_, 1, rfl, Nat.le_refl _, by simp [maxLen], by simp [Ns.len], fun _ => ⟨g, 0, rfl, hs, (Array.getElem?_eq_some_iff.1 h).1, c0, hi, ⟨x, c1, hv⟩, ⟨a, c, c2, h1, h2, h3, h4⟩, trivial⟩⟩
theorem three_set0 {w : World} {p : Nat} {a b c u : Value} {t : TypeId} (h : w.heap[p]? = some (.cells #[a, b, c] t (0, 0))) : (w.setCell ⟨p, 0, none⟩ u).heap[p]? = some (.cells #[u, b, c] t (0, 0)) := by
  have hlt := lt_of_block h
  have h' : w.heap[p] = .cells #[a, b, c] t (0, 0) := by simpa [Array.getElem?_eq_getElem hlt] using h
  show (w.heap.modify p _)[p]? = _
  rw [Array.getElem?_modify, if_pos rfl, h]
  rfl
theorem three_set1 {w : World} {p : Nat} {a b c u : Value} {t : TypeId} (h : w.heap[p]? = some (.cells #[a, b, c] t (0, 0))) : (w.setCell ⟨p, 1, none⟩ u).heap[p]? = some (.cells #[a, u, c] t (0, 0)) := by
  show (w.heap.modify p _)[p]? = _
  rw [Array.getElem?_modify, if_pos rfl, h]
  rfl
theorem three_set2 {w : World} {p : Nat} {a b c u : Value} {t : TypeId} (h : w.heap[p]? = some (.cells #[a, b, c] t (0, 0))) : (w.setCell ⟨p, 2, none⟩ u).heap[p]? = some (.cells #[a, b, u] t (0, 0)) := by
  show (w.heap.modify p _)[p]? = _
  rw [Array.getElem?_modify, if_pos rfl, h]
  rfl
/-- The values of k objects 4 with nothing in them. -/
def flatX : Nat → List Value
  | 0 => []
  | k + 1 => flatX k ++ [.int .i64 4, .slice none 0 0, .slice none 0 0]
abbrev FlatN (w : World) (base : Nat) (o : Value) (k : Nat) : Prop := w.ownsRow base 42 3 o k (flatX k)
theorem flatX_each (w : World) (S : Nat → Prop) (k : Nat) : EachN w S (flat k) (flatX k) := by
  induction k with
  | zero => rfl
  | succ k ih => exact EachN.snoc _ _ ih ⟨by decide, by decide⟩ (BsS.nil0 _ _) (NsS.nil0 _ _)
theorem FlatN.own {w : World} {base : Nat} {o : Value} {k : Nat} (h : FlatN w base o k) : OwnN w base o (flat k) := ⟨flatX k, by rw [flat_len]; exact h, flatX_each _ _ _⟩
theorem FlatN.form {w : World} {base : Nat} {o : Value} {k : Nat} (h : FlatN w base o k) : ∃ A c, o = .slice A k c := by
  obtain ⟨A, c, e⟩ := h.own.form
  rw [flat_len] at e
  exact ⟨A, c, e⟩
/-- append of one such object, in the block that was made for it. -/
theorem wpList_flat {ops : Array Oper} {rest : List Oper} {op : Oper} {a : Act} {w : World} {Q : Exit → Act → World → Prop} (hgd : op.guard = none) (s x : Operand)
    (ho : op.op = .call { callee := .builtin .append, args := #[s, x], argTypes := #[31, 31] })
    (base : Nat) (o : Value) (k : Nat) (hs : a.eval s = o) (hown : FlatN w base o k) (ty : TypeId) (g : Nat) (hx : a.eval x = .slice (some ⟨g, 0, none⟩) 1 1) (hg : g = w.heap.size) (hb : k ≤ 1000000000000) (hbase : base ≤ w.heap.size)
    (h : ∀ o' w', FlatN w' base o' (k + 1) → Below base w w' → w.grownBy w' o.ownBlock → (∀ b, o'.ownBlock = some b → o.ownBlock = some b ∨ w.heap.size ≤ b) → wpList Try.prog ops Q rest (a.put op.dst o') w') :
    wpList Try.prog ops Q (op :: rest) a (w.alloc (.cells #[.int .i64 4, .slice none 0 0, .slice none 0 0] ty)) := by
  subst hg
  have h1 := hown
  obtain ⟨i, hinfo, hzz⟩ := Option.map_eq_some_iff.1 infoNode
  simp only [Prod.mk.injEq] at hzz
  obtain ⟨hz, hsize, hbb⟩ := hzz
  refine wpList_append_own_at (w := w.alloc (.cells #[.int .i64 4, .slice none 0 0, .slice none 0 0] ty)) hgd s x 31 ho base 42 i _ 3 56 Try.underlying31 hinfo hz hsize hbb rfl (by omega) o k (flatX k) hs (World.ownsRow.alloc h1 _) ⟨w.heap.size, 0, none⟩ 1 1 [.int .i64 4, .slice none 0 0, .slice none 0 0] hx rfl
    (fun j u hu => ?_) (by simp [Value.oneCell']) (by unfold maxLen; omega) (by omega) (by simp; omega) fun o' w' g1 g2 _ g3 => h o' w' g1 ?_ ?_ ?_
  · have e : (⟨w.heap.size, 0, none⟩ : Addr).add j = ⟨w.heap.size, 0 + j, none⟩ := by unfold Addr.add; split <;> simp_all
    rw [e, Nat.zero_add, cell_of_row _ _ _ _ _ _ (heap_alloc_new _ _)]
    simpa using hu
  · refine ((Below.refl _ _).alloc hbase _).trans ⟨g2.os, g2.tape, g2.output, g2.size, fun b hb' => g2.block b (by simp; omega) fun e => ?_⟩
    have := (h1.lt b e.symm).1
    omega
  · exact ⟨g2.os, g2.tape, g2.output, Nat.le_trans (by simp) g2.size, fun b hb' hne => (g2.block b (by simp; omega) hne).trans (Below.heap_alloc w _ b hb')⟩
  · exact fun b e => g3.elim (fun h' => .inl (h' ▸ e)) fun h' => .inr (by rw [h'] at e; injection e with e; simp at e; omega)
/-- The two rows that grow side by side. -/
def Rows2 (w wi : World) (o : Value) (k : Nat) (v : Value) (l : List UInt8) : Prop :=
  FlatN wi w.heap.size o k ∧ OwnB wi w.heap.size v l ∧ Below w.heap.size w wi ∧ (v.ownBlock = none ∨ v.ownBlock ≠ o.ownBlock)
theorem Rows2.start (w : World) : Rows2 w w (.slice none 0 0) 0 (.slice none 0 0) [] := ⟨World.ownsRow_nil _ _ _ _, OwnB.nil _ _, Below.refl _ _, .inl rfl⟩
theorem Rows2.alloc {w wi : World} {o v : Value} {k : Nat} {l : List UInt8} (h : Rows2 w wi o k v l) (x : Obj) : Rows2 w (wi.alloc x) o k v l := ⟨World.ownsRow.alloc h.1 _, h.2.1.alloc x, h.2.2.1.alloc h.2.2.1.size x, h.2.2.2⟩
theorem Rows2.node {w wi wj : World} {o o' v : Value} {k : Nat} {l : List UInt8} (h : Rows2 w wi o k v l) (g1 : FlatN wj w.heap.size o' (k + 1)) (g2 : Below w.heap.size wi wj) (g3 : wi.grownBy wj o.ownBlock) (g4 : ∀ b, o'.ownBlock = some b → o.ownBlock = some b ∨ wi.heap.size ≤ b) :
    Rows2 w wj o' (k + 1) v l := by
  obtain ⟨h1, h2, h3, h4⟩ := h
  refine ⟨g1, World.ownsRow.kept h2 g3 h4, h3.trans g2, ?_⟩
  cases e : v.ownBlock with
  | none => exact .inl rfl
  | some b =>
    refine .inr fun e2 => ?_
    rcases g4 b e2.symm with h' | h'
    · rcases h4 with h5 | h5
      · rw [h5] at e; cases e
      · exact h5 (e.trans h'.symm)
    · have := (h2.lt b e).2; omega
theorem Rows2.bytes {w wi wj : World} {o v v' : Value} {k : Nat} {l m : List UInt8} (h : Rows2 w wi o k v l) (g : Grew wi wj w.heap.size v v' m) : Rows2 w wj o k v' m := by
  obtain ⟨h1, h2, h3, h4⟩ := h
  obtain ⟨g1, g2, g3, g4⟩ := g
  refine ⟨World.ownsRow.kept h1 g3 ?_, g1, h3.trans g2, ?_⟩
  · rcases h4 with h5 | h5
    · rcases ho : o.ownBlock with _ | b
      · exact .inl rfl
      · rw [h5]; exact .inr (by simp)
    · exact .inr fun e => h5 e.symm
  · cases e : v'.ownBlock with
    | none => exact .inl rfl
    | some b =>
      refine .inr fun e2 => ?_
      rcases g4 b e with h' | h'
      · rcases h4 with h5 | h5
        · rw [h5] at h'; cases h'
        · exact h5 (h'.trans e2)
      · have := (h1.lt b e2.symm).2; omega
theorem Rows2.fn {w wi : World} {o v : Value} {k : Nat} {l : List UInt8} (h : Rows2 w wi o k v l) : FlatN wi w.heap.size o k := h.1
theorem Rows2.ob {w wi : World} {o v : Value} {k : Nat} {l : List UInt8} (h : Rows2 w wi o k v l) : OwnB wi w.heap.size v l := h.2.1
theorem Rows2.bel {w wi : World} {o v : Value} {k : Nat} {l : List UInt8} (h : Rows2 w wi o k v l) : Below w.heap.size w wi := h.2.2.1
end Go.Proofs.Ytljalnfjneeieaa
