/- Words: a slice of one object in its block; a row of plain objects that grows beside a row of bytes. -/
import Derived.Test.YtdpiehhblflacaaDoorQTlv7
import Derived.Test.YtdpiehhblflacaaDoorQTlvF
import Derived.Test.YtdpiehhblflacaaDoorLimP
import Derived.Test.YtdpiehhblflacaaDoorNodes
import Derived.Deep.RegionLaw
namespace Go.Proofs.YtdpiehhblflacaaDoor
open Go.RowKit Go.Deep

/-- A slice of one object, in a block of its own. -/
theorem NsS.one {w : World} {S : Nat → Prop} {g : Nat} {t : Int} {x y : Value} {v : List UInt8} {k : Ns} {ty : TypeId} (h : w.heap[g]? = some (.cells #[.int .i64 t, x, y] ty (0, 0))) (hs : S g) (hi : I64in t) (hv : BsS w S x v) (hk : NsS w S y k) :
    NsS w S (.slice (some ⟨g, 0, none⟩) 1 1) (.cons t v k .nil) := by
  obtain ⟨c0, c1, c2, _⟩ := three h
  obtain ⟨a, c, rfl, h1, h2, h3, h4⟩ := hk
  exact ⟨_, 1, rfl, Nat.le_refl _, by simp [maxLen], by simp [Ns.len], fun _ => ⟨g, 0, rfl, hs, (Array.getElem?_eq_some_iff.1 h).1, c0, hi, ⟨x, c1, hv⟩, ⟨a, c, c2, h1, h2, h3, h4⟩, trivial⟩⟩
theorem three_set0 {w : World} {p : Nat} {a b c u : Value} {t : TypeId} (h : w.heap[p]? = some (.cells #[a, b, c] t (0, 0))) : (w.setCell ⟨p, 0, none⟩ u).heap[p]? = some (.cells #[u, b, c] t (0, 0)) := by
  have hlt := lt_of_block h
  have h' : w.heap[p] = .cells #[a, b, c] t (0, 0) := by simpa [Array.getElem?_eq_getElem hlt] using h
  show (w.heap.modify p _)[p]? = _
  rw [Array.getElem?_modify, if_pos rfl, h]
  rfl
theorem three_set1 {w : World} {p : Nat} {a b c u : Value} {t : TypeId} (h : w.heap[p]? = some (.cells #[a, b, c] t (0, 0))) : (w.setCell ⟨p, 1, none⟩ u).heap[p]? = some (.cells #[a, u, c] t (0, 0)) := by
  show (w.heap.modify p _)[p]? = _
  rw [Array.getElem?_modify, if_pos rfl, h]
  rfl
theorem three_set2 {w : World} {p : Nat} {a b c u : Value} {t : TypeId} (h : w.heap[p]? = some (.cells #[a, b, c] t (0, 0))) : (w.setCell ⟨p, 2, none⟩ u).heap[p]? = some (.cells #[a, b, u] t (0, 0)) := by
  show (w.heap.modify p _)[p]? = _
  rw [Array.getElem?_modify, if_pos rfl, h]
  rfl
/-- The values of k objects 4 with nothing in them. -/
def flatX : Nat → List Value
  | 0 => []
  | k + 1 => flatX k ++ [.int .i64 4, .slice none 0 0, .slice none 0 0]
abbrev FlatN (w : World) (base : Nat) (o : Value) (k : Nat) : Prop := w.ownsRow base 53 3 o k (flatX k)
theorem flatX_each (w : World) (S : Nat → Prop) (k : Nat) : EachN w S (flat k) (flatX k) := by
  induction k with
  | zero => rfl
  | succ k ih => exact EachN.snoc _ _ ih ⟨by decide, by decide⟩ (BsS.nil0 _ _) (NsS.nil0 _ _)
theorem FlatN.own {w : World} {base : Nat} {o : Value} {k : Nat} (h : FlatN w base o k) : OwnN w base o (flat k) := ⟨flatX k, by rw [flat_len]; exact h, flatX_each _ _ _⟩
theorem FlatN.form {w : World} {base : Nat} {o : Value} {k : Nat} (h : FlatN w base o k) : ∃ A c, o = .slice A k c := by
  obtain ⟨A, c, e⟩ := h.own.form
  rw [flat_len] at e
  exact ⟨A, c, e⟩
/-- append of one such object, in the block that was made for it. -/
theorem wpList_flat {ops : Array Oper} {rest : List Oper} {op : Oper} {a : Act} {w : World} {Q : Exit → Act → World → Prop} (hgd : op.guard = none) (s x : Operand)
    (ho : op.op = .call { callee := .builtin .append, args := #[s, x], argTypes := #[51, 51] })
    (base : Nat) (o : Value) (k : Nat) (hs : a.eval s = o) (hown : FlatN w base o k) (ty : TypeId) (g : Nat) (hx : a.eval x = .slice (some ⟨g, 0, none⟩) 1 1) (hg : g = w.heap.size) (hb : k ≤ 1000000000000) (hbase : base ≤ w.heap.size)
    (h : ∀ o' w', FlatN w' base o' (k + 1) → Below base w w' → w.grownBy w' o.ownBlock → (∀ b, o'.ownBlock = some b → o.ownBlock = some b ∨ w.heap.size ≤ b) → wpList Tryd.prog ops Q rest (a.put op.dst o') w') :
    wpList Tryd.prog ops Q (op :: rest) a (w.alloc (.cells #[.int .i64 4, .slice none 0 0, .slice none 0 0] ty)) := by
  subst hg
  have h1 := hown
  obtain ⟨i, hinfo, hzz⟩ := Option.map_eq_some_iff.1 infoNode
  simp only [Prod.mk.injEq] at hzz
  obtain ⟨hz, hsize, hbb⟩ := hzz
  refine wpList_append_own_at (w := w.alloc (.cells #[.int .i64 4, .slice none 0 0, .slice none 0 0] ty)) hgd s x 51 ho base 53 i _ 3 56 Tryd.underlying51 hinfo hz hsize hbb rfl (by omega) o k (flatX k) hs (World.ownsRow.alloc h1 _) ⟨w.heap.size, 0, none⟩ 1 1 [.int .i64 4, .slice none 0 0, .slice none 0 0] hx rfl
    (fun j u hu => ?_) (by simp [Value.oneCell']) (by unfold maxLen; omega) (by omega) (by simp; omega) fun o' w' g1 g2 _ g3 => h o' w' g1 ?_ ?_ ?_
  · have e : (⟨w.heap.size, 0, none⟩ : Addr).add j = ⟨w.heap.size, 0 + j, none⟩ := by unfold Addr.add; split <;> simp_all
    rw [e, Nat.zero_add, cell_of_row _ _ _ _ _ _ (heap_alloc_new _ _)]
    simpa using hu
  · refine ((Below.refl _ _).alloc hbase _).trans ⟨g2.os, g2.tape, g2.output, g2.size, fun b hb' => g2.block b (by simp; omega) fun e => ?_⟩
    have := (h1.lt b e.symm).1
    omega
  · exact ⟨g2.os, g2.tape, g2.output, Nat.le_trans (by simp) g2.size, fun b hb' hne => (g2.block b (by simp; omega) hne).trans (Below.heap_alloc w _ b hb')⟩
  · exact fun b e => g3.elim (fun h' => .inl (h' ▸ e)) fun h' => .inr (by rw [h'] at e; injection e with e; simp at e; omega)
/-- The two rows that grow side by side. -/
def Rows2 (w wi : World) (o : Value) (k : Nat) (v : Value) (l : List UInt8) : Prop :=
  FlatN wi w.heap.size o k ∧ OwnB wi w.heap.size v l ∧ Below w.heap.size w wi ∧ (v.ownBlock = none ∨ v.ownBlock ≠ o.ownBlock)
theorem Rows2.start (w : World) : Rows2 w w (.slice none 0 0) 0 (.slice none 0 0) [] := ⟨World.ownsRow_nil _ _ _ _, OwnB.nil _ _, Below.refl _ _, .inl rfl⟩
theorem Rows2.alloc {w wi : World} {o v : Value} {k : Nat} {l : List UInt8} (h : Rows2 w wi o k v l) (x : Obj) : Rows2 w (wi.alloc x) o k v l := ⟨World.ownsRow.alloc h.1 _, h.2.1.alloc x, h.2.2.1.alloc h.2.2.1.size x, h.2.2.2⟩
theorem Rows2.node {w wi wj : World} {o o' v : Value} {k : Nat} {l : List UInt8} (h : Rows2 w wi o k v l) (g1 : FlatN wj w.heap.size o' (k + 1)) (g2 : Below w.heap.size wi wj) (g3 : wi.grownBy wj o.ownBlock) (g4 : ∀ b, o'.ownBlock = some b → o.ownBlock = some b ∨ wi.heap.size ≤ b) :
    Rows2 w wj o' (k + 1) v l := by
  obtain ⟨h1, h2, h3, h4⟩ := h
  refine ⟨g1, World.ownsRow.kept h2 g3 h4, h3.trans g2, ?_⟩
  cases e : v.ownBlock with
  | none => exact .inl rfl
  | some b =>
    refine .inr fun e2 => ?_
    rcases g4 b e2.symm with h' | h'
    · rcases h4 with h5 | h5
      · rw [h5] at e; cases e
      · exact h5 (e.trans h'.symm)
    · have := (h2.lt b e).2; omega
theorem Rows2.bytes {w wi wj : World} {o v v' : Value} {k : Nat} {l m : List UInt8} (h : Rows2 w wi o k v l) (g : Grew wi wj w.heap.size v v' m) : Rows2 w wj o k v' m := by
  obtain ⟨h1, h2, h3, h4⟩ := h
  obtain ⟨g1, g2, g3, g4⟩ := g
  refine ⟨World.ownsRow.kept h1 g3 ?_, g1, h3.trans g2, ?_⟩
  · rcases h4 with h5 | h5
    · rcases ho : o.ownBlock with _ | b
      · exact .inl rfl
      · rw [h5]; exact .inr (by simp)
    · exact .inr fun e => h5 e.symm
  · cases e : v'.ownBlock with
    | none => exact .inl rfl
    | some b =>
      refine .inr fun e2 => ?_
      rcases g4 b e with h' | h'
      · rcases h4 with h5 | h5
        · rw [h5] at h'; cases h'
        · exact h5 (h'.trans e2)
      · have := (h1.lt b e2.symm).2; omega
theorem Rows2.fn {w wi : World} {o v : Value} {k : Nat} {l : List UInt8} (h : Rows2 w wi o k v l) : FlatN wi w.heap.size o k := h.1
theorem Rows2.ob {w wi : World} {o v : Value} {k : Nat} {l : List UInt8} (h : Rows2 w wi o k v l) : OwnB wi w.heap.size v l := h.2.1
theorem Rows2.bel {w wi : World} {o v : Value} {k : Nat} {l : List UInt8} (h : Rows2 w wi o k v l) : Below w.heap.size w wi := h.2.2.1
end Go.Proofs.YtdpiehhblflacaaDoor
/- Rows of objects of the call's own whose bytes lie outside of some blocks; append of any number of objects. -/
namespace Go.Proofs.YtdpiehhblflacaaDoor
open Go.RowKit

/-- The blocks of a world from base on, but the one that a row of its own lies in, and but those of X. -/
def OffX (base : Nat) (X : Nat → Prop) (w : World) (v : Value) (b : Nat) : Prop := OffN base w v b ∧ ¬ X b
def OwnX (w : World) (base : Nat) (X : Nat → Prop) (o : Value) (L : Ns) : Prop := ∃ xs, w.ownsRow base 53 3 o L.len xs ∧ EachN w (OffX base X w o) L xs
theorem OwnX.nil (w : World) (base : Nat) (X : Nat → Prop) : OwnX w base X (.slice none 0 0) .nil := ⟨[], World.ownsRow_nil _ _ _ _, rfl⟩
theorem OwnX.own {w : World} {base : Nat} {X : Nat → Prop} {o : Value} {L : Ns} (h : OwnX w base X o L) : OwnN w base o L := by
  obtain ⟨xs, h1, h2⟩ := h
  exact ⟨xs, h1, h2.keep (fun b hs _ => ⟨rfl, hs.1⟩) L xs⟩
theorem OwnX.form {w : World} {base : Nat} {X : Nat → Prop} {o : Value} {L : Ns} (h : OwnX w base X o L) : ∃ A c, o = .slice A L.len c := h.own.form
theorem OwnX.nss {w : World} {base : Nat} {X : Nat → Prop} {o : Value} {L : Ns} (h : OwnX w base X o L) (hl : L.len ≤ 2513169434843) : NsS w (fun b => base ≤ b ∧ b < w.heap.size) o L := h.own.nss hl
/-- Blocks that are kept: all of those below the world's size but such of X. -/
theorem OwnX.kept {w w' : World} {base : Nat} {X : Nat → Prop} {o : Value} {L : Ns} (h : OwnX w base X o L) (hz : w.heap.size ≤ w'.heap.size) (hk : ∀ b, b < w.heap.size → base ≤ b → ¬ X b → w'.heap[b]? = w.heap[b]?) (ho : ∀ b, o.ownBlock = some b → ¬ X b) : OwnX w' base X o L := by
  obtain ⟨xs, h1, h2⟩ := h
  refine ⟨xs, ⟨h1.1, ?_⟩, h2.keep (fun b hs hl => ⟨hk b hl hs.1.2.2 hs.2, ⟨Nat.lt_of_lt_of_le hl hz, hs.1.2⟩, hs.2⟩) L xs⟩
  rcases h1.2 with h0 | ⟨g, cap, cur, hv, hb, hh, r⟩
  · exact .inl h0
  · exact .inr ⟨g, cap, cur, hv, hb, (hk g (Array.getElem?_eq_some_iff.1 hh).1 hb (ho g (by rw [hv]; rfl))).trans hh, r⟩
theorem OwnX.below {w w' : World} {base : Nat} {X : Nat → Prop} {o : Value} {L : Ns} (h : OwnX w base X o L) (hb : Below w.heap.size w w') : OwnX w' base X o L := by
  obtain ⟨xs, h1, h2⟩ := h
  refine ⟨xs, ⟨h1.1, ?_⟩, h2.keep (fun b hs hl => ⟨hb.block b hl, ⟨Nat.lt_of_lt_of_le hl hb.size, hs.1.2⟩, hs.2⟩) L xs⟩
  rcases h1.2 with h0 | ⟨g, cap, cur, hv, hb', hh, r⟩
  · exact .inl h0
  · exact .inr ⟨g, cap, cur, hv, hb', (hb.block g (Array.getElem?_eq_some_iff.1 hh).1).trans hh, r⟩
theorem EachN.one' {w : World} {S : Nat → Prop} : ∀ (L : Ns) (xs : List Value), EachN w S L xs → xs.length = L.len * 3 ∧ ∀ u ∈ xs, u.oneCell' = true := by
  intro L
  induction L with
  | nil => intro xs h; have h : xs = [] := h; subst h; exact ⟨rfl, by simp⟩
  | cons t v k r _ ih =>
    intro xs ⟨x, y, xs', e, hi, hv, hn, hr⟩
    obtain ⟨h1, h2⟩ := ih xs' hr
    obtain ⟨a, c, rfl, _⟩ := hv
    obtain ⟨a', c', rfl, _⟩ := hn
    subst e
    refine ⟨by simp [Ns.len, h1]; omega, fun u hu => ?_⟩
    simp only [List.mem_cons] at hu
    rcases hu with rfl | rfl | rfl | hu
    · rfl
    · rfl
    · rfl
    · exact h2 u hu
theorem EachN.app {w : World} {S : Nat → Prop} : ∀ (L : Ns) (xs : List Value), EachN w S L xs → ∀ {M : Ns} {ys : List Value}, EachN w S M ys → EachN w S (L.app M) (xs ++ ys) := by
  intro L
  induction L with
  | nil => intro xs h M ys hm; have h : xs = [] := h; subst h; exact hm
  | cons t v k r _ ih =>
    intro xs ⟨x, y, xs', e, hi, hv, hn, hr⟩ M ys hm
    subst e
    exact ⟨x, y, _, rfl, hi, hv, hn, ih xs' hr hm⟩
theorem BsS.off {w : World} {S : Nat → Prop} {v : Value} {l : List UInt8} {z : Nat} {C : Array Value} {t : TypeId} {f : Nat × Nat} (h : BsS w S v l) (hz : w.heap[z]? = some (.cells C t f)) (hC : ∀ (i : Nat) (x : UInt8), C[i]? ≠ some (U8 x)) : BsS w (fun b => S b ∧ b ≠ z) v l := by
  obtain ⟨a, c, e, h1, h2, h3, h4⟩ := h
  refine ⟨a, c, e, h1, h2, h3, fun h0 => ?_⟩
  obtain ⟨b, off, ea, hb, hc⟩ := h4 h0
  refine ⟨b, off, ea, ⟨hb, fun e => ?_⟩, hc⟩
  subst e
  have := hc 0 h0
  rw [cell_of_row _ _ _ _ _ _ hz] at this
  exact hC _ _ this
def GrewX (w w' : World) (base : Nat) (X : Nat → Prop) (o o' : Value) (L : Ns) : Prop := OwnX w' base X o' L ∧ Below base w w' ∧ w.grownBy w' o.ownBlock ∧ (o'.ownBlock = o.ownBlock ∨ o'.ownBlock = some w.heap.size)
theorem run_nodes (w : World) (base : Nat) (X : Nat → Prop) (o : Value) (L M : Ns) (ty : TypeId) (g : Nat) (ys : List Value) (C : Array Value) (tc : TypeId) (f : Nat × Nat) (hown : OwnX w base X o L) (hg : w.heap[g]? = some (.cells C tc f)) (hC : C.toList = ys)
    (hM : EachN w (OffX base X w o) M ys) (hl : L.len + M.len ≤ 1000000000000) (hbase : base ≤ w.heap.size) (_ : ¬ X w.heap.size) :
    ∃ o' w', (Builtin.append_ #[51, 51] ty #[o, .slice (some ⟨g, 0, none⟩) M.len M.len]).run Tryd.prog w = .ok o' w' ∧ GrewX w w' base X o o' (L.app M) := by
  obtain ⟨xs, h1, h2⟩ := hown
  obtain ⟨i, hinfo, hzz⟩ := Option.map_eq_some_iff.1 infoNode
  simp only [Prod.mk.injEq] at hzz
  obtain ⟨hz, hsize, hbb⟩ := hzz
  obtain ⟨hy1, hy2⟩ := EachN.one' M ys hM
  subst hC
  obtain ⟨o', w', hr, g1, g2, _, g3⟩ := run_append_own_at (P := Tryd.prog) w base 51 ty 53 i _ 3 56 Tryd.underlying51 hinfo hz hsize hbb rfl (by omega) o L.len xs h1 ⟨g, 0, none⟩ M.len M.len C.toList hy1 (fun j u hu => by
    have e : (⟨g, 0, none⟩ : Addr).add j = ⟨g, j, none⟩ := by unfold Addr.add; split <;> simp_all
    rw [e]
    simp [World.cell?, hg]
    simpa using hu) hy2 (by unfold maxLen; omega) (by omega) hbase
  have hkeep : ∀ b, OffX base X w o b → b < w.heap.size → w'.heap[b]? = w.heap[b]? ∧ OffX base X w' o' b := fun b hs hl' =>
    ⟨g2.block b hl' (fun e => hs.1.2.1 e.symm), ⟨Nat.lt_of_lt_of_le hl' g2.size, fun e => g3.elim (fun h' => hs.1.2.1 (h' ▸ e)) fun h' => by rw [h'] at e; injection e with e; omega, hs.1.2.2⟩, hs.2⟩
  refine ⟨o', w', hr, ⟨xs ++ C.toList, by rw [Ns.len_app]; exact g1, ?_⟩, ⟨g2.os, g2.tape, g2.output, g2.size, fun b hb' => g2.block b (by omega) fun e => ?_⟩, g2, g3⟩
  · exact EachN.app L xs (h2.keep hkeep L xs) (hM.keep hkeep M C.toList)
  · have := (h1.lt b e.symm).1
    omega
theorem wp_nodes {op : Oper} {a : Act} {w : World} {K : Act → World → Prop} {Q : Exit → Act → World → Prop} (s x : Operand)
    (ho : op.op = .call { callee := .builtin .append, args := #[s, x], argTypes := #[51, 51] })
    (base : Nat) (X : Nat → Prop) (o : Value) (L M : Ns) (hs : a.eval s = o) (hown : OwnX w base X o L) (g m : Nat) (ys : List Value) (C : Array Value) (tc : TypeId) (f : Nat × Nat) (hx : a.eval x = .slice (some ⟨g, 0, none⟩) m m) (hm : m = M.len)
    (hg : w.heap[g]? = some (.cells C tc f)) (hC : C.toList = ys) (hM : EachN w (OffX base X w o) M ys) (hl : L.len + M.len ≤ 1000000000000) (hbase : base ≤ w.heap.size) (hX : ¬ X w.heap.size)
    (h : ∀ o' w', GrewX w w' base X o o' (L.app M) → K (a.put op.dst o') w') : op.wp Tryd.prog a w K Q := by
  subst hm
  obtain ⟨o', w', hr, hG⟩ := run_nodes w base X o L M op.type g ys C tc f hown hg hC hM hl hbase hX
  unfold Oper.wp execOp
  simp only [ho, resolve, invoke, builtin, Sem.run_bind, Sem.run_pure, Result.andThen_ok, List.map_toArray, List.map_cons, List.map_nil, hs, hx, hr]
  exact h o' w' hG
theorem wpList_nodes {ops : Array Oper} {rest : List Oper} {op : Oper} {a : Act} {w : World} {Q : Exit → Act → World → Prop} (hgd : op.guard = none) (s x : Operand)
    (ho : op.op = .call { callee := .builtin .append, args := #[s, x], argTypes := #[51, 51] })
    (base : Nat) (X : Nat → Prop) (o : Value) (L M : Ns) (hs : a.eval s = o) (hown : OwnX w base X o L) (g m : Nat) (ys : List Value) (C : Array Value) (tc : TypeId) (f : Nat × Nat) (hx : a.eval x = .slice (some ⟨g, 0, none⟩) m m) (hm : m = M.len)
    (hg : w.heap[g]? = some (.cells C tc f)) (hC : C.toList = ys) (hM : EachN w (OffX base X w o) M ys) (hl : L.len + M.len ≤ 1000000000000) (hbase : base ≤ w.heap.size) (hX : ¬ X w.heap.size)
    (h : ∀ o' w', GrewX w w' base X o o' (L.app M) → wpList Tryd.prog ops Q rest (a.put op.dst o') w') : wpList Tryd.prog ops Q (op :: rest) a w :=
  wpList_plain hgd fun _ hK => wp_nodes s x ho base X o L M hs hown g m ys C tc f hx hm hg hC hM hl hbase hX fun o' w' hG => hK _ _ (h o' w' hG)
theorem step_nodes {ops : Array Oper} {op : Oper} {a : Act} {w : World} {K : Act → World → Prop} {Q : Exit → Act → World → Prop} {E : Prop} (hgd : op.guard = none) (s x : Operand)
    (ho : op.op = .call { callee := .builtin .append, args := #[s, x], argTypes := #[51, 51] })
    (base : Nat) (X : Nat → Prop) (o : Value) (L M : Ns) (hs : a.eval s = o) (hown : OwnX w base X o L) (g m : Nat) (ys : List Value) (C : Array Value) (tc : TypeId) (f : Nat × Nat) (hx : a.eval x = .slice (some ⟨g, 0, none⟩) m m) (hm : m = M.len)
    (hg : w.heap[g]? = some (.cells C tc f)) (hC : C.toList = ys) (hM : EachN w (OffX base X w o) M ys) (hl : L.len + M.len ≤ 1000000000000) (hbase : base ≤ w.heap.size) (hX : ¬ X w.heap.size)
    (h : ∀ o' w', GrewX w w' base X o o' (L.app M) → K (a.put op.dst o') w') : if Region.wanted op (yielded ops a.tmps) = true then Oper.wp Tryd.prog op a w K Q else E := by
  have hw : Region.wanted op (yielded ops a.tmps) = true := by simp [Region.wanted, hgd]
  rw [if_pos hw]
  exact wp_nodes s x ho base X o L M hs hown g m ys C tc f hx hm hg hC hM hl hbase hX h
end Go.Proofs.YtdpiehhblflacaaDoor
