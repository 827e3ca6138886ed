/- Slices of bytes: which bytes a slice value reads as. No program is named here. -/
import Derived.Test.YtnogcnmoeekcpaaDoorQMem
import Derived.Laws.CopyOwn
import Derived.Deep.MidRow
namespace Go.Proofs.YtnogcnmoeekcpaaDoor
open Go.RowKit

/-- Byte j of a list, 0 behind its end; closed to the walk's rules. -/
def gb (l : List UInt8) (j : Nat) : UInt8 := l.getD j 0
/-- The slice value v reads as the bytes l, and lies in a block of which S holds. -/
def BsS (w : World) (S : Nat → Prop) (v : Value) (l : List UInt8) : Prop :=
  ∃ a c, v = .slice a l.length c ∧ l.length ≤ c ∧ c ≤ 9223372036854775807 ∧ l.length ≤ 140737488355328 ∧
    (0 < l.length → ∃ b off, a = some ⟨b, off, none⟩ ∧ S b ∧ ∀ j, j < l.length → w.cell? ⟨b, off + j, none⟩ = some (U8 (gb l j)))
/-- .. and lies below block B. -/
abbrev Bs (w : World) (B : Nat) (v : Value) (l : List UInt8) : Prop := BsS w (· < B) v l

theorem BsS.form {w : World} {S : Nat → Prop} {v : Value} {l : List UInt8} (h : BsS w S v l) : ∃ A n c, v = .slice A n c := by
  obtain ⟨a, c, hv, _⟩ := h; exact ⟨a, _, c, hv⟩
theorem BsS.keep {w w' : World} {S S' : Nat → Prop} {v : Value} {l : List UInt8} (h : BsS w S v l) (hk : ∀ b, S b → b < w.heap.size → w'.heap[b]? = w.heap[b]? ∧ S' b) : BsS w' S' v l := by
  obtain ⟨a, c, hv, h1, h2, h3, h4⟩ := h
  refine ⟨a, c, hv, h1, h2, h3, fun hn => ?_⟩
  obtain ⟨b, off, ha, hb, hc⟩ := h4 hn
  have hlt := block_lt_of_cell (hc 0 hn)
  exact ⟨b, off, ha, (hk b hb hlt).2, fun j hj => (World.cell?_of_block (w := w) (hk b hb hlt).1).trans (hc j hj)⟩
theorem Bs.form {w : World} {B : Nat} {v : Value} {l : List UInt8} (h : Bs w B v l) : ∃ A n c, v = .slice A n c := BsS.form h
theorem Bs.below {w w' : World} {B : Nat} {v : Value} {l : List UInt8} (h : Bs w B v l) (hb : Below B w w') : Bs w' B v l := BsS.keep h fun b hb' _ => ⟨hb.block b hb', hb'⟩
theorem Bs.mono {w : World} {B B' : Nat} {v : Value} {l : List UInt8} (h : Bs w B v l) (hB : B ≤ B') : Bs w B' v l := BsS.keep h fun _ hb _ => ⟨rfl, Nat.lt_of_lt_of_le hb hB⟩
theorem BsS.below {w w' : World} {S : Nat → Prop} {v : Value} {l : List UInt8} (h : BsS w S v l) (hb : Below w.heap.size w w') : BsS w' S v l := h.keep fun b hs hlt => ⟨hb.block b hlt, hs⟩
/-- The blocks that are new from w to w'. -/
abbrev New (w w' : World) (b : Nat) : Prop := w.heap.size ≤ b ∧ b < w'.heap.size
theorem BsS.bs {w w0 : World} {v : Value} {l : List UInt8} (h : BsS w (New w0 w) v l) : Bs w w.heap.size v l := h.keep fun _ hs _ => ⟨rfl, hs.2⟩
theorem Bs.drewN {w : World} {B : Nat} {v : Value} {l : List UInt8} (h : Bs w B v l) (n : Nat) : Bs (w.drewN n) B v l := h
theorem BsS.len {w : World} {S : Nat → Prop} {v : Value} {l : List UInt8} (h : BsS w S v l) : l.length ≤ 140737488355328 := by
  obtain ⟨a, c, hv, h1, h2, h3, h4⟩ := h; exact h3
theorem Bs.nil (w : World) (B : Nat) : Bs w B (.slice none 0 0) [] := ⟨none, 0, rfl, by simp, by simp, by simp, by simp⟩
theorem mapU8_get (l : List UInt8) (j : Nat) (hj : j < l.length) : (l.map U8)[j]? = some (U8 (gb l j)) := by
  simp [gb, hj]
theorem BsS.of_own {w : World} {base : Nat} {e : TypeId} {v : Value} {n : Nat} {l : List UInt8} (h : w.ownsRow base e 1 v n (l.map U8)) (hl : l.length ≤ 140737488355328) : BsS w (fun b => base ≤ b ∧ b < w.heap.size) v l := by
  have hn : n = l.length := by have := h.1; simpa using this.symm
  subst hn
  rcases h.2 with ⟨rfl, h0⟩ | ⟨g, cap, cur, hv, hg, hh, hlen, hcap, hrest⟩
  · have hl0 : l = [] := by simpa using h0
    subst hl0; exact ⟨none, 0, rfl, by simp, by simp, by simp, by simp⟩
  · have hlt : g < w.heap.size := (Array.getElem?_eq_some_iff.1 hh).1
    refine ⟨some ⟨g, 0, none⟩, cap, hv, by omega, by unfold maxLen at hcap; omega, hl, fun hpos => ⟨g, 0, rfl, ⟨hg, hlt⟩, fun j hj => ?_⟩⟩
    have := h.cells (g := g) (by rw [hv]; rfl) j (U8 (gb l j)) (mapU8_get l j hj)
    have e : (⟨g, 0, none⟩ : Addr).add j = ⟨g, 0 + j, none⟩ := by unfold Addr.add; split <;> simp_all
    rwa [e] at this
theorem Bs.of_own {w : World} {base : Nat} {e : TypeId} {v : Value} {n : Nat} {l : List UInt8} (h : w.ownsRow base e 1 v n (l.map U8)) (hl : l.length ≤ 140737488355328) : Bs w w.heap.size v l :=
  (BsS.of_own h hl).keep fun _ hs _ => ⟨rfl, hs.2⟩
theorem splice_bArr (n m off : Nat) (f g : Nat → UInt8) (h : off + m ≤ n) :
    (splice (bArr n f).toList off ((List.range m).map fun j => U8 (g j))).toArray = bArr n (fun j => if off ≤ j ∧ j < off + m then g (j - off) else f j) := by
  apply Array.ext_getElem?
  intro i
  have hlen : (List.take off (List.map (fun i => U8 (f i)) (List.range n))).length = off := by simp; omega
  simp only [splice, bArr, List.getElem?_toArray, List.length_map, List.length_range]
  by_cases h1 : i < off
  · rw [List.getElem?_append_left (by omega)]
    simp only [List.getElem?_take, if_pos h1, List.getElem?_map, List.getElem?_range (show i < n by omega), Option.map_some]
    rw [if_neg (by omega)]
  · rw [List.getElem?_append_right (by omega), hlen]
    by_cases h2 : i < off + m
    · rw [List.getElem?_append_left (by simp; omega)]
      simp only [List.getElem?_map, List.getElem?_range (show i < n by omega), List.getElem?_range (show i - off < m by omega), Option.map_some]
      rw [if_pos (by omega)]
    · rw [List.getElem?_append_right (by simp; omega)]
      simp only [List.length_map, List.length_range, List.getElem?_drop, List.getElem?_map]
      rw [show off + m + (i - off - m) = i by omega]
      by_cases h3 : i < n
      · simp only [List.getElem?_range h3, Option.map_some]
        rw [if_neg (by omega)]
      · rw [List.getElem?_eq_none (by simp; omega)]; rfl

/-- An array of n bytes is loaded whole, from wherever it lies. -/
theorem wpList_load_arr {P : Program} {ops : Array Oper} {rest : List Oper} {op : Oper} {a : Act} {w : World} {Q : Exit → Act → World → Prop} (hgd : op.guard = none) (ty : TypeId) (x : Operand) (ho : op.op = .load ty x)
    (b o n : Nat) (f : Nat → UInt8) (hx : a.eval x = .pointer (some ⟨b, o, none⟩)) (d : TypeDesc) (hc : ArrB w b o n f)
    (hu : P.underlying ty = some d) (hd : d.isRow = true) (hi : (P.info? ty).map (·.size) = some n)
    (h : wpList P ops Q rest (a.put op.dst (.agg (bArr n f))) w) : wpList P ops Q (op :: rest) a w :=
  wpList_load_mid hgd ty x ho b o hx ((List.range n).map fun i => U8 (f i)) d (fun j v hv => by
    have hj : j < n := by
      rcases Nat.lt_or_ge j n with h' | h'
      · exact h'
      · rw [List.getElem?_eq_none (by simp; omega)] at hv; cases hv
    rw [hc j hj, ← hv]
    simp [hj]) hu hd (by simpa using hi) h
/-- A whole array of bytes is stored over a block that is one array of bytes. -/
theorem wpList_store_arr {P : Program} {ops : Array Oper} {rest : List Oper} {o : Oper} {a : Act} {w : World} {Q : Exit → Act → World → Prop} (hgd : o.guard = none) (ty : TypeId) (x y : Operand) (ho : o.op = .store ty x y)
    (g n : Nat) (f : Nat → UInt8) (hx : a.eval x = .pointer (some ⟨g, 0, none⟩)) (hy : a.eval y = .agg (bArr n f))
    (t : TypeId) (f0 : Nat → UInt8) (hg : w.rowIs g t n (fun j => U8 (f0 j))) (hi : (P.info? ty).map (·.size) = some n)
    (h : ∀ w', w'.rowIs g t n (fun j => U8 (f j)) → w.grownBy w' (some g) → wpList P ops Q rest (a.put o.dst undef) w') : wpList P ops Q (o :: rest) a w := by
  refine wpList_store_row hgd ty x y ho g (bArr n f) hx hy t (bArr n f0) (row_bArr hg) (by rw [bArr_size]; exact hi) (by rw [bArr_size, bArr_size]) (bArr_one n f) (h _ ?_ ?_)
  · exact ⟨_, setRow_heap _ _ _ _ _ _ (row_bArr hg), bArr_size n f, fun i hi => bArr_at n f i hi⟩
  · exact ⟨rfl, rfl, rfl, by simp [World.setRow], fun i hi hne => setRow_other _ _ _ _ (by rintro rfl; exact hne rfl)⟩
theorem ArrB.of_bs {w : World} {b off : Nat} {l : List UInt8} (h : ∀ j, j < l.length → w.cell? ⟨b, off + j, none⟩ = some (U8 (gb l j))) : ArrB w b off l.length (fun j => gb l j) := h
/-- The first n values of f as a list. -/
def bList (n : Nat) (f : Nat → UInt8) : List UInt8 := (List.range n).map f
theorem bList_len (n : Nat) (f : Nat → UInt8) : (bList n f).length = n := by simp [bList]
theorem bList_getD (n : Nat) (f : Nat → UInt8) (j : Nat) (h : j < n) : gb (bList n f) j = f j := by simp [gb, bList, h]
theorem bList_of (l : List UInt8) (n : Nat) (h : l.length = n) : bList n (fun j => gb l j) = l := by
  subst h
  apply List.ext_getElem
  · simp [bList]
  · intro i h1 h2
    have h3 : i < l.length := by simpa [bList] using h1
    simp [gb, bList, h3]
/-- A slice over a whole block of bytes. -/
theorem BsS.of_row {w : World} {g n : Nat} {t : TypeId} {f : Nat → UInt8} {S : Nat → Prop} (h : w.rowIs g t n (fun j => U8 (f j))) (hn : n ≤ 140737488355328) (hS : S g) : BsS w S (.slice (some ⟨g, 0, none⟩) n n) (bList n f) :=
  ⟨some ⟨g, 0, none⟩, n, by rw [bList_len], by rw [bList_len]; exact Nat.le_refl _, by omega, by rw [bList_len]; exact hn, fun _ => ⟨g, 0, rfl, hS, fun j hj => by
    rw [bList_len] at hj
    rw [bList_getD _ _ _ hj, Nat.zero_add]
    exact h.cell hj⟩⟩
theorem Bs.of_row {w : World} {g n : Nat} {t : TypeId} {f : Nat → UInt8} (h : w.rowIs g t n (fun j => U8 (f j))) (hn : n ≤ 140737488355328) : Bs w w.heap.size (.slice (some ⟨g, 0, none⟩) n n) (bList n f) :=
  ⟨some ⟨g, 0, none⟩, n, by rw [bList_len], by rw [bList_len]; exact Nat.le_refl _, by omega, by rw [bList_len]; exact hn, fun _ => ⟨g, 0, rfl, h.lt, fun j hj => by
    rw [bList_len] at hj
    rw [bList_getD _ _ _ hj, Nat.zero_add]
    exact h.cell hj⟩⟩
theorem wpList_build_eq {P : Program} {ops : Array Oper} {rest : List Oper} {o : Oper} {a : Act} {w : World} {Q : Exit → Act → World → Prop} (hg : o.guard = none) (t : TypeId) (parts : Array (Nat × Operand)) (ho : o.op = .build t parts)
    (l : List (Nat × Value)) (hl : (parts.map fun (i, x) => (i, a.eval x)).toList = l) (cs : Array Value) (hb : P.built t l = some cs)
    (h : wpList P ops Q rest (a.put o.dst (.agg cs)) w) : wpList P ops Q (o :: rest) a w := by
  subst hl
  exact wpList_build hg t parts ho (by rw [hb]; rfl) (by rw [hb]; exact h)
end Go.Proofs.YtnogcnmoeekcpaaDoor
