/- Plain law and memory words for chained blocks. -/
import Derived.Test.YtnogcnmoeekcpaaDoorModes1
import Derived.Test.YtnogcnmoeekcpaaDoorChunk
import Derived.Test.YtnogcnmoeekcpaaDoorQAes6
namespace Go.Proofs.YtnogcnmoeekcpaaDoor
open Go.RowKit

/-- Block n of bytes. -/
def blk (b : List UInt8) (n : Nat) : List UInt8 := (b.drop (16 * n)).take 16
theorem blk_len {b : List UInt8} {m n : Nat} (hb : b.length = 16 * m) (hn : n < m) : (blk b n).length = 16 := by
  unfold blk; rw [List.length_take, List.length_drop]; omega
theorem blk_get (b : List UInt8) (n j : Nat) (hj : j < 16) : gb (blk b n) j = gb b (16 * n + j) := by
  unfold gb blk
  rw [List.getD_eq_getElem?_getD, List.getD_eq_getElem?_getD, List.getElem?_take, if_pos hj, List.getElem?_drop]
/-- One block encrypted, decrypted. -/
def encL (k l : List UInt8) : List UInt8 := bList 16 (encF (gb k) (gb l))
def decL (k l : List UInt8) : List UInt8 := bList 16 (decF (gb k) (gb l))
theorem encL_len (k l : List UInt8) : (encL k l).length = 16 := bList_len _ _
theorem decL_len (k l : List UInt8) : (decL k l).length = 16 := bList_len _ _
/-- Seal and Open over the first blocks: what the next one is chained to, and what has been made. -/
def sealStep (k b : List UInt8) (s : List UInt8 × List UInt8) (x : Nat) : List UInt8 × List UInt8 := (encL k (xorL (blk b x) s.1), s.2 ++ encL k (xorL (blk b x) s.1))
def openStep (k b : List UInt8) (s : List UInt8 × List UInt8) (x : Nat) : List UInt8 × List UInt8 := (blk b x, s.2 ++ xorL (decL k (blk b x)) s.1)
def sealS (k iv b : List UInt8) (xs : List Nat) : List UInt8 × List UInt8 := xs.foldl (sealStep k b) (iv, [])
def openS (k iv b : List UInt8) (xs : List Nat) : List UInt8 × List UInt8 := xs.foldl (openStep k b) (iv, [])
theorem sealS_snoc (k iv b : List UInt8) (xs : List Nat) (x : Nat) : sealS k iv b (xs ++ [x]) = sealStep k b (sealS k iv b xs) x := by unfold sealS; rw [List.foldl_append]; rfl
theorem openS_snoc (k iv b : List UInt8) (xs : List Nat) (x : Nat) : openS k iv b (xs ++ [x]) = openStep k b (openS k iv b xs) x := by unfold openS; rw [List.foldl_append]; rfl
/-- What Seal and Open return. -/
def sealO (k iv b : List UInt8) : List UInt8 := (sealS k iv b (List.range (b.length / 16))).2
def openO (k iv b : List UInt8) : List UInt8 := (openS k iv b (List.range (b.length / 16))).2
theorem seal_from (k b : List UInt8) (xs : List Nat) : ∀ s : List UInt8 × List UInt8, s.1.length = 16 → (xs.foldl (sealStep k b) s).1.length = 16 ∧ (xs.foldl (sealStep k b) s).2.length = s.2.length + 16 * xs.length := by
  induction xs with
  | nil => intro s h; exact ⟨h, by simp⟩
  | cons x xs ih =>
    intro s h
    obtain ⟨h1, h2⟩ := ih (sealStep k b s x) (encL_len _ _)
    refine ⟨h1, ?_⟩
    have e : (sealStep k b s x).2.length = s.2.length + 16 := by show (s.2 ++ encL k _).length = _; rw [List.length_append, encL_len]
    rw [List.foldl_cons, h2, e, List.length_cons]
    omega
theorem seal_one {k iv b : List UInt8} (hiv : iv.length = 16) (xs : List Nat) : (sealS k iv b xs).1.length = 16 ∧ (sealS k iv b xs).2.length = 16 * xs.length := by
  obtain ⟨h1, h2⟩ := seal_from k b xs (iv, []) hiv
  exact ⟨h1, by show _ = _; unfold sealS; rw [h2]; simp⟩
theorem open_from (k : List UInt8) {b : List UInt8} {m : Nat} (hb : b.length = 16 * m) (xs : List Nat) : ∀ s : List UInt8 × List UInt8, s.1.length = 16 → (∀ x ∈ xs, x < m) → (xs.foldl (openStep k b) s).1.length = 16 ∧ (xs.foldl (openStep k b) s).2.length = s.2.length + 16 * xs.length := by
  induction xs with
  | nil => intro s h _; exact ⟨h, by simp⟩
  | cons x xs ih =>
    intro s h hx
    obtain ⟨h1, h2⟩ := ih (openStep k b s x) (blk_len hb (hx x (by simp))) fun y hy => hx y (by simp [hy])
    refine ⟨h1, ?_⟩
    have e : (openStep k b s x).2.length = s.2.length + 16 := by show (s.2 ++ xorL _ _).length = _; rw [List.length_append, xorL_len]
    rw [List.foldl_cons, h2, e, List.length_cons]
    omega
theorem open_one {k iv b : List UInt8} {m : Nat} (hiv : iv.length = 16) (hb : b.length = 16 * m) (xs : List Nat) (hx : ∀ x ∈ xs, x < m) : (openS k iv b xs).1.length = 16 ∧ (openS k iv b xs).2.length = 16 * xs.length := by
  obtain ⟨h1, h2⟩ := open_from k hb xs (iv, []) hiv hx
  exact ⟨h1, by show _ = _; unfold openS; rw [h2]; simp⟩

/-! Two boxes and what is new have turned, and nothing else. -/
structure Only2 (b1 b2 : Nat) (a w : World) : Prop where
  os : w.os = a.os
  tape : w.tape = a.tape
  output : w.output = a.output
  size : a.heap.size ≤ w.heap.size
  block : ∀ i, i < a.heap.size → i ≠ b1 → i ≠ b2 → w.heap[i]? = a.heap[i]?
theorem Only2.refl (b1 b2 : Nat) (a : World) : Only2 b1 b2 a a := ⟨rfl, rfl, rfl, Nat.le_refl _, fun _ _ _ _ => rfl⟩
theorem Only2.drew {b1 b2 : Nat} {a w : World} (h : Only2 b1 b2 a w) : Only2 b1 b2 a w.drew := ⟨h.os, h.tape, h.output, h.size, h.block⟩
theorem Only2.grown {b1 b2 : Nat} {a w w' : World} {row : Option Nat} (h : Only2 b1 b2 a w) (hg : w.grownBy w' row) (hr : ∀ r, row = some r → a.heap.size ≤ r ∨ r = b1 ∨ r = b2) : Only2 b1 b2 a w' :=
  ⟨hg.os.trans h.os, hg.tape.trans h.tape, hg.output.trans h.output, Nat.le_trans h.size hg.size, fun i hi h1 h2 => (hg.block i (Nat.lt_of_lt_of_le hi h.size) (fun e => by
    rcases hr i e.symm with h3 | h3 | h3
    · omega
    · exact h1 h3
    · exact h2 h3)).trans (h.block i hi h1 h2)⟩
theorem Only2.below {b1 b2 : Nat} {a w w' : World} (h : Only2 b1 b2 a w) (hb : Below w.heap.size w w') : Only2 b1 b2 a w' :=
  ⟨hb.os.trans h.os, hb.tape.trans h.tape, hb.output.trans h.output, Nat.le_trans h.size hb.size, fun i hi h1 h2 => (hb.block i (Nat.lt_of_lt_of_le hi h.size)).trans (h.block i hi h1 h2)⟩
theorem Only2.box {b1 b2 : Nat} {a w : World} (h : Only2 b1 b2 a w) (b : Nat) (hb : b = b1 ∨ b = b2) (v : Value) : Only2 b1 b2 a (w.setCell ⟨b, 0, none⟩ v) :=
  h.grown (grownBy_setCell' w b v) (fun r e => by cases e; exact .inr hb)
theorem Only2.toBelow {b1 b2 B : Nat} {a w : World} (h : Only2 b1 b2 a w) (h1 : B ≤ b1) (h2 : B ≤ b2) (hB : B ≤ a.heap.size) : Below B a w :=
  ⟨h.os, h.tape, h.output, h.size, fun i hi => h.block i (by omega) (by omega) (by omega)⟩
theorem ownFrom_only2 {β : Type} {b1 b2 : Nat} {a : World} : OwnFrom a.heap.size (fun (_ : β) W => Only2 b1 b2 a W) :=
  fun _ _ _ _ hs hg hr => hs.grown hg fun r e => .inl (hr r e).1
/-- Bytes abide whatever leaves cells alone. -/
theorem BsS.keepC {w w' : World} {S S' : Nat → Prop} {v : Value} {l : List UInt8} (h : BsS w S v l) (hk : ∀ b, S b → (∃ o : Obj, w.heap[b]? = some o ∧ o.isCells = true) → w'.heap[b]? = w.heap[b]? ∧ S' b) : BsS w' S' v l := by
  obtain ⟨a, c, hv, h1, h2, h3, h4⟩ := h
  refine ⟨a, c, hv, h1, h2, h3, fun hn => ?_⟩
  obtain ⟨b, off, ha, hb, hc⟩ := h4 hn
  have hk' := hk b hb (cells_of_cell (hc 0 hn))
  exact ⟨b, off, ha, hk'.2, fun j hj => (World.cell?_of_block (w := w) hk'.1).trans (hc j hj)⟩
/-- The places at which a chained value may lie: in no box, and not in the row that grows. -/
def Away (b1 b2 : Nat) (ov : Value) (b : Nat) : Prop := b ≠ b1 ∧ b ≠ b2 ∧ ov.ownBlock ≠ some b
/-- What is known between two rounds: both boxes, what the next block is chained to, what has been made. -/
def Chain (b1 b2 : Nat) (a : World) (s : List UInt8 × List UInt8) (W : World) : Prop :=
  Only2 b1 b2 a W ∧ ∃ iv ov, Boxed W b1 22 iv ∧ Boxed W b2 22 ov ∧ BsS W (Away b1 b2 ov) iv s.1 ∧ W.ownsRow a.heap.size 5 1 ov s.2.length (s.2.map U8)
theorem chain_own {β : Type} (b1 b2 : Nat) (a : World) (s : β → List UInt8 × List UInt8) (h1 : b1 < a.heap.size) (h2 : b2 < a.heap.size) : OwnFrom a.heap.size (fun (x : β) W => Chain b1 b2 a (s x) W) := by
  rintro x W W' row ⟨h, iv, ov, hi, ho, hbs, hown⟩ hg hr
  have hne : ∀ b, b < a.heap.size → some b ≠ row := fun b hb e => by have := (hr b e.symm).1; omega
  refine ⟨ownFrom_only2 (β := β) x W W' row h hg hr, iv, ov, hi.kept hg (hne b1 h1), ho.kept hg (hne b2 h2), hbs.keepC fun b hb ⟨o, ho', hc⟩ => ⟨?_, hb⟩, hown.kept hg ?_⟩
  · refine hg.block b (Array.getElem?_eq_some_iff.1 ho').1 fun e => ?_
    obtain ⟨_, o', hq, hq'⟩ := hr b e.symm
    rw [ho'] at hq; cases hq; rw [hc] at hq'; cases hq'
  · rcases hown.2 with ⟨rfl, _⟩ | ⟨g, cap, cur, rfl, _, hgb, _⟩
    · exact .inl rfl
    · refine .inr fun e' => ?_
      obtain ⟨_, o, ho', hc⟩ := hr g (by simpa [Value.ownBlock] using e'.symm)
      rw [hgb] at ho'; cases ho'; cases hc
end Go.Proofs.YtnogcnmoeekcpaaDoor
namespace Go.Proofs.YtnogcnmoeekcpaaDoor
open Go.RowKit
theorem wpListIn_append1 {F : Fence} {nf : Nat} {P : Program} (w : World) {ops : Array Oper} {rest : List Oper} {o : Oper} {a : Act} {Q : Exit → Act → World → Prop} (hgd : o.guard = none) (s x : Operand) (t : TypeId)
    (hop : o.op = .call { callee := .builtin .append, args := #[s, x], argTypes := #[t, t] })
    (base : Nat) (e : TypeId) (z : Value) (bytes : Nat) (ht : P.underlying t = some (.slice e)) (hinfo : (P.info? e).map (fun i => (i.zero, i.size, i.bytes)) = some (some z, 1, bytes))
    (hzs : z.cells.size = 1) (hby : 0 < bytes) (v : Value) (n : Nat) (xs : List Value) (hs : a.eval s = v) (hown : w.ownsRow base e 1 v n xs)
    (A : Option Addr) (m c : Nat) (news : List Value) (hx : a.eval x = .slice A m c) (hsrc : SrcAt w A m news) (hbytes : (n + m) * bytes ≤ 140737488355328) (hbase : base ≤ w.heap.size)
    (h : ∀ v' w', w'.ownsRow base e 1 v' (n + m) (xs ++ news) → w.grownBy w' v.ownBlock → (v'.ownBlock = v.ownBlock ∨ v'.ownBlock = some w.heap.size) → w'.ownsRow base e 1 v n xs → wpListIn F nf P ops Q rest (a.put o.dst v') w') : wpListIn F nf P ops Q (o :: rest) a w := by
  refine wpListIn_plain hgd fun K hK' => ?_
  obtain ⟨v', w', hrun, h2, h3, h4, h5⟩ := run_append1 (P := P) w base t o.type e z bytes ht hinfo hzs hby v n xs hown A m c news hsrc hbytes hbase
  unfold Oper.wpIn
  refine ⟨?_, ?_⟩
  · simp [Oper.about, hop, resolve, Target.leads, Sem.run_pure]
  · rw [Oper.semAt_plain F _ _ (by rw [hop]; intro c hc'; cases hc')]
    simp [execOp, hop, resolve, invoke, builtin, hs, hx, hrun, Result.andThen]
    exact hK' _ _ (h v' w' h2 h3 h4 h5)
/-- A cipher abides whatever leaves the blocks below B alone, but for one that holds a slice. -/
theorem CipherAt.keepBut {w w' : World} {B b1 : Nat} {t : TypeId} {p : Value} {key : Nat → UInt8} {A : Option Addr} {n c : Nat} (h : CipherAt w B p key) (hb1 : Boxed w b1 t (.slice A n c)) (hk : ∀ b, b < B → b ≠ b1 → w'.heap[b]? = w.heap[b]?) (hB : B ≤ w'.heap.size) : CipherAt w' w'.heap.size p key := by
  obtain ⟨tb, cb, hp, h1, h2, h3, h4, h5⟩ := h
  have n1 : tb ≠ b1 := by
    intro e
    have h6 := h4 0 (by omega)
    rw [e] at h6
    rw [Nat.add_zero, hb1.cell] at h6
    cases h6
  have n2 : cb ≠ b1 := by
    intro e
    rw [e, hb1.cell] at h3
    cases h3
  exact ⟨tb, cb, hp, by omega, by omega, (World.cell?_of_block (a := ⟨cb, 0, none⟩) (hk cb h2 n2)).trans h3, h4.of_block (hk tb h1 n1), h5.of_block (hk cb h2 n2)⟩
theorem combineX (va vb : Value) (a b : List UInt8) (ha : a.length = 16) (hb : b.length = 16) (w : World) (hva : Bs w w.heap.size va a) (hvb : Bs w w.heap.size vb b) :
    Calls Tryd.prog 73 #[va, vb] w fun e w' => ∃ v', e = .returned v' ∧ BsS w' (New w w') v' (xorL a b) ∧ Below w.heap.size w w' :=
  (combine2_any va vb a b ha hb w hva hvb).mono fun _ _ ⟨v', h1, h2, h3⟩ => ⟨v', h1, BsS.of_own h2 (by rw [xorL_len]; omega), h3⟩
theorem encC (p v : Value) (k l : List UInt8) (hl : l.length = 16) (w : World) (hp : CipherAt w w.heap.size p (gb k)) (hv : Bs w w.heap.size v l) :
    Calls Tryd.prog 82 #[p, v] w fun e w' => ∃ v', e = .returned v' ∧ BsS w' (New w w') v' (encL k l) ∧ Below w.heap.size w w' := encrypt_any p v (gb k) l hl w hp hv
theorem keepsOthers_below {W W' : World} (h : Below W.heap.size W W') : KeepsOthers W W' :=
  ⟨h.size, fun k o hk _ => (h.block k (Array.getElem?_eq_some_iff.1 hk).1).trans hk⟩
theorem own_lt {w : World} {base : Nat} {e : TypeId} {size n : Nat} {v : Value} {xs : List Value} (h : w.ownsRow base e size v n xs) (g : Nat) (hg : v.ownBlock = some g) : base ≤ g ∧ g < w.heap.size := h.lt g hg
/-- The chained value is stored. -/
theorem chain_step {b1 b2 : Nat} {a W W2 : World} {n : Nat} {xs : List Value} {iv ov v2 : Value} {l2 : List UInt8} (h12 : b1 ≠ b2) (hb1 : b1 < a.heap.size) (hb2 : b2 < a.heap.size)
    (hO : Only2 b1 b2 a W) (hI : Boxed W b1 22 iv) (hOv : Boxed W b2 22 ov) (hown : W.ownsRow a.heap.size 5 1 ov n xs)
    (hB : Below W.heap.size W W2) (hv2 : BsS W2 (fun b => W.heap.size ≤ b ∧ b < W2.heap.size) v2 l2) :
    Boxed W2 b1 22 iv ∧ Boxed (W2.setCell ⟨b1, 0, none⟩ v2) b1 22 v2 ∧ Boxed (W2.setCell ⟨b1, 0, none⟩ v2) b2 22 ov ∧ (W2.setCell ⟨b1, 0, none⟩ v2).ownsRow a.heap.size 5 1 ov n xs ∧
      BsS (W2.setCell ⟨b1, 0, none⟩ v2) (fun b => W.heap.size ≤ b ∧ b < W2.heap.size) v2 l2 ∧ Only2 b1 b2 a (W2.setCell ⟨b1, 0, none⟩ v2) ∧ KeepsOthers W (W2.setCell ⟨b1, 0, none⟩ v2) := by
  have hs := hO.size
  have hI2 : Boxed W2 b1 22 iv := (hB.block b1 (by omega)).trans hI
  have hO2 : Boxed W2 b2 22 ov := (hB.block b2 (by omega)).trans hOv
  have hg := grownBy_setCell' W2 b1 v2
  refine ⟨hI2, hI2.set v2, hO2.kept hg (by intro e; injection e; omega), (own_below hown hB).kept hg (.inr fun e => by have := (hown.lt b1 e).1; omega), hv2.keep fun b hb _ => ⟨hg.block b hb.2 (by intro e; injection e; omega), hb⟩, (hO.below hB).box b1 (.inl rfl) v2, (keepsOthers_below hB).trans (KeepsOthers.setCell _ _ _)⟩
/-- What was made is appended, and the row's value stored. -/
theorem chain_end {b1 b2 : Nat} {a W3 W4 : World} {n m : Nat} {xs ys : List Value} {ov v2 v4 : Value} {l2 : List UInt8} (h12 : b1 ≠ b2) (hb1 : b1 < a.heap.size) (hb2 : b2 < a.heap.size)
    (hO : Only2 b1 b2 a W3) (hI : Boxed W3 b1 22 v2) (hOv : Boxed W3 b2 22 ov) (hown : W3.ownsRow a.heap.size 5 1 ov n xs)
    (hv2 : BsS W3 (fun b => b1 ≠ b ∧ b2 ≠ b ∧ ov.ownBlock ≠ some b ∧ b < W3.heap.size) v2 l2) (hown4 : W4.ownsRow a.heap.size 5 1 v4 m ys) (hg4 : W3.grownBy W4 ov.ownBlock) (hat4 : v4.ownBlock = ov.ownBlock ∨ v4.ownBlock = some W3.heap.size) :
    Boxed W4 b2 22 ov ∧ Only2 b1 b2 a (W4.setCell ⟨b2, 0, none⟩ v4) ∧ Boxed (W4.setCell ⟨b2, 0, none⟩ v4) b1 22 v2 ∧ Boxed (W4.setCell ⟨b2, 0, none⟩ v4) b2 22 v4 ∧ BsS (W4.setCell ⟨b2, 0, none⟩ v4) (Away b1 b2 v4) v2 l2 ∧
      (W4.setCell ⟨b2, 0, none⟩ v4).ownsRow a.heap.size 5 1 v4 m ys ∧ KeepsOthers W3 (W4.setCell ⟨b2, 0, none⟩ v4) := by
  have hs := hO.size
  have ne1 : some b1 ≠ ov.ownBlock := fun e => by have := (hown.lt b1 e.symm).1; omega
  have ne2 : some b2 ≠ ov.ownBlock := fun e => by have := (hown.lt b2 e.symm).1; omega
  have hO4 : Boxed W4 b2 22 ov := hOv.kept hg4 ne2
  have hI4 : Boxed W4 b1 22 v2 := hI.kept hg4 ne1
  have hg := grownBy_setCell' W4 b2 v4
  refine ⟨hO4, (hO.grown hg4 fun r e => .inl (hown.lt r e).1).box b2 (.inr rfl) v4, hI4.kept hg (by intro e; injection e; omega), hO4.set v4, ?_, hown4.kept hg (.inr fun e => by have := (hown4.lt b2 e).1; omega), ?_⟩
  · refine BsS.keep hv2 fun b hb hlt => ⟨?_, Ne.symm hb.1, Ne.symm hb.2.1, ?_⟩
    · exact (hg.block b (by have := hg4.size; omega) (by intro e; injection e with e; exact hb.2.1 e.symm)).trans (hg4.block b hlt (fun e => hb.2.2.1 e.symm))
    · rcases hat4 with e | e
      · rw [e]; exact hb.2.2.1
      · rw [e]; intro h; injection h with h; omega
  · refine (KeepsOthers.of_grownBy hg4 fun j _ ej hj => ?_).trans (KeepsOthers.setCell _ _ _)
    rcases hown.2 with ⟨rfl, _⟩ | ⟨g, cap, cur, rfl, _, hgb, _⟩
    · simp [Value.ownBlock] at ej
    · obtain rfl : g = j := by simpa [Value.ownBlock] using ej
      rw [hgb] at hj; cases hj; rfl
theorem keepTwo_only2 {b1 b2 x y : Nat} {a W W' : World} (h : Only2 b1 b2 a W) (h' : Only2 b1 b2 a W') (hx : x < a.heap.size) (hy : y < a.heap.size) (x1 : x ≠ b1) (x2 : x ≠ b2) (y1 : y ≠ b1) (y2 : y ≠ b2) : KeepTwo x y W W' :=
  ⟨(h'.block x hx x1 x2).trans (h.block x hx x1 x2).symm, (h'.block y hy y1 y2).trans (h.block y hy y1 y2).symm⟩
/-- An append that comes up in a fenced region that draws its order: kept whole, so that a law can meet it. -/
def AppendStep (F : Fence) (nf : Nat) (P : Program) (o : Oper) (a : Act) (w : World) (K : Act → World → Prop) (Q : Exit → Act → World → Prop) : Prop := Oper.wpIn F nf P o a w K Q
theorem appendStep_at {F : Fence} {nf : Nat} {P : Program} {d : Option Tmp} {s x : Operand} {t1 t2 ty : TypeId} {ps : String} {af : Array Edge} {g : Option (Nat × Bool)} {a : Act} {w : World} {K : Act → World → Prop} {Q : Exit → Act → World → Prop} :
    Oper.wpIn F nf P { dst := d, op := Op.call { callee := Callee.builtin Builtin.append, args := #[s, x], argTypes := #[t1, t2] }, type := ty, pos := ps, after := af, guard := g } a w K Q =
      AppendStep F nf P { dst := d, op := Op.call { callee := Callee.builtin Builtin.append, args := #[s, x], argTypes := #[t1, t2] }, type := ty, pos := ps, after := af, guard := g } a w K Q := rfl
theorem wpIn_at_zero {F : Fence} {nf : Nat} {P : Program} {o : Oper} {l : List Oper} {h : 0 < (o :: l).toArray.size} {a : Act} {w : World} {K : Act → World → Prop} {Q : Exit → Act → World → Prop} : Oper.wpIn F nf P ((o :: l).toArray[0]'h) a w K Q = Oper.wpIn F nf P o a w K Q := rfl
theorem wpIn_at_succ {F : Fence} {nf : Nat} {P : Program} {o : Oper} {l : List Oper} {n : Nat} {h : n + 1 < (o :: l).toArray.size} {a : Act} {w : World} {K : Act → World → Prop} {Q : Exit → Act → World → Prop} : Oper.wpIn F nf P ((o :: l).toArray[n + 1]'h) a w K Q = Oper.wpIn F nf P (l.toArray[n]'(by simpa using h)) a w K Q := rfl
theorem appendStep_law {F : Fence} {nf : Nat} {P : Program} (w : World) {o : Oper} {a : Act} {K : Act → World → Prop} {Q : Exit → Act → World → Prop} (s x : Operand) (t : TypeId)
    (hop : o.op = .call { callee := .builtin .append, args := #[s, x], argTypes := #[t, t] })
    (base : Nat) (e : TypeId) (z : Value) (bytes : Nat) (ht : P.underlying t = some (.slice e)) (hinfo : (P.info? e).map (fun i => (i.zero, i.size, i.bytes)) = some (some z, 1, bytes))
    (hzs : z.cells.size = 1) (hby : 0 < bytes) (v : Value) (n : Nat) (xs : List Value) (hs : a.eval s = v) (hown : w.ownsRow base e 1 v n xs)
    (A : Option Addr) (m c : Nat) (news : List Value) (hx : a.eval x = .slice A m c) (hsrc : SrcAt w A m news) (hbytes : (n + m) * bytes ≤ 140737488355328) (hbase : base ≤ w.heap.size)
    (h : ∀ v' w', w'.ownsRow base e 1 v' (n + m) (xs ++ news) → w.grownBy w' v.ownBlock → (v'.ownBlock = v.ownBlock ∨ v'.ownBlock = some w.heap.size) → K (a.put o.dst v') w') : AppendStep F nf P o a w K Q := by
  obtain ⟨v', w', hrun, h2, h3, h4, h5⟩ := run_append1 (P := P) w base t o.type e z bytes ht hinfo hzs hby v n xs hown A m c news hsrc hbytes hbase
  unfold AppendStep Oper.wpIn
  refine ⟨?_, ?_⟩
  · simp [Oper.about, hop, resolve, Target.leads, Sem.run_pure]
  · rw [Oper.semAt_plain F _ _ (by rw [hop]; intro c hc'; cases hc')]
    simp [execOp, hop, resolve, invoke, builtin, hs, hx, hrun, Result.andThen]
    exact h v' w' h2 h3 h4
/-- What was made is appended, the row's value stored, and then the chained value. -/
theorem chain_open {b1 b2 : Nat} {a W W2 W4 : World} {n m : Nat} {xs ys : List Value} {iv ov xv v4 : Value} {lx : List UInt8} (h12 : b1 ≠ b2) (hb1 : b1 < a.heap.size) (hb2 : b2 < a.heap.size)
    (hO : Only2 b1 b2 a W) (hI : Boxed W b1 22 iv) (hOv : Boxed W b2 22 ov) (hown : W.ownsRow a.heap.size 5 1 ov n xs)
    (hB : Below W.heap.size W W2) (hx : BsS W (fun b => b ≠ b1 ∧ b ≠ b2 ∧ b < a.heap.size) xv lx) (hown4 : W4.ownsRow a.heap.size 5 1 v4 m ys) (hg4 : W2.grownBy W4 ov.ownBlock) (hat4 : v4.ownBlock = ov.ownBlock ∨ v4.ownBlock = some W2.heap.size) :
    Boxed W4 b2 22 ov ∧ Boxed (W4.setCell ⟨b2, 0, none⟩ v4) b1 22 iv ∧ Only2 b1 b2 a ((W4.setCell ⟨b2, 0, none⟩ v4).setCell ⟨b1, 0, none⟩ xv) ∧ Boxed ((W4.setCell ⟨b2, 0, none⟩ v4).setCell ⟨b1, 0, none⟩ xv) b1 22 xv ∧
      Boxed ((W4.setCell ⟨b2, 0, none⟩ v4).setCell ⟨b1, 0, none⟩ xv) b2 22 v4 ∧ BsS ((W4.setCell ⟨b2, 0, none⟩ v4).setCell ⟨b1, 0, none⟩ xv) (Away b1 b2 v4) xv lx ∧
      ((W4.setCell ⟨b2, 0, none⟩ v4).setCell ⟨b1, 0, none⟩ xv).ownsRow a.heap.size 5 1 v4 m ys ∧ KeepsOthers W ((W4.setCell ⟨b2, 0, none⟩ v4).setCell ⟨b1, 0, none⟩ xv) := by
  have hs := hO.size
  have hs2 := hB.size
  have ne1 : some b1 ≠ ov.ownBlock := fun e => by have := (hown.lt b1 e.symm).1; omega
  have ne2 : some b2 ≠ ov.ownBlock := fun e => by have := (hown.lt b2 e.symm).1; omega
  have hO4 : Boxed W4 b2 22 ov := Boxed.kept ((hB.block b2 (by omega)).trans hOv : Boxed W2 b2 22 ov) hg4 ne2
  have hI4 : Boxed W4 b1 22 iv := Boxed.kept ((hB.block b1 (by omega)).trans hI : Boxed W2 b1 22 iv) hg4 ne1
  have hg := grownBy_setCell' W4 b2 v4
  have hg' := grownBy_setCell' (W4.setCell ⟨b2, 0, none⟩ v4) b1 xv
  have hI5 : Boxed (W4.setCell ⟨b2, 0, none⟩ v4) b1 22 iv := hI4.kept hg (by intro e; injection e; omega)
  refine ⟨hO4, hI5, (((hO.below hB).grown hg4 fun r e => .inl (hown.lt r e).1).box b2 (.inr rfl) v4).box b1 (.inl rfl) xv, hI5.set xv, (hO4.set v4).kept hg' (by intro e; injection e; omega), ?_,
    (hown4.kept hg (.inr fun e => by have := (hown4.lt b2 e).1; omega)).kept hg' (.inr fun e => by have := (hown4.lt b1 e).1; omega), ?_⟩
  · refine BsS.keep hx fun b hb hlt => ⟨?_, hb.1, hb.2.1, ?_⟩
    · have h4 : W4.heap[b]? = W.heap[b]? := (hg4.block b (by omega) (fun e => by have := (hown.lt b e.symm).1; have := hb.2.2; omega)).trans (hB.block b hlt)
      have h5 := hg.block b (by have := hg4.size; omega) (by intro e; injection e with e; exact hb.2.1 e)
      exact (hg'.block b (by have := hg4.size; have := hg.size; omega) (by intro e; injection e with e; exact hb.1 e)).trans (h5.trans h4)
    · intro e
      have := (hown4.lt b e).1
      have := hb.2.2
      omega
  · refine ((keepsOthers_below hB).trans (KeepsOthers.of_grownBy hg4 fun j o ej hj => ?_)).trans ((KeepsOthers.setCell _ _ _).trans (KeepsOthers.setCell _ _ _))
    rcases (own_below hown hB).2 with ⟨rfl, _⟩ | ⟨g, cap, cur, rfl, _, hgb, _⟩
    · simp [Value.ownBlock] at ej
    · obtain rfl : g = j := by simpa [Value.ownBlock] using ej
      rw [hgb] at hj; cases hj; rfl
attribute [irreducible] AppendStep
attribute [irreducible] encL decL
end Go.Proofs.YtnogcnmoeekcpaaDoor
