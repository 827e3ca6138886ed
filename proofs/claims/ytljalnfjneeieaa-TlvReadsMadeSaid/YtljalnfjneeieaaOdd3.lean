/- made.Dice: Odd. -/
import Derived.Test.YtljalnfjneeieaaLoose
import Derived.Test.YtljalnfjneeieaaRows2
import Derived.Test.YtljalnfjneeieaaTlvN
import Derived.Test.YtljalnfjneeieaaDice2
import Derived.Test.YtljalnfjneeieaaNodes
import Derived.Test.YtljalnfjneeieaaCodes
/- made.Dice: words for Odd: a row of the call's own whose objects lie anywhere; the copy of a slice of objects. -/
namespace Go.Proofs.Ytljalnfjneeieaa
open Go.RowKit Go.Deep

/-- The values of a slice of objects, one cell after another. -/
theorem each_of_at {w : World} {S : Nat → Prop} : ∀ (L : Ns) (b off : Nat), NsAt w S L b off → ∃ xs : List Value, EachN w S L xs ∧ xs.length = L.len * 3 ∧ (∀ j u, xs[j]? = some u → w.cell? ⟨b, off + j, none⟩ = some u) ∧ ∀ u ∈ xs, u.oneCell' = true := by
  intro L
  induction L with
  | nil => intro b off _; exact ⟨[], rfl, by simp [Ns.len], by simp, by simp⟩
  | cons t v k r _ ih =>
    intro b off ⟨h1, h2, ⟨x, h3, h4⟩, ⟨ka, kc, h5, h6, h7, h8, h9⟩, h10⟩
    obtain ⟨xs, g1, g2, g3, g4⟩ := ih b (off + 3) h10
    obtain ⟨xa, xc, rfl⟩ : ∃ A c, x = .slice A v.length c := by obtain ⟨a, c, hv, _⟩ := h4; exact ⟨a, c, hv⟩
    refine ⟨.int .i64 t :: .slice xa v.length xc :: .slice ka k.len kc :: xs, ⟨_, _, xs, rfl, h2, h4, ⟨ka, kc, rfl, h6, h7, h8, h9⟩, g1⟩, by simp [Ns.len, g2]; omega, fun j u hu => ?_, fun u hu => ?_⟩
    · rcases j with _ | _ | _ | j
      · simp at hu; subst hu; exact h1
      · simp at hu; subst hu; exact h3
      · simp at hu; subst hu; exact h5
      · have hu : xs[j]? = some u := by simpa using hu
        have := g3 j u hu
        rw [show off + (j + 1 + 1 + 1) = off + 3 + j by omega]
        exact this
    · simp only [List.mem_cons] at hu
      rcases hu with rfl | rfl | rfl | hu
      · simp [Value.oneCell']
      · simp [Value.oneCell']
      · simp [Value.oneCell']
      · exact g4 u hu
/-- A row of the call's own that reads as the objects L, which lie where S says. -/
def RowN (w : World) (base : Nat) (S : Nat → Prop) (o : Value) (L : Ns) : Prop := ∃ xs, w.ownsRow base 42 3 o L.len xs ∧ EachN w S L xs
theorem enc_lmx' (l : Ns) (f : Ns → Nat) (h0 : f .nil = 0) (h1 : ∀ t v k r, f (.cons t v k r) = 12 + v.length + f k + f r) : l.enc.length ≤ f l := by
  induction l with
  | nil => simp [Ns.enc]
  | cons t v k r ihk ihr =>
    have h := enc_len t v k r
    rw [h1]
    split at h <;> omega
/-- append of all objects of a slice onto nil. -/
theorem wpList_copyN {ops : Array Oper} {rest : List Oper} {op : Oper} {a : Act} {w : World} {Q : Exit → Act → World → Prop} (hgd : op.guard = none) (s x : Operand)
    (ho : op.op = .call { callee := .builtin .append, args := #[s, x], argTypes := #[31, 31] })
    (hs : a.eval s = .slice none 0 0) (L : Ns) (S : Nat → Prop) (b off c : Nat) (hl : 0 < L.len) (hb : L.len ≤ 1000000000000) (hx : a.eval x = .slice (some ⟨b, off, none⟩) L.len c) (hat : NsAt w S L b off) (hS : S b) (hbl : b < w.heap.size)
    (h : ∀ o' w', RowN w' w.heap.size S o' L → Below w.heap.size w w' → wpList Try.prog ops Q rest (a.put op.dst o') w') : wpList Try.prog ops Q (op :: rest) a w := by
  obtain ⟨xs, g1, g2, g3, g4⟩ := each_of_at L b off hat
  obtain ⟨i, hinfo, hzz⟩ := Option.map_eq_some_iff.1 infoNode
  simp only [Prod.mk.injEq] at hzz
  obtain ⟨hz, hsize, hbb⟩ := hzz
  refine wpList_append_own_at (w := w) hgd s x 31 ho w.heap.size 42 i _ 3 56 Try.underlying31 hinfo hz hsize hbb rfl (by omega) (.slice none 0 0) 0 [] hs (World.ownsRow_nil _ _ _ _) ⟨b, off, none⟩ L.len c xs hx g2
    (fun j u hu => ?_) g4 (by unfold maxLen; omega) (by omega) (Nat.le_refl _) fun o' w' e1 e2 _ _ => ?_
  · have e : (⟨b, off, none⟩ : Addr).add j = ⟨b, off + j, none⟩ := by unfold Addr.add; split <;> simp_all
    rw [e]; exact g3 j u hu
  · rw [Nat.zero_add, List.nil_append] at e1
    have hB : Below w.heap.size w w' := ⟨e2.os, e2.tape, e2.output, e2.size, fun k hk => e2.block k hk (by simp [Value.ownBlock])⟩
    exact h o' w' ⟨xs, e1, g1.keep (fun q hq hl => ⟨hB.block q hl, hq⟩) L xs⟩ hB
/-- The same, the slice empty or not. -/
theorem wpList_copyA {ops : Array Oper} {rest : List Oper} {op : Oper} {a : Act} {w : World} {Q : Exit → Act → World → Prop} (hgd : op.guard = none) (s x : Operand)
    (ho : op.op = .call { callee := .builtin .append, args := #[s, x], argTypes := #[31, 31] })
    (hs : a.eval s = .slice none 0 0) (L : Ns) (S : Nat → Prop) (A : Option Addr) (c : Nat) (hb : L.len ≤ 1000000000000) (hx : a.eval x = .slice A L.len c) (hv : NsS w S (.slice A L.len c) L)
    (h : ∀ o' w', RowN w' w.heap.size S o' L → Below w.heap.size w w' → wpList Try.prog ops Q rest (a.put op.dst o') w') : wpList Try.prog ops Q (op :: rest) a w := by
  obtain ⟨A', c', e, _, _, _, hc⟩ := hv
  injection e with e1 _ e3
  subst e1 e3
  rcases Nat.eq_zero_or_pos L.len with h0 | h0
  · cases L with
    | cons t v k r => simp [Ns.len] at h0
    | nil =>
      obtain ⟨i, hinfo, hzz⟩ := Option.map_eq_some_iff.1 infoNode
      simp only [Prod.mk.injEq] at hzz
      obtain ⟨hz, hsize, hbb⟩ := hzz
      rcases A with _ | ad
      · refine wpList_plain hgd fun K hK => ?_
        have hrun := run_append_nil (P := Try.prog) w w.heap.size 31 op.type 42 i 3 Try.underlying31 hinfo (.slice none 0 0) 0 [] (World.ownsRow_nil _ _ _ _) c
        unfold Oper.wp execOp
        simp only [ho, resolve, invoke, builtin, Sem.run_bind, Sem.run_pure, Result.andThen_ok, List.map_toArray, List.map_cons, List.map_nil, hs, hx, Ns.len, hrun]
        exact hK _ _ (h _ _ ⟨[], World.ownsRow_nil _ _ _ _, rfl⟩ (Below.refl _ _))
      · refine wpList_append_own_at (w := w) hgd s x 31 ho w.heap.size 42 i _ 3 56 Try.underlying31 hinfo hz hsize hbb rfl (by omega) (.slice none 0 0) 0 [] hs (World.ownsRow_nil _ _ _ _) ad 0 c [] hx rfl
          (fun j u hu => by simp at hu) (fun u hu => by simp at hu) (by unfold maxLen; omega) (by omega) (Nat.le_refl _) fun o' w' e1 e2 _ _ => ?_
        exact h o' w' ⟨[], e1, rfl⟩ ⟨e2.os, e2.tape, e2.output, e2.size, fun k hk => e2.block k hk (by simp [Value.ownBlock])⟩
  · obtain ⟨b, off, rfl, hS, hbl, hat⟩ := hc h0
    exact wpList_copyN hgd s x ho hs L S b off c h0 hb hx hat hS hbl h
end Go.Proofs.Ytljalnfjneeieaa
/- made.Dice: words for Odd: one object of a row is turned. -/
namespace Go.Proofs.Ytljalnfjneeieaa
open Go.RowKit Go.Deep

/-- Object k of a list, and its values. -/
theorem each_split {w : World} {S : Nat → Prop} : ∀ (L : Ns) (xs : List Value) (k : Nat), EachN w S L xs → k < L.len → ∃ P t v kd R xs1 x y xs2, L = Ns.app P (.cons t v kd R) ∧ P.len = k ∧ xs = xs1 ++ (.int .i64 t :: x :: y :: xs2) ∧ xs1.length = k * 3 ∧
    EachN w S P xs1 ∧ I64in t ∧ BsS w S x v ∧ NsS w S y kd ∧ EachN w S R xs2 := by
  intro L
  induction L with
  | nil => intro xs k _ hk; simp [Ns.len] at hk
  | cons t v kd r _ ih =>
    intro xs k ⟨x, y, xs', e, hi, hv, hn, hr⟩ hk
    rcases k with _ | k
    · exact ⟨.nil, t, v, kd, r, [], x, y, xs', rfl, rfl, e, rfl, rfl, hi, hv, hn, hr⟩
    · obtain ⟨P, t1, v1, kd1, R, xs1, x1, y1, xs2, e1, e2, e3, e4, g1, g2, g3, g4, g5⟩ := ih xs' k hr (by simp only [Ns.len] at hk; omega)
      exact ⟨.cons t v kd P, t1, v1, kd1, R, .int .i64 t :: x :: y :: xs1, x1, y1, xs2, by rw [e1]; rfl, by simp [Ns.len, e2], by rw [e, e3]; rfl, by simp [e4]; omega, ⟨x, y, xs1, rfl, hi, hv, hn, g1⟩, g2, g3, g4, g5⟩
theorem each_join {w : World} {S : Nat → Prop} {t : Int} {v : List UInt8} {kd R : Ns} {x y : Value} {xs2 : List Value} (hi : I64in t) (hv : BsS w S x v) (hn : NsS w S y kd) (hr : EachN w S R xs2) :
    ∀ (P : Ns) (xs1 : List Value), EachN w S P xs1 → EachN w S (P.app (.cons t v kd R)) (xs1 ++ (.int .i64 t :: x :: y :: xs2)) := by
  intro P
  induction P with
  | nil => intro xs1 h; have h : xs1 = [] := h; subst h; exact ⟨x, y, xs2, rfl, hi, hv, hn, hr⟩
  | cons t' v' k' r' _ ih =>
    intro xs1 ⟨x', y', xs', e, hi', hv', hn', hr'⟩
    subst e
    exact ⟨x', y', _, rfl, hi', hv', hn', ih xs' hr'⟩
theorem Ns.all_app (l m : Ns) : (l.app m).all = l.all + m.all := by
  induction l with
  | nil => simp [Ns.app, Ns.all]
  | cons t v k r _ ih => simp only [Ns.app, Ns.all, ih]; omega
/-- A store into a row of the call's own. -/
theorem own_set {w : World} {base g cap n size i : Nat} {e : TypeId} {xs : List Value} {u : Value} (h : w.ownsRow base e size (.slice (some ⟨g, 0, none⟩) n cap) n xs) :
    (w.setCell ⟨g, i, none⟩ u).ownsRow base e size (.slice (some ⟨g, 0, none⟩) n cap) n (xs.set i u) := by
  obtain ⟨h1, h2⟩ := h
  refine ⟨by simpa using h1, ?_⟩
  rcases h2 with ⟨h2, _⟩ | ⟨g', cap', cur, hv, hb, hh, hn, hm, hs, ht⟩
  · cases h2
  · injection hv with e1 _ e3
    injection e1 with e1
    injection e1 with e1 _
    subst e1 e3
    refine .inr ⟨g, cap, cur.setIfInBounds i u, rfl, hb, ?_, hn, hm, by simpa using hs, ?_⟩
    · show (w.heap.modify g _)[g]? = _
      rw [Array.getElem?_modify, if_pos rfl, hh]
      rfl
    · rw [Array.toList_setIfInBounds, List.take_set, ht]
theorem own_same {w w' : World} {base g cap n size : Nat} {e : TypeId} {xs : List Value} (h : w.ownsRow base e size (.slice (some ⟨g, 0, none⟩) n cap) n xs) (hw : w'.heap[g]? = w.heap[g]?) : w'.ownsRow base e size (.slice (some ⟨g, 0, none⟩) n cap) n xs := by
  obtain ⟨h1, h2⟩ := h
  refine ⟨h1, ?_⟩
  rcases h2 with ⟨h2, _⟩ | ⟨g', cap', cur, hv, hb, hh, r⟩
  · cases h2
  · injection hv with e1 _ e3
    injection e1 with e1
    injection e1 with e1 _
    subst e1 e3
    exact .inr ⟨g, cap, cur, rfl, hb, hw.trans hh, r⟩
theorem set_mid0 {α : Type} (xs1 : List α) (a x y u : α) (xs2 : List α) (k : Nat) (h : xs1.length = k) : (xs1 ++ (a :: x :: y :: xs2)).set k u = xs1 ++ (u :: x :: y :: xs2) := by
  subst h; rw [List.set_append_right _ _ (Nat.le_refl _), Nat.sub_self]; rfl
theorem set_mid1 {α : Type} (xs1 : List α) (a x y u : α) (xs2 : List α) (k : Nat) (h : xs1.length = k) : (xs1 ++ (a :: x :: y :: xs2)).set (k + 1) u = xs1 ++ (a :: u :: y :: xs2) := by
  subst h; rw [List.set_append_right _ _ (by omega), show xs1.length + 1 - xs1.length = 1 by omega]; rfl
theorem set_mid2 {α : Type} (xs1 : List α) (a x y u : α) (xs2 : List α) (k : Nat) (h : xs1.length = k) : (xs1 ++ (a :: x :: y :: xs2)).set (k + 2) u = xs1 ++ (a :: x :: u :: xs2) := by
  subst h; rw [List.set_append_right _ _ (by omega), show xs1.length + 2 - xs1.length = 2 by omega]; rfl
theorem RowN.keep {w w' : World} {base : Nat} {S S' : Nat → Prop} {o : Value} {L : Ns} {row : Option Nat} (h : RowN w base S o L) (hg : w.grownBy w' row) (hr : ∀ q, row = some q → q < base) (hS : ∀ b, S b → b < w.heap.size → w'.heap[b]? = w.heap[b]? ∧ S' b) : RowN w' base S' o L := by
  obtain ⟨xs, h1, h2⟩ := h
  refine ⟨xs, World.ownsRow.kept h1 hg ?_, h2.keep hS L xs⟩
  cases e : o.ownBlock with
  | none => exact .inl rfl
  | some b =>
    refine .inr fun e2 => ?_
    have := (h1.lt b e).1
    have := hr b e2.symm
    omega
/-- A row of the call's own as a slice of objects. -/
theorem RowN.nss {w : World} {base : Nat} {S S' : Nat → Prop} {o : Value} {L : Ns} (h : RowN w base S o L) (hl : L.len ≤ 2513169434843) (hS : ∀ b, S b → S' b) (hb : ∀ b, base ≤ b → b < w.heap.size → S' b) : NsS w S' o L := by
  obtain ⟨xs, h1, h2⟩ := h
  have h2 : EachN w S' L xs := h2.keep (fun b hs _ => ⟨rfl, hS b hs⟩) L xs
  rcases h1.2 with ⟨rfl, h0⟩ | ⟨g, cap, cur, hv, hbg, hh, hn, hm, r⟩
  · cases L with
    | nil => exact ⟨none, 0, rfl, Nat.le_refl _, by simp [maxLen], by simp [Ns.len], fun h => by simp [Ns.len] at h⟩
    | cons t v k r => simp [Ns.len] at h0
  · have hlt : g < w.heap.size := (Array.getElem?_eq_some_iff.1 hh).1
    refine ⟨_, cap, hv, hn, hm, hl, fun _ => ⟨g, 0, rfl, hb g hbg hlt, hlt, NsAt.of_each L xs 0 h2 fun j x hx => ?_⟩⟩
    have := h1.cells (g := g) (by rw [hv]; rfl) j x hx
    have e : (⟨g, 0, none⟩ : Addr).add j = ⟨g, 0 + j, none⟩ := by unfold Addr.add; split <;> simp_all
    rwa [e] at this
/-- The cells of object k of a row, and the row behind a store into one of them: by field 0 (tag), 1 (bytes), 2 (kids). -/
theorem RowN.at {w : World} {base g cap k : Nat} {S : Nat → Prop} {L : Ns} (h : RowN w base S (.slice (some ⟨g, 0, none⟩) L.len cap) L) (hk : k < L.len) : ∃ P t v kd R x y, L = Ns.app P (.cons t v kd R) ∧ P.len = k ∧
    w.cell? ⟨g, k * 3, none⟩ = some (.int .i64 t) ∧ w.cell? ⟨g, k * 3 + 1, none⟩ = some x ∧ w.cell? ⟨g, k * 3 + 2, none⟩ = some y ∧ (∀ j, w.frozen? ⟨g, j, none⟩ = false) ∧ base ≤ g ∧ g < w.heap.size ∧ I64in t ∧ BsS w S x v ∧ NsS w S y kd ∧
    (∀ (w' : World) (S' : Nat → Prop), w'.heap[g]? = w.heap[g]? → (∀ b, S b → b < w.heap.size → w'.heap[b]? = w.heap[b]? ∧ S' b) → (∀ b, S' b → b ≠ g) →
      (∀ t', I64in t' → RowN (w'.setCell ⟨g, k * 3, none⟩ (.int .i64 t')) base S' (.slice (some ⟨g, 0, none⟩) L.len cap) (P.app (.cons t' v kd R))) ∧
      (∀ x' v', BsS w' S' x' v' → RowN (w'.setCell ⟨g, k * 3 + 1, none⟩ x') base S' (.slice (some ⟨g, 0, none⟩) L.len cap) (P.app (.cons t v' kd R))) ∧
      (∀ y' kd', NsS w' S' y' kd' → RowN (w'.setCell ⟨g, k * 3 + 2, none⟩ y') base S' (.slice (some ⟨g, 0, none⟩) L.len cap) (P.app (.cons t v kd' R)))) := by
  obtain ⟨xs, h1, h2⟩ := h
  obtain ⟨P, t, v, kd, R, xs1, x, y, xs2, rfl, e2, rfl, e4, g1, g2, g3, g4, g5⟩ := each_split L xs k h2 hk
  have hc := fun j u hu => h1.cells (g := g) rfl j u hu
  have ea : ∀ j, (⟨g, 0, none⟩ : Addr).add j = ⟨g, j, none⟩ := fun j => by unfold Addr.add; split <;> simp_all
  have c0 := hc (k * 3) (.int .i64 t) (by rw [List.getElem?_append_right (by omega), e4, Nat.sub_self]; rfl)
  have c1 := hc (k * 3 + 1) x (by rw [List.getElem?_append_right (by omega), e4, show k * 3 + 1 - k * 3 = 1 by omega]; rfl)
  have c2 := hc (k * 3 + 2) y (by rw [List.getElem?_append_right (by omega), e4, show k * 3 + 2 - k * 3 = 2 by omega]; rfl)
  rw [ea] at c0 c1 c2
  have hlen : ∀ t' v' kd', (P.app (.cons t' v' kd' R)).len = (P.app (.cons t v kd R)).len := fun t' v' kd' => by rw [Ns.len_app, Ns.len_app]; rfl
  have hgb := h1.lt g rfl
  have hfz : ∀ j, w.frozen? ⟨g, j, none⟩ = false := fun j => by
    rcases h1.2 with ⟨e, _⟩ | ⟨g', cap', cur, hv, _, hh, _⟩
    · cases e
    · injection hv with e1 _ _
      injection e1 with e1
      injection e1 with e1 _
      subst e1
      simp [World.frozen?, hh]
  refine ⟨P, t, v, kd, R, x, y, rfl, e2, c0, c1, c2, hfz, hgb.1, hgb.2, g2, g3, g4, fun w' S' hw hk' hS => ?_⟩
  have h1 := own_same h1 hw
  have kp : ∀ (i : Nat) (u : Value) (b : Nat), S' b → b < w'.heap.size → (w'.setCell ⟨g, i, none⟩ u).heap[b]? = w'.heap[b]? ∧ S' b := fun i u b hs _ => ⟨Below.heap_setCell _ _ _ _ (hS b hs), hs⟩
  have g1 := g1.keep hk' P xs1
  have g3 := g3.keep hk'
  have g4 := g4.keep hk'
  have g5 := g5.keep hk' R xs2
  refine ⟨fun t' ht' => ?_, fun x' v' hx' => ?_, fun y' kd' hy' => ?_⟩
  · refine ⟨xs1 ++ (.int .i64 t' :: x :: y :: xs2), ?_, each_join ht' (g3.keep (kp _ _)) (g4.keep (kp _ _)) (g5.keep (kp _ _) R xs2) P xs1 (g1.keep (kp _ _) P xs1)⟩
    have := own_set (i := k * 3) (u := .int .i64 t') h1
    rw [set_mid0 xs1 _ x y _ xs2 _ e4] at this
    rw [hlen t' v kd]; exact this
  · refine ⟨xs1 ++ (.int .i64 t :: x' :: y :: xs2), ?_, each_join g2 (hx'.keep (kp _ _)) (g4.keep (kp _ _)) (g5.keep (kp _ _) R xs2) P xs1 (g1.keep (kp _ _) P xs1)⟩
    have := own_set (i := k * 3 + 1) (u := x') h1
    rw [set_mid1 xs1 _ x y _ xs2 _ e4] at this
    rw [hlen t v' kd]; exact this
  · refine ⟨xs1 ++ (.int .i64 t :: x :: y' :: xs2), ?_, each_join g2 (g3.keep (kp _ _)) (hy'.keep (kp _ _)) (g5.keep (kp _ _) R xs2) P xs1 (g1.keep (kp _ _) P xs1)⟩
    have := own_set (i := k * 3 + 2) (u := y') h1
    rw [set_mid2 xs1 _ x y _ xs2 _ e4] at this
    rw [hlen t v kd']; exact this
/-- append of one object, in the block that was made for it, onto a row of the call's own whose objects lie where S says. -/
theorem wpList_nodeN {ops : Array Oper} {rest : List Oper} {op : Oper} {a : Act} {w : World} {Q : Exit → Act → World → Prop} (hgd : op.guard = none) (s x : Operand)
    (ho : op.op = .call { callee := .builtin .append, args := #[s, x], argTypes := #[31, 31] })
    (base : Nat) (S : Nat → Prop) (o : Value) (L : Ns) (hs : a.eval s = o) (hown : RowN w base S o L) (t : Int) (v : List UInt8) (k : Ns) (xv yv : Value) (ty : TypeId) (g : Nat) (hx : a.eval x = .slice (some ⟨g, 0, none⟩) 1 1) (hg : g = w.heap.size)
    (hi : I64in t) (hv : BsS w S xv v) (hk : NsS w S yv k) (hb : L.len ≤ 1000000000000) (hbase : base ≤ w.heap.size) (hS : ∀ b, S b → b < base)
    (h : ∀ o' w', RowN w' base S o' (L.app (.cons t v k .nil)) → Below base w w' → wpList Try.prog ops Q rest (a.put op.dst o') w') : wpList Try.prog ops Q (op :: rest) a (w.alloc (.cells #[.int .i64 t, xv, yv] ty)) := by
  subst hg
  obtain ⟨xs, h1, h2⟩ := hown
  obtain ⟨i, hinfo, hzz⟩ := Option.map_eq_some_iff.1 infoNode
  simp only [Prod.mk.injEq] at hzz
  obtain ⟨hz, hsize, hbb⟩ := hzz
  obtain ⟨xa, xc, rfl⟩ : ∃ A c, xv = .slice A v.length c := by obtain ⟨a, c, hv, _⟩ := hv; exact ⟨a, c, hv⟩
  obtain ⟨ya, yc, rfl⟩ := hk.form3
  refine wpList_append_own_at (w := w.alloc (.cells #[.int .i64 t, .slice xa v.length xc, .slice ya k.len yc] ty)) hgd s x 31 ho base 42 i _ 3 56 Try.underlying31 hinfo hz hsize hbb rfl (by omega) o L.len xs hs (World.ownsRow.alloc h1 _) ⟨w.heap.size, 0, none⟩ 1 1 [.int .i64 t, .slice xa v.length xc, .slice ya k.len yc] hx rfl
    (fun j u hu => ?_) (by simp [Value.oneCell']) (by unfold maxLen; omega) (by omega) (by simp; omega) fun o' w' g1 g2 _ g3 => ?_
  · have e : (⟨w.heap.size, 0, none⟩ : Addr).add j = ⟨w.heap.size, 0 + j, none⟩ := by unfold Addr.add; split <;> simp_all
    rw [e, Nat.zero_add, cell_of_row _ _ _ _ _ _ (heap_alloc_new _ _)]
    simpa using hu
  · have hB : Below base w w' := ((Below.refl _ _).alloc hbase _).trans ⟨g2.os, g2.tape, g2.output, g2.size, fun b hb' => g2.block b (by simp; omega) fun e => by
      have := (h1.lt b e.symm).1
      omega⟩
    refine h o' w' ⟨xs ++ [.int .i64 t, .slice xa v.length xc, .slice ya k.len yc], by rw [Ns.len_snoc]; exact g1, ?_⟩ hB
    have hkeep : ∀ b, S b → b < w.heap.size → w'.heap[b]? = w.heap[b]? ∧ S b := fun b hs _ => ⟨hB.block b (hS b hs), hs⟩
    exact EachN.snoc L xs (h2.keep hkeep L xs) hi (hv.keep hkeep) (hk.keep hkeep)
end Go.Proofs.Ytljalnfjneeieaa
namespace Go.Proofs.Ytljalnfjneeieaa
open Go.RowKit Go.Deep

theorem Ns.lmx_app (l m : Ns) : (l.app m).lmx = l.lmx + m.lmx := by
  induction l with
  | nil => simp [Ns.app, Ns.lmx]
  | cons t v k r _ ih => simp only [Ns.app, Ns.lmx, ih]; omega
theorem enc_lmx (l : Ns) : l.enc.length ≤ l.lmx := enc_lmx' l Ns.lmx rfl fun _ _ _ _ => rfl
theorem row_form {w : World} {base e size n : Nat} {v : Value} {xs : List Value} (h : w.ownsRow base e size v n xs) : ∃ A c, v = .slice A n c := by
  rcases h.2 with ⟨rfl, rfl⟩ | ⟨g, cap, cur, hv, _⟩
  · exact ⟨none, 0, rfl⟩
  · exact ⟨_, cap, hv⟩
/-- What Odd answers: a list that is hardly greater, beside the dice. -/
def OddOut (B : Nat) (S : Nat → Prop) (w : World) (p n : Nat) (L : Ns) (e : Ending) (w' : World) : Prop :=
  ∃ v' L', e = .returned v' ∧ NsS w' (fun b => S b ∨ New w w' b) v' L' ∧ L'.all ≤ L.all + 1 ∧ L'.lmx ≤ L.lmx + 20 ∧ DiePost B w p n w'
set_option maxRecDepth 100000 in
set_option maxHeartbeats 4000000 in
theorem odd_nil (B p n : Nat) (S : Nat → Prop) (v : Value) (w : World) (hv : NsS w S v .nil) (hd : Die B w p n) : Calls Try.prog 37 #[.pointer (some ⟨p, 0, none⟩), v] w (OddOut B S w p n .nil) := by
  obtain ⟨va, vc, rfl⟩ := hv.form2
  have HV := Lib.hid hv; have HD := Lib.hid hd
  clear hv hd
  go_enter Try.func37, Try.ntmps37
  go_wp2_with (first
    | (at_builtin; (with_reducible refine wpList_copyA rfl (.const (.slice none 0 0)) (.tmp 7) rfl rfl .nil _ va vc (by simp [Ns.len]) rfl HV.out ?_); intro o1 w1 hr hb; obtain ⟨xs, ho1, _⟩ := hr; have HB1 := Lib.hid hb; have HD1 := Lib.hid (HD.out.below (hb.mono HD.out.le)); obtain ⟨oa, oc, rfl⟩ := row_form ho1; clear hb ho1)
    | (go_at_call 39; refine (next_any B p n _ _ HD1.out (by decide) (by decide)).mono ?_; rintro e w2 ⟨z, rfl, hz, hd⟩; have HD2 := Lib.hid hd; clear hd))
  go_ret
  have hg1 : w.grownBy _ (some p) := only_trans (only_of_below HB1.out _) HD2.out.2
  refine ⟨_, .cons ((z : Int) - 100) [] .nil .nil, rfl, NsS.one (heap_alloc_new _ _) (.inr ⟨by have h1 := HB1.out.size; have h2 := HD2.out.2.size; omega, by simp⟩) ⟨by omega, by omega⟩ (BsS.nil0 _ _) (NsS.nil0 _ _), by simp [Ns.all], by simp [Ns.lmx], HD2.out.1.alloc _, only_alloc hg1 _⟩
/-- Behind the stores into the row: what Odd answers. -/
theorem odd_out {B : Nat} {w wi : World} {p n : Nat} {L L' : Ns} {o : Value} {S : Nat → Prop} (hr : RowN wi w.heap.size (fun b => S b ∨ New w wi b) o L') (hl : L'.len ≤ 2513169434843) (ha : L'.all ≤ L.all + 1) (hm : L'.lmx ≤ L.lmx + 20) (hd : DiePost B w p n wi) : OddOut B S w p n L (.returned o) wi :=
  ⟨o, L', rfl, hr.nss hl (fun _ h => h) (fun b h1 h2 => .inr ⟨h1, h2⟩), ha, hm, hd⟩
theorem odd_close {B : Nat} {w w5 : World} {p n g i oc : Nat} {u : Value} {S S' : Nat → Prop} {P R kd kd' : Ns} {t t' : Int} {v v' : List UInt8} (hd : DiePost B w p n w5) (hBw : B ≤ w.heap.size) (hg : w.heap.size ≤ g)
    (hr : RowN (w5.setCell ⟨g, i, none⟩ u) w.heap.size S' (.slice (some ⟨g, 0, none⟩) (P.app (.cons t v kd R)).len oc) (P.app (.cons t' v' kd' R)))
    (hS : ∀ b, S' b → S b ∨ w.heap.size ≤ b) (hl : (P.app (.cons t v kd R)).len ≤ 2513169434843) (ha : kd'.all ≤ kd.all + 1) (hm : v'.length + kd'.lmx ≤ v.length + kd.lmx + 20) :
    OddOut B S w p n (P.app (.cons t v kd R)) (.returned (.slice (some ⟨g, 0, none⟩) (P.app (.cons t v kd R)).len oc)) (w5.setCell ⟨g, i, none⟩ u) := by
  have hlen := Ns.len_app P (.cons t v kd R)
  have hll : (P.app (.cons t' v' kd' R)).len = (P.app (.cons t v kd R)).len := by rw [Ns.len_app, Ns.len_app]; rfl
  have hG5 := hd.2
  have hpl := hd.1.lt
  refine odd_out ?_ (by rw [hll]; exact hl) (by rw [Ns.all_app, Ns.all_app]; simp only [Ns.all]; omega) (by rw [Ns.lmx_app, Ns.lmx_app]; simp only [Ns.lmx]; omega) ⟨hd.1.keep (by simp [World.setCell]) fun b hb => Below.heap_setCell _ _ _ _ (by show b ≠ g; omega), ⟨hG5.os, hG5.tape, hG5.output, by simpa [World.setCell] using hG5.size, fun i hi hne => (Below.heap_setCell _ _ _ _ (by show i ≠ g; omega)).trans (hG5.block i hi hne)⟩⟩
  obtain ⟨xs, q1, q2⟩ := hr
  exact ⟨xs, q1, q2.keep (fun b hs hl => ⟨rfl, by rcases hS b hs with h | h; exact .inl h; exact .inr ⟨h, hl⟩⟩) _ xs⟩
theorem asz (w : World) (o : Obj) : (w.alloc o).heap.size = w.heap.size + 1 := by simp
theorem lit9 (w : World) (ty : TypeId) {w5 : World} (h : w5.heap[w.heap.size]? = (w.alloc (.cells #[.int .i64 0, .int .i64 31, .int .i64 63, .int .i64 24320, .int .i64 24448, .int .i64 256, .int .i64 (-1), .int .i64 32590, .int .i64 65536] ty)).heap[w.heap.size]?) {i : Nat} (hi : (i : Int) < 9) : ∃ z, w5.cell? ⟨w.heap.size, i, none⟩ = some (.int .i64 z) ∧ I64in z := by
  have hc : ∀ j, w5.cell? ⟨w.heap.size, j, none⟩ = (#[.int .i64 0, .int .i64 31, .int .i64 63, .int .i64 24320, .int .i64 24448, .int .i64 256, .int .i64 (-1), .int .i64 32590, .int .i64 65536] : Array Value)[j]? := fun j => cell_of_row _ _ _ _ _ _ (h.trans (heap_alloc_new _ _))
  rcases (by omega : i = 0 ∨ i = 1 ∨ i = 2 ∨ i = 3 ∨ i = 4 ∨ i = 5 ∨ i = 6 ∨ i = 7 ∨ i = 8) with rfl | rfl | rfl | rfl | rfl | rfl | rfl | rfl | rfl <;> exact ⟨_, hc _, by unfold I64in; omega⟩
theorem lit7 (w : World) (ty : TypeId) : BsS (w.alloc (.cells #[.int .u8 7] ty)) (New w (w.alloc (.cells #[.int .u8 7] ty))) (.slice (some ⟨w.heap.size, 0, none⟩) 1 1) [7] := lit_new w [7] ty (by simp) _ rfl
set_option maxRecDepth 100000 in
set_option maxHeartbeats 4000000 in
theorem odd_any (m : Nat) : ∀ (L : Ns) (v : Value) (B p n : Nat) (S : Nat → Prop) (w : World), L.all ≤ m → m ≤ 1000000 → L.lmx ≤ 1000000000000 → (∀ b, S b → b < w.heap.size ∧ b ≠ p) → NsS w S v L → Die B w p n → Calls Try.prog 37 #[.pointer (some ⟨p, 0, none⟩), v] w (OddOut B S w p n L) := by
  induction m using Nat.strongRecOn with
  | ind m ih =>
    intro L v B p n S w hm hm9 hx9 hS hv hd
    rcases Nat.eq_zero_or_pos L.len with h0 | h0
    · cases L with
      | cons t v' k r => simp [Ns.len] at h0
      | nil => exact odd_nil B p n S v w hv hd
    · obtain ⟨va, vc, rfl⟩ := hv.form2
      have HV := Lib.hid hv; have HD := Lib.hid hd
      have hln := L.cnt_len
      clear hv hd
      go_enter Try.func37, Try.ntmps37
      go_upto_region 7 with (first
        | (at_builtin; (with_reducible refine wpList_copyA rfl (.const (.slice none 0 0)) (.tmp 7) rfl rfl L _ va vc (by omega) rfl HV.out ?_); intro o1 w1 hr hb; obtain ⟨oa, oc, rfl⟩ : ∃ A c, o1 = .slice A L.len c := (by obtain ⟨_, ho1, _⟩ := hr; exact row_form ho1); have HR1 := Lib.hid hr; have HB1 := Lib.hid hb; have HD1 := Lib.hid (HD.out.below (hb.mono HD.out.le)); clear hr hb)
        | (go_at_call 39; refine (next_any B p n _ _ HD2.out.1 (by decide) (by decide)).mono ?_; rintro e w3 ⟨q, rfl, hq, hd⟩; have HD3 := Lib.hid (HD2.out.trans hd); clear hd)
        | (go_at_call 39; refine (next_any B p n _ _ HD1.out (by omega) (by omega)).mono ?_; rintro e w2 ⟨k, rfl, hk, hd⟩; have HD2 := Lib.hid hd; clear hd))
      have hkl : k < L.len := by omega
      have hlo := HD.out.le
      have hpB := HD.out.lt
      have z1 := HB1.out.size
      have z2 := HD3.out.2.size
      have hg3 : w.grownBy w3 (some p) := only_trans (only_of_below HB1.out _) HD3.out.2
      have HDW : Hid (DiePost B w p n w3) := ⟨HD3.out.1, hg3⟩
      have hr3 : RowN w3 w.heap.size S (.slice oa L.len oc) L := HR1.out.keep HD3.out.2 (fun q e => by injection e with e; omega) fun b hs hl => ⟨HD3.out.2.block b hl (by intro e; injection e with e; exact (hS b hs).2 e), hs⟩
      have ho3 : ∃ xs, w3.ownsRow w.heap.size 42 3 (.slice oa L.len oc) L.len xs := by obtain ⟨xs, h, _⟩ := hr3; exact ⟨xs, h⟩
      obtain ⟨g, rfl⟩ : ∃ g, oa = some ⟨g, 0, none⟩ := by
        obtain ⟨xs, h⟩ := ho3
        rcases h.2 with ⟨_, h⟩ | ⟨g, cap, cur, hv, _⟩
        · omega
        · injection hv with e1 _ _; exact ⟨g, e1⟩
      obtain ⟨P, t, v, kd, R, x, y, rfl, hP, c0, c1, c2, cf, hgl, hgs, hti, hxv, hyk, stor⟩ := hr3.at hkl
      obtain rfl | rfl | rfl | rfl | rfl : q = 0 ∨ q = 1 ∨ q = 2 ∨ q = 3 ∨ q = 4 := by omega
      · have HST := Lib.hid stor
        clear ih hyk hxv hr3 ho3 hg3 stor
        go_wp2_with (go_at_call 39; refine (next_any B p n _ _ (HD3.out.1.alloc _) (by decide) (by decide)).mono ?_; rintro e w5 ⟨i, rfl, hi, hd5⟩; have s5 := hd5.2.size; rw [asz] at s5; have hg5 : w5.heap[g]? = w3.heap[g]? := (hd5.2.block g (by rw [asz]; omega) (by intro e; injection e with e; omega)).trans (Below.heap_alloc _ _ _ hgs); have e0 : w5.cell? ⟨g, k * 3, none⟩ = some (.int .i64 t) := (World.cell?_of_block (w := w3) (a := ⟨g, k * 3, none⟩) hg5).trans c0; have ef : w5.frozen? ⟨g, k * 3, none⟩ = false := (World.frozen?_of_block (w := w3) (a := ⟨g, k * 3, none⟩) hg5).trans (cf _); obtain ⟨z, ez, hz⟩ := lit9 w3 _ (hd5.2.block w3.heap.size (by rw [asz]; omega) (by intro e; injection e with e; omega)) hi; have HZ := Lib.hid hz; have HG5 := Lib.hid hg5; have D5 := Lib.hid hd5; clear hz hg5 hd5)
        go_ret
        have hD5 : DiePost B w p n w5 := HDW.out.trans ⟨D5.out.1, only_trans (only_alloc (World.grownBy.refl w3 _) _) D5.out.2⟩
        refine odd_close hD5 hlo hgl ((HST.out w5 S HG5.out (fun b hs hl => ⟨(D5.out.2.block b (by rw [asz]; omega) (by intro e; injection e with e; exact (hS b hs).2 e)).trans (Below.heap_alloc _ _ _ hl), hs⟩) (fun b h e => by have := (hS b h).1; omega)).1 _ HZ.out) (fun b h => .inl h) (by omega) (by omega) (by omega)
      · obtain ⟨xa, xc, rfl⟩ := hxv.form2
        have hvb : v.length ≤ 1000000000000 := by have := Ns.lmx_app P (.cons t v kd R); simp only [Ns.lmx] at this; omega
        have HX := Lib.hid hxv
        have HST := Lib.hid stor
        have HVB := Lib.hid hvb
        clear ih hyk hxv hr3 ho3 hg3 stor
        go_wp2_with (first
          | (at_builtin; (with_reducible refine wpList_more rfl (.const (.slice none 0 0)) (.tmp 53) rfl w3.heap.size (.slice none 0 0) [] rfl (OwnB.nil _ _) xa v.length xc v _ rfl HX.out (by have := HVB.out; simp; omega) (Nat.le_refl _) ?_); intro v4 w4 hgr; rw [List.nil_append] at hgr; have G4 := Lib.hid hgr; obtain ⟨a4, c4, rfl⟩ := hgr.1.form; have z4 := hgr.2.1.size; have O4 := Lib.hid (show OwnB w4 w3.heap.size (.slice a4 v.length c4) v from hgr.1); clear hgr)
          | (at_builtin; (with_reducible refine wpList_more rfl (.tmp 54) (.tmp 55) rfl w3.heap.size (.slice a4 v.length c4) v rfl (O4.out.alloc _) (some ⟨w4.heap.size, 0, none⟩) 1 1 [7] _ rfl (lit7 w4 _) (by have := HVB.out; simp; omega) (by rw [asz]; omega) ?_); intro v5 w5 hgr; obtain ⟨l5, E5, k5⟩ := nameL (v ++ [7]) (v.length + 1) (by simp); rw [E5.out] at hgr; obtain ⟨a5, c5, rfl⟩ := hgr.1.form; have b5 : Below w3.heap.size w3 w5 := G4.out.2.1.trans (((Below.refl _ _).alloc z4 _).trans hgr.2.1); have z5 := b5.size; have hg5 : w5.heap[g]? = w3.heap[g]? := b5.block g hgs; have e1 : w5.cell? ⟨g, k * 3 + 1, none⟩ = some (.slice xa v.length xc) := (World.cell?_of_block (w := w3) (a := ⟨g, k * 3 + 1, none⟩) hg5).trans c1; have ef : w5.frozen? ⟨g, k * 3 + 1, none⟩ = false := (World.frozen?_of_block (w := w3) (a := ⟨g, k * 3 + 1, none⟩) hg5).trans (cf _); have HG5 := Lib.hid hg5; have G5 := Lib.hid hgr; have B5 := Lib.hid b5; clear hgr b5 hg5))
        go_ret
        have hD5 : DiePost B w p n w5 := HDW.out.trans ⟨HD3.out.1.below (B5.out.mono HD3.out.1.le), only_of_below B5.out _⟩
        refine odd_close (v' := l5) hD5 hlo hgl ((HST.out w5 (fun b => S b ∨ New w3 w5 b) HG5.out (fun b hs hl => ⟨B5.out.block b hl, .inl hs⟩) (fun b h e => by rcases h with h | h; have := (hS b h).1; omega; have := h.1; omega)).2.1 _ l5 ((G5.out.1.out (by have := HVB.out; omega) w3 (Nat.le_refl _)).keep fun b hs _ => ⟨rfl, .inr hs⟩)) (fun b h => by rcases h with h | h; exact .inl h; exact .inr (by have := h.1; omega)) (by omega) (by omega) (by omega)
      · obtain ⟨ka, kc, rfl⟩ := hyk.form2
        have hkb : kd.len ≤ 1000000000 := by have := kd.cnt_len; have h := Ns.all_app P (.cons t v kd R); simp only [Ns.all] at h; omega
        have HK := Lib.hid hyk
        have HST := Lib.hid stor
        have HKB := Lib.hid hkb
        have hS3 : ∀ b, S b → b < w3.heap.size := fun b h => by have := (hS b h).1; omega
        have HS3 := Lib.hid hS3
        clear ih hyk hxv hr3 ho3 hg3 stor hS3 hkb
        go_wp2_with (first
          | (at_builtin; (with_reducible refine wpList_copyA rfl (.const (.slice none 0 0)) (.tmp 67) rfl rfl kd _ ka kc (by have := HKB.out; omega) rfl HK.out ?_); intro o4 w4 hr hb; obtain ⟨a4, c4, rfl⟩ : ∃ A c, o4 = .slice A kd.len c := (by obtain ⟨_, ho1, _⟩ := hr; exact row_form ho1); have R4 := Lib.hid hr; have B4 := Lib.hid hb; have z4 := hb.size; clear hr hb)
          | (at_builtin; (with_reducible refine wpList_nodeN rfl (.tmp 68) (.tmp 70) rfl w3.heap.size _ _ kd rfl R4.out 4 [] .nil (.slice none 0 0) (.slice none 0 0) _ w4.heap.size rfl rfl (by unfold I64in; omega) (BsS.nil0 _ _) (NsS.nil0 _ _) (by have := HKB.out; omega) (by omega) HS3.out ?_); intro o5 w5 hr hb; obtain ⟨K5, EK⟩ : ∃ K, Hid (kd.app (.cons 4 [] .nil .nil) = K) := ⟨_, rfl⟩; rw [EK.out] at hr; have b5 : Below w3.heap.size w3 w5 := B4.out.trans hb; obtain ⟨a5, c5, rfl⟩ : ∃ A c, o5 = .slice A K5.len c := (by obtain ⟨_, ho1, _⟩ := hr; exact row_form ho1); have z5 := b5.size; have hg5 : w5.heap[g]? = w3.heap[g]? := b5.block g hgs; have e2 : w5.cell? ⟨g, k * 3 + 2, none⟩ = some (.slice ka kd.len kc) := (World.cell?_of_block (w := w3) (a := ⟨g, k * 3 + 2, none⟩) hg5).trans c2; have ef : w5.frozen? ⟨g, k * 3 + 2, none⟩ = false := (World.frozen?_of_block (w := w3) (a := ⟨g, k * 3 + 2, none⟩) hg5).trans (cf _); have HG5 := Lib.hid hg5; have R5 := Lib.hid hr; have B5 := Lib.hid b5; clear hr hb b5 hg5))
        go_ret
        have hD5 : DiePost B w p n w5 := HDW.out.trans ⟨HD3.out.1.below (B5.out.mono HD3.out.1.le), only_of_below B5.out _⟩
        have hKl : K5.len = kd.len + 1 := by rw [← EK.out, Ns.len_app]; rfl
        have hKa : K5.all = kd.all + 1 := by rw [← EK.out, Ns.all_app]; rfl
        have hKm : K5.lmx = kd.lmx + 12 := by rw [← EK.out, Ns.lmx_app]; rfl
        have hKB := HKB.out
        refine odd_close (kd' := K5) hD5 hlo hgl ((HST.out w5 (fun b => S b ∨ New w3 w5 b) HG5.out (fun b hs hl => ⟨B5.out.block b hl, .inl hs⟩) (fun b h e => by rcases h with h | h; have := (hS b h).1; omega; have := h.1; omega)).2.2 _ K5 (R5.out.nss (by omega) (fun _ h => .inl h) (fun b h1 h2 => .inr ⟨h1, h2⟩))) (fun b h => by rcases h with h | h; exact .inl h; exact .inr (by have := h.1; omega)) (by omega) (by omega) (by omega)
      · obtain ⟨ka, kc, rfl⟩ := hyk.form2
        have hka : kd.all < (P.app (.cons t v kd R)).all := by rw [Ns.all_app]; simp only [Ns.all]; omega
        have hkx : kd.lmx ≤ 1000000000000 := by have := Ns.lmx_app P (.cons t v kd R); simp only [Ns.lmx] at this; omega
        have HI := Lib.hid (ih kd.all (by omega) kd (.slice ka kd.len kc) B p n S w3 (Nat.le_refl _) (by omega) hkx (fun b hs => ⟨by have := (hS b hs).1; omega, (hS b hs).2⟩) hyk HD3.out.1)
        have HST := Lib.hid stor
        clear ih hyk hxv hr3 ho3 hg3 stor hkx
        go_wp2_with (go_at_call 37; refine HI.out.mono ?_; rintro e w5 ⟨kv, K', rfl, hk', ha', hm', hd5⟩; obtain ⟨ja, jc, rfl⟩ := hk'.form2; have hg5 : w5.heap[g]? = w3.heap[g]? := hd5.2.block g hgs (by intro e; injection e with e; omega); have e2 : w5.cell? ⟨g, k * 3 + 2, none⟩ = some (.slice ka kd.len kc) := (World.cell?_of_block (w := w3) (a := ⟨g, k * 3 + 2, none⟩) hg5).trans c2; have ef : w5.frozen? ⟨g, k * 3 + 2, none⟩ = false := (World.frozen?_of_block (w := w3) (a := ⟨g, k * 3 + 2, none⟩) hg5).trans (cf _); have HG5 := Lib.hid hg5; have K5 := Lib.hid hk'; have D5 := Lib.hid hd5; clear hg5 hk' hd5)
        go_ret
        refine odd_close (HDW.out.trans D5.out) hlo hgl ((HST.out w5 (fun b => S b ∨ New w3 w5 b) HG5.out (fun b hs hl => ⟨D5.out.2.block b hl (by intro e; injection e with e; exact (hS b hs).2 e), .inl hs⟩) (fun b h => by rcases h with h | h; exact (fun e => by have := (hS b h).1; omega); exact (fun e => by have := h.1; omega))).2.2 _ K' K5.out) (fun b h => by rcases h with h | h; exact .inl h; exact .inr (by have := h.1; omega)) (by omega) (by omega) (by omega)
      · obtain ⟨ka, kc, rfl⟩ := hyk.form2
        have hka : kd.all < (P.app (.cons t v kd R)).all := by rw [Ns.all_app]; simp only [Ns.all]; omega
        have hkx : kd.lmx ≤ 1000000000000 := by have := Ns.lmx_app P (.cons t v kd R); simp only [Ns.lmx] at this; omega
        have HI := Lib.hid (ih kd.all (by omega) kd (.slice ka kd.len kc) B p n S w3 (Nat.le_refl _) (by omega) hkx (fun b hs => ⟨by have := (hS b hs).1; omega, (hS b hs).2⟩) hyk HD3.out.1)
        have HST := Lib.hid stor
        clear ih hyk hxv hr3 ho3 hg3 stor hkx
        go_wp2_with (go_at_call 37; refine HI.out.mono ?_; rintro e w5 ⟨kv, K', rfl, hk', ha', hm', hd5⟩; obtain ⟨ja, jc, rfl⟩ := hk'.form2; have hg5 : w5.heap[g]? = w3.heap[g]? := hd5.2.block g hgs (by intro e; injection e with e; omega); have e2 : w5.cell? ⟨g, k * 3 + 2, none⟩ = some (.slice ka kd.len kc) := (World.cell?_of_block (w := w3) (a := ⟨g, k * 3 + 2, none⟩) hg5).trans c2; have ef : w5.frozen? ⟨g, k * 3 + 2, none⟩ = false := (World.frozen?_of_block (w := w3) (a := ⟨g, k * 3 + 2, none⟩) hg5).trans (cf _); have HG5 := Lib.hid hg5; have K5 := Lib.hid hk'; have D5 := Lib.hid hd5; clear hg5 hk' hd5)
        go_ret
        refine odd_close (HDW.out.trans D5.out) hlo hgl ((HST.out w5 (fun b => S b ∨ New w3 w5 b) HG5.out (fun b hs hl => ⟨D5.out.2.block b hl (by intro e; injection e with e; exact (hS b hs).2 e), .inl hs⟩) (fun b h => by rcases h with h | h; exact (fun e => by have := (hS b h).1; omega); exact (fun e => by have := h.1; omega))).2.2 _ K' K5.out) (fun b h => by rcases h with h | h; exact .inl h; exact .inr (by have := h.1; omega)) (by omega) (by omega) (by omega)
end Go.Proofs.Ytljalnfjneeieaa
