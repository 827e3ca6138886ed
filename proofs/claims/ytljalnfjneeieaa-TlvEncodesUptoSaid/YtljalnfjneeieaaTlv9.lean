/- Layer 2: words for the reader's object, objects and kids. -/
import Derived.Test.YtljalnfjneeieaaTlv8
namespace Go.Proofs.Ytljalnfjneeieaa
open Go.RowKit Go.Deep

/-- What object answers. -/
def ObjOut (r : Except Int Obj1) (w : World) (p : Nat) (bv : Value) (a : Nat) (st : Bool) (e : Ending) (w' : World) : Prop :=
  match r with
  | .error er => er ≠ 0 ∧ (∃ t : Int, e = .returned (.tuple #[.agg #[.int .i64 t, .slice none 0 0, .slice none 0 0], .int .i64 er])) ∧ (∃ a' c', Rd w' p bv a' st c') ∧ w.grownBy w' (some p)
  | .ok o => ∃ vv kv, e = .returned (.tuple #[.agg #[.int .i64 o.tag, vv, kv], .int .i64 0]) ∧ BsS w' (New w w') vv o.val ∧ NsS w' (New w w') kv o.kids ∧ I64in o.tag ∧ Rd w' p bv (a + o.used) st o.count ∧ w.grownBy w' (some p)
/-- What objects and kids answer. -/
def ListOut (r : Except Int Lst) (w : World) (p : Nat) (bv : Value) (a : Nat) (st : Bool) (e : Ending) (w' : World) : Prop :=
  match r with
  | .error er => er ≠ 0 ∧ e = .returned (.tuple #[.slice none 0 0, .int .i64 er]) ∧ (∃ a' c', Rd w' p bv a' st c') ∧ w.grownBy w' (some p)
  | .ok o => ∃ v, e = .returned (.tuple #[v, .int .i64 0]) ∧ NsS w' (New w w') v o.list ∧ Rd w' p bv (a + o.used) st o.count ∧ w.grownBy w' (some p)
/-- Inside object: the reader, and the block of the result, still zero. -/
def OSt (w wi : World) (p : Nat) (bv : Value) (a : Nat) (st : Bool) (c : Nat) : Prop :=
  Rd wi p bv a st c ∧ w.grownBy wi (some p) ∧ wi.heap[w.heap.size]? = some (.cells #[.int .i64 0, .slice none 0 0, .slice none 0 0] 42 (0, 0)) ∧ p < w.heap.size
theorem OSt.start {w : World} {p : Nat} {bv : Value} {a : Nat} {st : Bool} {c : Nat} (h : Rd w p bv a st c) : OSt w (w.alloc (.cells #[.int .i64 0, .slice none 0 0, .slice none 0 0] 42)) p bv a st c :=
  ⟨(Below.heap_alloc w _ p h.lt).trans h, only_alloc (World.grownBy.refl w _) _, heap_alloc_new _ _, h.lt⟩
theorem OSt.step {w wi wj : World} {p : Nat} {bv : Value} {a a' : Nat} {st : Bool} {c c' : Nat} (h : OSt w wi p bv a st c) (hr : Rd wj p bv a' st c') (hg : wi.grownBy wj (some p)) : OSt w wj p bv a' st c' :=
  ⟨hr, only_trans h.2.1 hg, (hg.block _ (Array.getElem?_eq_some_iff.1 h.2.2.1).1 (by intro e; injection e with e; have := h.2.2.2; omega)).trans h.2.2.1, h.2.2.2⟩
theorem OSt.zc {w wi : World} {p : Nat} {bv : Value} {a : Nat} {st : Bool} {c : Nat} (h : OSt w wi p bv a st c) : wi.cell? ⟨w.heap.size, 0, none⟩ = some (.int .i64 0) ∧ wi.cell? ⟨w.heap.size, 1, none⟩ = some (.slice none 0 0) ∧ wi.cell? ⟨w.heap.size, 2, none⟩ = some (.slice none 0 0) := by
  refine ⟨?_, ?_, ?_⟩ <;> (rw [cell_of_row _ _ _ _ _ _ h.2.2.1]; rfl)
theorem OSt.zf {w wi : World} {p : Nat} {bv : Value} {a : Nat} {st : Bool} {c : Nat} (h : OSt w wi p bv a st c) (o : Nat) : wi.frozen? ⟨w.heap.size, o, none⟩ = false := by simp [World.frozen?, h.2.2.1]
theorem OSt.bytes {w wi : World} {p : Nat} {bv x : Value} {a : Nat} {st : Bool} {c : Nat} {l : List UInt8} (h : OSt w wi p bv a st c) (hB : BsS w (· ≠ p) x l) : BsS wi (· ≠ p) x l :=
  hB.keep fun b hs hl => ⟨h.2.1.block b hl (by intro e; injection e with e; exact hs (by omega)), hs⟩
theorem NumOut.err {er : Int} {w : World} {p : Nat} {bv : Value} {a : Nat} {st : Bool} {c : Nat} {e : Ending} {w' : World} (h : NumOut (.error er) w p bv a st c e w') : e = .returned (.tuple #[.int .i64 0, .int .i64 er]) ∧ (∃ a', Rd w' p bv a' st c) ∧ w.grownBy w' (some p) :=
  ⟨h.1, ⟨_, h.2.1.choose_spec.1⟩, h.2.2⟩
theorem NumOut.got {n : Int} {k : Nat} {w : World} {p : Nat} {bv : Value} {a : Nat} {st : Bool} {c : Nat} {e : Ending} {w' : World} (h : NumOut (.ok (n, k)) w p bv a st c e w') : e = .returned (.tuple #[.int .i64 n, .int .i64 0]) ∧ Rd w' p bv (a + k) st c ∧ w.grownBy w' (some p) := by
  obtain ⟨h1, ⟨a', h2, h3⟩, h4⟩ := h
  have := h3 _ rfl
  subst this
  exact ⟨h1, h2, h4⟩
theorem tagP_err {l : List UInt8} {er : Int} (h : tagP l = .error er) : er ≠ 0 := by
  unfold tagP at h
  split at h
  · injection h with h; omega
  · split at h
    · split at h
      · injection h with h; omega
      · split at h
        · cases h
        · injection h with h; omega
    · split at h
      · cases h
      · injection h with h; omega
theorem tagP_ok {l : List UInt8} {t : Int} {k : Nat} (h : tagP l = .ok (t, k)) : tagV t = true ∧ 1 ≤ k ∧ k ≤ l.length := by
  unfold tagP at h
  split at h
  · cases h
  · split at h
    · split at h
      · cases h
      · split at h
        · injection h with h; injection h with h1 h2; subst h1 h2; exact ⟨‹_›, by omega, by omega⟩
        · cases h
    · split at h
      · injection h with h; injection h with h1 h2; subst h1 h2; exact ⟨‹_›, by omega, by omega⟩
      · cases h
theorem sizeP_err {l : List UInt8} {o st : Bool} {er : Int} (h : sizeP l o st = .error er) : er ≠ 0 := by
  unfold sizeP at h
  split at h
  · injection h with h; omega
  · split at h
    · cases h
    · split at h
      · injection h with h; omega
      · split at h
        · split at h
          · cases h
          · injection h with h; omega
        · split at h
          · injection h with h; omega
          · split at h
            · injection h with h; omega
            · cases h
theorem sizeP_ok {l : List UInt8} {o st : Bool} {n : Int} {j : Nat} (h : sizeP l o st = .ok (n, j)) : 1 ≤ j ∧ j ≤ l.length ∧ n ≤ 4294967296 ∧ (0 ≤ n ∨ (n = -1 ∧ o = true)) := by
  unfold sizeP at h
  split at h
  · cases h
  · split at h
    · injection h with h; injection h with h1 h2; subst h1 h2
      have := bv_nn (gb l 0); have := bv_lt (gb l 0)
      exact ⟨by omega, by omega, by omega, .inl (by omega)⟩
    · split at h
      · cases h
      · split at h
        · split at h
          · injection h with h; injection h with h1 h2; subst h1 h2; exact ⟨by omega, by omega, by omega, .inr ⟨rfl, ‹_›⟩⟩
          · cases h
        · split at h
          · cases h
          · split at h
            · cases h
            · injection h with h; injection h with h1 h2; subst h1 h2
              have h5 : (gb l 0).toNat - 128 ≤ 4 := by
                have h6 : ¬ 132 < bv (gb l 0) := by assumption
                unfold bv at h6; omega
              have h7 := beV_lt l ((gb l 0).toNat - 128)
              have h8 : (256 : Int) ^ ((gb l 0).toNat - 128) ≤ 256 ^ 4 := by
                obtain h | h | h | h | h : (gb l 0).toNat - 128 = 0 ∨ (gb l 0).toNat - 128 = 1 ∨ (gb l 0).toNat - 128 = 2 ∨ (gb l 0).toNat - 128 = 3 ∨ (gb l 0).toNat - 128 = 4 := by omega
                all_goals rw [h]; decide
              exact ⟨by omega, by omega, by omega, .inl (beV_nn _ _)⟩
/-- What a reader of lists keeps to. -/
def Sound (L : List UInt8 → Nat → Nat → Bool → Except Int Lst) : Prop := ∀ l d c o, c ≤ 256 →
  (∀ r, L l d c o = .ok r → r.used ≤ l.length ∧ r.count ≤ 256 ∧ (o = false → r.used = l.length)) ∧ (∀ er, L l d c o = .error er → er ≠ 0)
theorem objF_sound {st : Bool} {L : List UInt8 → Nat → Nat → Bool → Except Int Lst} (hL : Sound L) {l : List UInt8} {d c : Nat} :
    (∀ o, objF st L l d c = .ok o → 2 ≤ o.used ∧ o.used ≤ l.length ∧ o.count ≤ 256 ∧ tagV o.tag = true) ∧ (∀ er, objF st L l d c = .error er → er ≠ 0) := by
  unfold objF
  cases ht : tagP l with
  | error e => exact ⟨fun o h => by simp at h, fun er h => by simp at h; subst h; exact tagP_err ht⟩
  | ok x =>
    obtain ⟨t, k⟩ := x
    obtain ⟨tv, k1, k2⟩ := tagP_ok ht
    simp only
    cases hs : sizeP (l.drop k) (tagC t && !st) st with
    | error e => exact ⟨fun o h => by simp at h, fun er h => by simp at h; subst h; exact sizeP_err hs⟩
    | ok y =>
      obtain ⟨n, j⟩ := y
      obtain ⟨j1, j2, n1, n2⟩ := sizeP_ok hs
      simp only
      rw [List.length_drop] at j2
      by_cases h1 : 8 < d
      · simp only [if_pos h1]
        exact ⟨fun o h => by simp at h, fun er h => by simp at h; omega⟩
      · simp only [if_neg h1]
        by_cases h2 : 256 < c + 1
        · simp only [if_pos h2]
          exact ⟨fun o h => by simp at h, fun er h => by simp at h; omega⟩
        · simp only [if_neg h2]
          by_cases h3 : ((l.drop (k + j)).length : Int) < n
          · simp only [if_pos h3]
            exact ⟨fun o h => by simp at h, fun er h => by simp at h; omega⟩
          · simp only [if_neg h3]
            rw [List.length_drop] at h3
            by_cases h4 : n < 0
            · simp only [if_pos h4]
              obtain ⟨g1, g2⟩ := hL (l.drop (k + j)) (d + 1) (c + 1) true (by omega)
              cases hr : L (l.drop (k + j)) (d + 1) (c + 1) true with
              | error e => exact ⟨fun o h => by simp at h, fun er h => by simp at h; subst h; exact g2 _ hr⟩
              | ok r =>
                obtain ⟨u1, u2, _⟩ := g1 r hr
                rw [List.length_drop] at u1
                exact ⟨fun o h => by simp at h; subst h; exact ⟨by simp only; omega, by simp only; omega, u2, tv⟩, fun er h => by simp at h⟩
            · simp only [if_neg h4]
              by_cases h5 : tagC t = true
              · simp only [if_pos h5]
                obtain ⟨g1, g2⟩ := hL ((l.drop (k + j)).take n.toNat) (d + 1) (c + 1) false (by omega)
                cases hr : L ((l.drop (k + j)).take n.toNat) (d + 1) (c + 1) false with
                | error e => exact ⟨fun o h => by simp at h, fun er h => by simp at h; subst h; exact g2 _ hr⟩
                | ok r =>
                  obtain ⟨u1, u2, _⟩ := g1 r hr
                  exact ⟨fun o h => by simp at h; subst h; exact ⟨by simp only; omega, by simp only; omega, u2, tv⟩, fun er h => by simp at h⟩
              · simp only [if_neg h5]
                exact ⟨fun o h => by simp at h; subst h; exact ⟨by simp only; omega, by simp only; omega, by simp only; omega, tv⟩, fun er h => by simp at h⟩
theorem headP_ok {l : List UInt8} {o : Bool} {u : Nat} (h : headP l o = some (.ok u)) : u ≤ l.length ∧ (o = false → u = l.length) := by
  unfold headP at h
  cases o with
  | true =>
    simp only [if_pos] at h
    split at h
    · cases h
    · split at h
      · injection h with h; injection h with h; subst h
        rename_i h1 h2
        refine ⟨?_, fun h => by cases h⟩
        rcases Nat.lt_or_ge 1 l.length with h3 | h3
        · omega
        · exact absurd (by rcases Nat.eq_zero_or_pos l.length with h4 | h4; exact .inl h4; exact .inr ⟨h2.1, by omega⟩) h1
      · cases h
  | false =>
    simp at h
    exact ⟨by omega, fun _ => by have := h.1; rw [this] at h ⊢; simp; omega⟩
theorem headP_err {l : List UInt8} {o : Bool} {er : Int} (h : headP l o = some (.error er)) : er ≠ 0 := by
  unfold headP at h
  split at h
  · split at h
    · injection h with h; injection h with h; omega
    · split at h <;> cases h
  · split at h <;> cases h
theorem listP_sound (st : Bool) (n : Nat) : Sound (listP st n) := by
  induction n with
  | zero =>
    intro l d c o hc
    rw [listP]
    cases hh : headP l o with
    | none => exact ⟨fun r h => by simp at h, fun er h => by simp at h; omega⟩
    | some x =>
      cases x with
      | error e => exact ⟨fun r h => by simp at h, fun er h => by simp at h; subst h; exact headP_err hh⟩
      | ok u => exact ⟨fun r h => by simp at h; subst h; exact ⟨(headP_ok hh).1, hc, (headP_ok hh).2⟩, fun er h => by simp at h⟩
  | succ n ih =>
    intro l d c o hc
    rw [listP]
    cases hh : headP l o with
    | some x =>
      cases x with
      | error e => exact ⟨fun r h => by simp at h, fun er h => by simp at h; subst h; exact headP_err hh⟩
      | ok u => exact ⟨fun r h => by simp at h; subst h; exact ⟨(headP_ok hh).1, hc, (headP_ok hh).2⟩, fun er h => by simp at h⟩
    | none =>
      simp only
      obtain ⟨s1, s2⟩ := objF_sound (st := st) ih (l := l) (d := d) (c := c)
      cases ho : objF st (listP st n) l d c with
      | error e => exact ⟨fun r h => by simp at h, fun er h => by simp at h; subst h; exact s2 _ ho⟩
      | ok x =>
        obtain ⟨x1, x2, x3, _⟩ := s1 x ho
        simp only
        obtain ⟨g1, g2⟩ := ih (l.drop x.used) d x.count o x3
        cases hr : listP st n (l.drop x.used) d x.count o with
        | error e => exact ⟨fun r h => by simp at h, fun er h => by simp at h; subst h; exact g2 _ hr⟩
        | ok r =>
          obtain ⟨u1, u2, u3⟩ := g1 r hr
          rw [List.length_drop] at u1 u3
          exact ⟨fun q h => by simp at h; subst h; exact ⟨by simp only; omega, u2, fun e => by have := u3 e; simp only; omega⟩, fun er h => by simp at h⟩
end Go.Proofs.Ytljalnfjneeieaa
