/- Layer 2: words for the reader's object, objects and kids. -/
import Derived.Test.YtljalnfjneeieaaTlv6
import Derived.Laws.Bits64b
/- Layer 2: the reader behind its pointer, and the walk of its tag. -/
namespace Go.Proofs.Ytljalnfjneeieaa
open Go.RowKit Go.Deep

theorem or_byte (n b : Nat) (hn : n < 1099511627776) (hb : b < 256) : bits .or .i64 ((n : Int) * 256) (b : Int) = (n : Int) * 256 + b := by
  have h1 : (BitVec.ofInt 64 ((n * 256 : Nat) : Int)).toNat = n * 256 := by
    rw [BitVec.ofInt_natCast, BitVec.toNat_ofNat]; exact Nat.mod_eq_of_lt (by omega)
  have h2 : (BitVec.ofInt 64 (b : Int)).toNat = b := by
    rw [BitVec.ofInt_natCast, BitVec.toNat_ofNat]; exact Nat.mod_eq_of_lt (by omega)
  have h3 : n * 256 ||| b = n * 256 + b := by
    have := Nat.two_pow_add_eq_or_of_lt (i := 8) (b := b) (by omega) n
    rw [Nat.mul_comm] at this
    exact this.symm
  have e : (n : Int) * 256 = ((n * 256 : Nat) : Int) := by omega
  rw [e]
  show IntKind.i64.wrap ((BitVec.ofInt 64 ((n * 256 : Nat) : Int) ||| BitVec.ofInt 64 (b : Int)).toNat : Int) = _
  rw [BitVec.toNat_or, h1, h2, h3, IntKind.wrap_i64]
  omega
/-- The bytes from a place on, up to another one. -/
def rst (B : List UInt8) (a e : Nat) : List UInt8 := (B.take e).drop a
theorem rst_len {B : List UInt8} {a e : Nat} (h : e ≤ B.length) : (rst B a e).length = e - a := by simp [rst]; omega
theorem gb_rst {B : List UInt8} {a e j : Nat} (h : e ≤ B.length) (hj : a + j < e) : gb (rst B a e) j = gb B (a + j) := by
  have h1 : a + j < B.length := by omega
  unfold gb rst
  rw [List.getD_eq_getElem?_getD, List.getD_eq_getElem?_getD, List.getElem?_drop, List.getElem?_take, if_pos hj]
theorem rst_drop (B : List UInt8) (a e k : Nat) : (rst B a e).drop k = rst B (a + k) e := by simp [rst, List.drop_drop]
theorem rst_take (B : List UInt8) (a e n : Nat) (h : a + n ≤ e) : (rst B a e).take n = rst B a (a + n) := by
  unfold rst
  rw [List.take_drop, List.take_take, Nat.min_eq_left h]
/-- The reader's block. -/
abbrev Rd (w : World) (p : Nat) (bv : Value) (at_ : Nat) (st : Bool) (cnt : Nat) : Prop := w.heap[p]? = some (.cells #[bv, .int .i64 at_, .bool st, .int .i64 cnt] 62 (0, 0))
theorem Rd.lt {w : World} {p : Nat} {bv : Value} {a : Nat} {st : Bool} {c : Nat} (h : Rd w p bv a st c) : p < w.heap.size := (Array.getElem?_eq_some_iff.1 h).1
theorem Rd.c0 {w : World} {p : Nat} {bv : Value} {a : Nat} {st : Bool} {c : Nat} (h : Rd w p bv a st c) : w.cell? ⟨p, 0, none⟩ = some bv := by rw [cell_of_row _ _ _ _ _ _ h]; rfl
theorem Rd.c1 {w : World} {p : Nat} {bv : Value} {a : Nat} {st : Bool} {c : Nat} (h : Rd w p bv a st c) : w.cell? ⟨p, 1, none⟩ = some (.int .i64 a) := by rw [cell_of_row _ _ _ _ _ _ h]; rfl
theorem Rd.c2 {w : World} {p : Nat} {bv : Value} {a : Nat} {st : Bool} {c : Nat} (h : Rd w p bv a st c) : w.cell? ⟨p, 2, none⟩ = some (.bool st) := by rw [cell_of_row _ _ _ _ _ _ h]; rfl
theorem Rd.c3 {w : World} {p : Nat} {bv : Value} {a : Nat} {st : Bool} {c : Nat} (h : Rd w p bv a st c) : w.cell? ⟨p, 3, none⟩ = some (.int .i64 c) := by rw [cell_of_row _ _ _ _ _ _ h]; rfl
theorem Rd.fr {w : World} {p : Nat} {bv : Value} {a : Nat} {st : Bool} {c : Nat} (h : Rd w p bv a st c) (o : Nat) : w.frozen? ⟨p, o, none⟩ = false := by simp [World.frozen?, h]
theorem set_block {w : World} {g i : Nat} {cs : Array Value} {t : TypeId} (h : w.heap[g]? = some (.cells cs t (0, 0))) (v : Value) : (w.setCell ⟨g, i, none⟩ v).heap[g]? = some (.cells (cs.setIfInBounds i v) t (0, 0)) := by
  have hlt : g < w.heap.size := (Array.getElem?_eq_some_iff.1 h).1
  have h' : w.heap[g] = .cells cs t (0, 0) := by simpa [Array.getElem?_eq_getElem hlt] using h
  show (w.heap.modify g _)[g]? = _
  rw [Array.getElem?_eq_getElem (by simpa using hlt), Array.getElem_modify_self, h']
  rfl
theorem Rd.at_ {w : World} {p : Nat} {bv : Value} {a : Nat} {st : Bool} {c : Nat} (h : Rd w p bv a st c) (n : Nat) (z : Int) (hz : z = n) : Rd (w.setCell ⟨p, 1, none⟩ (.int .i64 z)) p bv n st c := by
  subst hz; exact set_block h _
theorem Rd.cnt {w : World} {p : Nat} {bv : Value} {a : Nat} {st : Bool} {c : Nat} (h : Rd w p bv a st c) (n : Nat) (z : Int) (hz : z = n) : Rd (w.setCell ⟨p, 3, none⟩ (.int .i64 z)) p bv a st n := by
  subst hz; exact set_block h _
theorem Rd.drewN {w : World} {p : Nat} {bv : Value} {a : Nat} {st : Bool} {c : Nat} (h : Rd w p bv a st c) (n : Nat) : Rd (w.drewN n) p bv a st c := h
def valOf : Except Int (Int × Nat) → Int
  | .error _ => 0
  | .ok x => x.1
/-- A number that was read from the reader's place on. -/
def NumOut (r : Except Int (Int × Nat)) (w : World) (p : Nat) (bv : Value) (a : Nat) (st : Bool) (c : Nat) (e : Ending) (w' : World) : Prop :=
  e = .returned (.tuple #[.int .i64 (valOf r), .int .i64 (errOf r)]) ∧ (∃ a', Rd w' p bv a' st c ∧ ∀ x, r = .ok x → a' = a + x.2) ∧ w.grownBy w' (some p)
theorem NumOut.no {w w' : World} {p : Nat} {bv : Value} {a : Nat} {st : Bool} {c : Nat} {r : Except Int (Int × Nat)} {er : Int} (hr : r = .error er) (a' : Nat) (h : Rd w' p bv a' st c) (hg : w.grownBy w' (some p)) :
    NumOut r w p bv a st c (.returned (.tuple #[.int .i64 0, .int .i64 er])) w' := by
  subst hr; exact ⟨rfl, ⟨a', h, fun x hx => by cases hx⟩, hg⟩
theorem NumOut.yes {w w' : World} {p : Nat} {bv : Value} {a : Nat} {st : Bool} {c : Nat} {r : Except Int (Int × Nat)} {n : Int} {k : Nat} (hr : r = .ok (n, k)) (h : Rd w' p bv (a + k) st c) (hg : w.grownBy w' (some p)) :
    NumOut r w p bv a st c (.returned (.tuple #[.int .i64 n, .int .i64 0])) w' := by
  subst hr; exact ⟨rfl, ⟨_, h, fun x hx => by injection hx with hx; subst hx; rfl⟩, hg⟩
/-- What the walk wants of the bytes: the cell at a place. -/
theorem BsS.cellAt {w : World} {S : Nat → Prop} {A : Option Addr} {n k : Nat} {l : List UInt8} (h : BsS w S (.slice A n k) l) {b off : Nat} (hA : A = some ⟨b, off, none⟩) {j : Nat} (hj : j < l.length) : w.cell? ⟨b, off + j, none⟩ = some (U8 (gb l j)) := by
  obtain ⟨a, c, hv, _, _, _, h4⟩ := h
  injection hv with e _ _
  obtain ⟨b', off', e', _, hc⟩ := h4 (by omega)
  rw [← e, hA] at e'
  injection e' with e'
  injection e' with e1 e2 _
  rw [e1, e2]
  exact hc j hj
set_option maxRecDepth 100000 in
set_option maxHeartbeats 1000000 in
theorem tag_any (B : List UInt8) (bb bo bc p a e cnt : Nat) (st : Bool) (w : World) (hB : BsS w (· ≠ p) (.slice (some ⟨bb, bo, none⟩) B.length bc) B) (he : e ≤ B.length) (hr : Rd w p (.slice (some ⟨bb, bo, none⟩) B.length bc) a st cnt) (ha : a ≤ e) :
    Calls Try.prog 44 #[.pointer (some ⟨p, 0, none⟩), .int .i64 e] w (NumOut (tagP (rst B a e)) w p (.slice (some ⟨bb, bo, none⟩) B.length bc) a st cnt) := by
  have c0 := hr.c0; have c1 := hr.c1
  have hfz := hr.fr 1
  have hlen := hB.len
  have HR := Lib.hid hr; have HB := Lib.hid hB
  clear hr hB
  by_cases h0 : a = e
  · subst h0
    have E : Hid (tagP (rst B a a) = .error 6) := by unfold tagP; rw [if_pos (by rw [rst_len he]; omega)]; rfl
    go_enter Try.func44, Try.ntmps44
    go_wp2_with fail
    go_ret2
    exact NumOut.no E.out _ HR.out (World.grownBy.refl w _)
  · have hlt : a < e := by omega
    have d0 : decide ((a : Int) ≥ e) = false := by simp; omega
    have hl : a < B.length := by omega
    have q1 := HB.out.cellAt rfl hl
    have b1 : (0 : Int) ≤ a := by omega
    have b2 : (a : Int) < B.length := by omega
    have g0 : gb (rst B a e) 0 = gb B a := gb_rst he (by omega)
    have L := Lib.hid (fun w => long_any (bv (gb B a)) (bv_nn _) (by have := bv_lt (gb B a); omega) w)
    have V := Lib.hid (fun t ht w => valid_any t ht w)
    by_cases h1 : bv (gb B a) % 32 = 31
    · have h1' : (bv (gb B a) % 32 == 31) = true := by simpa using h1
      rw [h1'] at L
      by_cases h2 : a + 1 = e
      · have E : Hid (tagP (rst B a e) = .error 6) := by unfold tagP; rw [if_neg (by rw [rst_len he]; omega), g0, if_pos h1, if_pos (by rw [rst_len he]; omega)]; rfl
        have h2 : e = a + 1 := h2.symm
        subst h2
        clear h0 h1 h1' g0
        go_enter Try.func44, Try.ntmps44
        go_wp2_with fail
        go_quiet (fail)
        go_wp2_with (go_at_call 38; refine (L.out _).mono ?_; rintro e w' ⟨rfl, rfl⟩)
        go_ret2
        exact NumOut.no E.out _ ((HR.out.drewN nq).at_ (a + 1) _ (by omega)) (only_setCell (only_drewN (World.grownBy.refl w _) nq) (.inl rfl) _)
      · have hlt2 : a + 1 < e := by omega
        have hl2 : a + 1 < B.length := by omega
        have q2 := HB.out.cellAt rfl hl2
        have hbp : bb ≠ p := by
          obtain ⟨_, _, hv, _, _, _, h4⟩ := HB.out
          obtain ⟨_, _, e1, e2, _⟩ := h4 (by omega)
          injection hv with e3 _ _
          rw [← e3] at e1
          injection e1 with e1
          injection e1 with e1 _ _
          rw [e1]; exact e2
        have g1 : gb (rst B a e) 1 = gb B (a + 1) := gb_rst he (by omega)
        obtain ⟨x, hx⟩ : ∃ x : Nat, x = (gb B a).toNat := ⟨_, rfl⟩
        obtain ⟨y, hy⟩ : ∃ y : Nat, y = (gb B (a + 1)).toNat := ⟨_, rfl⟩
        have ex : bv (gb B a) = x := by rw [hx]; rfl
        have ey : bv (gb B (a + 1)) = y := by rw [hy]; rfl
        have hxl : x < 256 := by rw [hx]; exact UInt8.toNat_lt _
        have hyl : y < 256 := by rw [hy]; exact UInt8.toNat_lt _
        have o1 := or_byte x y (by omega) hyl
        have E : Hid (tagP (rst B a e) = if tagV ((x : Int) * 256 + y) = true then .ok ((x : Int) * 256 + y, 2) else .error 4) := by
          unfold tagP; rw [if_neg (by rw [rst_len he]; omega), g0, g1, if_pos h1, if_neg (by rw [rst_len he]; omega), ex, ey, Int.mul_comm]; rfl
        change w.cell? _ = some (.int .u8 (bv (gb B a))) at q1
        change w.cell? _ = some (.int .u8 (bv (gb B (a + 1)))) at q2
        rw [ex] at L q1
        rw [ey] at q2
        clear h0 h1 h1' g0 hx hy h2 ex ey g1
        go_enter Try.func44, Try.ntmps44
        go_wp2_with fail
        go_quiet (fail)
        go_wp2_with (go_at_call 38; refine (L.out _).mono ?_; rintro e w' ⟨rfl, rfl⟩)
        have HR1 := Lib.hid ((HR.out.drewN nq).at_ (a + 1) ((a : Int) + 1) (by omega))
        have HG1 := Lib.hid (only_setCell (only_drewN (World.grownBy.refl w (some p)) nq) (.inl rfl) (p := ⟨p, 1, none⟩) (.int .i64 ((a : Int) + 1)))
        have q3 : ((w.drewN nq).setCell ⟨p, 1, none⟩ (.int .i64 ((a : Int) + 1))).cell? ⟨bb, bo + (a + 1), none⟩ = some (.int .u8 y) := (World.cell?_of_block (w := w) (by rw [Below.heap_setCell _ _ _ _ hbp]; rfl)).trans q2
        obtain ⟨w1, hw1⟩ : ∃ w1, w1 = (w.drewN nq).setCell ⟨p, 1, none⟩ (.int .i64 ((a : Int) + 1)) := ⟨_, rfl⟩
        rw [← hw1] at HR1 HG1 q3 ⊢
        clear q2 c0 c1 hfz q1 hw1 L
        have c0 := HR1.out.c0
        have c1 := HR1.out.c1
        have hfz := HR1.out.fr 1
        have b3 : (0 : Int) ≤ (a : Int) + 1 := by omega
        have b4 : (a : Int) + 1 < B.length := by omega
        have V := Lib.hid (fun w => V.out ((x : Int) * 256 + y) ⟨by omega, by omega⟩ w)
        cases et : tagV ((x : Int) * 256 + y) with
        | false =>
          have E : Hid (tagP (rst B a e) = .error 4) := by rw [E.out, if_neg (by rw [et]; decide)]; rfl
          rw [et] at V
          clear et
          go_quiet (fail)
          go_wp2_with (go_at_call 12; refine (V.out _).mono ?_; rintro e w' ⟨rfl, rfl⟩)
          go_ret2
          exact NumOut.no E.out _ ((HR1.out.drewN nq).at_ (a + 1 + 1) _ (by omega)) (only_setCell (only_drewN HG1.out nq) (.inl rfl) _)
        | true =>
          have E : Hid (tagP (rst B a e) = .ok ((x : Int) * 256 + y, 2)) := by rw [E.out, if_pos et]; rfl
          rw [et] at V
          clear et
          go_quiet (fail)
          go_wp2_with (go_at_call 12; refine (V.out _).mono ?_; rintro e w' ⟨rfl, rfl⟩)
          go_ret2
          exact NumOut.yes E.out ((HR1.out.drewN nq).at_ (a + 2) _ (by omega)) (only_setCell (only_drewN HG1.out nq) (.inl rfl) _)
    · have h1' : (bv (gb B a) % 32 == 31) = false := by simpa using h1
      rw [h1'] at L
      have V := Lib.hid (fun w => V.out (bv (gb B a)) ⟨by have := bv_nn (gb B a); omega, by have := bv_lt (gb B a); omega⟩ w)
      cases et : tagV (bv (gb B a)) with
      | false =>
        have E : Hid (tagP (rst B a e) = .error 4) := by unfold tagP; rw [if_neg (by rw [rst_len he]; omega), g0, if_neg h1, if_neg (by rw [et]; decide)]; rfl
        rw [et] at V
        clear h0 h1 h1' g0 et
        go_enter Try.func44, Try.ntmps44
        go_wp2_with fail
        go_quiet (fail)
        go_wp2_with (first | (go_at_call 38; refine (L.out _).mono ?_; rintro e w' ⟨rfl, rfl⟩) | (go_at_call 12; refine (V.out _).mono ?_; rintro e w' ⟨rfl, rfl⟩))
        go_ret2
        exact NumOut.no E.out _ ((HR.out.drewN nq).at_ (a + 1) _ (by omega)) (only_setCell (only_drewN (World.grownBy.refl w _) nq) (.inl rfl) _)
      | true =>
        have E : Hid (tagP (rst B a e) = .ok (bv (gb B a), 1)) := by unfold tagP; rw [if_neg (by rw [rst_len he]; omega), g0, if_neg h1, if_pos et]; rfl
        rw [et] at V
        clear h0 h1 h1' g0 et
        go_enter Try.func44, Try.ntmps44
        go_wp2_with fail
        go_quiet (fail)
        go_wp2_with (first | (go_at_call 38; refine (L.out _).mono ?_; rintro e w' ⟨rfl, rfl⟩) | (go_at_call 12; refine (V.out _).mono ?_; rintro e w' ⟨rfl, rfl⟩))
        go_ret2
        exact NumOut.yes E.out ((HR.out.drewN nq).at_ (a + 1) _ (by omega)) (only_setCell (only_drewN (World.grownBy.refl w _) nq) (.inl rfl) _)
end Go.Proofs.Ytljalnfjneeieaa
/- Layer 2: the walk of the reader's length. -/
namespace Go.Proofs.Ytljalnfjneeieaa
open Go.RowKit Go.Deep

theorem beV_nn (l : List UInt8) (k : Nat) : 0 ≤ beV l k := by
  induction k with
  | zero => exact Int.le_refl _
  | succ k ih => rw [beV]; have := bv_nn (gb l (k + 1)); omega
theorem beV_lt (l : List UInt8) (k : Nat) : beV l k < 256 ^ k := by
  induction k with
  | zero => show (0 : Int) < 256 ^ 0; decide
  | succ k ih => rw [beV, Int.pow_succ]; have := bv_lt (gb l (k + 1)); omega
theorem sizeP_at (l : List UInt8) (f : UInt8) (x : Nat) (o st : Bool) (h : ¬ l.length = 0) (h0 : gb l 0 = f) (hx : x = f.toNat) : sizeP l o st = if (x : Int) < 128 then .ok (x, 1) else if 132 < (x : Int) then .error 5 else if (x : Int) = 128 then (if o = true then .ok (-1, 1) else .error 5)
    else if l.length < 1 + (x - 128) then .error 6 else if st = true ∧ (beV l (x - 128) < 128 ∨ (1 < x - 128 ∧ gb l 1 = 0)) then .error 5 else .ok (beV l (x - 128), 1 + (x - 128)) := by
  subst hx h0
  unfold sizeP
  rw [if_neg h]
  rfl
theorem top_byte2 (l : List UInt8) (z : Nat) (h : beV l 2 = z) : (z : Int) / 256 = 0 ↔ gb l 1 = 0 := by
  have b1 := bv_lt (gb l 1); have b2 := bv_lt (gb l 2); have b3 := bv_lt (gb l 3); have b4 := bv_lt (gb l 4)
  have n1 := bv_nn (gb l 1); have n2 := bv_nn (gb l 2); have n3 := bv_nn (gb l 3); have n4 := bv_nn (gb l 4)
  have e : (z : Int) / 256 = bv (gb l 1) := by
    rw [← h]; simp only [beV]; simp only [Nat.reduceAdd]; omega
  rw [e]
  exact ⟨fun h => bv_inj h, fun h => by rw [h]; rfl⟩
theorem top_byte3 (l : List UInt8) (z : Nat) (h : beV l 3 = z) : (z : Int) / 65536 = 0 ↔ gb l 1 = 0 := by
  have b1 := bv_lt (gb l 1); have b2 := bv_lt (gb l 2); have b3 := bv_lt (gb l 3); have b4 := bv_lt (gb l 4)
  have n1 := bv_nn (gb l 1); have n2 := bv_nn (gb l 2); have n3 := bv_nn (gb l 3); have n4 := bv_nn (gb l 4)
  have e : (z : Int) / 65536 = bv (gb l 1) := by
    rw [← h]; simp only [beV]; simp only [Nat.reduceAdd]; omega
  rw [e]
  exact ⟨fun h => bv_inj h, fun h => by rw [h]; rfl⟩
theorem top_byte4 (l : List UInt8) (z : Nat) (h : beV l 4 = z) : (z : Int) / 16777216 = 0 ↔ gb l 1 = 0 := by
  have b1 := bv_lt (gb l 1); have b2 := bv_lt (gb l 2); have b3 := bv_lt (gb l 3); have b4 := bv_lt (gb l 4)
  have n1 := bv_nn (gb l 1); have n2 := bv_nn (gb l 2); have n3 := bv_nn (gb l 3); have n4 := bv_nn (gb l 4)
  have e : (z : Int) / 16777216 = bv (gb l 1) := by
    rw [← h]; simp only [beV]; simp only [Nat.reduceAdd]; omega
  rw [e]
  exact ⟨fun h => bv_inj h, fun h => by rw [h]; rfl⟩
theorem BsS.ne {w : World} {S : Nat → Prop} {bb bo n c : Nat} {l : List UInt8} (h : BsS w S (.slice (some ⟨bb, bo, none⟩) n c) l) (hl : 0 < l.length) : S bb := by
  obtain ⟨_, _, hv, _, _, _, h4⟩ := h
  obtain ⟨_, _, e1, e2, _⟩ := h4 hl
  injection hv with e3 _ _
  rw [← e3] at e1
  injection e1 with e1
  injection e1 with e1 _ _
  rw [e1]; exact e2
set_option maxRecDepth 100000 in
set_option maxHeartbeats 1000000 in
theorem rlen_any (B : List UInt8) (bb bo bc p a e cnt : Nat) (st opn : Bool) (w : World) (hB : BsS w (· ≠ p) (.slice (some ⟨bb, bo, none⟩) B.length bc) B) (he : e ≤ B.length) (hr : Rd w p (.slice (some ⟨bb, bo, none⟩) B.length bc) a st cnt) (ha : a ≤ e) :
    Calls Try.prog 45 #[.pointer (some ⟨p, 0, none⟩), .int .i64 e, .bool opn] w (NumOut (sizeP (rst B a e) opn st) w p (.slice (some ⟨bb, bo, none⟩) B.length bc) a st cnt) := by
  have c0 := hr.c0; have c1 := hr.c1
  have hfz := hr.fr 1
  have hlen := hB.len
  have HR := Lib.hid hr; have HB := Lib.hid hB
  clear hr hB
  by_cases h0 : a = e
  · subst h0
    have E : Hid (sizeP (rst B a a) opn st = .error 6) := by unfold sizeP; rw [if_pos (by rw [rst_len he]; omega)]; rfl
    go_enter Try.func45, Try.ntmps45
    go_wp2_with fail
    go_ret2
    exact NumOut.no E.out _ HR.out (World.grownBy.refl w _)
  · have hlt : a < e := by omega
    have hl : a < B.length := by omega
    have q1 := HB.out.cellAt rfl hl
    have hbp : bb ≠ p := HB.out.ne (by omega)
    have b1 : (0 : Int) ≤ a := by omega
    have b2 : (a : Int) < B.length := by omega
    have g0 : gb (rst B a e) 0 = gb B a := gb_rst he (by omega)
    have hne : ¬ (rst B a e).length = 0 := by rw [rst_len he]; omega
    obtain ⟨x, hx⟩ : ∃ x : Nat, x = (gb B a).toNat := ⟨_, rfl⟩
    have ex : bv (gb B a) = x := by rw [hx]; rfl
    have hxl : x < 256 := by rw [hx]; exact UInt8.toNat_lt _
    change w.cell? _ = some (.int .u8 (bv (gb B a))) at q1
    rw [ex] at q1
    have E0 := Lib.hid (sizeP_at (rst B a e) (gb B a) x opn st hne g0 hx)
    have HX := Lib.hid hx
    clear g0 hne h0 hx ex
    by_cases h1 : x < 128
    · have E : Hid (sizeP (rst B a e) opn st = .ok ((x : Int), 1)) := by rw [E0.out, if_pos (by omega)]; rfl
      go_enter Try.func45, Try.ntmps45
      go_wp2_with fail
      go_quiet (fail)
      go_wp2_with fail
      go_ret2
      exact NumOut.yes E.out ((HR.out.drewN nq).at_ (a + 1) _ (by omega)) (only_setCell (only_drewN (World.grownBy.refl w _) nq) (.inl rfl) _)
    · by_cases h2 : 132 < x
      · have E : Hid (sizeP (rst B a e) opn st = .error 5) := by rw [E0.out, if_neg (by omega), if_pos (by omega)]; rfl
        go_enter Try.func45, Try.ntmps45
        go_wp2_with fail
        go_quiet (fail)
        go_wp2_with fail
        go_ret2
        exact NumOut.no E.out _ ((HR.out.drewN nq).at_ (a + 1) _ (by omega)) (only_setCell (only_drewN (World.grownBy.refl w _) nq) (.inl rfl) _)
      · by_cases h3 : x = 128
        · subst h3
          cases opn with
          | true =>
            have E : Hid (sizeP (rst B a e) true st = .ok (-1, 1)) := by rw [E0.out, if_neg (by omega), if_neg (by omega), if_pos (by omega), if_pos rfl]; rfl
            clear HX
            go_enter Try.func45, Try.ntmps45
            go_wp2_with fail
            go_quiet (fail)
            go_wp2_with fail
            go_ret2
            exact NumOut.yes E.out ((HR.out.drewN nq).at_ (a + 1) _ (by omega)) (only_setCell (only_drewN (World.grownBy.refl w _) nq) (.inl rfl) _)
          | false =>
            have E : Hid (sizeP (rst B a e) false st = .error 5) := by rw [E0.out, if_neg (by omega), if_neg (by omega), if_pos (by omega), if_neg (by decide)]; rfl
            clear HX
            go_enter Try.func45, Try.ntmps45
            go_wp2_with fail
            go_quiet (fail)
            go_wp2_with fail
            go_ret2
            exact NumOut.no E.out _ ((HR.out.drewN nq).at_ (a + 1) _ (by omega)) (only_setCell (only_drewN (World.grownBy.refl w _) nq) (.inl rfl) _)
        · obtain ⟨s, rfl, hs1, hs4⟩ : ∃ s : Nat, x = 128 + s ∧ 1 ≤ s ∧ s ≤ 4 := ⟨x - 128, by omega, by omega, by omega⟩
          have hand : bits .and .i64 (128 + (s : Int)) 15 = s := by
            have := bits_mask .i64 63 (by decide) (fun n a b => IntWalk.i64_in n ⟨by omega, by omega⟩) 4 (by decide) (128 + (s : Int)) (by omega) (by omega)
            rw [show (15 : Int) = 2 ^ 4 - 1 by decide, this]; omega
          have e15 : (15 : Int) = 2 ^ 4 - 1 := by decide
          have E1 := E0.out
          rw [if_neg (by omega), if_neg (by omega), if_neg (by omega), show 128 + s - 128 = s by omega] at E1
          clear E0 HX h1 h2 h3 e15
          by_cases h4 : e < a + 1 + s
          · have E : Hid (sizeP (rst B a e) opn st = .error 6) := by rw [E1, if_pos (by rw [rst_len he]; omega)]; rfl
            clear E1
            go_enter Try.func45, Try.ntmps45
            go_wp2_with fail
            go_quiet (fail)
            go_wp2_with fail
            go_ret2
            exact NumOut.no E.out _ ((HR.out.drewN nq).at_ (a + 1) _ (by omega)) (only_setCell (only_drewN (World.grownBy.refl w _) nq) (.inl rfl) _)
          · rw [if_neg (by rw [rst_len he]; omega)] at E1
            have E1 := Lib.hid E1
            have hg1 : gb (rst B a e) 1 = gb B (a + 1) := gb_rst he (by omega)
            obtain ⟨l, hL⟩ : ∃ l, l = rst B a e := ⟨_, rfl⟩
            have hgl : Hid (∀ j, a + j < e → gb l j = gb B (a + j)) := fun j hj => by rw [hL]; exact gb_rst he hj
            rw [← hL] at E1 ⊢
            clear hL
            have h5 : a + 1 + s ≤ e := by omega
            clear h4
            go_enter Try.func45, Try.ntmps45
            go_wp2_with fail
            go_quiet (fail)
            go_wp2_with fail
            go_loopg [10, 62] s (fun m n i wr => ∃ k : Nat, k + m = s ∧ i = .int .i64 k ∧ n = .int .i64 (beV l k) ∧ Rd wr p (.slice (some ⟨bb, bo, none⟩) B.length bc) (a + 1 + k) st cnt ∧ w.grownBy wr (some p))
            case atStart => exact ⟨0, by omega, rfl, rfl, (HR.out.drewN nq).at_ (a + 1) _ (by omega), only_setCell (only_drewN (World.grownBy.refl w _) nq) (.inl rfl) _⟩
            case round =>
              obtain ⟨k, hk, rfl, rfl, hr, hg⟩ := hrel
              by_cases hlt : k < s
              · obtain ⟨q, hq⟩ : ∃ q, q = a + 1 + k := ⟨_, rfl⟩
                have hql : q < B.length := by omega
                have hy0 := hgl.out (k + 1) (by omega)
                rw [show a + (k + 1) = q by omega] at hy0
                rw [← hq] at hr
                have q2 := (World.cell?_of_block (hg.block bb (block_lt_of_cell (HB.out.cellAt rfl hql)) (by intro e; injection e; exact hbp (by assumption)))).trans (HB.out.cellAt rfl hql)
                obtain ⟨x, hx⟩ := Int.eq_ofNat_of_zero_le (beV_nn l k)
                obtain ⟨y, hy⟩ : ∃ y : Nat, y = (gb B q).toNat := ⟨_, rfl⟩
                have ey : bv (gb B q) = y := by rw [hy]; rfl
                have hyl : y < 256 := by rw [hy]; exact UInt8.toNat_lt _
                have hxl : x < 16777216 := by
                  have h := beV_lt l k
                  have : (256 : Int) ^ k ≤ 256 ^ 3 := by
                    obtain h | h | h | h : k = 0 ∨ k = 1 ∨ k = 2 ∨ k = 3 := by omega
                    all_goals subst h; decide
                  omega
                have o1 := or_byte x y (by omega) hyl
                have E2 : Hid (beV l (k + 1) = (x : Int) * 256 + y) := by rw [beV, hy0, ey, hx, Int.mul_comm]; rfl
                change wr.cell? _ = some (.int .u8 (bv (gb B q))) at q2
                rw [ey] at q2
                rw [hx]
                have c0 := hr.c0; have c1 := hr.c1; have hfz := hr.fr 1
                have HR2 := Lib.hid hr; have HG := Lib.hid hg
                have b3 : (0 : Int) ≤ q := by omega
                have b4 : (q : Int) < B.length := by omega
                have hq1 : q + 1 = a + 1 + (k + 1) := by omega
                have HQ := Lib.hid hq1
                clear hr hg hy0 hy ey hx hq hq1 q1
                go_wp2_with fail
                go_quiet (fail)
                go_wp2_with fail
                go_roundg (s - (k + 1))
                case measure => omega
                case rel => exact ⟨k + 1, by omega, by go_num, by rw [E2.out], (HR2.out.drewN nq).at_ (a + 1 + (k + 1)) _ (by have := HQ.out; omega), only_setCell (only_drewN HG.out nq) (.inl rfl) _⟩
              · obtain rfl : k = s := by omega
                obtain ⟨z, hz⟩ := Int.eq_ofNat_of_zero_le (beV_nn l k)
                have hzl := beV_lt l k
                rw [hz] at E1 hzl ⊢
                have hr2 : Rd wr p (.slice (some ⟨bb, bo, none⟩) B.length bc) (a + (1 + k)) st cnt := by rw [← Nat.add_assoc]; exact hr
                have c0 := hr.c0; have c1 := hr.c1; have c2 := hr.c2
                have HR2 := Lib.hid hr2; have HG := Lib.hid hg
                have HZ := Lib.hid hz; have HZL := Lib.hid hzl
                clear hr hg hr2 hz hzl q1
                cases st with
                | false =>
                  have E : Hid (sizeP l opn false = .ok ((z : Int), 1 + k)) := by rw [E1.out, if_neg (by simp)]; rfl
                  go_wp2_with fail
                  go_ret2
                  exact NumOut.yes E.out HR2.out HG.out
                | true =>
                  by_cases h6 : z < 128
                  · have E : Hid (sizeP l opn true = .error 5) := by rw [E1.out, if_pos ⟨rfl, .inl (by omega)⟩]; rfl
                    go_wp2_with fail
                    go_ret2
                    exact NumOut.no E.out _ HR2.out HG.out
                  · have d6 : decide ((z : Int) < 128) = false := by simp; omega
                    obtain rfl | rfl | rfl | rfl : k = 1 ∨ k = 2 ∨ k = 3 ∨ k = 4 := by omega
                    · have E : Hid (sizeP l opn true = .ok ((z : Int), 1 + 1)) := by rw [E1.out, if_neg (by omega)]; rfl
                      have z0 : ((z : Int) == 0) = false := by simp; omega
                      go_wp2_with fail
                      go_ret2
                      exact NumOut.yes E.out HR2.out HG.out
                    · have tp := top_byte2 l z HZ.out
                      by_cases h7 : (z : Int) / 256 = 0
                      · have z0 : ((z : Int) / 256 == 0) = true := by simp [h7]
                        have E : Hid (sizeP l opn true = .error 5) := by rw [E1.out, if_pos ⟨rfl, .inr ⟨by omega, tp.1 h7⟩⟩]; rfl
                        clear tp h7
                        go_wp2_with fail
                        go_ret2
                        exact NumOut.no E.out _ HR2.out HG.out
                      · have z0 : ((z : Int) / 256 == 0) = false := by simp [h7]
                        have E : Hid (sizeP l opn true = .ok ((z : Int), 1 + 2)) := by rw [E1.out, if_neg (fun h => h.2.elim (by omega) fun h => h7 (tp.2 h.2))]; rfl
                        clear tp h7
                        go_wp2_with fail
                        go_ret2
                        exact NumOut.yes E.out HR2.out HG.out
                    · have tp := top_byte3 l z HZ.out
                      by_cases h7 : (z : Int) / 65536 = 0
                      · have z0 : ((z : Int) / 65536 == 0) = true := by simp [h7]
                        have E : Hid (sizeP l opn true = .error 5) := by rw [E1.out, if_pos ⟨rfl, .inr ⟨by omega, tp.1 h7⟩⟩]; rfl
                        clear tp h7
                        go_wp2_with fail
                        go_ret2
                        exact NumOut.no E.out _ HR2.out HG.out
                      · have z0 : ((z : Int) / 65536 == 0) = false := by simp [h7]
                        have E : Hid (sizeP l opn true = .ok ((z : Int), 1 + 3)) := by rw [E1.out, if_neg (fun h => h.2.elim (by omega) fun h => h7 (tp.2 h.2))]; rfl
                        clear tp h7
                        go_wp2_with fail
                        go_ret2
                        exact NumOut.yes E.out HR2.out HG.out
                    · have tp := top_byte4 l z HZ.out
                      by_cases h7 : (z : Int) / 16777216 = 0
                      · have z0 : ((z : Int) / 16777216 == 0) = true := by simp [h7]
                        have E : Hid (sizeP l opn true = .error 5) := by rw [E1.out, if_pos ⟨rfl, .inr ⟨by omega, tp.1 h7⟩⟩]; rfl
                        clear tp h7
                        go_wp2_with fail
                        go_ret2
                        exact NumOut.no E.out _ HR2.out HG.out
                      · have z0 : ((z : Int) / 16777216 == 0) = false := by simp [h7]
                        have E : Hid (sizeP l opn true = .ok ((z : Int), 1 + 4)) := by rw [E1.out, if_neg (fun h => h.2.elim (by omega) fun h => h7 (tp.2 h.2))]; rfl
                        clear tp h7
                        go_wp2_with fail
                        go_ret2
                        exact NumOut.yes E.out HR2.out HG.out
end Go.Proofs.Ytljalnfjneeieaa
namespace Go.Proofs.Ytljalnfjneeieaa
open Go.RowKit Go.Deep

/-- What object answers. -/
def ObjOut (r : Except Int Obj1) (w : World) (p : Nat) (bv : Value) (a : Nat) (st : Bool) (e : Ending) (w' : World) : Prop :=
  match r with
  | .error er => er ≠ 0 ∧ (∃ t : Int, e = .returned (.tuple #[.agg #[.int .i64 t, .slice none 0 0, .slice none 0 0], .int .i64 er])) ∧ (∃ a' c', Rd w' p bv a' st c') ∧ w.grownBy w' (some p)
  | .ok o => ∃ vv kv, e = .returned (.tuple #[.agg #[.int .i64 o.tag, vv, kv], .int .i64 0]) ∧ BsS w' (New w w') vv o.val ∧ NsS w' (New w w') kv o.kids ∧ I64in o.tag ∧ Rd w' p bv (a + o.used) st o.count ∧ w.grownBy w' (some p)
/-- What objects and kids answer. -/
def ListOut (r : Except Int Lst) (w : World) (p : Nat) (bv : Value) (a : Nat) (st : Bool) (e : Ending) (w' : World) : Prop :=
  match r with
  | .error er => er ≠ 0 ∧ e = .returned (.tuple #[.slice none 0 0, .int .i64 er]) ∧ (∃ a' c', Rd w' p bv a' st c') ∧ w.grownBy w' (some p)
  | .ok o => ∃ v, e = .returned (.tuple #[v, .int .i64 0]) ∧ NsS w' (New w w') v o.list ∧ Rd w' p bv (a + o.used) st o.count ∧ w.grownBy w' (some p)
/-- Inside object: the reader, and the block of the result, still zero. -/
def OSt (w wi : World) (p : Nat) (bv : Value) (a : Nat) (st : Bool) (c : Nat) : Prop :=
  Rd wi p bv a st c ∧ w.grownBy wi (some p) ∧ wi.heap[w.heap.size]? = some (.cells #[.int .i64 0, .slice none 0 0, .slice none 0 0] 42 (0, 0)) ∧ p < w.heap.size
theorem OSt.start {w : World} {p : Nat} {bv : Value} {a : Nat} {st : Bool} {c : Nat} (h : Rd w p bv a st c) : OSt w (w.alloc (.cells #[.int .i64 0, .slice none 0 0, .slice none 0 0] 42)) p bv a st c :=
  ⟨(Below.heap_alloc w _ p h.lt).trans h, only_alloc (World.grownBy.refl w _) _, heap_alloc_new _ _, h.lt⟩
theorem OSt.step {w wi wj : World} {p : Nat} {bv : Value} {a a' : Nat} {st : Bool} {c c' : Nat} (h : OSt w wi p bv a st c) (hr : Rd wj p bv a' st c') (hg : wi.grownBy wj (some p)) : OSt w wj p bv a' st c' :=
  ⟨hr, only_trans h.2.1 hg, (hg.block _ (Array.getElem?_eq_some_iff.1 h.2.2.1).1 (by intro e; injection e with e; have := h.2.2.2; omega)).trans h.2.2.1, h.2.2.2⟩
theorem OSt.zc {w wi : World} {p : Nat} {bv : Value} {a : Nat} {st : Bool} {c : Nat} (h : OSt w wi p bv a st c) : wi.cell? ⟨w.heap.size, 0, none⟩ = some (.int .i64 0) ∧ wi.cell? ⟨w.heap.size, 1, none⟩ = some (.slice none 0 0) ∧ wi.cell? ⟨w.heap.size, 2, none⟩ = some (.slice none 0 0) := by
  refine ⟨?_, ?_, ?_⟩ <;> (rw [cell_of_row _ _ _ _ _ _ h.2.2.1]; rfl)
theorem OSt.zf {w wi : World} {p : Nat} {bv : Value} {a : Nat} {st : Bool} {c : Nat} (h : OSt w wi p bv a st c) (o : Nat) : wi.frozen? ⟨w.heap.size, o, none⟩ = false := by simp [World.frozen?, h.2.2.1]
theorem OSt.bytes {w wi : World} {p : Nat} {bv x : Value} {a : Nat} {st : Bool} {c : Nat} {l : List UInt8} (h : OSt w wi p bv a st c) (hB : BsS w (· ≠ p) x l) : BsS wi (· ≠ p) x l :=
  hB.keep fun b hs hl => ⟨h.2.1.block b hl (by intro e; injection e with e; exact hs (by omega)), hs⟩
theorem NumOut.err {er : Int} {w : World} {p : Nat} {bv : Value} {a : Nat} {st : Bool} {c : Nat} {e : Ending} {w' : World} (h : NumOut (.error er) w p bv a st c e w') : e = .returned (.tuple #[.int .i64 0, .int .i64 er]) ∧ (∃ a', Rd w' p bv a' st c) ∧ w.grownBy w' (some p) :=
  ⟨h.1, ⟨_, h.2.1.choose_spec.1⟩, h.2.2⟩
theorem NumOut.got {n : Int} {k : Nat} {w : World} {p : Nat} {bv : Value} {a : Nat} {st : Bool} {c : Nat} {e : Ending} {w' : World} (h : NumOut (.ok (n, k)) w p bv a st c e w') : e = .returned (.tuple #[.int .i64 n, .int .i64 0]) ∧ Rd w' p bv (a + k) st c ∧ w.grownBy w' (some p) := by
  obtain ⟨h1, ⟨a', h2, h3⟩, h4⟩ := h
  have := h3 _ rfl
  subst this
  exact ⟨h1, h2, h4⟩
theorem tagP_err {l : List UInt8} {er : Int} (h : tagP l = .error er) : er ≠ 0 := by
  unfold tagP at h
  split at h
  · injection h with h; omega
  · split at h
    · split at h
      · injection h with h; omega
      · split at h
        · cases h
        · injection h with h; omega
    · split at h
      · cases h
      · injection h with h; omega
theorem tagP_ok {l : List UInt8} {t : Int} {k : Nat} (h : tagP l = .ok (t, k)) : tagV t = true ∧ 1 ≤ k ∧ k ≤ l.length := by
  unfold tagP at h
  split at h
  · cases h
  · split at h
    · split at h
      · cases h
      · split at h
        · injection h with h; injection h with h1 h2; subst h1 h2; exact ⟨‹_›, by omega, by omega⟩
        · cases h
    · split at h
      · injection h with h; injection h with h1 h2; subst h1 h2; exact ⟨‹_›, by omega, by omega⟩
      · cases h
theorem sizeP_err {l : List UInt8} {o st : Bool} {er : Int} (h : sizeP l o st = .error er) : er ≠ 0 := by
  unfold sizeP at h
  split at h
  · injection h with h; omega
  · split at h
    · cases h
    · split at h
      · injection h with h; omega
      · split at h
        · split at h
          · cases h
          · injection h with h; omega
        · split at h
          · injection h with h; omega
          · split at h
            · injection h with h; omega
            · cases h
theorem sizeP_ok {l : List UInt8} {o st : Bool} {n : Int} {j : Nat} (h : sizeP l o st = .ok (n, j)) : 1 ≤ j ∧ j ≤ l.length ∧ n ≤ 4294967296 ∧ (0 ≤ n ∨ (n = -1 ∧ o = true)) := by
  unfold sizeP at h
  split at h
  · cases h
  · split at h
    · injection h with h; injection h with h1 h2; subst h1 h2
      have := bv_nn (gb l 0); have := bv_lt (gb l 0)
      exact ⟨by omega, by omega, by omega, .inl (by omega)⟩
    · split at h
      · cases h
      · split at h
        · split at h
          · injection h with h; injection h with h1 h2; subst h1 h2; exact ⟨by omega, by omega, by omega, .inr ⟨rfl, ‹_›⟩⟩
          · cases h
        · split at h
          · cases h
          · split at h
            · cases h
            · injection h with h; injection h with h1 h2; subst h1 h2
              have h5 : (gb l 0).toNat - 128 ≤ 4 := by
                have h6 : ¬ 132 < bv (gb l 0) := by assumption
                unfold bv at h6; omega
              have h7 := beV_lt l ((gb l 0).toNat - 128)
              have h8 : (256 : Int) ^ ((gb l 0).toNat - 128) ≤ 256 ^ 4 := by
                obtain h | h | h | h | h : (gb l 0).toNat - 128 = 0 ∨ (gb l 0).toNat - 128 = 1 ∨ (gb l 0).toNat - 128 = 2 ∨ (gb l 0).toNat - 128 = 3 ∨ (gb l 0).toNat - 128 = 4 := by omega
                all_goals rw [h]; decide
              exact ⟨by omega, by omega, by omega, .inl (beV_nn _ _)⟩
/-- What a reader of lists keeps to. -/
def Sound (L : List UInt8 → Nat → Nat → Bool → Except Int Lst) : Prop := ∀ l d c o, c ≤ 256 →
  (∀ r, L l d c o = .ok r → r.used ≤ l.length ∧ r.count ≤ 256 ∧ (o = false → r.used = l.length)) ∧ (∀ er, L l d c o = .error er → er ≠ 0)
theorem objF_sound {st : Bool} {L : List UInt8 → Nat → Nat → Bool → Except Int Lst} (hL : Sound L) {l : List UInt8} {d c : Nat} :
    (∀ o, objF st L l d c = .ok o → 2 ≤ o.used ∧ o.used ≤ l.length ∧ o.count ≤ 256 ∧ tagV o.tag = true) ∧ (∀ er, objF st L l d c = .error er → er ≠ 0) := by
  unfold objF
  cases ht : tagP l with
  | error e => exact ⟨fun o h => by simp at h, fun er h => by simp at h; subst h; exact tagP_err ht⟩
  | ok x =>
    obtain ⟨t, k⟩ := x
    obtain ⟨tv, k1, k2⟩ := tagP_ok ht
    simp only
    cases hs : sizeP (l.drop k) (tagC t && !st) st with
    | error e => exact ⟨fun o h => by simp at h, fun er h => by simp at h; subst h; exact sizeP_err hs⟩
    | ok y =>
      obtain ⟨n, j⟩ := y
      obtain ⟨j1, j2, n1, n2⟩ := sizeP_ok hs
      simp only
      rw [List.length_drop] at j2
      by_cases h1 : 8 < d
      · simp only [if_pos h1]
        exact ⟨fun o h => by simp at h, fun er h => by simp at h; omega⟩
      · simp only [if_neg h1]
        by_cases h2 : 256 < c + 1
        · simp only [if_pos h2]
          exact ⟨fun o h => by simp at h, fun er h => by simp at h; omega⟩
        · simp only [if_neg h2]
          by_cases h3 : ((l.drop (k + j)).length : Int) < n
          · simp only [if_pos h3]
            exact ⟨fun o h => by simp at h, fun er h => by simp at h; omega⟩
          · simp only [if_neg h3]
            rw [List.length_drop] at h3
            by_cases h4 : n < 0
            · simp only [if_pos h4]
              obtain ⟨g1, g2⟩ := hL (l.drop (k + j)) (d + 1) (c + 1) true (by omega)
              cases hr : L (l.drop (k + j)) (d + 1) (c + 1) true with
              | error e => exact ⟨fun o h => by simp at h, fun er h => by simp at h; subst h; exact g2 _ hr⟩
              | ok r =>
                obtain ⟨u1, u2, _⟩ := g1 r hr
                rw [List.length_drop] at u1
                exact ⟨fun o h => by simp at h; subst h; exact ⟨by simp only; omega, by simp only; omega, u2, tv⟩, fun er h => by simp at h⟩
            · simp only [if_neg h4]
              by_cases h5 : tagC t = true
              · simp only [if_pos h5]
                obtain ⟨g1, g2⟩ := hL ((l.drop (k + j)).take n.toNat) (d + 1) (c + 1) false (by omega)
                cases hr : L ((l.drop (k + j)).take n.toNat) (d + 1) (c + 1) false with
                | error e => exact ⟨fun o h => by simp at h, fun er h => by simp at h; subst h; exact g2 _ hr⟩
                | ok r =>
                  obtain ⟨u1, u2, _⟩ := g1 r hr
                  exact ⟨fun o h => by simp at h; subst h; exact ⟨by simp only; omega, by simp only; omega, u2, tv⟩, fun er h => by simp at h⟩
              · simp only [if_neg h5]
                exact ⟨fun o h => by simp at h; subst h; exact ⟨by simp only; omega, by simp only; omega, by simp only; omega, tv⟩, fun er h => by simp at h⟩
theorem headP_ok {l : List UInt8} {o : Bool} {u : Nat} (h : headP l o = some (.ok u)) : u ≤ l.length ∧ (o = false → u = l.length) := by
  unfold headP at h
  cases o with
  | true =>
    simp only [if_pos] at h
    split at h
    · cases h
    · split at h
      · injection h with h; injection h with h; subst h
        rename_i h1 h2
        refine ⟨?_, fun h => by cases h⟩
        rcases Nat.lt_or_ge 1 l.length with h3 | h3
        · omega
        · exact absurd (by rcases Nat.eq_zero_or_pos l.length with h4 | h4; exact .inl h4; exact .inr ⟨h2.1, by omega⟩) h1
      · cases h
  | false =>
    simp at h
    exact ⟨by omega, fun _ => by have := h.1; rw [this] at h ⊢; simp; omega⟩
theorem headP_err {l : List UInt8} {o : Bool} {er : Int} (h : headP l o = some (.error er)) : er ≠ 0 := by
  unfold headP at h
  split at h
  · split at h
    · injection h with h; injection h with h; omega
    · split at h <;> cases h
  · split at h <;> cases h
theorem listP_sound (st : Bool) (n : Nat) : Sound (listP st n) := by
  induction n with
  | zero =>
    intro l d c o hc
    rw [listP]
    cases hh : headP l o with
    | none => exact ⟨fun r h => by simp at h, fun er h => by simp at h; omega⟩
    | some x =>
      cases x with
      | error e => exact ⟨fun r h => by simp at h, fun er h => by simp at h; subst h; exact headP_err hh⟩
      | ok u => exact ⟨fun r h => by simp at h; subst h; exact ⟨(headP_ok hh).1, hc, (headP_ok hh).2⟩, fun er h => by simp at h⟩
  | succ n ih =>
    intro l d c o hc
    rw [listP]
    cases hh : headP l o with
    | some x =>
      cases x with
      | error e => exact ⟨fun r h => by simp at h, fun er h => by simp at h; subst h; exact headP_err hh⟩
      | ok u => exact ⟨fun r h => by simp at h; subst h; exact ⟨(headP_ok hh).1, hc, (headP_ok hh).2⟩, fun er h => by simp at h⟩
    | none =>
      simp only
      obtain ⟨s1, s2⟩ := objF_sound (st := st) ih (l := l) (d := d) (c := c)
      cases ho : objF st (listP st n) l d c with
      | error e => exact ⟨fun r h => by simp at h, fun er h => by simp at h; subst h; exact s2 _ ho⟩
      | ok x =>
        obtain ⟨x1, x2, x3, _⟩ := s1 x ho
        simp only
        obtain ⟨g1, g2⟩ := ih (l.drop x.used) d x.count o x3
        cases hr : listP st n (l.drop x.used) d x.count o with
        | error e => exact ⟨fun r h => by simp at h, fun er h => by simp at h; subst h; exact g2 _ hr⟩
        | ok r =>
          obtain ⟨u1, u2, u3⟩ := g1 r hr
          rw [List.length_drop] at u1 u3
          exact ⟨fun q h => by simp at h; subst h; exact ⟨by simp only; omega, u2, fun e => by have := u3 e; simp only; omega⟩, fun er h => by simp at h⟩
end Go.Proofs.Ytljalnfjneeieaa
