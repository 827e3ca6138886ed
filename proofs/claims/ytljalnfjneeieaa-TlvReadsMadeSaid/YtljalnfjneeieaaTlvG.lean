/- Layer 2: the walk of Size. -/
import Derived.Test.YtljalnfjneeieaaTlvF
namespace Go.Proofs.Ytljalnfjneeieaa
open Go.RowKit Go.Deep

/-- What Size answers. -/
def sizeQ (B : List UInt8) : Except Int Int :=
  match tagP B with
  | .error e => .error e
  | .ok (_, k) =>
    match sizeP (B.drop k) false false with
    | .error e => .error e
    | .ok (n, j) => .ok ((k : Int) + j + n)
def numOf : Except Int Int → Int
  | .error _ => 0
  | .ok n => n
set_option maxRecDepth 100000 in
theorem tag_zero (p : Nat) (bv : Value) (st : Bool) (w : World) (hr : Rd w p bv 0 st 0) :
    Calls Try.prog 44 #[.pointer (some ⟨p, 0, none⟩), .int .i64 0] w fun e w' => e = .returned (.tuple #[.int .i64 0, .int .i64 6]) ∧ w' = w := by
  have r1 := hr.c1
  clear hr
  go_enter Try.func44, Try.ntmps44
  go_wp2_with fail
  go_ret2
  exact ⟨rfl, rfl⟩
theorem addr_of {w : World} {S : Nat → Prop} {a : Option Addr} {n c : Nat} {l : List UInt8} (h : BsS w S (.slice a n c) l) (hl : 0 < l.length) : ∃ b off, a = some ⟨b, off, none⟩ := by
  obtain ⟨_, _, hv, _, _, _, h4⟩ := h
  injection hv with ha _ _
  obtain ⟨b, off, e, _⟩ := h4 hl
  exact ⟨b, off, ha.trans e⟩
def NumPost (r : Except Int Int) (w : World) (e : Ending) (w' : World) : Prop := e = .returned (.tuple #[.int .i64 (numOf r), .int .i64 (errOf r)]) ∧ Below w.heap.size w w'
theorem NumPost.no {w w' : World} {r : Except Int Int} {e : Int} (hr : r = .error e) (hb : Below w.heap.size w w') : NumPost r w (.returned (.tuple #[.int .i64 0, .int .i64 e])) w' := by
  subst hr; exact ⟨rfl, hb⟩
theorem NumPost.yes {w w' : World} {r : Except Int Int} {n : Int} (hr : r = .ok n) (hb : Below w.heap.size w w') : NumPost r w (.returned (.tuple #[.int .i64 n, .int .i64 0])) w' := by
  subst hr; exact ⟨rfl, hb⟩
set_option maxRecDepth 100000 in
set_option maxHeartbeats 1000000 in
theorem size_any (B : List UInt8) (v : Value) (w : World) (hv : Bs w w.heap.size v B) : Calls Try.prog 29 #[v] w (NumPost (sizeQ B) w) := by
  have hlen := hv.len
  obtain ⟨a, c, rfl⟩ := hv.form2
  by_cases h0 : B.length = 0
  · have e : B = [] := List.eq_nil_of_length_eq_zero h0
    subst e
    have hr := tag_zero w.heap.size (.slice a ([] : List UInt8).length c) false (w.alloc (.cells #[.slice a ([] : List UInt8).length c, .int .i64 0, .bool false, .int .i64 0] 62)) (heap_alloc_new _ _)
    have HR := Lib.hid hr
    have E : Hid (sizeQ [] = .error 6) := rfl
    clear hv hr h0 hlen
    simp only [List.length_nil] at HR ⊢
    go_enter Try.func29, Try.ntmps29
    go_wp2_with (go_at_call 44; refine HR.out.mono ?_; rintro e w1 ⟨rfl, rfl⟩)
    go_ret2
    exact NumPost.no E.out ((Below.refl _ _).alloc (Nat.le_refl _) _)
  · obtain ⟨bb, bo, rfl⟩ := addr_of hv (by omega)
    have hB : BsS (w.alloc (.cells #[.slice (some ⟨bb, bo, none⟩) B.length c, .int .i64 0, .bool false, .int .i64 0] 62)) (· ≠ w.heap.size) (.slice (some ⟨bb, bo, none⟩) B.length c) B := hv.keep fun b hs hl => ⟨Below.heap_alloc _ _ _ hl, by omega⟩
    have T := tag_any B bb bo c w.heap.size 0 B.length 0 false _ hB (Nat.le_refl _) (heap_alloc_new _ _) (by omega)
    rw [rst_all] at T
    have HT := Lib.hid T; have HB := Lib.hid hB
    clear T hv hB
    cases ht : tagP B with
    | error er =>
      have E : Hid (sizeQ B = .error er) := by unfold sizeQ; rw [ht]; rfl
      have ne := tagP_err ht
      have n0 : (er != 0) = true := by simp [ne]
      rw [ht] at HT
      clear ht ne
      go_enter Try.func29, Try.ntmps29
      go_wp2_with (go_at_call 44; refine HT.out.mono ?_; intro e w1 h1; obtain ⟨rfl, _, hg⟩ := NumOut.err h1; have Hg := Lib.hid hg; clear hg h1)
      go_ret2
      exact NumPost.no E.out (below_reader Hg.out)
    | ok x =>
      obtain ⟨t, k⟩ := x
      obtain ⟨_, k1, k2⟩ := tagP_ok ht
      rw [ht] at HT
      have HL := fun (w1 : World) (h1 : BsS w1 (· ≠ w.heap.size) (.slice (some ⟨bb, bo, none⟩) B.length c) B) (h2 : Rd w1 w.heap.size (.slice (some ⟨bb, bo, none⟩) B.length c) (0 + k) false 0) =>
        Lib.hid (rlen_any B bb bo c w.heap.size (0 + k) B.length 0 false false w1 h1 (Nat.le_refl _) h2 (by omega))
      have er : rst B (0 + k) B.length = B.drop k := by rw [← rst_drop, rst_all]
      rw [er] at HL
      clear er
      cases hs : sizeP (B.drop k) false false with
      | error er =>
        have E : Hid (sizeQ B = .error er) := by show sizeQ B = _; unfold sizeQ; rw [ht]; simp only [hs]
        have ne := sizeP_err hs
        have n0 : (er != 0) = true := by simp [ne]
        rw [hs] at HL
        clear hs ht ne
        go_enter Try.func29, Try.ntmps29
        go_wp2_with (first
          | (go_at_call 44; refine HT.out.mono ?_; intro e w1 h1; obtain ⟨rfl, hr, hg⟩ := NumOut.got h1; have Hg := Lib.hid hg; have Hr := Lib.hid hr; clear hg h1 hr)
          | (go_at_call 45; refine (HL _ (HB.out.keep fun b hs hl => ⟨Hg.out.block b hl (by intro e; injection e with e; exact hs (by omega)), hs⟩) Hr.out).out.mono ?_; intro e w2 h2; obtain ⟨rfl, _, hg2⟩ := NumOut.err h2; have Hg2 := Lib.hid hg2; clear hg2 h2))
        go_ret2
        exact NumPost.no E.out (below_reader (only_trans Hg.out Hg2.out))
      | ok y =>
        obtain ⟨n, j⟩ := y
        obtain ⟨j1, j2, n1, n2⟩ := sizeP_ok hs
        rw [List.length_drop] at j2
        have n3 : 0 ≤ n := n2.elim id fun h => by cases h.2
        have E : Hid (sizeQ B = .ok ((k : Int) + j + n)) := by show sizeQ B = _; unfold sizeQ; rw [ht]; simp only [hs]
        rw [hs] at HL
        clear hs ht n2
        go_enter Try.func29, Try.ntmps29
        go_wp2_with (first
          | (go_at_call 44; refine HT.out.mono ?_; intro e w1 h1; obtain ⟨rfl, hr, hg⟩ := NumOut.got h1; have Hg := Lib.hid hg; have Hr := Lib.hid hr; clear hg h1 hr)
          | (go_at_call 45; refine (HL _ (HB.out.keep fun b hs hl => ⟨Hg.out.block b hl (by intro e; injection e with e; exact hs (by omega)), hs⟩) Hr.out).out.mono ?_; intro e w2 h2; obtain ⟨rfl, hr2, hg2⟩ := NumOut.got h2; have Hg2 := Lib.hid hg2; rw [Nat.zero_add] at hr2; have r1 := hr2.c1; clear hg2 h2 hr2))
        go_ret2
        exact NumPost.yes E.out (below_reader (only_trans Hg.out Hg2.out))
end Go.Proofs.Ytljalnfjneeieaa
