/- Layer 2: the walk of Encode. -/
import Derived.Test.YtljalnfjneeieaaTlv5
namespace Go.Proofs.Ytljalnfjneeieaa
open Go.RowKit Go.Deep

def errOf {α : Type} : Except Int α → Int
  | .error e => e
  | .ok _ => 0
def bytesOf : Except Int (List UInt8) → List UInt8
  | .error _ => []
  | .ok l => l
/-- Bytes in new memory and an error's number. -/
def BytesOut (r : Except Int (List UInt8)) (w : World) (e : Ending) (w' : World) : Prop :=
  ∃ v', e = .returned (.tuple #[v', .int .i64 (errOf r)]) ∧ BsS w' (New w w') v' (bytesOf r) ∧ Below w.heap.size w w'
theorem BytesOut.no {w w' : World} {r : Except Int (List UInt8)} {e : Int} (hr : r = .error e) (hb : Below w.heap.size w w') : BytesOut r w (.returned (.tuple #[.slice none 0 0, .int .i64 e])) w' := by
  subst hr
  exact ⟨_, rfl, ⟨none, 0, rfl, by simp [bytesOf], by simp, by simp [bytesOf], by simp [bytesOf]⟩, hb⟩
theorem BytesOut.yes {w w' : World} {r : Except Int (List UInt8)} {l : List UInt8} {v : Value} (hr : r = .ok l) (hv : BsS w' (New w w') v l) (hb : Below w.heap.size w w') : BytesOut r w (.returned (.tuple #[v, .int .i64 0])) w' := by
  subst hr
  exact ⟨_, rfl, hv, hb⟩
set_option maxRecDepth 100000 in
set_option maxHeartbeats 1000000 in
theorem encode_any (L : Ns) (v : Value) (w : World) (hv : NsS w (· < w.heap.size) v L) (ha : L.all ≤ 100000000000) (hl : L.enc.length ≤ 1000000000000) :
    Calls Try.prog 23 #[v] w (BytesOut (encP L) w) := by
  have hv2 : NsS (w.alloc (.cells #[.int .i64 0] 3)) (fun b => b < (w.alloc (.cells #[.int .i64 0] 3)).heap.size ∧ b ≠ w.heap.size) v L :=
    hv.keep fun b hs hl => ⟨Below.heap_alloc _ _ _ hl, by simp; omega, by omega⟩
  have hc := check_any L.all L v 1 0 w.heap.size (w.alloc (.cells #[.int .i64 0] 3)) (Nat.le_refl _) hv2 (by omega) (by omega) (by omega) (heap_alloc_new _ _)
  by_cases h1 : L.chk 1 = 0
  · rw [h1] at hc
    have Hc := Lib.hid hc; have Hv := Lib.hid hv
    obtain ⟨a, c, rfl, hx⟩ := hv
    have Hw : ∀ w', (w.alloc (.cells #[.int .i64 0] 3)).grownBy w' (some w.heap.size) → Hid (Calls Try.prog 43 #[.slice a L.len c] w' fun e w'' => ∃ v', e = .returned v' ∧ BsS w'' (New w' w'') v' L.enc ∧ Below w'.heap.size w' w'') := fun w' hg =>
      write_any L.all L (.slice a L.len c) w' (Nat.le_refl _) (Hv.out.keep fun b hs hl => ⟨(hg.block b (by simp; omega) (by intro e; injection e; omega)).trans (Below.heap_alloc _ _ _ hl), by have := hg.size; simp at this; omega⟩) hl
    have hB : ∀ w', (w.alloc (.cells #[.int .i64 0] 3)).grownBy w' (some w.heap.size) → Below w.heap.size w w' := fun w' hg =>
      ((Below.refl _ _).alloc (Nat.le_refl _) _).trans (below_of_only hg (by simp) (Nat.le_refl _))
    have HB := Lib.hid hB
    clear hc hv2 hx hB
    by_cases h2 : 256 < L.all
    · have E : Hid (encP L = .error 2) := by unfold encP; rw [if_neg (by simpa using h1), if_pos h2]; rfl
      clear h1 Hw
      go_enter Try.func23, Try.ntmps23
      go_wp2_with (go_at_call 42; refine Hc.out.mono ?_; rintro e w1 ⟨rfl, ⟨⟨cc, hb, hcc⟩, hg⟩⟩; have hcd := hcc rfl; clear hcc; obtain rfl : cc = (L.all : Int) := (by omega); clear hcd; have Hg := Lib.hid hg; have c1 := hb.cell; clear hg hb)
      go_ret2
      exact BytesOut.no E.out (HB.out _ Hg.out)
    · by_cases h3 : 4096 < L.enc.length
      · have E : Hid (encP L = .error 2) := by unfold encP; rw [if_neg (by simpa using h1), if_neg h2, if_pos h3]; rfl
        clear h1
        go_enter Try.func23, Try.ntmps23
        go_wp2_with (first | (go_at_call 42; refine Hc.out.mono ?_; rintro e w1 ⟨rfl, ⟨⟨cc, hb, hcc⟩, hg⟩⟩; have hcd := hcc rfl; clear hcc; obtain rfl : cc = (L.all : Int) := (by omega); clear hcd; have Hg := Lib.hid hg; have c1 := hb.cell; clear hg hb) | (go_at_call 43; refine (Hw _ Hg.out).out.mono ?_; rintro e w2 ⟨v2, rfl, hv2, hb2⟩; obtain ⟨a2, c2, rfl⟩ := hv2.form2; have Hv2 := Lib.hid hv2; have Hb2 := Lib.hid hb2; clear hv2 hb2))
        go_ret2
        exact BytesOut.no E.out ((HB.out _ Hg.out).trans (Hb2.out.mono (HB.out _ Hg.out).size))
      · have E : Hid (encP L = .ok L.enc) := by unfold encP; rw [if_neg (by simpa using h1), if_neg h2, if_neg h3]; rfl
        clear h1
        go_enter Try.func23, Try.ntmps23
        go_wp2_with (first | (go_at_call 42; refine Hc.out.mono ?_; rintro e w1 ⟨rfl, ⟨⟨cc, hb, hcc⟩, hg⟩⟩; have hcd := hcc rfl; clear hcc; obtain rfl : cc = (L.all : Int) := (by omega); clear hcd; have Hg := Lib.hid hg; have c1 := hb.cell; clear hg hb) | (go_at_call 43; refine (Hw _ Hg.out).out.mono ?_; rintro e w2 ⟨v2, rfl, hv2, hb2⟩; obtain ⟨a2, c2, rfl⟩ := hv2.form2; have Hv2 := Lib.hid hv2; have Hb2 := Lib.hid hb2; clear hv2 hb2))
        go_ret2
        exact BytesOut.yes E.out (Hv2.out.keep fun b hs _ => ⟨rfl, Nat.le_trans (HB.out _ Hg.out).size hs.1, hs.2⟩) ((HB.out _ Hg.out).trans (Hb2.out.mono (HB.out _ Hg.out).size))
  · have Hc := Lib.hid hc
    have E : Hid (encP L = .error (L.chk 1)) := by unfold encP; rw [if_pos h1]; rfl
    have n0 : ((L.chk 1) != 0) = true := by simp [h1]
    obtain ⟨a, c, rfl, hx⟩ := hv
    clear hx hv2 hc h1
    go_enter Try.func23, Try.ntmps23
    go_wp2_with (go_at_call 42; refine Hc.out.mono ?_; rintro e w1 ⟨rfl, ⟨_, hg⟩⟩; have Hg := Lib.hid hg; clear hg)
    go_ret2
    exact BytesOut.no E.out (((Below.refl _ _).alloc (Nat.le_refl _) _).trans (below_of_only Hg.out (by simp) (Nat.le_refl _)))
end Go.Proofs.Ytljalnfjneeieaa
