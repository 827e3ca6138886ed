/- Layer 2: the shortest form of a length, the reference's side. -/
import Derived.Test.YtljalnfjneeieaaTlv1
namespace Go.Proofs.Ytljalnfjneeieaa
open Go.RowKit

/-- A length in shortest form, up to 65535. -/
def lenR (n : Nat) : List UInt8 := if n ≤ 127 then [ofI n] else if n ≤ 255 then [129, ofI n] else [130, ofI ((n : Int) / 256), ofI n]
theorem lit_new (w : World) (l : List UInt8) (t : TypeId) (hl : l.length ≤ 140737488355328) (c : Array Value) (hc : c = (l.map U8).toArray) :
    BsS (w.alloc (.cells c t)) (New w (w.alloc (.cells c t))) (.slice (some ⟨w.heap.size, 0, none⟩) l.length l.length) l := by
  subst hc
  refine ⟨_, _, rfl, Nat.le_refl _, by omega, hl, fun _ => ⟨_, _, rfl, ⟨Nat.le_refl _, by simp⟩, fun j hj => ?_⟩⟩
  rw [Nat.zero_add, cell_of_row _ _ _ _ _ _ (heap_alloc_new _ _)]
  exact (List.getElem?_toArray ..).trans (mapU8_get l j hj)
set_option maxHeartbeats 400000 in
theorem rlength_any (n : Nat) (hn : n ≤ 65535) (w : World) : Calls Try.prog 57 #[.int .i64 n] w fun e w' => ∃ v', e = .returned v' ∧ BsS w' (New w w') v' (lenR n) ∧ Below w.heap.size w w' := by
  by_cases h1 : n ≤ 127
  · have d1 : decide ((n : Int) ≤ 127) = true := decide_eq_true (by omega)
    have E : Hid (lenR n = [ofI n]) := if_pos h1
    clear h1 hn
    go_enter Try.func57, Try.ntmps57
    go_wp2_with fail
    go_ret
    rw [E.out]
    exact ⟨_, rfl, lit_new w [ofI n] _ (by simp) _ rfl, (Below.refl _ _).alloc (Nat.le_refl _) _⟩
  · have d1 : decide ((n : Int) ≤ 127) = false := decide_eq_false (by omega)
    by_cases h2 : n ≤ 255
    · have d2 : decide ((n : Int) ≤ 255) = true := decide_eq_true (by omega)
      have E : Hid (lenR n = [129, ofI n]) := by unfold Hid lenR; rw [if_neg h1, if_pos h2]
      clear h1 h2 hn
      go_enter Try.func57, Try.ntmps57
      go_wp2_with fail
      go_ret
      rw [E.out]
      exact ⟨_, rfl, lit_new w [129, ofI n] _ (by simp) _ rfl, (Below.refl _ _).alloc (Nat.le_refl _) _⟩
    · have d2 : decide ((n : Int) ≤ 255) = false := decide_eq_false (by omega)
      have E : Hid (lenR n = [130, ofI ((n : Int) / 256), ofI n]) := by unfold Hid lenR; rw [if_neg h1, if_neg h2]
      clear h1 h2 hn
      go_enter Try.func57, Try.ntmps57
      go_wp2_with fail
      go_ret
      rw [E.out]
      exact ⟨_, rfl, lit_new w [130, ofI ((n : Int) / 256), ofI n] _ (by simp) _ rfl, (Below.refl _ _).alloc (Nat.le_refl _) _⟩
end Go.Proofs.Ytljalnfjneeieaa
