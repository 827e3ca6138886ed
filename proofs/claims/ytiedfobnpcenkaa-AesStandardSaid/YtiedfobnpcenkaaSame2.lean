/- The walk of SameLists. -/
import Derived.Test.YtiedfobnpcenkaaSame
namespace Go.Proofs.Ytiedfobnpcenkaa
open Go.RowKit

theorem gl_ext {a b : List (List UInt8)} (hl : a.length = b.length) (h : ∀ j, j < a.length → gl a j = gl b j) : a = b := by
  apply List.ext_getElem hl
  intro i h1 h2
  have := h i h1
  simpa [gl, h1, h2] using this
theorem quiet_add {P : Program} {f : FuncId} {args : Array Value} {w : World} {a n : Nat} {v : Value}
    (h : Calls P f args (w.drewN (a + n)) fun e w' => e = .returned v ∧ ∃ m, w' = (w.drewN (a + n)).drewN m) :
    Calls P f args (w.drewN (a + n)) fun e w'' => e = .returned v ∧ ∃ m, w'' = w.drewN (a + m) :=
  h.mono fun _ _ ⟨he, m, hm⟩ => ⟨he, n + m, by rw [hm, World.drewN_drewN, Nat.add_assoc]⟩
theorem BsS.drew {w : World} {S : Nat → Prop} {v : Value} {l : List UInt8} (h : BsS w S v l) (n : Nat) : BsS (w.drewN n) S v l := h.keep fun _ hs _ => ⟨rfl, hs⟩
set_option maxRecDepth 100000 in
set_option maxHeartbeats 400000 in
theorem lists_any (va vb : Value) (a b : List (List UInt8)) (S S' : Nat → Prop) (w : World) (ha : LBsS w S va a) (hb : LBsS w S' vb b) :
    Calls Try.prog 23 #[va, vb] w fun e w' => e = .returned (.bool (decide (a = b))) ∧ ∃ n, w' = w.drewN n := by
  obtain ⟨aa, ca, xs, rfl, _, _, hEa, hca⟩ := ha
  obtain ⟨ab, cb, ys, rfl, _, _, hEb, hcb⟩ := hb
  by_cases hl : a.length = b.length
  · have hne : ((a.length : Int) != (b.length : Int)) = false := by simp [hl]
    rcases Nat.eq_zero_or_pos a.length with h0 | h0
    · have e1 : a = [] := List.eq_nil_of_length_eq_zero h0
      have e2 : b = [] := List.eq_nil_of_length_eq_zero (by omega)
      subst e1 e2
      clear hl hne hca hcb h0 hEa hEb
      go_enter Try.func23, Try.ntmps23
      go_wp2
      refine wp_loop_rounds 1 ?_
      rw [rounds_succ]
      go_wp2
      go_ret
      exact ⟨rfl, 0, rfl⟩
    · obtain ⟨ba, oa, rfl, _, ha⟩ := hca h0
      obtain ⟨bb, ob, rfl, _, hb⟩ := hcb (by omega)
      have Hl := Lib.hid hl; clear hl hca hcb
      have HA := Lib.hid ha; have HB := Lib.hid hb; clear ha hb
      have HEa := Lib.hid hEa; have HEb := Lib.hid hEb; clear hEa hEb
      go_enter Try.func23, Try.ntmps23
      go_wp2
      go_loopw [5] (fun i wr => ∃ k : Nat, k ≤ a.length ∧ i = .int .i64 k ∧ (∃ m, wr = w.drewN m) ∧ Hid (∀ j, j < k → gl a j = gl b j)) (fun i _ => a.length - (intOf i).toNat)
      case atStart => exact ⟨0, by omega, rfl, ⟨0, rfl⟩, fun j hj => by omega⟩
      case round =>
        obtain ⟨k, hk, rfl, ⟨m, rfl⟩, hg⟩ := hrel
        by_cases hlt : k < a.length
        · have hkx : k < xs.length := by rw [HEa.out.1]; exact hlt
          have hky : k < ys.length := by rw [HEb.out.1, ← Hl.out]; exact hlt
          obtain ⟨x, hx⟩ : ∃ x, xs[k]? = some x := ⟨_, List.getElem?_eq_getElem hkx⟩
          obtain ⟨y, hy⟩ : ∃ y, ys[k]? = some y := ⟨_, List.getElem?_eq_getElem hky⟩
          have h1 := HA.out k x hx
          have hkb : (k : Int) < b.length := by have := Hl.out; omega
          have h2 := HB.out k y hy
          have Hx := Lib.hid (HEa.out.2 k x hx); have Hy := Lib.hid (HEb.out.2 k y hy)
          clear hx hy hkx hky
          by_cases he : gl a k = gl b k
          · have e1 : decide (gl a k = gl b k) = true := by simp [he]
            have He := Lib.hid he; clear he
            go_wp2
            go_quiet ((go_at_call 13; exact quiet_add (same_any x y (gl a k) (gl b k) S S' _ (Hx.out.drew _) (Hy.out.drew _))))
            go_wp2
            go_roundw
            case rel =>
              refine ⟨k + 1, by omega, by go_num, ⟨m + nq, by simp⟩, fun j hj => ?_⟩
              by_cases h : j = k
              · subst h; exact He.out
              · exact hg.out j (by omega)
            case measure => simp [intOf] <;> omega
          · have e1 : decide (gl a k = gl b k) = false := by simp [he]
            have He := Lib.hid he; clear he
            go_wp2
            go_quiet ((go_at_call 13; exact quiet_add (same_any x y (gl a k) (gl b k) S S' _ (Hx.out.drew _) (Hy.out.drew _))))
            go_wp2
            go_ret
            refine ⟨?_, m + nq, by simp⟩
            have hne : ¬ a = b := by intro h; exact He.out (by rw [h])
            simp [hne]
        · go_wp2
          go_ret
          refine ⟨?_, _, rfl⟩
          have heq : a = b := gl_ext Hl.out fun j hj => hg.out j (by omega)
          simp [heq]
  · have hne : ((a.length : Int) != (b.length : Int)) = true := by simp; omega
    have Hl := Lib.hid hl
    clear hca hcb hl
    go_enter Try.func23, Try.ntmps23
    go_wp2
    go_ret
    refine ⟨?_, 0, rfl⟩
    have hn : ¬ a = b := by intro h; exact Hl.out (by rw [h])
    simp [hn]
end Go.Proofs.Ytiedfobnpcenkaa
