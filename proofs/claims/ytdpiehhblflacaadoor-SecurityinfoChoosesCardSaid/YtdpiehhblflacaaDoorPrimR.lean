/- The reference's Prim and Cons. -/
import Derived.Test.YtdpiehhblflacaaDoorQObjC
namespace Go.Proofs.YtdpiehhblflacaaDoor
open Go.RowKit Go.Deep

set_option maxRecDepth 100000 in
set_option maxHeartbeats 1000000 in
theorem rprim_any (t tag z : Int) (A A' : Option Addr) (n c m c' : Nat) (w : World) (o : Bool) (hz : 0 ≤ z) (ho : decide (t = tag ∧ m = 0 ∧ (n : Int) = z) = o) :
    Calls Tryd.prog 59 #[.agg #[.int .i64 t, .slice A n c, .slice A' m c'], .int .i64 tag, .int .i64 z] w fun e w' => e = .returned (.bool o) ∧ Below w.heap.size w w' := by
  have HB : Hid (Below w.heap.size w (w.alloc (.cells #[.int .i64 t, .slice A n c, .slice A' m c'] 53))) := Lib.hid ((Below.refl _ _).alloc (Nat.le_refl _) _)
  have HO := Lib.hid ho
  have hz' : decide (z < 0) = false := decide_eq_false (by omega)
  clear ho
  by_cases h1 : t = tag
  · by_cases h2 : m = 0
    · by_cases h3 : (n : Int) = z
      · have hob : o = true := by rw [← HO.out]; exact decide_eq_true ⟨h1, h2, h3⟩
        subst h1 h2 h3
        clear HO
        go_enter Tryd.func59, Tryd.ntmps59
        go_wp2_with fail
        go_ret
        exact ⟨by rw [hob]; rfl, HB.out⟩
      · have hob : o = false := by rw [← HO.out]; exact decide_eq_false (fun h => h3 h.2.2)
        have h3' : ((n : Int) == z) = false := by simp [h3]
        subst h1 h2
        clear HO h3
        go_enter Tryd.func59, Tryd.ntmps59
        go_wp2_with fail
        go_ret
        exact ⟨by rw [hob]; rfl, HB.out⟩
    · have hob : o = false := by rw [← HO.out]; exact decide_eq_false (fun h => h2 h.2.1)
      have h2' : ((m : Int) == 0) = false := by simp [h2]
      subst h1
      clear HO h2
      go_enter Tryd.func59, Tryd.ntmps59
      go_wp2_with fail
      go_ret
      exact ⟨by rw [hob]; rfl, HB.out⟩
  · have hob : o = false := by rw [← HO.out]; exact decide_eq_false (fun h => h1 h.1)
    have h1' : ((t : Int) == tag) = false := by simp [h1]
    clear HO h1
    go_enter Tryd.func59, Tryd.ntmps59
    go_wp2_with fail
    go_ret
    exact ⟨by rw [hob]; rfl, HB.out⟩
set_option maxRecDepth 100000 in
set_option maxHeartbeats 1000000 in
theorem rcs_any (t tag : Int) (A A' : Option Addr) (n c m c' : Nat) (w : World) (o : Bool) (ho : decide (t = tag ∧ n = 0) = o) :
    Calls Tryd.prog 35 #[.agg #[.int .i64 t, .slice A n c, .slice A' m c'], .int .i64 tag, .int .i64 (-1)] w fun e w' => e = .returned (.bool o) ∧ Below w.heap.size w w' := by
  have HB : Hid (Below w.heap.size w (w.alloc (.cells #[.int .i64 t, .slice A n c, .slice A' m c'] 53))) := Lib.hid ((Below.refl _ _).alloc (Nat.le_refl _) _)
  have HO := Lib.hid ho
  clear ho
  by_cases h1 : t = tag
  · by_cases h2 : n = 0
    · have hob : o = true := by rw [← HO.out]; exact decide_eq_true ⟨h1, h2⟩
      subst h1 h2
      clear HO
      go_enter Tryd.func35, Tryd.ntmps35
      go_wp2_with fail
      go_ret
      exact ⟨by rw [hob]; rfl, HB.out⟩
    · have hob : o = false := by rw [← HO.out]; exact decide_eq_false (fun h => h2 h.2)
      have h2' : ((n : Int) == 0) = false := by simp [h2]
      subst h1
      clear HO h2
      go_enter Tryd.func35, Tryd.ntmps35
      go_wp2_with fail
      go_ret
      exact ⟨by rw [hob]; rfl, HB.out⟩
  · have hob : o = false := by rw [← HO.out]; exact decide_eq_false (fun h => h1 h.1)
    have h1' : ((t : Int) == tag) = false := by simp [h1]
    clear HO h1
    go_enter Tryd.func35, Tryd.ntmps35
    go_wp2_with fail
    go_ret
    exact ⟨by rw [hob]; rfl, HB.out⟩
end Go.Proofs.YtdpiehhblflacaaDoor
