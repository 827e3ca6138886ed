/- Octets: four bytes as a row of the call's own. -/
import Derived.Test.YtnogcnmoeekcpaaDoorQCat
namespace Go.Proofs.YtnogcnmoeekcpaaDoor
open Go.RowKit Go.Deep

set_option maxRecDepth 100000 in
set_option maxHeartbeats 1000000 in
theorem octets_w (k : Int) (w : World) (h0 : 0 ≤ k) (h1 : k < 4294967296) : Calls Tryd.prog 46 #[.int .i64 k, .int .i64 4] w fun e w' => ∃ v', e = .returned (.tuple #[v', .int .i64 0]) ∧ OwnB w' w.heap.size v' (fourO k) ∧ Below w.heap.size w w' := by
  have g1 : decide (k < 0) = false := decide_eq_false (by omega)
  have g2 : (k / 4294967296 != 0) = false := by simp; omega
  have hm := make4o w
  have hB0 : Below w.heap.size w (w.alloc (.cells #[.int .u8 0, .int .u8 0, .int .u8 0, .int .u8 0] 5)) := (Below.refl _ _).alloc (Nat.le_refl _) _
  have HB0 := Lib.hid hB0
  clear hB0
  go_enter Tryd.func46, Tryd.ntmps46
  go_wp2_with fail
  go_loopg [26] 4 (fun m i wr => ∃ j n : Nat, n = m ∧ j + n = 4 ∧ i = .int .i64 j ∧ wr.heap[w.heap.size]? = some (.cells (octRo k j) 5 (0, 0)) ∧ Below w.heap.size w wr)
  case atStart => exact ⟨0, 4, rfl, rfl, rfl, heap_alloc_new _ _, HB0.out⟩
  case round =>
    obtain ⟨j, n, rfl, hj, rfl, hr, hb⟩ := hrel
    have HB := Lib.hid hb; have HR := Lib.hid hr
    have hf : ∀ o, wr.frozen? ⟨w.heap.size, o, none⟩ = false := fun o => by simp [World.frozen?, hr]
    have hc : ∀ o, o < 4 → wr.cell? ⟨w.heap.size, o, none⟩ = (octRo k j)[o]? := fun o ho => by rw [cell_of_row _ _ _ _ _ _ hr]
    clear hr hb
    obtain rfl | rfl | rfl | rfl | rfl : j = 0 ∨ j = 1 ∨ j = 2 ∨ j = 3 ∨ j = 4 := by omega
    · obtain rfl : n = 4 := by omega
      go_wp2_with fail
      go_roundg 3
      case measure => omega
      case rel =>
        have hs := row_sets (o := 3) (v := .int .u8 (k % 256)) HR.out
        rw [show Value.int .u8 (k % 256) = U8 (ofI k) from val_mod k] at hs
        exact ⟨1, 3, rfl, rfl, rfl, hs, HB.out.setCell (Nat.le_refl _) _⟩
    · obtain rfl : n = 3 := by omega
      go_wp2_with fail
      go_roundg 2
      case measure => omega
      case rel =>
        have hs := row_sets (o := 2) (v := .int .u8 (k / 256 % 256)) HR.out
        rw [show Value.int .u8 (k / 256 % 256) = U8 (ofI (k / 256)) from val_mod (k / 256)] at hs
        exact ⟨2, 2, rfl, rfl, rfl, hs, HB.out.setCell (Nat.le_refl _) _⟩
    · obtain rfl : n = 2 := by omega
      go_wp2_with fail
      go_roundg 1
      case measure => omega
      case rel =>
        have hs := row_sets (o := 1) (v := .int .u8 (k / 65536 % 256)) HR.out
        rw [show Value.int .u8 (k / 65536 % 256) = U8 (ofI (k / 65536)) from val_mod (k / 65536)] at hs
        exact ⟨3, 1, rfl, rfl, rfl, hs, HB.out.setCell (Nat.le_refl _) _⟩
    · obtain rfl : n = 1 := by omega
      go_wp2_with fail
      go_roundg 0
      case measure => omega
      case rel =>
        have hs := row_sets (o := 0) (v := .int .u8 (k / 16777216)) HR.out
        rw [show (octRo k 3).set! 0 (.int .u8 (k / 16777216)) = octRo k 4 by rw [show Value.int .u8 (k / 16777216) = U8 (ofI (k / 16777216)) by rw [← val_mod, Int.emod_eq_of_lt (by omega) (by omega)]]; rfl] at hs
        exact ⟨4, 0, rfl, rfl, rfl, hs, HB.out.setCell (Nat.le_refl _) _⟩
    · obtain rfl : n = 0 := by omega
      go_wp2_with fail
      go_ret2
      exact ⟨_, rfl, ⟨by simp [fourO], .inr ⟨w.heap.size, 4, _, rfl, Nat.le_refl _, HR.out, Nat.le_refl _, by decide, rfl, rfl⟩⟩, HB.out⟩
end Go.Proofs.YtnogcnmoeekcpaaDoor
