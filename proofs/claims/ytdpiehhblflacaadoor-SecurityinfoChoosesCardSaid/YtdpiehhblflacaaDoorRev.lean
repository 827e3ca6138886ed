/- slices.Reverse of a row of bytes of the call's own. -/
import Derived.Test.YtdpiehhblflacaaDoorVals
import Derived.Test.YtdpiehhblflacaaDoorClone
import Derived.Deep.LoopGhost
import Derived.BigRegion
import Derived.Deep.DeepMust
namespace Go.Proofs.YtdpiehhblflacaaDoor
open Go.RowKit Go.Deep

/-- The first i and the last i of n places are exchanged. -/
def revF (n i : Nat) (f : Nat → UInt8) (j : Nat) : UInt8 := if j < i ∨ n ≤ i + j then f (n - 1 - j) else f j
theorem revF_zero (n : Nat) (f : Nat → UInt8) : vals n (revF n 0 f) = vals n f := vals_congr fun j hj => by unfold revF; rw [if_neg (by omega)]
theorem revF_done (n i : Nat) (f : Nat → UInt8) (h : n ≤ 2 * i + 1) : vals n (revF n i f) = vals n fun j => f (n - 1 - j) := vals_congr fun j hj => by
  unfold revF
  by_cases e : j < i ∨ n ≤ i + j
  · rw [if_pos e]
  · rw [if_neg e]; congr 1; omega
theorem revF_step (n i : Nat) (f : Nat → UInt8) (h : 2 * i + 1 < n) : ((vals n (revF n i f)).set i (U8 (revF n i f (n - 1 - i)))).set (n - 1 - i) (U8 (revF n i f i)) = vals n (revF n (i + 1) f) := by
  rw [vals_set, vals_set]
  refine vals_congr fun j hj => ?_
  unfold revF
  by_cases e1 : j = n - 1 - i
  · rw [if_pos e1, if_neg (by omega), if_pos (by omega)]; congr 1; omega
  · rw [if_neg e1]
    by_cases e2 : j = i
    · rw [if_pos e2, if_neg (by omega), if_pos (by omega)]; congr 1; omega
    · rw [if_neg e2]
      by_cases e3 : j < i ∨ n ≤ i + j
      · rw [if_pos e3, if_pos (by omega)]
      · rw [if_neg e3, if_neg (by omega)]
set_option maxRecDepth 100000 in
set_option maxHeartbeats 1000000 in
theorem rev_any (g n cap base : Nat) (f : Nat → UInt8) (w : World) (h0 : 0 < n) (hn : n ≤ 140737488355328) (how : w.ownsRow base 5 1 (.slice (some ⟨g, 0, none⟩) n cap) n (vals n f)) :
    Calls Tryd.prog 85 #[.slice (some ⟨g, 0, none⟩) n cap] w fun e w' => e = .returned (.tuple #[]) ∧ w'.ownsRow base 5 1 (.slice (some ⟨g, 0, none⟩) n cap) n (vals n fun j => f (n - 1 - j)) ∧ w.grownBy w' (some g) := by
  have How := Lib.hid how; clear how
  go_enter Tryd.func85, Tryd.ntmps85
  go_wp2_with fail
  go_loopg [2, 3] n (fun m s2 s3 wr => ∃ (i : Nat) (z : Int), s2 = .int .i64 i ∧ s3 = .int .i64 z ∧ z + i = n - 1 ∧ m + i = n ∧ 2 * i ≤ n ∧ wr.ownsRow base 5 1 (.slice (some ⟨g, 0, none⟩) n cap) n (vals n (revF n i f)) ∧ w.grownBy wr (some g))
  case atStart => exact ⟨0, _, rfl, rfl, by omega, by omega, by omega, by rw [revF_zero]; exact How.out, World.grownBy.refl w _⟩
  case round =>
    obtain ⟨i, z, rfl, rfl, hz, hm, hi, how, hg⟩ := hrel
    have How2 := Lib.hid how; have Hg := Lib.hid hg; clear how hg
    by_cases hlt : 2 * i + 1 < n
    · obtain ⟨j, hj, rfl⟩ : ∃ j : Nat, j + i + 1 = n ∧ z = j := ⟨n - 1 - i, by omega, by omega⟩
      have hd : decide ((i : Int) < j) = true := by simp; omega
      have c1 : wr.cell? ⟨g, i, none⟩ = some (U8 (revF n i f i)) := by rw [How2.out.cellAt i (by omega), vals_get _ _ _ (by omega)]
      have f1 := How2.out.frozenAt i
      have c2 : wr.cell? ⟨g, j, none⟩ = some (U8 (revF n i f j)) := by rw [How2.out.cellAt j (by omega), vals_get _ _ _ (by omega)]
      have f2 := How2.out.frozenAt j
      have b1 : (0 : Int) ≤ i := by omega
      have b2 : (0 : Int) ≤ j := by omega
      have b3 : (i : Int) < n := by omega
      have b4 : (j : Int) < n := by omega
      go_wp2_with fail
      go_region
      go_wp2_with fail
      go_roundg (n - (i + 1))
      case measure => omega
      case rel =>
        obtain ⟨h1, _⟩ := How2.out.stored i (U8 (revF n i f j))
        obtain ⟨h2, _⟩ := h1.stored j (U8 (revF n i f i))
        have e := revF_step n i f hlt
        have ej : n - 1 - i = j := by omega
        rw [ej] at e
        rw [e] at h2
        refine ⟨i + 1, (j : Int) - 1, by go_num, rfl, by omega, by omega, by omega, ?_, only_drew (only_setCell (only_setCell Hg.out (.inl rfl) _) (.inl rfl) _)⟩
        exact World.ownsRow.drew h2
    · have hd : decide ((i : Int) < z) = false := by simp; omega
      go_wp2_with fail
      go_end0
      exact ⟨rfl, by rw [← revF_done n i f (by omega)]; exact How2.out, Hg.out⟩
end Go.Proofs.YtdpiehhblflacaaDoor
