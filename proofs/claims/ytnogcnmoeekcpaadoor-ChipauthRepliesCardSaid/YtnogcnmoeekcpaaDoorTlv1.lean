/- Layer 2: the walks of Valid, Constructed, both sides. -/
import Derived.Test.YtnogcnmoeekcpaaDoorQParse
import Derived.WalkKit
namespace Go.Proofs.YtnogcnmoeekcpaaDoor
open Go.RowKit

theorem tagV_of {t : Int} {p : Prop} [Decidable p] (h : ((1 ≤ t ∧ t ≤ 255 ∧ ¬ t % 32 = 31) ∨ (256 ≤ t ∧ t ≤ 65535 ∧ t / 256 % 32 = 31 ∧ 1 ≤ t % 256 ∧ t % 256 ≤ 127)) ↔ p) : tagV t = decide p := by unfold tagV; exact decide_eq_decide.2 h
theorem cons_bit {t : Int} (h0 : 0 ≤ t) (h1 : t < 256) : (bits .and .i64 t 32 != 0) = decide (t / 32 % 2 = 1) := by
  obtain ⟨n, rfl⟩ := Int.eq_ofNat_of_zero_le h0
  have h : (List.range 256).all (fun n => (bits .and .i64 (n : Int) 32 != 0) == decide ((n : Int) / 32 % 2 = 1)) = true := by decide +kernel
  have := List.all_eq_true.1 h n (List.mem_range.2 (by omega))
  simpa using this
theorem tagV_range {t : Int} (h : tagV t = true) : 1 ≤ t ∧ t ≤ 65535 := by
  have := of_decide_eq_true h
  omega
end Go.Proofs.YtnogcnmoeekcpaaDoor
