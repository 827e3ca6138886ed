/- string(b) of bytes. -/
import Derived.Test.YtljalnfjneeieaaClone
import Derived.Laws.IdiomStrings
namespace Go.Proofs.Ytljalnfjneeieaa
open Go.RowKit

theorem str_run {w : World} {S : Nat → Prop} {A : Option Addr} {n c : Nat} {l : List UInt8} (h : BsS w S (.slice A n c) l) : (convert 25 9 (.slice A n c)).run Try.prog w = .ok (.string ⟨l.toArray⟩) w := by
  obtain ⟨a, c', hv, h1, h2, h3, h4⟩ := h
  injection hv with e1 e2 e3
  subst e1 e2 e3
  rcases A with _ | ad
  · have hl : l = [] := by
      rcases Nat.eq_zero_or_pos l.length with h0 | h0
      · exact List.eq_nil_of_length_eq_zero h0
      · obtain ⟨_, _, e, _⟩ := h4 h0; cases e
    subst hl
    rw [run_convert_bytes_string w 25 9 5 none _ c Try.underlying25 Try.underlying5 Try.underlying9]
    rfl
  · refine run_convert_bytes_back w 25 9 5 ad c l Try.underlying25 Try.underlying5 Try.underlying9 fun j hj => ?_
    obtain ⟨b, off, e, _, hc⟩ := h4 (by omega)
    injection e with e
    subst e
    rw [addr_add, hc j hj]
    simp [gb, bv, hj]
end Go.Proofs.Ytljalnfjneeieaa
