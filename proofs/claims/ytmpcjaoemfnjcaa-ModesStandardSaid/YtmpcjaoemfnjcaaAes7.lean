/- The walk of Expand. -/
import Derived.Test.YtmpcjaoemfnjcaaAes6
import Derived.Test.YtmpcjaoemfnjcaaLists
namespace Go.Proofs.Ytmpcjaoemfnjcaa
open Go.RowKit

/-- The first n keys of the rounds. -/
def keyL (key : Nat → UInt8) (n : Nat) : List (List UInt8) := (List.range n).map fun i => bList 16 (keyF fwd key i)
theorem keyL_succ (key : Nat → UInt8) (n : Nat) : keyL key (n + 1) = keyL key n ++ [bList 16 (keyF fwd key n)] := by
  unfold keyL; rw [List.range_succ, List.map_append]; rfl
theorem keyL_len (key : Nat → UInt8) (n : Nat) : (keyL key n).length = n := by simp [keyL]

theorem index_keys (K : Nat → UInt8) (n : Nat) (hn : n < 11) (w : World) :
    (Instr.index 52 (.agg (bArr 176 K)) (.int .i64 n)).run Try.prog w = .ok (.agg (bArr 16 fun j => K (n * 16 + j))) w := by
  iterate 11 (rcases n with _ | n; · kernel_rfl)
  omega
theorem clone_lit (A : Option Addr) (n c : Nat) (l : List UInt8) (w : World) (hv : Bs w w.heap.size (.slice A n c) l) :
    Calls Try.prog 29 #[.slice A n c] w fun e w' => ∃ v', e = .returned v' ∧ OwnB w' w.heap.size v' l ∧ Below w.heap.size w w' := clone_any _ l w hv
end Go.Proofs.Ytmpcjaoemfnjcaa
