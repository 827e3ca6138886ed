/- Plain law: the substitutes of both sides, and that the table is one to one. -/
import Derived.Test.YtiedfobnpcenkaaSbox
import Derived.Test.YtiedfobnpcenkaaAes6
namespace Go.Proofs.Ytiedfobnpcenkaa
/-- f at a byte, the byte reckoned out first. -/
def forceB (b : UInt8) (f : UInt8 → UInt8) : UInt8 := Nat.rec (motive := fun _ => UInt8) (f 0) (fun k _ => f (UInt8.ofNat (k + 1))) b.toNat
theorem forceB_eq (b : UInt8) (f : UInt8 → UInt8) : forceB b f = f b := by
  unfold forceB
  have h : b = UInt8.ofNat b.toNat := by simp
  generalize b.toNat = n at h
  subst h
  cases n <;> rfl
def pwF (x : UInt8) : Nat → UInt8 → UInt8
  | 0, acc => acc
  | n + 1, acc => forceB (tms acc x) (pwF x n)
theorem pwF_pw (x : UInt8) (n : Nat) : ∀ k, pwF x n (pw x k) = pw x (k + n) := by
  induction n with
  | zero => intro k; rfl
  | succ n ih =>
    intro k
    rw [pwF, forceB_eq]
    have := ih (k + 1)
    rw [show k + 1 + n = k + (n + 1) by omega] at this
    exact this
theorem aff_pwF (x : UInt8) : aff (pwF x 254 1) = SB x := by
  refine forall_u8 (p := fun x => aff (pwF x 254 1) = SB x) ?_ x
  decide +kernel
theorem aff_pw (x : UInt8) : aff (pw x 254) = SB x := by
  have := pwF_pw x 254 0
  rw [Nat.zero_add] at this
  rw [← this]
  exact aff_pwF x
theorem subF_ref (x : Int) : subF x = refSubF x := by
  unfold subF refSubF
  by_cases h : 0 ≤ x ∧ x ≤ 255
  · rw [if_pos h, if_pos h, aff_pw]
    have e : x.toNat = (ofI x).toNat := by
      have := bv_in h.1 (by omega : x < 256)
      unfold bv at this
      omega
    rw [e, fwd_SB]
  · rw [if_neg h, if_neg h]
end Go.Proofs.Ytiedfobnpcenkaa
