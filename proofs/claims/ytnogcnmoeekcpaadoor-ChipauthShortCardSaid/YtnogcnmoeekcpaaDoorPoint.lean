/- Layer 14: an element that is made of any number is one. -/
import Derived.Test.YtnogcnmoeekcpaaDoorGrp
namespace Go.Proofs.YtnogcnmoeekcpaaDoor
open Go.RowKit Go.Deep

theorem gpw_pow (n : Nat) : ∀ o x k, k < 2 ^ n → o < 2147483579 → gpw n o x k = o * x ^ k % 2147483579 := by
  induction n with
  | zero =>
    intro o x k hk ho
    have : k = 0 := by simpa using hk
    subst this
    simp [gpw, Nat.mod_eq_of_lt ho]
  | succ n ih =>
    intro o x k hk ho
    have hk2 : k / 2 < 2 ^ n := by rw [Nat.pow_succ] at hk; omega
    have hx : (x * x % 2147483579) ^ (k / 2) % 2147483579 = x ^ (2 * (k / 2)) % 2147483579 := by
      rw [← Nat.pow_mod, Nat.pow_mul]
      congr 2
      exact (Nat.pow_two x).symm
    have mm : ∀ a b : Nat, a * b % 2147483579 = a * (b % 2147483579) % 2147483579 := fun a b => by rw [Nat.mul_mod a b, Nat.mul_mod a (b % _), Nat.mod_mod]
    by_cases h : k % 2 = 1
    · rw [gpw_odd _ _ _ _ h, ih _ _ _ hk2 (Nat.mod_lt _ (by decide)), mm, hx, ← mm]
      rw [Nat.mul_mod, Nat.mod_mod, ← Nat.mul_mod, Nat.mul_assoc, ← Nat.pow_succ']
      congr 3
      omega
    · rw [gpw_even _ _ _ _ h, ih _ _ _ hk2 ho, mm, hx, ← mm]
      congr 3
      omega
theorem pw_one (x k : Nat) (h : k < 2 ^ 64) : gpw 64 1 x k = x ^ k % 2147483579 := by rw [gpw_pow 64 1 x k h (by decide), Nat.one_mul]
/-- No number from 2 on, up to so many, divides the order. -/
def bare : Nat → Bool
  | 0 => true
  | n + 1 => decide (n + 2 = 1) || (decide (¬ 1073741789 % (n + 2) = 0) && bare n)
theorem bare_all : ∀ n, bare n = true → ∀ d, 2 ≤ d → d ≤ n + 1 → ¬ 1073741789 % d = 0 := by
  intro n
  induction n with
  | zero => intro _ d h1 h2; omega
  | succ n ih =>
    intro h d h1 h2
    simp only [bare, Bool.or_eq_true, Bool.and_eq_true, decide_eq_true_eq] at h
    rcases h with h | h
    · omega
    · by_cases e : d = n + 2
      · subst e; exact h.1
      · exact ih h.2 d h1 (by omega)
set_option maxRecDepth 1000000 in
theorem order_bare : bare 32768 = true := by decide +kernel
theorem order_gcd (k : Nat) (h1 : 1 ≤ k) (h2 : k < 1073741789) : Nat.gcd k 1073741789 = 1 := by
  obtain ⟨g, hg⟩ : ∃ g, Nat.gcd k 1073741789 = g := ⟨_, rfl⟩
  rw [hg]
  have hk : g ∣ k := hg ▸ Nat.gcd_dvd_left _ _
  obtain ⟨m, hm⟩ : g ∣ 1073741789 := hg ▸ Nat.gcd_dvd_right _ _
  have hgk := Nat.le_of_dvd (by omega) hk
  rcases Nat.lt_or_ge g 2 with hlt | hge
  · have : g ≠ 0 := by rintro rfl; simp at hm
    omega
  · exfalso
    have hm2 : 2 ≤ m := by
      rcases Nat.lt_or_ge m 2 with h | h
      · obtain rfl | rfl : m = 0 ∨ m = 1 := by omega
        · simp at hm
        · omega
      · exact h
    have A := bare_all 32768 order_bare
    rcases Nat.lt_or_ge 32769 g with hb | hb
    · rcases Nat.lt_or_ge 32769 m with hc | hc
      · have := Nat.mul_le_mul (show 32770 ≤ g by omega) (show 32770 ≤ m by omega)
        omega
      · exact A m hm2 (by omega) (by rw [hm, Nat.mul_mod_left])
    · exact A g hge (by omega) (by rw [hm, Nat.mul_mod_right])
theorem four_gcd (a b : Nat) : 4 ^ a % 2147483579 = 1 → 4 ^ b % 2147483579 = 1 → 4 ^ Nat.gcd a b % 2147483579 = 1 := by
  induction a, b using Nat.gcd.induction with
  | H0 n => intro _ h; rw [Nat.gcd_zero_left]; exact h
  | H1 m n hm ih =>
    intro h1 h2
    rw [Nat.gcd_rec]
    refine ih ?_ h1
    have e : 4 ^ n % 2147483579 = 4 ^ (n % m) % 2147483579 := by
      conv => lhs; rw [← Nat.div_add_mod n m]
      rw [Nat.pow_add, Nat.mul_mod, Nat.pow_mul, Nat.pow_mod, h1, Nat.one_pow]
      simp
    rw [← e]; exact h2
theorem order_core (q k : Nat) (hq : q < 2 ^ 64) (h0q : q ≠ 0) (hk : k < 2 ^ 64) (h : gpw 64 1 4 q = 1) (hg : Nat.gcd k q = 1) : gpw 64 1 (gpw 64 1 4 k) q = 1 ∧ gpw 64 1 4 k ≠ 1 ∧ gpw 64 1 4 k ≠ 0 := by
  have hp := pw_one 4 k hk
  have h : 4 ^ q % 2147483579 = 1 := by rw [← pw_one 4 q hq]; exact h
  have ho : ((gpw 64 1 4 k) ^ q) % 2147483579 = 1 := by
    rw [hp, ← Nat.pow_mod, ← Nat.pow_mul, Nat.mul_comm, Nat.pow_mul, Nat.pow_mod, h, Nat.one_pow]
  refine ⟨by rw [pw_one _ q hq]; exact ho, ?_, ?_⟩
  · intro e
    have := four_gcd k q (by rw [← hp]; exact e) h
    rw [hg] at this
    exact absurd this (by decide)
  · intro e
    rw [e, Nat.zero_pow (Nat.pos_of_ne_zero h0q)] at ho
    exact absurd ho (by decide)
theorem point_elem (k : Nat) (h1 : 1 ≤ k) (h2 : k < 1073741789) : elemP ((gpw 64 1 4 k : Nat) : Int) = true := by
  have hlt : gpw 64 1 4 k < 2147483579 := gpw_lt 64 1 4 k (by decide)
  obtain ⟨ho, hne, h0⟩ := order_core 1073741789 k (by decide) (by decide) (by omega) (by decide +kernel) (order_gcd k h1 h2)
  unfold elemP
  rw [Int.toNat_natCast, ho]
  have a1 : decide (0 < ((gpw 64 1 4 k : Nat) : Int) ∧ ((gpw 64 1 4 k : Nat) : Int) < 2147483579) = true := decide_eq_true (by omega)
  have a2 : decide (((gpw 64 1 4 k : Nat) : Int) ≠ 1) = true := decide_eq_true (by omega)
  rw [a1, a2]
  rfl
end Go.Proofs.YtnogcnmoeekcpaaDoor
