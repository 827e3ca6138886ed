/- Package group: secrets, elements as bytes, public keys, shares; both sides. -/
import Derived.Test.YtnogcnmoeekcpaaDoorPoint
import Derived.Test.YtnogcnmoeekcpaaDoorOctW
namespace Go.Proofs.YtnogcnmoeekcpaaDoor
open Go.RowKit Go.Deep

theorem elem_in {x : Int} (h : elemP x = true) : 0 < x ∧ x < 2147483579 := by
  unfold elemP at h
  simp only [Bool.and_eq_true, decide_eq_true_eq] at h
  exact h.1.1
theorem elem_one {x : Int} (h : elemP x = true) : x ≠ 1 := by
  unfold elemP at h
  simp only [Bool.and_eq_true, decide_eq_true_eq] at h
  exact h.1.2
theorem elem_ord {x : Int} (h : elemP x = true) : gpw 64 1 x.toNat 1073741789 = 1 := by
  unfold elemP at h
  simp only [Bool.and_eq_true, decide_eq_true_eq] at h
  exact h.2
theorem base_gcd (x a b : Nat) : x ^ a % 2147483579 = 1 → x ^ b % 2147483579 = 1 → x ^ Nat.gcd a b % 2147483579 = 1 := by
  induction a, b using Nat.gcd.induction with
  | H0 n => intro _ h; rw [Nat.gcd_zero_left]; exact h
  | H1 m n hm ih =>
    intro h1 h2
    rw [Nat.gcd_rec]
    refine ih ?_ h1
    have e : x ^ n % 2147483579 = x ^ (n % m) % 2147483579 := by
      conv => lhs; rw [← Nat.div_add_mod n m]
      rw [Nat.pow_add, Nat.mul_mod, Nat.pow_mul, Nat.pow_mod, h1, Nat.one_pow]
      simp
    rw [← e]; exact h2
theorem pow_swap {g x k q : Nat} (hg : g = x ^ k % 2147483579) (h : x ^ q % 2147483579 = 1) : g ^ q % 2147483579 = 1 := by
  rw [hg, ← Nat.pow_mod, ← Nat.pow_mul, Nat.mul_comm, Nat.pow_mul, Nat.pow_mod, h, Nat.one_pow]
/-- A share of an element is one. -/
theorem share_elem (x k : Nat) (hx : elemP (x : Int) = true) (h1 : 1 ≤ k) (h2 : k < 1073741789) : elemP ((gpw 64 1 x k : Nat) : Int) = true := by
  have hlt : gpw 64 1 x k < 2147483579 := gpw_lt 64 1 x k (by decide)
  have hi := elem_in hx
  have hxl : x < 2147483579 := by omega
  have hp := pw_one x k (by omega)
  have ho := elem_ord hx
  have h1x := elem_one hx
  have hg := order_gcd k h1 h2
  unfold elemP
  rw [Int.toNat_natCast] at ho ⊢
  obtain ⟨q, hq0⟩ : ∃ q : Nat, q = 1073741789 := ⟨_, rfl⟩
  rw [← hq0] at ho hg ⊢
  have hql : q < 2 ^ 64 := by omega
  have hqp : 0 < q := by omega
  clear hq0
  rw [pw_one x q hql] at ho
  have hq : (gpw 64 1 x k) ^ q % 2147483579 = 1 := pow_swap hp ho
  have hne : gpw 64 1 x k ≠ 1 := by
    intro e
    have h := base_gcd x k q (by rw [← hp]; exact e) ho
    rw [hg, Nat.pow_one, Nat.mod_eq_of_lt hxl] at h
    exact h1x (by omega)
  have h0 : gpw 64 1 x k ≠ 0 := by
    intro e
    rw [e, Nat.zero_pow hqp] at hq
    exact absurd hq (by decide)
  rw [pw_one _ q hql]
  have a1 : decide (0 < ((gpw 64 1 x k : Nat) : Int) ∧ ((gpw 64 1 x k : Nat) : Int) < 2147483579) = true := decide_eq_true (by omega)
  have a2 : decide (((gpw 64 1 x k : Nat) : Int) ≠ 1) = true := decide_eq_true (by omega)
  have a3 : decide ((gpw 64 1 x k) ^ q % 2147483579 = 1) = true := decide_eq_true hq
  rw [a1, a2, a3]
  rfl
theorem share_comm (a b : Nat) (ha : a < 2 ^ 64) (hb : b < 2 ^ 64) : gpw 64 1 (gpw 64 1 4 a) b = gpw 64 1 (gpw 64 1 4 b) a := by
  rw [pw_one (gpw 64 1 4 a) b hb, pw_one (gpw 64 1 4 b) a ha, pw_one 4 a ha, pw_one 4 b hb, ← Nat.pow_mod, ← Nat.pow_mod, ← Nat.pow_mul, ← Nat.pow_mul, Nat.mul_comm]
def okS (k : Int) : Bool := decide (1 ≤ k ∧ k < 1073741789)
theorem okS_in {k : Int} (h : okS k = true) : 1 ≤ k ∧ k < 1073741789 := of_decide_eq_true h
theorem okS_pos (k : Int) : okS k = (decide (0 < k) && decide (k < 1073741789)) := by
  unfold okS
  rw [← Bool.decide_and]
  exact decide_eq_decide.2 ⟨fun h => ⟨by omega, h.2⟩, fun h => ⟨by omega, h.2⟩⟩
theorem gsecret_any (k : Int) (w : World) : Calls Tryd.prog 37 #[.int .i64 k] w fun e w' => e = .returned (.bool (okS k)) ∧ w' = w := by
  rw [okS_pos]
  go_enter Tryd.func37, Tryd.ntmps37
  by_cases h : 0 < k <;> by_cases h2 : k < 1073741789 <;> (go_wp2_with fail; go_ret; exact ⟨by simp [h, h2], rfl⟩)
theorem rgsecret_any (k : Int) (w : World) : Calls Tryd.prog 42 #[.int .i64 k] w fun e w' => e = .returned (.bool (okS k)) ∧ w' = w := by
  unfold okS
  go_enter Tryd.func42, Tryd.ntmps42
  by_cases h : 1 ≤ k <;> by_cases h2 : k < 1073741789 <;> (go_wp2_with fail; go_ret; exact ⟨by simp [h, h2], rfl⟩)
set_option maxRecDepth 100000 in
theorem gencode_good (x : Int) (h : elemP x = true) (w : World) : Calls Tryd.prog 31 #[.int .i64 x] w fun e w' => ∃ v', e = .returned (.tuple #[v', .int .i64 0]) ∧ OwnB w' w.heap.size v' (fourO x) ∧ Below w.heap.size w w' := by
  have HE := Lib.hid (elem_any x)
  obtain ⟨h1, h2⟩ := elem_in h
  have HO := Lib.hid (octets_w x w (by omega) (by omega))
  rw [h] at HE
  clear h h1 h2
  go_enter Tryd.func31, Tryd.ntmps31
  go_wp2_with (first
    | (go_at_call 19; refine (HE.out _).mono ?_; rintro e w' ⟨rfl, hw'⟩; rw [hw']; clear hw' w')
    | (go_at_call 46; refine HO.out.mono ?_; rintro e w1 ⟨v1, rfl, hs, hb⟩; have HS := Lib.hid hs; have HB := Lib.hid hb; clear hs hb))
  go_ret2
  exact ⟨_, rfl, HS.out, HB.out⟩
set_option maxRecDepth 100000 in
theorem gencode_bad (x : Int) (h : elemP x = false) (w : World) : Calls Tryd.prog 31 #[.int .i64 x] w fun e w' => e = .returned (.tuple #[.slice none 0 0, .int .i64 10]) ∧ w' = w := by
  have HE := Lib.hid (elem_any x)
  rw [h] at HE
  clear h
  go_enter Tryd.func31, Tryd.ntmps31
  go_wp2_with (go_at_call 19; refine (HE.out _).mono ?_; rintro e w' ⟨rfl, hw'⟩; rw [hw']; clear hw' w')
  go_ret2
  exact ⟨rfl, rfl⟩
set_option maxRecDepth 100000 in
theorem rgencode_good (x : Int) (h : elemP x = true) (w : World) : Calls Tryd.prog 33 #[.int .i64 x] w fun e w' => ∃ v', e = .returned (.tuple #[v', .int .i64 0]) ∧ BsS w' (New w w') v' (fourO x) ∧ Below w.heap.size w w' := by
  have HE := Lib.hid (relem_any x)
  obtain ⟨h1, h2⟩ := elem_in h
  have HO := Lib.hid (four_o x w (by omega) (by omega))
  rw [h] at HE
  clear h h1 h2
  go_enter Tryd.func33, Tryd.ntmps33
  go_wp2_with (first
    | (go_at_call 24; refine (HE.out _).mono ?_; rintro e w' ⟨rfl, hw'⟩; rw [hw']; clear hw' w')
    | (go_at_call 52; refine HO.out.mono ?_; rintro e w1 ⟨v1, rfl, hs, hb⟩; have HS := Lib.hid hs; have HB := Lib.hid hb; clear hs hb))
  go_ret2
  exact ⟨_, rfl, HS.out, HB.out⟩
set_option maxRecDepth 100000 in
theorem rgencode_bad (x : Int) (h : elemP x = false) (w : World) : Calls Tryd.prog 33 #[.int .i64 x] w fun e w' => e = .returned (.tuple #[.slice none 0 0, .int .i64 10]) ∧ w' = w := by
  have HE := Lib.hid (relem_any x)
  rw [h] at HE
  clear h
  go_enter Tryd.func33, Tryd.ntmps33
  go_wp2_with (go_at_call 24; refine (HE.out _).mono ?_; rintro e w' ⟨rfl, hw'⟩; rw [hw']; clear hw' w')
  go_ret2
  exact ⟨rfl, rfl⟩
set_option maxRecDepth 100000 in
theorem gpublic_good (k : Nat) (h1 : 1 ≤ k) (h2 : k < 1073741789) (w : World) : Calls Tryd.prog 28 #[.int .i64 k] w fun e w' => e = .returned (.tuple #[.int .i64 (gpw 64 1 4 k), .int .i64 0]) ∧ w' = w := by
  have HS := Lib.hid (gsecret_any (k : Int))
  rw [show okS (k : Int) = true from decide_eq_true (by omega)] at HS
  have HP := Lib.hid (power_any 4 k w (by decide) (by omega))
  clear h1 h2
  go_enter Tryd.func28, Tryd.ntmps28
  go_wp2_with (first
    | (go_at_call 37; refine (HS.out _).mono ?_; rintro e w' ⟨rfl, hw'⟩; rw [hw']; clear hw' w')
    | (go_at_call 36; refine HP.out.mono ?_; rintro e w' ⟨rfl, hw'⟩; rw [hw']; clear hw' w'))
  go_ret2
  exact ⟨rfl, rfl⟩
set_option maxRecDepth 100000 in
theorem gshare_good (k x : Nat) (h1 : 1 ≤ k) (h2 : k < 1073741789) (hx : elemP (x : Int) = true) (w : World) : Calls Tryd.prog 20 #[.int .i64 k, .int .i64 x] w fun e w' => e = .returned (.tuple #[.int .i64 (gpw 64 1 x k), .int .i64 0]) ∧ w' = w := by
  have HS := Lib.hid (gsecret_any (k : Int))
  rw [show okS (k : Int) = true from decide_eq_true (by omega)] at HS
  have HE := Lib.hid (elem_any (x : Int))
  have hi := elem_in hx
  have HP := Lib.hid (power_any x k w (by omega) (by omega))
  rw [hx] at HE
  clear h1 h2 hx hi
  go_enter Tryd.func20, Tryd.ntmps20
  go_wp2_with (first
    | (go_at_call 37; refine (HS.out _).mono ?_; rintro e w' ⟨rfl, hw'⟩; rw [hw']; clear hw' w')
    | (go_at_call 19; refine (HE.out _).mono ?_; rintro e w' ⟨rfl, hw'⟩; rw [hw']; clear hw' w')
    | (go_at_call 36; refine HP.out.mono ?_; rintro e w' ⟨rfl, hw'⟩; rw [hw']; clear hw' w'))
  go_ret2
  exact ⟨rfl, rfl⟩
set_option maxRecDepth 100000 in
theorem rgpublic_good (k : Nat) (h1 : 1 ≤ k) (h2 : k < 1073741789) (w : World) : Calls Tryd.prog 30 #[.int .i64 k] w fun e w' => e = .returned (.tuple #[.int .i64 (gpw 64 1 4 k), .int .i64 0]) ∧ w' = w := by
  have HS := Lib.hid (rgsecret_any (k : Int))
  rw [show okS (k : Int) = true from decide_eq_true (by omega)] at HS
  have HP := Lib.hid (rpow_any 4 k w (by decide) (by omega))
  clear h1 h2
  go_enter Tryd.func30, Tryd.ntmps30
  go_wp2_with (first
    | (go_at_call 42; refine (HS.out _).mono ?_; rintro e w' ⟨rfl, hw'⟩; rw [hw']; clear hw' w')
    | (go_at_call 41; refine HP.out.mono ?_; rintro e w' ⟨rfl, hw'⟩; rw [hw']; clear hw' w'))
  go_ret2
  exact ⟨rfl, rfl⟩
set_option maxRecDepth 100000 in
theorem rgshare_good (k x : Nat) (h1 : 1 ≤ k) (h2 : k < 1073741789) (hx : elemP (x : Int) = true) (w : World) : Calls Tryd.prog 25 #[.int .i64 k, .int .i64 x] w fun e w' => e = .returned (.tuple #[.int .i64 (gpw 64 1 x k), .int .i64 0]) ∧ w' = w := by
  have HS := Lib.hid (rgsecret_any (k : Int))
  rw [show okS (k : Int) = true from decide_eq_true (by omega)] at HS
  have HE := Lib.hid (relem_any (x : Int))
  have hi := elem_in hx
  have HP := Lib.hid (rpow_any x k w (by omega) (by omega))
  rw [hx] at HE
  clear h1 h2 hx hi
  go_enter Tryd.func25, Tryd.ntmps25
  go_wp2_with (first
    | (go_at_call 42; refine (HS.out _).mono ?_; rintro e w' ⟨rfl, hw'⟩; rw [hw']; clear hw' w')
    | (go_at_call 24; refine (HE.out _).mono ?_; rintro e w' ⟨rfl, hw'⟩; rw [hw']; clear hw' w')
    | (go_at_call 41; refine HP.out.mono ?_; rintro e w' ⟨rfl, hw'⟩; rw [hw']; clear hw' w'))
  go_ret2
  exact ⟨rfl, rfl⟩
end Go.Proofs.YtnogcnmoeekcpaaDoor
