/- The walks of the reference of layer 5: times, Substitute. -/
import Derived.Test.YtnogcnmoeekcpaaDoorAes1
namespace Go.Proofs.YtnogcnmoeekcpaaDoor
open Go.RowKit

theorem forall_u8 {p : UInt8 → Prop} (h : ∀ n, n < 256 → p (UInt8.ofNat n)) (b : UInt8) : p b := by
  have := h b.toNat b.toNat_lt
  rwa [UInt8.ofNat_toNat] at this
theorem xt_hi (a : UInt8) (h : 255 < bv a * 2) : bits .xor .i64 (bv a * 2) 283 = bv (dbl a) := by
  revert h
  refine forall_u8 (p := fun a => 255 < bv a * 2 → bits .xor .i64 (bv a * 2) 283 = bv (dbl a)) ?_ a
  decide +kernel
theorem xt_lo (a : UInt8) (h : ¬ 255 < bv a * 2) : bv a * 2 = bv (dbl a) := by
  revert h
  refine forall_u8 (p := fun a => ¬ 255 < bv a * 2 → bv a * 2 = bv (dbl a)) ?_ a
  decide +kernel
theorem bits_and1_i64 (z : Int) : bits .and .i64 z 1 = z % 2 := by
  unfold bits
  simp only [show BitVec.ofInt IntKind.i64.bits 1 = 1#64 from rfl]
  have h : (BitVec.ofInt 64 z &&& 1#64).toNat = (z % 2).toNat := by
    rw [BitVec.toNat_and, BitVec.toNat_ofInt, show (1#64).toNat = 1 from rfl, Nat.and_one_is_mod]
    omega
  show IntKind.i64.wrap (((BitVec.ofInt 64 z &&& 1#64).toNat : Nat) : Int) = z % 2
  rw [h, IntWalk.i64_in _ (by omega)]
  omega
theorem bits_xor_bv_i64 (a b : UInt8) : bits .xor .i64 (bv a) (bv b) = bv (a ^^^ b) := by
  unfold bits bv
  show IntKind.i64.wrap (((BitVec.ofInt 64 (a.toNat : Int) ^^^ BitVec.ofInt 64 (b.toNat : Int)).toNat : Nat) : Int) = _
  have ha := a.toNat_lt; have hb := b.toNat_lt
  rw [BitVec.toNat_xor, BitVec.ofInt_natCast, BitVec.ofInt_natCast, BitVec.toNat_ofNat, BitVec.toNat_ofNat, Nat.mod_eq_of_lt (by omega), Nat.mod_eq_of_lt (by omega), UInt8.toNat_xor]
  have : a.toNat ^^^ b.toNat < 2 ^ 8 := Nat.xor_lt_two_pow ha hb
  exact IntWalk.i64_in _ (by omega)
attribute [simp] bits_and1_i64 bits_xor_bv_i64

/-- The loop of times, the second factor an integer. -/
def tmsZ : Nat → UInt8 → Int → UInt8 → UInt8
  | 0, _, _, out => out
  | n + 1, a, z, out => tmsZ n (dbl a) (z / 2) (if z % 2 == 1 then out ^^^ a else out)
def tms (a b : UInt8) : UInt8 := tmsZ 8 a (bv b) 0
theorem tmsZ_odd (n : Nat) (a : UInt8) (z : Int) (out : UInt8) (h : (z % 2 == 1) = true) : tmsZ (n + 1) a z out = tmsZ n (dbl a) (z / 2) (out ^^^ a) := by rw [tmsZ, if_pos h]
theorem tmsZ_even (n : Nat) (a : UInt8) (z : Int) (out : UInt8) (h : (z % 2 == 1) = false) : tmsZ (n + 1) a z out = tmsZ n (dbl a) (z / 2) out := by rw [tmsZ, if_neg (by simp [h])]
theorem half_pow (z : Int) (n : Nat) : z / 2 ^ n / 2 = z / 2 ^ (n + 1) := by
  have h : (0 : Int) < 2 ^ n := Int.pow_pos (by omega)
  rw [Int.ediv_ediv, if_neg (by omega), Int.pow_succ, Int.sub_zero]

set_option maxRecDepth 100000 in
set_option maxHeartbeats 400000 in
theorem times_any (a b : UInt8) (w : World) :
    Calls Tryd.prog 94 #[.int .i64 (bv a), .int .i64 (bv b)] w fun e w' => e = .returned (.int .i64 (bv (tms a b))) ∧ w' = w := by
  go_enter Tryd.func94, Tryd.ntmps94
  go_wp2
  go_loop [0, 5, 6] (fun x p i => ∃ (n : Nat) (a' out : UInt8), n ≤ 8 ∧ i = .int .i64 n ∧ x = .int .i64 (bv a') ∧ p = .int .i64 (bv out) ∧ Hid (tmsZ (8 - n) a' (bv b / 2 ^ n) out = tms a b)) (fun _ _ i => 8 - (intOf i).toNat)
  case atStart => exact ⟨0, a, 0, by omega, rfl, rfl, rfl, by show tmsZ 8 a (bv b / 2 ^ 0) 0 = _; rw [Int.pow_zero, Int.ediv_one]; rfl⟩
  case round =>
    obtain ⟨n, a', out, hn, rfl, rfl, rfl, hg⟩ := hrel
    have h0 := bv_nn a'
    have h1 := bv_lt a'
    by_cases hlt : n < 8
    · obtain ⟨m, hm⟩ : ∃ m, m = 8 - (n + 1) := ⟨_, rfl⟩
      have hm2 : 8 - n = m + 1 := by omega
      have Hm := Lib.hid hm; have Hm2 := Lib.hid hm2; clear hm hm2
      go_wp2
      all_goals
        go_round
        case rel =>
          refine ⟨n + 1, dbl a', _, by omega, by go_num, ?_, rfl, ?_⟩
          · first
              | rw [xt_hi a' ‹_›]
              | rw [xt_lo a' (by omega)]
          · rw [← Hm.out, ← half_pow]
            first
              | (rw [← tmsZ_odd _ _ _ _ ‹_›, ← Hm2.out]; exact hg)
              | (rw [← tmsZ_even _ _ _ _ ‹_›, ← Hm2.out]; exact hg)
        case measure => simp [intOf] <;> omega
    · go_wp2
      go_ret
      have h8 : n = 8 := by omega
      subst h8
      exact ⟨by rw [← hg.out]; rfl, rfl⟩
theorem times_at (a b : UInt8) (x y : Int) (hx : x = bv a) (hy : y = bv b) (w : World) :
    Calls Tryd.prog 94 #[.int .i64 x, .int .i64 y] w fun e w' => e = .returned (.int .i64 (bv (tms a b))) ∧ w' = w := by
  subst hx; subst hy; exact times_any a b w

/-- One bit of the affine map, as the text computes it; and what the loop has collected. -/
def bitZ (q : Int) (n : Nat) : Int :=
  bits .xor .i64 (bits .xor .i64 (bits .xor .i64 (bits .xor .i64 (bits .xor .i64 (q / 2 ^ n) (q / 2 ^ ((n + 4) % 8))) (q / 2 ^ ((n + 5) % 8))) (q / 2 ^ ((n + 6) % 8))) (q / 2 ^ ((n + 7) % 8))) (99 / 2 ^ n)
def outZ (q : Int) : Nat → Int
  | 0 => 0
  | n + 1 => bits .or .i64 (outZ q n) (wrap64 (bitZ q n % 2 * 2 ^ n))
/-- The affine map of a byte. -/
def aff (q : UInt8) : UInt8 := ofI (outZ (bv q) 8)
theorem outZ_aff (q : UInt8) : outZ (bv q) 8 = bv (aff q) := by
  refine forall_u8 (p := fun q => outZ (bv q) 8 = bv (aff q)) ?_ q
  decide +kernel
def pw (x : UInt8) : Nat → UInt8
  | 0 => 1
  | n + 1 => tms (pw x n) x
/-- What the reference's Substitute returns. -/
def refSubF (x : Int) : Int := if 0 ≤ x ∧ x ≤ 255 then bv (aff (pw (ofI x) 254)) else 0
end Go.Proofs.YtnogcnmoeekcpaaDoor
