/- made.Mod. -/
import Derived.Test.YtljalnfjneeieaaTlv1
namespace Go.Proofs.Ytljalnfjneeieaa
open Go.RowKit Go.Deep

theorem mod_any (n m : Int) (hn : I64in n) (hm : 0 < m) (hm2 : m ≤ 9223372036854775807) (w : World) : Calls Try.prog 25 #[.int .i64 n, .int .i64 m] w fun e w' => e = .returned (.int .i64 (n % m)) ∧ w' = w := by
  obtain ⟨h1, h2⟩ := hn
  have hz : m ≠ 0 := by omega
  have a1 : Int.tmod n m < m := Int.tmod_lt_of_pos n hm
  have a2 : -m < Int.tmod n m := by
    have := Int.lt_tmod_of_pos n hm
    omega
  obtain ⟨q, hq⟩ : ∃ q, Int.tmod n m = q := ⟨_, rfl⟩
  rw [hq] at a1 a2
  have e : n % m = if q < 0 then q + m else q := by
    have h := Int.tmod_add_mul_tdiv n m
    rw [hq] at h
    split
    · have := Int.emod_eq_of_lt (a := q + m) (b := m) (by omega) (by omega)
      rw [← this, ← h, Int.add_mul_emod_self_left, ← Int.add_emod_right]
    · have := Int.emod_eq_of_lt (a := q) (b := m) (by omega) (by omega)
      rw [← h, Int.add_mul_emod_self_left, this]
  have E := Lib.hid e
  by_cases hneg : q < 0
  · rw [if_pos hneg] at e
    have E := Lib.hid e
    clear e
    go_enter Try.func25, Try.ntmps25
    go_wp2_with fail
    go_ret
    rw [E.out]
    exact ⟨rfl, rfl⟩
  · rw [if_neg hneg] at e
    have E := Lib.hid e
    clear e
    go_enter Try.func25, Try.ntmps25
    go_wp2_with fail
    go_ret
    rw [E.out]
    exact ⟨rfl, rfl⟩
end Go.Proofs.Ytljalnfjneeieaa
