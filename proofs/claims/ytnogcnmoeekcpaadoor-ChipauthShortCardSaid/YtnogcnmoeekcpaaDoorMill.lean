/- mill.Mod, Secret, Nonce. -/
import Derived.Test.YtnogcnmoeekcpaaDoorGrpE
import Derived.Test.YtnogcnmoeekcpaaDoorAppB
import Derived.Test.YtnogcnmoeekcpaaDoorQDice2
namespace Go.Proofs.YtnogcnmoeekcpaaDoor
open Go.RowKit Go.Deep

theorem ret_num {k : IntKind} {a b : Int} (h : a = b) : Ending.returned (.int k a) = .returned (.int k b) := by rw [h]
set_option maxRecDepth 100000 in
theorem mmod_any (n m : Int) (hn : I64in n) (hm : 0 < m) (hm2 : m ≤ 1099511627776) (w : World) : Calls Tryd.prog 15 #[.int .i64 n, .int .i64 m] w fun e w' => e = .returned (.int .i64 (n % m)) ∧ w' = w := by
  obtain ⟨h1, h2⟩ := hn
  have hz : m ≠ 0 := by omega
  have g1 : decide (m < 1) = false := decide_eq_false (by omega)
  have a1 : Int.tmod n m < m := Int.tmod_lt_of_pos n hm
  have a2 : -m < Int.tmod n m := by
    have := Int.lt_tmod_of_pos n hm
    omega
  obtain ⟨q, hq⟩ : ∃ q, Int.tmod n m = q := ⟨_, rfl⟩
  rw [hq] at a1 a2
  have E : Hid ((q + m) % m = n % m) := Lib.hid (by
    have h := Int.tmod_add_mul_tdiv n m
    rw [hq] at h
    rw [← h, Int.add_mul_emod_self_left, Int.add_emod_right])
  have E2 : Hid (Int.tmod (q + m) m = n % m) := Lib.hid (by rw [Int.tmod_eq_emod_of_nonneg (by omega)]; exact E.out)
  go_enter Tryd.func15, Tryd.ntmps15
  go_wp2_with fail
  go_ret
  first | exact ⟨ret_num E.out, rfl⟩ | exact ⟨ret_num E2.out, rfl⟩
/-- The secret of a number. -/
def msecW (z : Int) : Nat := (1 + z % 1073741788).toNat
theorem msecW_in (z : Int) : 1 ≤ msecW z ∧ msecW z < 1073741789 := by unfold msecW; omega
theorem msecW_int (z : Int) : 1 + z % 1073741788 = (msecW z : Int) := by unfold msecW; omega
set_option maxRecDepth 100000 in
theorem msecret_any (z : Int) (hz : I64in z) (w : World) : Calls Tryd.prog 13 #[.int .i64 z] w fun e w' => e = .returned (.tuple #[.int .i64 (msecW z), .int .i64 (gpw 64 1 4 (msecW z))]) ∧ w' = w := by
  have HM := Lib.hid (mmod_any z 1073741788 hz (by decide) (by decide) w)
  have HP := Lib.hid (rgpublic_good (msecW z) (msecW_in z).1 (msecW_in z).2 w)
  have e0 := msecW_int z
  obtain ⟨q, hq⟩ : ∃ q, z % 1073741788 = q := ⟨_, rfl⟩
  obtain ⟨k, hk⟩ : ∃ k, msecW z = k := ⟨_, rfl⟩
  rw [hq] at HM e0
  rw [hk] at HP e0 ⊢
  obtain rfl : q = (k : Int) - 1 := by omega
  have hb1 : 1 ≤ k := by have := (msecW_in z).1; omega
  have hb2 : k < 1073741789 := by have := (msecW_in z).2; omega
  have w1 : (1 : Int) + ((k : Int) - 1) = k := by omega
  clear hq hk e0 hz
  go_enter Tryd.func13, Tryd.ntmps13
  go_wp2_with (first
    | (go_at_call 15; refine HM.out.mono ?_; rintro e w' ⟨rfl, hw'⟩; rw [hw']; clear hw' w')
    | (go_at_call 30; refine HP.out.mono ?_; rintro e w' ⟨rfl, hw'⟩; rw [hw']; clear hw' w'))
  go_ret2
  exact ⟨rfl, rfl⟩
/-- The numbers of a nonce. -/
def nzi (n : Int) (i : Nat) : Int := wrap64 (n + (i : Int) * (i : Int))
theorem nzi_in (n : Int) (i : Nat) : I64in (nzi n i) := by
  unfold nzi wrap64 I64in
  omega
def nzb (n : Int) (i : Nat) : Int := nzi n i % 251
theorem nzb_in (n : Int) (i : Nat) : 0 ≤ nzb n i ∧ nzb n i ≤ 255 := by unfold nzb; omega
def nonceL (n : Int) (k : Nat) : List UInt8 := (List.range k).map fun i => ofI (nzb n i)
theorem nonceL_len (n : Int) (k : Nat) : (nonceL n k).length = k := by simp [nonceL]
theorem nonceL_succ (n : Int) (k : Nat) : nonceL n (k + 1) = nonceL n k ++ [ofI (nzb n k)] := by simp [nonceL, List.range_succ]
set_option maxRecDepth 100000 in
set_option maxHeartbeats 2000000 in
theorem mnonce_any (n : Int) (hn : I64in n) (w : World) : Calls Tryd.prog 14 #[.int .i64 n] w fun e w' => ∃ v', e = .returned v' ∧ BsS w' (New w w') v' (nonceL n 8) ∧ Below w.heap.size w w' := by
  have WN := Lib.hid hn
  clear hn
  go_enter Tryd.func14, Tryd.ntmps14
  go_wp2_with fail
  go_loopg [3, 4] 8 (fun q o i wr => ∃ j : Nat, j + q = 8 ∧ i = .int .i64 j ∧ OwnB wr w.heap.size o (nonceL n j) ∧ Below w.heap.size w wr)
  case atStart => exact ⟨0, rfl, rfl, OwnB.nil _ _, Below.refl _ _⟩
  case round =>
    obtain ⟨j, hj, rfl, hR⟩ := hrel
    obtain ⟨oa, oc, hv⟩ := hR.1.form
    rw [nonceL_len] at hv
    subst hv
    have HR := Lib.hid hR
    clear hR
    by_cases h8 : j = 8
    · subst h8
      have h8 : ¬ ((8 : Nat) : Int) < 8 := by omega
      clear hj
      go_wp2_with fail
      go_ret
      exact ⟨_, rfl, HR.out.1.out (by rw [nonceL_len]; omega) w (Nat.le_refl _), HR.out.2⟩
    · have hlt : (j : Int) < 8 := by omega
      have h1 : 0 ≤ (j : Int) * (j : Int) := Int.mul_nonneg (by omega) (by omega)
      have h2 : (j : Int) * (j : Int) ≤ 49 := Int.le_trans (Int.mul_le_mul (show (j : Int) ≤ 7 by omega) (show (j : Int) ≤ 7 by omega) (by omega) (by omega)) (by decide)
      have HMJ : Hid (∀ w, Calls Tryd.prog 15 #[.int .i64 (wrap64 (n + (j : Int) * (j : Int))), .int .i64 251] w fun e w' => e = .returned (.int .i64 (nzb n j)) ∧ w' = w) := Lib.hid (fun w => mmod_any (nzi n j) 251 (nzi_in n j) (by decide) (by decide) w)
      have NB := Lib.hid (nzb_in n j)
      obtain ⟨z, hz⟩ : ∃ z, nzb n j = z := ⟨_, rfl⟩
      rw [hz] at HMJ NB
      have LS : Hid (nonceL n (j + 1) = nonceL n j ++ [ofI z]) := Lib.hid (by rw [nonceL_succ, hz])
      have z0 : 0 ≤ z := NB.out.1
      have z1 : z ≤ 255 := NB.out.2
      have zm : z % 256 = z := by omega
      clear hz h8
      go_wp2_with (first
        | (at_builtin; (with_reducible refine wpList_push1s rfl (.tmp 9) (.tmp 17) rfl w.heap.size (.slice oa j oc) (nonceL n j) rfl HR.out.1 z z0 z1 _ wr.heap.size rfl rfl (by rw [nonceL_len]; omega) HR.out.2.size ?_); intro v3 w3 hgr; have H3 := Lib.hid (show OwnB w3 w.heap.size v3 (nonceL n (j + 1)) ∧ Below w.heap.size w w3 from ⟨by rw [LS.out]; exact hgr.1, HR.out.2.trans hgr.2.1⟩); clear hgr)
        | (go_at_call 15; refine (HMJ.out _).mono ?_; rintro e w2 ⟨rfl, hw2⟩; rw [hw2]; clear hw2 w2))
      go_roundg (gk - 1)
      case measure => omega
      case rel => exact ⟨j + 1, by omega, by go_num, H3.out⟩
end Go.Proofs.YtnogcnmoeekcpaaDoor
