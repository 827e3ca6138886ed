/- Layer 2: the walks of Valid, Constructed, both sides. -/
import Derived.Test.YtdpiehhblflacaaDoorQParse
import Derived.WalkKit
namespace Go.Proofs.YtdpiehhblflacaaDoor
open Go.RowKit

theorem long_any (t : Int) (h0 : 0 ≤ t) (h1 : t ≤ 9223372036854775807) (w : World) : Calls Tryd.prog 84 #[.int .i64 t] w fun e w' => e = .returned (.bool (t % 32 == 31)) ∧ w' = w := by
  have hb : bits .and .i64 t 31 = t % 32 := bits_mask .i64 63 (by decide) (fun n a b => IntWalk.i64_in n ⟨by omega, by omega⟩) 5 (by decide) t h0 (by omega)
  go_enter Tryd.func84, Tryd.ntmps84
  go_wp2
  go_ret
  exact ⟨rfl, rfl⟩
theorem tagV_of {t : Int} {p : Prop} [Decidable p] (h : ((1 ≤ t ∧ t ≤ 255 ∧ ¬ t % 32 = 31) ∨ (256 ≤ t ∧ t ≤ 65535 ∧ t / 256 % 32 = 31 ∧ 1 ≤ t % 256 ∧ t % 256 ≤ 127)) ↔ p) : tagV t = decide p := by unfold tagV; exact decide_eq_decide.2 h
set_option maxHeartbeats 400000 in
theorem valid_any (t : Int) (ht : I64in t) (w : World) : Calls Tryd.prog 72 #[.int .i64 t] w fun e w' => e = .returned (.bool (tagV t)) ∧ w' = w := by
  obtain ⟨hlo, hhi⟩ := ht
  by_cases h1 : t < 256
  · have d1 : decide (t < 256) = true := decide_eq_true h1
    by_cases h2 : 0 < t
    · have d2 : decide (t > 0) = true := decide_eq_true h2
      have e : tagV t = !(t % 32 == 31) := by
        rw [tagV_of (p := ¬ t % 32 = 31) (by omega)]
        by_cases h : t % 32 = 31 <;> simp [h]
      have E := Lib.hid e
      have L := Lib.hid (long_any t (by omega) (by omega) w)
      clear hlo hhi h1 h2 e
      go_enter Tryd.func72, Tryd.ntmps72
      go_wp2_with (go_at_call 84; refine L.out.mono ?_; rintro e w' ⟨rfl, rfl⟩)
      go_ret
      exact ⟨by rw [E.out]; rfl, rfl⟩
    · have d2 : decide (t > 0) = false := decide_eq_false h2
      have e : tagV t = false := decide_eq_false (by omega)
      have E := Lib.hid e
      clear hlo hhi h1 h2 e
      go_enter Tryd.func72, Tryd.ntmps72
      go_wp2_with fail
      go_ret
      exact ⟨by rw [E.out]; rfl, rfl⟩
  · have d1 : decide (t < 256) = false := decide_eq_false h1
    have m1 : bits .and .i64 t 255 = t % 256 := bits_mask .i64 63 (by decide) (fun n a b => IntWalk.i64_in n ⟨by omega, by omega⟩) 8 (by decide) t (by omega) (by omega)
    have L := Lib.hid (long_any (t / 256) (by omega) (by omega) w)
    by_cases h2 : t / 256 < 256
    · have d2 : decide (t / 256 < 256) = true := decide_eq_true h2
      have e : tagV t = ((t / 256 % 32 == 31) && decide (t % 256 ≥ 1) && decide (t % 256 ≤ 127)) := by
        rw [tagV_of (p := t / 256 % 32 = 31 ∧ t % 256 ≥ 1 ∧ t % 256 ≤ 127) (by omega)]
        by_cases a : t / 256 % 32 = 31 <;> by_cases b : t % 256 ≥ 1 <;> by_cases c : t % 256 ≤ 127 <;> simp [a, b, c]
      obtain ⟨a, ha⟩ : ∃ a, (t / 256 % 32 == 31) = a := ⟨_, rfl⟩
      obtain ⟨b, hb⟩ : ∃ b, decide (t % 256 ≥ 1) = b := ⟨_, rfl⟩
      obtain ⟨c, hc⟩ : ∃ c, decide (t % 256 ≤ 127) = c := ⟨_, rfl⟩
      rw [ha, hb, hc] at e
      rw [ha] at L
      have E := Lib.hid e
      clear hlo hhi h1 h2 e ha
      cases a <;> cases b <;> cases c
      all_goals
        go_enter Tryd.func72, Tryd.ntmps72
        go_wp2_with (go_at_call 84; refine L.out.mono ?_; rintro e w' ⟨rfl, rfl⟩)
        go_ret
        exact ⟨by rw [E.out]; rfl, rfl⟩
    · have d2 : decide (t / 256 < 256) = false := decide_eq_false h2
      have e : tagV t = false := decide_eq_false (by omega)
      have E := Lib.hid e
      clear hlo hhi h1 h2 e
      go_enter Tryd.func72, Tryd.ntmps72
      go_wp2_with fail
      go_ret
      exact ⟨by rw [E.out]; rfl, rfl⟩
theorem cons_bit {t : Int} (h0 : 0 ≤ t) (h1 : t < 256) : (bits .and .i64 t 32 != 0) = decide (t / 32 % 2 = 1) := by
  obtain ⟨n, rfl⟩ := Int.eq_ofNat_of_zero_le h0
  have h : (List.range 256).all (fun n => (bits .and .i64 (n : Int) 32 != 0) == decide ((n : Int) / 32 % 2 = 1)) = true := by decide +kernel
  have := List.all_eq_true.1 h n (List.mem_range.2 (by omega))
  simpa using this
theorem tagV_range {t : Int} (h : tagV t = true) : 1 ≤ t ∧ t ≤ 65535 := by
  have := of_decide_eq_true h
  omega
set_option maxHeartbeats 400000 in
theorem cons_any (t : Int) (ht : I64in t) (w : World) : Calls Tryd.prog 71 #[.int .i64 t] w fun e w' => e = .returned (.bool (tagC t)) ∧ w' = w := by
  have V := valid_any t ht w
  cases h : tagV t with
  | false =>
    have E : Hid (tagC t = false) := by unfold Hid tagC; rw [h]; rfl
    rw [h] at V
    have V := Lib.hid V
    clear h ht
    go_enter Tryd.func71, Tryd.ntmps71
    go_wp2_with (go_at_call 72; refine V.out.mono ?_; rintro e w' ⟨rfl, rfl⟩)
    go_ret
    exact ⟨by rw [E.out]; rfl, rfl⟩
  | true =>
    obtain ⟨r1, r2⟩ := tagV_range h
    rw [h] at V
    have V := Lib.hid V
    by_cases hb : 255 < t
    · have d : decide (t > 255) = true := decide_eq_true hb
      have E : Hid ((bits .and .i64 (t / 256) 32 != 0) = tagC t) := by
        unfold Hid tagC
        rw [h, if_pos hb, cons_bit (by omega) (by omega)]; rfl
      clear h ht hb r1 r2
      go_enter Tryd.func71, Tryd.ntmps71
      go_wp2_with (go_at_call 72; refine V.out.mono ?_; rintro e w' ⟨rfl, rfl⟩)
      go_ret
      exact ⟨by rw [← E.out]; rfl, rfl⟩
    · have d : decide (t > 255) = false := decide_eq_false hb
      have E : Hid ((bits .and .i64 t 32 != 0) = tagC t) := by
        unfold Hid tagC
        rw [h, if_neg hb, cons_bit (by omega) (by omega)]; rfl
      clear h ht hb r1 r2
      go_enter Tryd.func71, Tryd.ntmps71
      go_wp2_with (go_at_call 72; refine V.out.mono ?_; rintro e w' ⟨rfl, rfl⟩)
      go_ret
      exact ⟨by rw [← E.out]; rfl, rfl⟩
set_option maxHeartbeats 400000 in
theorem rvalid_any (t : Int) (ht : I64in t) (w : World) : Calls Tryd.prog 74 #[.int .i64 t] w fun e w' => e = .returned (.bool (tagV t)) ∧ w' = w := by
  obtain ⟨hlo, hhi⟩ := ht
  by_cases h1 : t ≥ 1
  · have d1 : decide (t ≥ 1) = true := decide_eq_true h1
    have q1 : Int.tmod t 32 = t % 32 := Int.tmod_eq_emod_of_nonneg (by omega)
    have q2 : Int.tmod t 256 = t % 256 := Int.tmod_eq_emod_of_nonneg (by omega)
    have q3 : Int.tdiv t 256 = t / 256 := Int.tdiv_eq_ediv_of_nonneg (by omega)
    have q4 : Int.tmod (t / 256) 32 = t / 256 % 32 := Int.tmod_eq_emod_of_nonneg (by omega)
    by_cases h2 : t ≤ 255
    · have d2 : decide (t ≤ 255) = true := decide_eq_true h2
      have e : tagV t = (t % 32 != 31) := by
        rw [tagV_of (p := ¬ t % 32 = 31) (by omega)]
        by_cases h : t % 32 = 31 <;> simp [h]
      have E := Lib.hid e
      clear hlo hhi h1 h2 e
      go_enter Tryd.func74, Tryd.ntmps74
      go_wp2_with fail
      go_ret
      exact ⟨by rw [E.out]; rfl, rfl⟩
    · have d2 : decide (t ≤ 255) = false := decide_eq_false h2
      have d3 : decide (t ≥ 256) = true := decide_eq_true (by omega)
      have W1 := Lib.hid (IntWalk.wrap64_in (t / 256) (by omega))
      by_cases h3 : t ≤ 65535
      · have d4 : decide (t ≤ 65535) = true := decide_eq_true h3
        have e : tagV t = ((t / 256 % 32 == 31) && decide (t % 256 ≥ 1) && decide (t % 256 ≤ 127)) := by
          rw [tagV_of (p := t / 256 % 32 = 31 ∧ t % 256 ≥ 1 ∧ t % 256 ≤ 127) (by omega)]
          by_cases a : t / 256 % 32 = 31 <;> by_cases b : t % 256 ≥ 1 <;> by_cases c : t % 256 ≤ 127 <;> simp [a, b, c]
        obtain ⟨a, ha⟩ : ∃ a, (t / 256 % 32 == 31) = a := ⟨_, rfl⟩
        obtain ⟨b, hb⟩ : ∃ b, decide (t % 256 ≥ 1) = b := ⟨_, rfl⟩
        obtain ⟨c, hc⟩ : ∃ c, decide (t % 256 ≤ 127) = c := ⟨_, rfl⟩
        rw [ha, hb, hc] at e
        have E := Lib.hid e
        clear hlo hhi h1 h2 h3 e
        have w1 := W1.out
        cases a <;> cases b <;> cases c
        all_goals
          go_enter Tryd.func74, Tryd.ntmps74
          go_wp2_with fail
          go_ret
          exact ⟨by rw [E.out]; rfl, rfl⟩
      · have d4 : decide (t ≤ 65535) = false := decide_eq_false h3
        have e : tagV t = false := decide_eq_false (by omega)
        have E := Lib.hid e
        clear hlo hhi h1 h2 h3 e
        go_enter Tryd.func74, Tryd.ntmps74
        go_wp2_with fail
        go_ret
        exact ⟨by rw [E.out]; rfl, rfl⟩
  · have d1 : decide (t ≥ 1) = false := decide_eq_false h1
    have d2 : decide (t ≥ 256) = false := decide_eq_false (by omega)
    have e : tagV t = false := decide_eq_false (by omega)
    have E := Lib.hid e
    clear hlo hhi h1 e
    go_enter Tryd.func74, Tryd.ntmps74
    go_wp2_with fail
    go_ret
    exact ⟨by rw [E.out]; rfl, rfl⟩
set_option maxHeartbeats 400000 in
theorem rcons_any (t : Int) (ht : I64in t) (w : World) : Calls Tryd.prog 75 #[.int .i64 t] w fun e w' => e = .returned (.bool (tagC t)) ∧ w' = w := by
  have V := rvalid_any t ht w
  cases h : tagV t with
  | false =>
    have E : Hid (tagC t = false) := by unfold Hid tagC; rw [h]; rfl
    rw [h] at V
    have V := Lib.hid V
    clear h ht
    go_enter Tryd.func75, Tryd.ntmps75
    go_wp2_with (go_at_call 74; refine V.out.mono ?_; rintro e w' ⟨rfl, rfl⟩)
    go_ret
    exact ⟨by rw [E.out]; rfl, rfl⟩
  | true =>
    obtain ⟨r1, r2⟩ := tagV_range h
    rw [h] at V
    have V := Lib.hid V
    have q1 : Int.tdiv t 256 = t / 256 := Int.tdiv_eq_ediv_of_nonneg (by omega)
    have q2 : Int.tdiv t 32 = t / 32 := Int.tdiv_eq_ediv_of_nonneg (by omega)
    have q3 : Int.tdiv (t / 256) 32 = t / 256 / 32 := Int.tdiv_eq_ediv_of_nonneg (by omega)
    have q4 : Int.tmod (t / 32) 2 = t / 32 % 2 := Int.tmod_eq_emod_of_nonneg (by omega)
    have q5 : Int.tmod (t / 256 / 32) 2 = t / 256 / 32 % 2 := Int.tmod_eq_emod_of_nonneg (by omega)
    by_cases hb : 255 < t
    · have d : decide (t > 255) = true := decide_eq_true hb
      have W1 := Lib.hid (IntWalk.wrap64_in (t / 256) (by omega))
      have W2 := Lib.hid (IntWalk.wrap64_in (t / 256 / 32) (by omega))
      have E : Hid ((t / 256 / 32 % 2 == 1) = tagC t) := by
        unfold Hid tagC
        rw [h, if_pos hb]
        by_cases hc : t / 256 / 32 % 2 = 1 <;> simp [hc]
      clear h ht hb r1 r2
      have w1 := W1.out; have w2 := W2.out
      go_enter Tryd.func75, Tryd.ntmps75
      go_wp2_with (go_at_call 74; refine V.out.mono ?_; rintro e w' ⟨rfl, rfl⟩)
      go_ret
      exact ⟨by rw [← E.out]; rfl, rfl⟩
    · have d : decide (t > 255) = false := decide_eq_false hb
      have W2 := Lib.hid (IntWalk.wrap64_in (t / 32) (by omega))
      have E : Hid ((t / 32 % 2 == 1) = tagC t) := by
        unfold Hid tagC
        rw [h, if_neg hb]
        by_cases hc : t / 32 % 2 = 1 <;> simp [hc]
      clear h ht hb r1 r2
      have w2 := W2.out
      go_enter Tryd.func75, Tryd.ntmps75
      go_wp2_with (go_at_call 74; refine V.out.mono ?_; rintro e w' ⟨rfl, rfl⟩)
      go_ret
      exact ⟨by rw [← E.out]; rfl, rfl⟩
end Go.Proofs.YtdpiehhblflacaaDoor
