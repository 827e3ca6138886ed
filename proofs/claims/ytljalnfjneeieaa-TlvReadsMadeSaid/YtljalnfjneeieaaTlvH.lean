/- Layer 2: the walks of the reference's tag and size. -/
import Derived.Test.YtljalnfjneeieaaTlvG
namespace Go.Proofs.Ytljalnfjneeieaa
open Go.RowKit Go.Deep

def tripOf : Except Int (Int × Nat) → Value
  | .error e => .tuple #[.int .i64 0, .int .i64 0, .int .i64 e]
  | .ok x => .tuple #[.int .i64 x.1, .int .i64 (x.2 : Int), .int .i64 0]
theorem tripNo {r : Except Int (Int × Nat)} {e : Int} (h : r = .error e) : Ending.returned (.tuple #[.int .i64 0, .int .i64 0, .int .i64 e]) = .returned (tripOf r) := by subst h; rfl
theorem tripYes {r : Except Int (Int × Nat)} {n m : Int} {k : Nat} (h : r = .ok (n, k)) (hm : m = k) : Ending.returned (.tuple #[.int .i64 n, .int .i64 m, .int .i64 0]) = .returned (tripOf r) := by subst h hm; rfl
theorem gb0_cell {w : World} {S : Nat → Prop} {b off n c : Nat} {l : List UInt8} (h : BsS w S (.slice (some ⟨b, off, none⟩) n c) l) (hl : 0 < l.length) : w.cell? ⟨b, off, none⟩ = some (.int .u8 ((gb l 0).toNat : Int)) := h.cellAt rfl (j := 0) hl
set_option maxRecDepth 100000 in
set_option maxHeartbeats 1000000 in
theorem rtag_any (l : List UInt8) (v : Value) (S : Nat → Prop) (w : World) (hv : BsS w S v l) : Calls Try.prog 47 #[v] w fun e w' => e = .returned (tripOf (tagP l)) ∧ ∃ n, w' = w.drewN n := by
  have hlen := hv.len
  obtain ⟨a, c, rfl⟩ := hv.form2
  by_cases h0 : l.length = 0
  · have E : Hid (tagP l = .error 6) := by show tagP l = _; unfold tagP; rw [if_pos h0]
    have d0 : ((l.length : Int) == 0) = true := by simp [h0]
    clear hv
    go_enter Try.func47, Try.ntmps47
    go_wp2_with fail
    go_ret3
    exact ⟨tripNo E.out, 0, rfl⟩
  · obtain ⟨bb, bo, rfl⟩ := addr_of hv (by omega)
    have d0 : ((l.length : Int) == 0) = false := by rw [beq_eq_false_iff_ne]; omega
    have q0 := gb0_cell hv (by omega)
    obtain ⟨x, hx⟩ : ∃ x : Nat, x = (gb l 0).toNat := ⟨_, rfl⟩
    have hxl : x < 256 := by rw [hx]; exact UInt8.toNat_lt _
    have ex : bv (gb l 0) = x := by rw [hx]; rfl
    rw [← hx] at q0
    have b0 : (0 : Int) < l.length := by omega
    by_cases h1 : x % 32 = 31
    · have d1 : ((x : Int) % 32 != 31) = false := by simp; omega
      by_cases h2 : l.length < 2
      · have E : Hid (tagP l = .error 6) := by show tagP l = _; unfold tagP; rw [if_neg h0, ex, if_pos (by omega), if_pos h2]
        clear hv hx ex h0
        go_enter Try.func47, Try.ntmps47
        go_wp2_with fail
        go_ret3
        exact ⟨tripNo E.out, 0, rfl⟩
      · have q1 : w.cell? ⟨bb, bo + 1, none⟩ = some (.int .u8 ((gb l 1).toNat : Int)) := hv.cellAt rfl (j := 1) (by omega)
        obtain ⟨y, hy⟩ : ∃ y : Nat, y = (gb l 1).toNat := ⟨_, rfl⟩
        have hyl : y < 256 := by rw [hy]; exact UInt8.toNat_lt _
        have ey : bv (gb l 1) = y := by rw [hy]; rfl
        rw [← hy] at q1
        have b1 : (1 : Int) < l.length := by omega
        have V := Lib.hid (fun w => rvalid_any (256 * (x : Int) + y) ⟨by omega, by omega⟩ w)
        cases et : tagV (256 * (x : Int) + y) with
        | false =>
          have E : Hid (tagP l = .error 4) := by show tagP l = _; unfold tagP; rw [if_neg h0, ex, ey, if_pos (by omega), if_neg h2, if_neg (by rw [et]; decide)]
          rw [et] at V
          clear hv hx ex h0 hy ey et
          go_enter Try.func47, Try.ntmps47
          go_wp2_with fail
          go_quiet (fail)
          go_wp2_with (go_at_call 13; refine (V.out _).mono ?_; rintro e w' ⟨rfl, rfl⟩)
          go_ret3
          exact ⟨tripNo E.out, nq, rfl⟩
        | true =>
          have E : Hid (tagP l = .ok (256 * (x : Int) + y, 2)) := by show tagP l = _; unfold tagP; rw [if_neg h0, ex, ey, if_pos (by omega), if_neg h2, if_pos et]
          rw [et] at V
          clear hv hx ex h0 hy ey et
          go_enter Try.func47, Try.ntmps47
          go_wp2_with fail
          go_quiet (fail)
          go_wp2_with (go_at_call 13; refine (V.out _).mono ?_; rintro e w' ⟨rfl, rfl⟩)
          go_ret3
          exact ⟨tripYes E.out rfl, nq, rfl⟩
    · have d1 : ((x : Int) % 32 != 31) = true := by simp; omega
      by_cases hx0 : x = 0
      · subst hx0
        have E : Hid (tagP l = .error 4) := by show tagP l = _; unfold tagP; rw [if_neg h0, ex, if_neg (by omega), if_neg (by decide)]
        clear hv hx ex h0
        go_enter Try.func47, Try.ntmps47
        go_wp2_with fail
        go_ret3
        exact ⟨tripNo E.out, 0, rfl⟩
      · have E : Hid (tagP l = .ok ((x : Int), 1)) := by show tagP l = _; unfold tagP; rw [if_neg h0, ex, if_neg (by omega), if_pos (by apply decide_eq_true; omega)]
        have x0 : ((x : Int) == 0) = false := by simp; omega
        clear hv hx ex h0
        go_enter Try.func47, Try.ntmps47
        go_wp2_with fail
        go_ret3
        exact ⟨tripYes E.out rfl, 0, rfl⟩
set_option maxRecDepth 100000 in
set_option maxHeartbeats 1000000 in
theorem rsize_any (l : List UInt8) (v : Value) (S : Nat → Prop) (cn st : Bool) (w : World) (hv : BsS w S v l) : Calls Try.prog 48 #[v, .bool cn, .bool st] w fun e w' => e = .returned (tripOf (sizeP l (cn && !st) st)) ∧ ∃ n, w' = w.drewN n := by
  obtain ⟨op, hop⟩ : ∃ op, op = (cn && !st) := ⟨_, rfl⟩
  rw [← hop]
  have HOP := Lib.hid hop
  clear hop
  have hlen := hv.len
  obtain ⟨a, c, rfl⟩ := hv.form2
  by_cases h0 : l.length = 0
  · have E : Hid (sizeP l op st = .error 6) := by show sizeP l _ _ = _; unfold sizeP; rw [if_pos h0]
    have d0 : ((l.length : Int) == 0) = true := by simp [h0]
    clear hv
    go_enter Try.func48, Try.ntmps48
    go_wp2_with fail
    go_ret3
    exact ⟨tripNo E.out, 0, rfl⟩
  · obtain ⟨bb, bo, rfl⟩ := addr_of hv (by omega)
    have d0 : ((l.length : Int) == 0) = false := by rw [beq_eq_false_iff_ne]; omega
    have q0 := gb0_cell hv (by omega)
    obtain ⟨x, hx⟩ : ∃ x : Nat, x = (gb l 0).toNat := ⟨_, rfl⟩
    have hxl : x < 256 := by rw [hx]; exact UInt8.toNat_lt _
    have E0 := Lib.hid (sizeP_at l (gb l 0) x op st h0 rfl hx)
    rw [← hx] at q0
    have b0 : (0 : Int) < l.length := by omega
    have HV := Lib.hid hv
    clear hx hv h0
    by_cases h1 : x < 128
    · have E : Hid (sizeP l op st = .ok ((x : Int), 1)) := by rw [E0.out, if_pos (by omega)]; rfl
      go_enter Try.func48, Try.ntmps48
      go_wp2_with fail
      go_ret3
      exact ⟨tripYes E.out rfl, 0, rfl⟩
    · by_cases h2 : 132 < x
      · have E : Hid (sizeP l op st = .error 5) := by rw [E0.out, if_neg (by omega), if_pos (by omega)]; rfl
        go_enter Try.func48, Try.ntmps48
        go_wp2_with fail
        go_ret3
        exact ⟨tripNo E.out, 0, rfl⟩
      · by_cases h3 : x = 128
        · subst h3
          cases cn <;> cases st
          case true.false =>
            have E : Hid (sizeP l op false = .ok (-1, 1)) := by rw [E0.out, if_neg (by omega), if_neg (by omega), if_pos (by omega), if_pos (by rw [HOP.out]; rfl)]; rfl
            go_enter Try.func48, Try.ntmps48
            go_wp2_with fail
            go_ret3
            exact ⟨tripYes E.out rfl, 0, rfl⟩
          all_goals
            have E := Lib.hid (show sizeP l op _ = .error 5 by rw [E0.out, if_neg (by omega), if_neg (by omega), if_pos (by omega), if_neg (by rw [HOP.out]; decide)])
            go_enter Try.func48, Try.ntmps48
            go_wp2_with fail
            go_ret3
            exact ⟨tripNo E.out, 0, rfl⟩
        · obtain ⟨s, rfl, hs1, hs4⟩ : ∃ s : Nat, x = 128 + s ∧ 1 ≤ s ∧ s ≤ 4 := ⟨x - 128, by omega, by omega, by omega⟩
          have E1 := E0.out
          rw [if_neg (by omega), if_neg (by omega), if_neg (by omega), show 128 + s - 128 = s by omega] at E1
          clear E0 h1 h2 h3
          by_cases h4 : l.length < 1 + s
          · have E : Hid (sizeP l op st = .error 6) := by rw [E1, if_pos h4]; rfl
            clear E1
            go_enter Try.func48, Try.ntmps48
            go_wp2_with fail
            go_ret3
            exact ⟨tripNo E.out, 0, rfl⟩
          · rw [if_neg h4] at E1
            have E9 := Lib.hid E1
            clear E1
            have h5 : 1 + s ≤ l.length := by omega
            clear h4
            go_enter Try.func48, Try.ntmps48
            go_wp2_with fail
            go_loopg [11, 12] s (fun m n i wr => ∃ k : Nat, k + m = s ∧ i = .int .i64 ((k : Int) + 1) ∧ n = .int .i64 (beV l k) ∧ wr = w)
            case atStart => exact ⟨0, by omega, rfl, rfl, rfl⟩
            case round =>
              obtain ⟨k, hk, rfl, rfl, rfl⟩ := hrel
              by_cases hlt : k < s
              · have q2 := HV.out.cellAt rfl (j := k + 1) (by omega)
                obtain ⟨z, hz⟩ := Int.eq_ofNat_of_zero_le (beV_nn l k)
                obtain ⟨y, hy⟩ : ∃ y : Nat, y = (gb l (k + 1)).toNat := ⟨_, rfl⟩
                have ey : bv (gb l (k + 1)) = y := by rw [hy]; rfl
                have hyl : y < 256 := by rw [hy]; exact UInt8.toNat_lt _
                have hzl : z < 16777216 := by
                  have h := beV_lt l k
                  have : (256 : Int) ^ k ≤ 256 ^ 3 := by
                    obtain h | h | h | h : k = 0 ∨ k = 1 ∨ k = 2 ∨ k = 3 := by omega
                    all_goals subst h; decide
                  omega
                have E2 : Hid (beV l (k + 1) = 256 * (z : Int) + y) := by rw [beV, ey, hz]; rfl
                change wr.cell? _ = some (.int .u8 (bv (gb l (k + 1)))) at q2
                rw [ey] at q2
                rw [hz]
                have b3 : (0 : Int) ≤ (k : Int) + 1 := by omega
                have b4 : (k : Int) + 1 < l.length := by omega
                clear hy ey hz
                go_wp2_with fail
                go_roundg (s - (k + 1))
                case measure => omega
                case rel => exact ⟨k + 1, by omega, by go_num, by rw [E2.out], rfl⟩
              · obtain rfl : k = s := by omega
                obtain ⟨z, hz⟩ := Int.eq_ofNat_of_zero_le (beV_nn l k)
                rw [hz] at E9 ⊢
                have hzb : z < 4294967296 := by
                  have h := beV_lt l k
                  have : (256 : Int) ^ k ≤ 256 ^ 4 := by
                    obtain h | h | h | h : k = 1 ∨ k = 2 ∨ k = 3 ∨ k = 4 := by omega
                    all_goals subst h; decide
                  omega
                clear hz
                cases st with
                | false =>
                  have E : Hid (sizeP l op false = .ok ((z : Int), 1 + k)) := by rw [E9.out, if_neg (by simp)]; rfl
                  go_wp2_with fail
                  go_ret3
                  exact ⟨tripYes E.out (by omega), 0, rfl⟩
                | true =>
                  by_cases h6 : z < 128
                  · have E : Hid (sizeP l op true = .error 5) := by rw [E9.out, if_pos ⟨rfl, .inl (by omega)⟩]; rfl
                    have d6 : decide ((z : Int) ≤ 127) = true := by simp; omega
                    go_wp2_with fail
                    go_ret3
                    exact ⟨tripNo E.out, 0, rfl⟩
                  · have d6 : decide ((z : Int) ≤ 127) = false := by simp; omega
                    by_cases h7 : 1 < k
                    · have d7 : decide ((k : Int) > 1) = true := by simp; omega
                      have q1 : wr.cell? ⟨bb, bo + 1, none⟩ = some (.int .u8 ((gb l 1).toNat : Int)) := HV.out.cellAt rfl (j := 1) (by omega)
                      have ez : gb l 1 = 0 ↔ (gb l 1).toNat = 0 := ⟨fun h => by rw [h]; rfl, fun h => UInt8.toNat_inj.1 h⟩
                      obtain ⟨y, hy⟩ : ∃ y : Nat, y = (gb l 1).toNat := ⟨_, rfl⟩
                      rw [← hy] at q1 ez
                      have b1 : (1 : Int) < l.length := by omega
                      by_cases h8 : y = 0
                      · have E : Hid (sizeP l op true = .error 5) := by rw [E9.out, if_pos ⟨rfl, .inr ⟨h7, ez.2 h8⟩⟩]; rfl
                        have d8 : ((y : Int) == 0) = true := by simp [h8]
                        clear ez hy h8
                        go_wp2_with fail
                        go_ret3
                        exact ⟨tripNo E.out, 0, rfl⟩
                      · have E : Hid (sizeP l op true = .ok ((z : Int), 1 + k)) := by rw [E9.out, if_neg (fun h => h.2.elim (by omega) fun h => h8 (ez.1 h.2))]; rfl
                        have d8 : ((y : Int) == 0) = false := by simp; omega
                        clear ez hy h8
                        go_wp2_with fail
                        go_ret3
                        exact ⟨tripYes E.out (by omega), 0, rfl⟩
                    · have d7 : decide ((k : Int) > 1) = false := by simp; omega
                      have E : Hid (sizeP l op true = .ok ((z : Int), 1 + k)) := by rw [E9.out, if_neg (fun h => h.2.elim (by omega) fun h => h7 h.1)]; rfl
                      go_wp2_with fail
                      go_ret3
                      exact ⟨tripYes E.out (by omega), 0, rfl⟩
end Go.Proofs.Ytljalnfjneeieaa
