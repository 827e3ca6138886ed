/- The reference's Valid of infos. Printed by gen/infr.py. -/
import Derived.Test.YtdpiehhblflacaaDoorQInfs
namespace Go.Proofs.YtdpiehhblflacaaDoor
open Go.RowKit Go.Deep

set_option maxRecDepth 100000 in
set_option maxHeartbeats 8000000 in
theorem rivalid_any (l : List Inf) (v : Value) (S : Nat → Prop) (w : World) (hv : InfS w S v l) : Calls Tryd.prog 14 #[v] w fun e w' => e = .returned (.int .i64 (validP l)) ∧ Below w.heap.size w w' := by
  obtain ⟨a, c, rfl⟩ := hv.form
  obtain ⟨b, off, hb⟩ := hv.at
  have HB := Lib.hid hb
  have hlb : l.length ≤ 3518437208883 := by obtain ⟨_, _, e, _, _, h, _⟩ := hv; exact h
  clear hv hb
  by_cases h16 : 16 < l.length
  · have E : Hid (validP l = 2) := by show _ = _; unfold validP; rw [if_pos h16]
    go_enter Tryd.func14, Tryd.ntmps14
    go_wp2_with fail
    go_ret
    exact ⟨by rw [E.out]; rfl, Below.refl _ _⟩
  · have E : Hid (validP l = validF none l) := by show _ = _; unfold validP; rw [if_neg h16]
    go_enter Tryd.func14, Tryd.ntmps14
    go_wp2_with fail
    go_loopg [3] l.length (fun m i wr => ∃ (R : List Inf) (j : Nat) (q : Option Inf), R.length = m ∧ j + R.length = l.length ∧ i = .int .i64 j ∧ Hid (validF q R = validF none l) ∧ InfsAt w R b (off + j * 5) ∧ Hid (PrevAt w b off j q) ∧ Below w.heap.size w wr)
    case atStart => exact ⟨l, 0, none, rfl, by omega, rfl, rfl, by rw [Nat.zero_mul, Nat.add_zero]; exact InfsAt.zero HB.out, rfl, Below.refl _ _⟩
    case round =>
      obtain ⟨R, j, q, rfl, hj, rfl, hvf, hat, hpr, hg⟩ := hrel
      cases R with
      | nil =>
        simp only [List.length_nil, Nat.add_zero] at hj
        subst hj
        have HG := Lib.hid hg
        have E0 : Hid (validF none l = 0) := hvf.out.symm
        clear hat hg hvf hpr
        go_wp2_with fail
        go_ret
        exact ⟨by rw [E.out, E0.out]; rfl, HG.out⟩
      | cons x r =>
        obtain ⟨p, ve, rr, k, d⟩ := x
        have HI := Lib.hid hat.1
        obtain ⟨⟨h0, h1, h2, h3, h4⟩, hfit, hrest⟩ := hat
        simp only [List.length_cons] at hj
        have hd : decide (j < l.length) = true := decide_eq_true (by omega)
        obtain ⟨rfl, ⟨hbS, hbl⟩, _⟩ := HB.out (by omega)
        have q0 := (hg.cell (p := ⟨b, off + j * 5, none⟩) hbl).trans h0
        have q1 := (hg.cell (p := ⟨b, off + j * 5 + 1, none⟩) hbl).trans h1
        have q2 := (hg.cell (p := ⟨b, off + j * 5 + 2, none⟩) hbl).trans h2
        have q3 := (hg.cell (p := ⟨b, off + j * 5 + 3, none⟩) hbl).trans h3
        have q4 := (hg.cell (p := ⟨b, off + j * 5 + 4, none⟩) hbl).trans h4
        have HAL : Hid (Below w.heap.size w (wr.alloc (.cells #[.int .i64 p, .int .i64 ve, .int .i64 rr, .int .i64 k, .int .i64 d] 45))) := Lib.hid (hg.alloc hg.size _)
        have HR := Lib.hid hrest; have HF := Lib.hid hfit
        clear hg h0 h1 h2 h3 h4 hrest hfit
        by_cases hp : 2 ≤ p ∧ p ≤ 6
        · obtain rfl | rfl | rfl | rfl | rfl : p = 2 ∨ p = 3 ∨ p = 4 ∨ p = 5 ∨ p = 6 := by omega
          · clear hp
            by_cases hR : ve < 1 ∨ 255 < ve ∨ rr < 0 ∨ 31 < rr ∨ d < 0 ∨ 0 < d
            · have hck : chkI ⟨2, ve, rr, k, d⟩ = 3 := by
                simp [chkI, chkB]
                (repeat' split) <;> omega
              have E1 : Hid (validF none l = 3) := by show _ = _; rw [← hvf.out, validF, if_pos (by rw [hck]; decide), hck]
              have HRR := Lib.hid hR
              clear hck hR hvf hpr
              go_wp2_with fail
              all_goals first
                | (go_ret; exact ⟨by rw [E.out, E1.out]; rfl, by first | exact HAL.out | exact below_drewN HAL.out _⟩)
                | (exfalso; have := HRR.out; omega)
            · have g1 : decide (ve < 1) = false := decide_eq_false (by omega)
              have g2 : decide (255 < ve) = false := decide_eq_false (by omega)
              have g3 : decide (rr < 0) = false := decide_eq_false (by omega)
              have g4 : decide (31 < rr) = false := decide_eq_false (by omega)
              have g5 : decide (d < 0) = false := decide_eq_false (by omega)
              have g6 : decide (0 < d) = false := decide_eq_false (by omega)
              have hck : chkI ⟨2, ve, rr, k, d⟩ = if ¬ k = 0 then 10 else 0 := by
                simp [chkI, chkB]
                (repeat' split) <;> first | rfl | omega
              clear hR
              by_cases hk : ¬ k = 0
              · rw [if_pos hk] at hck
                have hk' : (k != 0) = true := by simp [hk]
                clear hk
                have E1 : Hid (validF none l = 10) := by show _ = _; rw [← hvf.out, validF, if_pos (by rw [hck]; decide), hck]
                clear hck hvf hpr
                go_wp2_with fail
                go_ret
                exact ⟨by rw [E.out, E1.out]; rfl, by first | exact HAL.out | exact below_drewN HAL.out _⟩
              · rw [if_neg hk] at hck
                obtain rfl : k = 0 := by omega
                clear hk
                have HCK := Lib.hid hck
                clear hck
                go_upto_region 18 with fail
                clear g1 g2 g3 g4 g5 g6 q0 q1 q2 q3 q4
                cases q with
                | none =>
                  have hj0 : j = 0 := hpr.out
                  subst hj0
                  clear hpr
                  go_wp2_with (go_quiet (fail))
                  go_roundg r.length
                  case measure => simp
                  case rel => exact ⟨r, 1, some ⟨2, ve, rr, 0, d⟩, rfl, by omega, rfl, Lib.hid (by rw [← hvf.out, validF, if_neg (by rw [HCK.out]; simp), if_neg (by simp [ordB])]), by rw [show off + 1 * 5 = off + 0 * 5 + 5 by omega]; exact HR.out, Lib.hid ⟨by omega, HI.out, HF.out⟩, below_drewN HAL.out _⟩
                | some y =>
                  obtain ⟨yp, yv, yr, yk, yd⟩ := y
                  obtain ⟨hj0, ⟨y0, _, _, _, y4⟩, _⟩ := hpr.out
                  obtain ⟨i, rfl⟩ : ∃ i, j = i + 1 := ⟨j - 1, by omega⟩
                  rw [Nat.add_sub_cancel] at y0 y4
                  have W : Value.int .i64 (IntKind.i64.wrap (i : Int)) = .int .i64 i := by rw [IntWalk.i64_in _ (by omega)]
                  have z0 := (HAL.out.cell (p := ⟨b, off + i * 5, none⟩) hbl).trans y0
                  have z4 := (HAL.out.cell (p := ⟨b, off + i * 5 + 4, none⟩) hbl).trans y4
                  obtain ⟨o, ho⟩ : ∃ o, Hid (ordB (some ⟨yp, yv, yr, yk, yd⟩) ⟨2, ve, rr, 0, d⟩ = o) := ⟨_, rfl⟩
                  clear hpr y0 y4 hj0
                  go_cut [122] from 88 to 122 (fun c wc => c = .bool o ∧ Below w.heap.size w wc)
                  case first =>
                    have ho' : (decide ((2 : Int) < yp) || (decide ((2 : Int) = yp) && decide (d ≤ yd))) = o := ho.out
                    by_cases u1 : (2 : Int) < yp
                    · have s1 : decide ((2 : Int) < yp) = true := decide_eq_true u1
                      have HO : Hid (o = true) := by show _ = _; rw [← ho', s1]; rfl
                      clear ho' ho u1
                      go_wp2_with (go_quiet (fail))
                      go_meet
                      exact ⟨by rw [HO.out], below_drewN HAL.out _⟩
                    · have s1 : decide ((2 : Int) < yp) = false := decide_eq_false u1
                      by_cases u2 : (2 : Int) = yp
                      · subst u2
                        have HO : Hid (decide (d ≤ yd) = o) := by show _ = _; rw [← ho']; simp
                        clear ho' ho u1
                        go_wp2_with (go_quiet (fail))
                        go_meet
                        exact ⟨by rw [← HO.out], below_drewN HAL.out _⟩
                      · have s2 : ((2 : Int) == yp) = false := by simp [u2]
                        have HO : Hid (o = false) := by show _ = _; rw [← ho', s1, decide_eq_false u2]; rfl
                        clear ho' ho u1 u2
                        go_wp2_with (go_quiet (fail))
                        go_meet
                        exact ⟨by rw [HO.out], below_drewN HAL.out _⟩
                  case rest =>
                    obtain ⟨rfl, hbw⟩ := hcut
                    have BW := Lib.hid hbw
                    clear hbw
                    cases o
                    · go_wp2_with fail
                      go_roundg r.length
                      case measure => simp
                      case rel => exact ⟨r, i + 1 + 1, some ⟨2, ve, rr, 0, d⟩, rfl, by omega, by go_num, Lib.hid (by rw [← hvf.out, validF, if_neg (by rw [HCK.out]; simp), if_neg (by rw [ho.out]; simp)]), by rw [show off + (i + 1 + 1) * 5 = off + (i + 1) * 5 + 5 by omega]; exact HR.out, Lib.hid ⟨by omega, by rw [Nat.add_sub_cancel]; exact HI.out, HF.out⟩, BW.out⟩
                    · have E1 : Hid (validF none l = 17) := by show _ = _; rw [← hvf.out, validF, if_neg (by rw [HCK.out]; simp), if_pos ho.out]
                      go_wp2_with fail
                      go_ret
                      exact ⟨by rw [E.out, E1.out]; rfl, BW.out⟩
          · clear hp
            by_cases hR : ve < 1 ∨ 255 < ve ∨ rr < 0 ∨ 31 < rr ∨ d < 0 ∨ 0 < d
            · have hck : chkI ⟨3, ve, rr, k, d⟩ = 3 := by
                simp [chkI, chkB]
                (repeat' split) <;> omega
              have E1 : Hid (validF none l = 3) := by show _ = _; rw [← hvf.out, validF, if_pos (by rw [hck]; decide), hck]
              have HRR := Lib.hid hR
              clear hck hR hvf hpr
              go_wp2_with fail
              all_goals first
                | (go_ret; exact ⟨by rw [E.out, E1.out]; rfl, by first | exact HAL.out | exact below_drewN HAL.out _⟩)
                | (exfalso; have := HRR.out; omega)
            · have g1 : decide (ve < 1) = false := decide_eq_false (by omega)
              have g2 : decide (255 < ve) = false := decide_eq_false (by omega)
              have g3 : decide (rr < 0) = false := decide_eq_false (by omega)
              have g4 : decide (31 < rr) = false := decide_eq_false (by omega)
              have g5 : decide (d < 0) = false := decide_eq_false (by omega)
              have g6 : decide (0 < d) = false := decide_eq_false (by omega)
              have hck : chkI ⟨3, ve, rr, k, d⟩ = if ¬ k = 0 then 10 else 0 := by
                simp [chkI, chkB]
                (repeat' split) <;> first | rfl | omega
              clear hR
              by_cases hk : ¬ k = 0
              · rw [if_pos hk] at hck
                have hk' : (k != 0) = true := by simp [hk]
                clear hk
                have E1 : Hid (validF none l = 10) := by show _ = _; rw [← hvf.out, validF, if_pos (by rw [hck]; decide), hck]
                clear hck hvf hpr
                go_wp2_with fail
                go_ret
                exact ⟨by rw [E.out, E1.out]; rfl, by first | exact HAL.out | exact below_drewN HAL.out _⟩
              · rw [if_neg hk] at hck
                obtain rfl : k = 0 := by omega
                clear hk
                have HCK := Lib.hid hck
                clear hck
                go_upto_region 18 with fail
                clear g1 g2 g3 g4 g5 g6 q0 q1 q2 q3 q4
                cases q with
                | none =>
                  have hj0 : j = 0 := hpr.out
                  subst hj0
                  clear hpr
                  go_wp2_with (go_quiet (fail))
                  go_roundg r.length
                  case measure => simp
                  case rel => exact ⟨r, 1, some ⟨3, ve, rr, 0, d⟩, rfl, by omega, rfl, Lib.hid (by rw [← hvf.out, validF, if_neg (by rw [HCK.out]; simp), if_neg (by simp [ordB])]), by rw [show off + 1 * 5 = off + 0 * 5 + 5 by omega]; exact HR.out, Lib.hid ⟨by omega, HI.out, HF.out⟩, below_drewN HAL.out _⟩
                | some y =>
                  obtain ⟨yp, yv, yr, yk, yd⟩ := y
                  obtain ⟨hj0, ⟨y0, _, _, _, y4⟩, _⟩ := hpr.out
                  obtain ⟨i, rfl⟩ : ∃ i, j = i + 1 := ⟨j - 1, by omega⟩
                  rw [Nat.add_sub_cancel] at y0 y4
                  have W : Value.int .i64 (IntKind.i64.wrap (i : Int)) = .int .i64 i := by rw [IntWalk.i64_in _ (by omega)]
                  have z0 := (HAL.out.cell (p := ⟨b, off + i * 5, none⟩) hbl).trans y0
                  have z4 := (HAL.out.cell (p := ⟨b, off + i * 5 + 4, none⟩) hbl).trans y4
                  obtain ⟨o, ho⟩ : ∃ o, Hid (ordB (some ⟨yp, yv, yr, yk, yd⟩) ⟨3, ve, rr, 0, d⟩ = o) := ⟨_, rfl⟩
                  clear hpr y0 y4 hj0
                  go_cut [122] from 88 to 122 (fun c wc => c = .bool o ∧ Below w.heap.size w wc)
                  case first =>
                    have ho' : (decide ((3 : Int) < yp) || (decide ((3 : Int) = yp) && decide (d ≤ yd))) = o := ho.out
                    by_cases u1 : (3 : Int) < yp
                    · have s1 : decide ((3 : Int) < yp) = true := decide_eq_true u1
                      have HO : Hid (o = true) := by show _ = _; rw [← ho', s1]; rfl
                      clear ho' ho u1
                      go_wp2_with (go_quiet (fail))
                      go_meet
                      exact ⟨by rw [HO.out], below_drewN HAL.out _⟩
                    · have s1 : decide ((3 : Int) < yp) = false := decide_eq_false u1
                      by_cases u2 : (3 : Int) = yp
                      · subst u2
                        have HO : Hid (decide (d ≤ yd) = o) := by show _ = _; rw [← ho']; simp
                        clear ho' ho u1
                        go_wp2_with (go_quiet (fail))
                        go_meet
                        exact ⟨by rw [← HO.out], below_drewN HAL.out _⟩
                      · have s2 : ((3 : Int) == yp) = false := by simp [u2]
                        have HO : Hid (o = false) := by show _ = _; rw [← ho', s1, decide_eq_false u2]; rfl
                        clear ho' ho u1 u2
                        go_wp2_with (go_quiet (fail))
                        go_meet
                        exact ⟨by rw [HO.out], below_drewN HAL.out _⟩
                  case rest =>
                    obtain ⟨rfl, hbw⟩ := hcut
                    have BW := Lib.hid hbw
                    clear hbw
                    cases o
                    · go_wp2_with fail
                      go_roundg r.length
                      case measure => simp
                      case rel => exact ⟨r, i + 1 + 1, some ⟨3, ve, rr, 0, d⟩, rfl, by omega, by go_num, Lib.hid (by rw [← hvf.out, validF, if_neg (by rw [HCK.out]; simp), if_neg (by rw [ho.out]; simp)]), by rw [show off + (i + 1 + 1) * 5 = off + (i + 1) * 5 + 5 by omega]; exact HR.out, Lib.hid ⟨by omega, by rw [Nat.add_sub_cancel]; exact HI.out, HF.out⟩, BW.out⟩
                    · have E1 : Hid (validF none l = 17) := by show _ = _; rw [← hvf.out, validF, if_neg (by rw [HCK.out]; simp), if_pos ho.out]
                      go_wp2_with fail
                      go_ret
                      exact ⟨by rw [E.out, E1.out]; rfl, BW.out⟩
          · clear hp
            by_cases hR : ve < 1 ∨ 255 < ve ∨ rr < 0 ∨ 0 < rr ∨ d < 0 ∨ 255 < d
            · have hck : chkI ⟨4, ve, rr, k, d⟩ = 3 := by
                simp [chkI, chkB]
                (repeat' split) <;> omega
              have E1 : Hid (validF none l = 3) := by show _ = _; rw [← hvf.out, validF, if_pos (by rw [hck]; decide), hck]
              have HRR := Lib.hid hR
              clear hck hR hvf hpr
              go_wp2_with fail
              all_goals first
                | (go_ret; exact ⟨by rw [E.out, E1.out]; rfl, by first | exact HAL.out | exact below_drewN HAL.out _⟩)
                | (exfalso; have := HRR.out; omega)
            · have g1 : decide (ve < 1) = false := decide_eq_false (by omega)
              have g2 : decide (255 < ve) = false := decide_eq_false (by omega)
              have g3 : decide (rr < 0) = false := decide_eq_false (by omega)
              have g4 : decide (0 < rr) = false := decide_eq_false (by omega)
              have g5 : decide (d < 0) = false := decide_eq_false (by omega)
              have g6 : decide (255 < d) = false := decide_eq_false (by omega)
              have hck : chkI ⟨4, ve, rr, k, d⟩ = if elemP k = false then 10 else 0 := by
                simp [chkI, chkB]
                (repeat' split) <;> first | rfl | omega
              clear hR
              obtain ⟨eb, heb⟩ : ∃ eb, elemP k = eb := ⟨_, rfl⟩
              have HE : Hid (∀ w, Calls Tryd.prog 40 #[.int .i64 k] w fun e w' => e = .returned (.bool eb) ∧ w' = w) := Lib.hid (fun w => by rw [← heb]; exact relem_any k w)
              rw [heb] at hck
              clear heb
              cases eb
              · rw [if_pos rfl] at hck
                have E1 : Hid (validF none l = 10) := by show _ = _; rw [← hvf.out, validF, if_pos (by rw [hck]; decide), hck]
                clear hck hvf hpr
                go_wp2_with (go_at_call 40; refine (HE.out _).mono ?_; rintro e w' ⟨rfl, hw'⟩; rw [hw']; clear hw' w')
                go_ret
                exact ⟨by rw [E.out, E1.out]; rfl, by first | exact HAL.out | exact below_drewN HAL.out _⟩
              · rw [if_neg (by simp)] at hck
                have HCK := Lib.hid hck
                clear hck
                go_upto_region 18 with (go_at_call 40; refine (HE.out _).mono ?_; rintro e w' ⟨rfl, hw'⟩; rw [hw']; clear hw' w')
                clear g1 g2 g3 g4 g5 g6 q0 q1 q2 q3 q4
                cases q with
                | none =>
                  have hj0 : j = 0 := hpr.out
                  subst hj0
                  clear hpr
                  go_wp2_with (go_quiet (fail))
                  go_roundg r.length
                  case measure => simp
                  case rel => exact ⟨r, 1, some ⟨4, ve, rr, k, d⟩, rfl, by omega, rfl, Lib.hid (by rw [← hvf.out, validF, if_neg (by rw [HCK.out]; simp), if_neg (by simp [ordB])]), by rw [show off + 1 * 5 = off + 0 * 5 + 5 by omega]; exact HR.out, Lib.hid ⟨by omega, HI.out, HF.out⟩, below_drewN HAL.out _⟩
                | some y =>
                  obtain ⟨yp, yv, yr, yk, yd⟩ := y
                  obtain ⟨hj0, ⟨y0, _, _, _, y4⟩, _⟩ := hpr.out
                  obtain ⟨i, rfl⟩ : ∃ i, j = i + 1 := ⟨j - 1, by omega⟩
                  rw [Nat.add_sub_cancel] at y0 y4
                  have W : Value.int .i64 (IntKind.i64.wrap (i : Int)) = .int .i64 i := by rw [IntWalk.i64_in _ (by omega)]
                  have z0 := (HAL.out.cell (p := ⟨b, off + i * 5, none⟩) hbl).trans y0
                  have z4 := (HAL.out.cell (p := ⟨b, off + i * 5 + 4, none⟩) hbl).trans y4
                  obtain ⟨o, ho⟩ : ∃ o, Hid (ordB (some ⟨yp, yv, yr, yk, yd⟩) ⟨4, ve, rr, k, d⟩ = o) := ⟨_, rfl⟩
                  clear hpr y0 y4 hj0
                  go_cut [122] from 88 to 122 (fun c wc => c = .bool o ∧ Below w.heap.size w wc)
                  case first =>
                    have ho' : (decide ((4 : Int) < yp) || (decide ((4 : Int) = yp) && decide (d ≤ yd))) = o := ho.out
                    by_cases u1 : (4 : Int) < yp
                    · have s1 : decide ((4 : Int) < yp) = true := decide_eq_true u1
                      have HO : Hid (o = true) := by show _ = _; rw [← ho', s1]; rfl
                      clear ho' ho u1
                      go_wp2_with (go_quiet (fail))
                      go_meet
                      exact ⟨by rw [HO.out], below_drewN HAL.out _⟩
                    · have s1 : decide ((4 : Int) < yp) = false := decide_eq_false u1
                      by_cases u2 : (4 : Int) = yp
                      · subst u2
                        have HO : Hid (decide (d ≤ yd) = o) := by show _ = _; rw [← ho']; simp
                        clear ho' ho u1
                        go_wp2_with (go_quiet (fail))
                        go_meet
                        exact ⟨by rw [← HO.out], below_drewN HAL.out _⟩
                      · have s2 : ((4 : Int) == yp) = false := by simp [u2]
                        have HO : Hid (o = false) := by show _ = _; rw [← ho', s1, decide_eq_false u2]; rfl
                        clear ho' ho u1 u2
                        go_wp2_with (go_quiet (fail))
                        go_meet
                        exact ⟨by rw [HO.out], below_drewN HAL.out _⟩
                  case rest =>
                    obtain ⟨rfl, hbw⟩ := hcut
                    have BW := Lib.hid hbw
                    clear hbw
                    cases o
                    · go_wp2_with fail
                      go_roundg r.length
                      case measure => simp
                      case rel => exact ⟨r, i + 1 + 1, some ⟨4, ve, rr, k, d⟩, rfl, by omega, by go_num, Lib.hid (by rw [← hvf.out, validF, if_neg (by rw [HCK.out]; simp), if_neg (by rw [ho.out]; simp)]), by rw [show off + (i + 1 + 1) * 5 = off + (i + 1) * 5 + 5 by omega]; exact HR.out, Lib.hid ⟨by omega, by rw [Nat.add_sub_cancel]; exact HI.out, HF.out⟩, BW.out⟩
                    · have E1 : Hid (validF none l = 17) := by show _ = _; rw [← hvf.out, validF, if_neg (by rw [HCK.out]; simp), if_pos ho.out]
                      go_wp2_with fail
                      go_ret
                      exact ⟨by rw [E.out, E1.out]; rfl, BW.out⟩
          · clear hp
            by_cases hR : ve < 1 ∨ 255 < ve ∨ rr < 0 ∨ 0 < rr ∨ d < 0 ∨ 0 < d
            · have hck : chkI ⟨5, ve, rr, k, d⟩ = 3 := by
                simp [chkI, chkB]
                (repeat' split) <;> omega
              have E1 : Hid (validF none l = 3) := by show _ = _; rw [← hvf.out, validF, if_pos (by rw [hck]; decide), hck]
              have HRR := Lib.hid hR
              clear hck hR hvf hpr
              go_wp2_with fail
              all_goals first
                | (go_ret; exact ⟨by rw [E.out, E1.out]; rfl, by first | exact HAL.out | exact below_drewN HAL.out _⟩)
                | (exfalso; have := HRR.out; omega)
            · have g1 : decide (ve < 1) = false := decide_eq_false (by omega)
              have g2 : decide (255 < ve) = false := decide_eq_false (by omega)
              have g3 : decide (rr < 0) = false := decide_eq_false (by omega)
              have g4 : decide (0 < rr) = false := decide_eq_false (by omega)
              have g5 : decide (d < 0) = false := decide_eq_false (by omega)
              have g6 : decide (0 < d) = false := decide_eq_false (by omega)
              have hck : chkI ⟨5, ve, rr, k, d⟩ = if ¬ k = 0 then 10 else 0 := by
                simp [chkI, chkB]
                (repeat' split) <;> first | rfl | omega
              clear hR
              by_cases hk : ¬ k = 0
              · rw [if_pos hk] at hck
                have hk' : (k != 0) = true := by simp [hk]
                clear hk
                have E1 : Hid (validF none l = 10) := by show _ = _; rw [← hvf.out, validF, if_pos (by rw [hck]; decide), hck]
                clear hck hvf hpr
                go_wp2_with fail
                go_ret
                exact ⟨by rw [E.out, E1.out]; rfl, by first | exact HAL.out | exact below_drewN HAL.out _⟩
              · rw [if_neg hk] at hck
                obtain rfl : k = 0 := by omega
                clear hk
                have HCK := Lib.hid hck
                clear hck
                go_upto_region 18 with fail
                clear g1 g2 g3 g4 g5 g6 q0 q1 q2 q3 q4
                cases q with
                | none =>
                  have hj0 : j = 0 := hpr.out
                  subst hj0
                  clear hpr
                  go_wp2_with (go_quiet (fail))
                  go_roundg r.length
                  case measure => simp
                  case rel => exact ⟨r, 1, some ⟨5, ve, rr, 0, d⟩, rfl, by omega, rfl, Lib.hid (by rw [← hvf.out, validF, if_neg (by rw [HCK.out]; simp), if_neg (by simp [ordB])]), by rw [show off + 1 * 5 = off + 0 * 5 + 5 by omega]; exact HR.out, Lib.hid ⟨by omega, HI.out, HF.out⟩, below_drewN HAL.out _⟩
                | some y =>
                  obtain ⟨yp, yv, yr, yk, yd⟩ := y
                  obtain ⟨hj0, ⟨y0, _, _, _, y4⟩, _⟩ := hpr.out
                  obtain ⟨i, rfl⟩ : ∃ i, j = i + 1 := ⟨j - 1, by omega⟩
                  rw [Nat.add_sub_cancel] at y0 y4
                  have W : Value.int .i64 (IntKind.i64.wrap (i : Int)) = .int .i64 i := by rw [IntWalk.i64_in _ (by omega)]
                  have z0 := (HAL.out.cell (p := ⟨b, off + i * 5, none⟩) hbl).trans y0
                  have z4 := (HAL.out.cell (p := ⟨b, off + i * 5 + 4, none⟩) hbl).trans y4
                  obtain ⟨o, ho⟩ : ∃ o, Hid (ordB (some ⟨yp, yv, yr, yk, yd⟩) ⟨5, ve, rr, 0, d⟩ = o) := ⟨_, rfl⟩
                  clear hpr y0 y4 hj0
                  go_cut [122] from 88 to 122 (fun c wc => c = .bool o ∧ Below w.heap.size w wc)
                  case first =>
                    have ho' : (decide ((5 : Int) < yp) || (decide ((5 : Int) = yp) && decide (d ≤ yd))) = o := ho.out
                    by_cases u1 : (5 : Int) < yp
                    · have s1 : decide ((5 : Int) < yp) = true := decide_eq_true u1
                      have HO : Hid (o = true) := by show _ = _; rw [← ho', s1]; rfl
                      clear ho' ho u1
                      go_wp2_with (go_quiet (fail))
                      go_meet
                      exact ⟨by rw [HO.out], below_drewN HAL.out _⟩
                    · have s1 : decide ((5 : Int) < yp) = false := decide_eq_false u1
                      by_cases u2 : (5 : Int) = yp
                      · subst u2
                        have HO : Hid (decide (d ≤ yd) = o) := by show _ = _; rw [← ho']; simp
                        clear ho' ho u1
                        go_wp2_with (go_quiet (fail))
                        go_meet
                        exact ⟨by rw [← HO.out], below_drewN HAL.out _⟩
                      · have s2 : ((5 : Int) == yp) = false := by simp [u2]
                        have HO : Hid (o = false) := by show _ = _; rw [← ho', s1, decide_eq_false u2]; rfl
                        clear ho' ho u1 u2
                        go_wp2_with (go_quiet (fail))
                        go_meet
                        exact ⟨by rw [HO.out], below_drewN HAL.out _⟩
                  case rest =>
                    obtain ⟨rfl, hbw⟩ := hcut
                    have BW := Lib.hid hbw
                    clear hbw
                    cases o
                    · go_wp2_with fail
                      go_roundg r.length
                      case measure => simp
                      case rel => exact ⟨r, i + 1 + 1, some ⟨5, ve, rr, 0, d⟩, rfl, by omega, by go_num, Lib.hid (by rw [← hvf.out, validF, if_neg (by rw [HCK.out]; simp), if_neg (by rw [ho.out]; simp)]), by rw [show off + (i + 1 + 1) * 5 = off + (i + 1) * 5 + 5 by omega]; exact HR.out, Lib.hid ⟨by omega, by rw [Nat.add_sub_cancel]; exact HI.out, HF.out⟩, BW.out⟩
                    · have E1 : Hid (validF none l = 17) := by show _ = _; rw [← hvf.out, validF, if_neg (by rw [HCK.out]; simp), if_pos ho.out]
                      go_wp2_with fail
                      go_ret
                      exact ⟨by rw [E.out, E1.out]; rfl, BW.out⟩
          · clear hp
            by_cases hR : ve < 1 ∨ 255 < ve ∨ rr < 0 ∨ 0 < rr ∨ d < 0 ∨ 0 < d
            · have hck : chkI ⟨6, ve, rr, k, d⟩ = 3 := by
                simp [chkI, chkB]
                (repeat' split) <;> omega
              have E1 : Hid (validF none l = 3) := by show _ = _; rw [← hvf.out, validF, if_pos (by rw [hck]; decide), hck]
              have HRR := Lib.hid hR
              clear hck hR hvf hpr
              go_wp2_with fail
              all_goals first
                | (go_ret; exact ⟨by rw [E.out, E1.out]; rfl, by first | exact HAL.out | exact below_drewN HAL.out _⟩)
                | (exfalso; have := HRR.out; omega)
            · have g1 : decide (ve < 1) = false := decide_eq_false (by omega)
              have g2 : decide (255 < ve) = false := decide_eq_false (by omega)
              have g3 : decide (rr < 0) = false := decide_eq_false (by omega)
              have g4 : decide (0 < rr) = false := decide_eq_false (by omega)
              have g5 : decide (d < 0) = false := decide_eq_false (by omega)
              have g6 : decide (0 < d) = false := decide_eq_false (by omega)
              have hck : chkI ⟨6, ve, rr, k, d⟩ = if ¬ k = 0 then 10 else 0 := by
                simp [chkI, chkB]
                (repeat' split) <;> first | rfl | omega
              clear hR
              by_cases hk : ¬ k = 0
              · rw [if_pos hk] at hck
                have hk' : (k != 0) = true := by simp [hk]
                clear hk
                have E1 : Hid (validF none l = 10) := by show _ = _; rw [← hvf.out, validF, if_pos (by rw [hck]; decide), hck]
                clear hck hvf hpr
                go_wp2_with fail
                go_ret
                exact ⟨by rw [E.out, E1.out]; rfl, by first | exact HAL.out | exact below_drewN HAL.out _⟩
              · rw [if_neg hk] at hck
                obtain rfl : k = 0 := by omega
                clear hk
                have HCK := Lib.hid hck
                clear hck
                go_upto_region 18 with fail
                clear g1 g2 g3 g4 g5 g6 q0 q1 q2 q3 q4
                cases q with
                | none =>
                  have hj0 : j = 0 := hpr.out
                  subst hj0
                  clear hpr
                  go_wp2_with (go_quiet (fail))
                  go_roundg r.length
                  case measure => simp
                  case rel => exact ⟨r, 1, some ⟨6, ve, rr, 0, d⟩, rfl, by omega, rfl, Lib.hid (by rw [← hvf.out, validF, if_neg (by rw [HCK.out]; simp), if_neg (by simp [ordB])]), by rw [show off + 1 * 5 = off + 0 * 5 + 5 by omega]; exact HR.out, Lib.hid ⟨by omega, HI.out, HF.out⟩, below_drewN HAL.out _⟩
                | some y =>
                  obtain ⟨yp, yv, yr, yk, yd⟩ := y
                  obtain ⟨hj0, ⟨y0, _, _, _, y4⟩, _⟩ := hpr.out
                  obtain ⟨i, rfl⟩ : ∃ i, j = i + 1 := ⟨j - 1, by omega⟩
                  rw [Nat.add_sub_cancel] at y0 y4
                  have W : Value.int .i64 (IntKind.i64.wrap (i : Int)) = .int .i64 i := by rw [IntWalk.i64_in _ (by omega)]
                  have z0 := (HAL.out.cell (p := ⟨b, off + i * 5, none⟩) hbl).trans y0
                  have z4 := (HAL.out.cell (p := ⟨b, off + i * 5 + 4, none⟩) hbl).trans y4
                  obtain ⟨o, ho⟩ : ∃ o, Hid (ordB (some ⟨yp, yv, yr, yk, yd⟩) ⟨6, ve, rr, 0, d⟩ = o) := ⟨_, rfl⟩
                  clear hpr y0 y4 hj0
                  go_cut [122] from 88 to 122 (fun c wc => c = .bool o ∧ Below w.heap.size w wc)
                  case first =>
                    have ho' : (decide ((6 : Int) < yp) || (decide ((6 : Int) = yp) && decide (d ≤ yd))) = o := ho.out
                    by_cases u1 : (6 : Int) < yp
                    · have s1 : decide ((6 : Int) < yp) = true := decide_eq_true u1
                      have HO : Hid (o = true) := by show _ = _; rw [← ho', s1]; rfl
                      clear ho' ho u1
                      go_wp2_with (go_quiet (fail))
                      go_meet
                      exact ⟨by rw [HO.out], below_drewN HAL.out _⟩
                    · have s1 : decide ((6 : Int) < yp) = false := decide_eq_false u1
                      by_cases u2 : (6 : Int) = yp
                      · subst u2
                        have HO : Hid (decide (d ≤ yd) = o) := by show _ = _; rw [← ho']; simp
                        clear ho' ho u1
                        go_wp2_with (go_quiet (fail))
                        go_meet
                        exact ⟨by rw [← HO.out], below_drewN HAL.out _⟩
                      · have s2 : ((6 : Int) == yp) = false := by simp [u2]
                        have HO : Hid (o = false) := by show _ = _; rw [← ho', s1, decide_eq_false u2]; rfl
                        clear ho' ho u1 u2
                        go_wp2_with (go_quiet (fail))
                        go_meet
                        exact ⟨by rw [HO.out], below_drewN HAL.out _⟩
                  case rest =>
                    obtain ⟨rfl, hbw⟩ := hcut
                    have BW := Lib.hid hbw
                    clear hbw
                    cases o
                    · go_wp2_with fail
                      go_roundg r.length
                      case measure => simp
                      case rel => exact ⟨r, i + 1 + 1, some ⟨6, ve, rr, 0, d⟩, rfl, by omega, by go_num, Lib.hid (by rw [← hvf.out, validF, if_neg (by rw [HCK.out]; simp), if_neg (by rw [ho.out]; simp)]), by rw [show off + (i + 1 + 1) * 5 = off + (i + 1) * 5 + 5 by omega]; exact HR.out, Lib.hid ⟨by omega, by rw [Nat.add_sub_cancel]; exact HI.out, HF.out⟩, BW.out⟩
                    · have E1 : Hid (validF none l = 17) := by show _ = _; rw [← hvf.out, validF, if_neg (by rw [HCK.out]; simp), if_pos ho.out]
                      go_wp2_with fail
                      go_ret
                      exact ⟨by rw [E.out, E1.out]; rfl, BW.out⟩
        · have hck : chkI ⟨p, ve, rr, k, d⟩ = 14 := by unfold chkI chkB; rw [if_pos hp]
          have E1 : Hid (validF none l = 14) := by show _ = _; rw [← hvf.out, validF, if_pos (by rw [hck]; decide), hck]
          have HP := Lib.hid hp
          clear hck hvf hpr hp
          go_wp2_with fail
          all_goals first
            | (go_ret; exact ⟨by rw [E.out, E1.out]; rfl, by first | exact HAL.out | exact below_drewN HAL.out _⟩)
            | (exfalso; have := HP.out; omega)
end Go.Proofs.YtdpiehhblflacaaDoor
