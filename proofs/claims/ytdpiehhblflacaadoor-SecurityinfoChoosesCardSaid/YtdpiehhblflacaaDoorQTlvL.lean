/- Layer 2: the walk of the reference's list, up to the end. -/
import Derived.Test.YtdpiehhblflacaaDoorQTlvK
namespace Go.Proofs.YtdpiehhblflacaaDoor
open Go.RowKit Go.Deep

set_option maxRecDepth 100000 in
set_option maxHeartbeats 16000000 in
theorem rlist_closed (n : Nat) (ihT : ∀ m, m < n → RListC m true) (ihF : ∀ m, m < n → RListC m false) : RListC n false := by
  intro l v d c st w hv hl4 hln hd hc
  have hlen := hv.len
  by_cases hemp : l.length = 0
  · obtain ⟨va, bc, rfl⟩ := hv.form2
    have E2 : Hid (listP st n l d c false = .ok ⟨.nil, 0, c⟩) := listP_end (by unfold headP; rw [if_neg (by decide), if_pos hemp])
    have e0 : l = [] := List.eq_nil_of_length_eq_zero hemp
    clear hv hlen hemp
    subst e0
    simp only [List.length_nil]
    go_enter Tryd.func58, Tryd.ntmps58
    go_wp2_with fail
    refine wp_loop_rounds 1 ?_
    rw [rounds_succ]
    go_wp2_with fail
    exact bodyPost_ret (v := .tuple #[.slice none 0 0, .int .i64 0, .int .i64 (c : Int), .int .i64 0]) (by simp [results, Tryd.results58, go_sem]) rfl (RListOut.yes E2.out rfl rfl (OwnN.nil _ _) (Nat.zero_le _) (Below.refl _ _))
  · obtain ⟨va, bc, rfl⟩ := hv.form2
    obtain ⟨bb, bo, rfl⟩ := addr_of hv (by omega)
    have hbc := hv.capOf
    have HV := Lib.hid hv
    clear hv hemp
    go_enter Tryd.func58, Tryd.ntmps58
    go_wp2_with fail
    go_loopg [2, 14, 15] n (fun m cs o at_ wr => ∃ (L : Ns) (u cc : Nat), Hid (listP st n l d c false = preL L u (listP st m (l.drop u) d cc false)) ∧ at_ = .int .i64 u ∧ cs = .int .i64 cc ∧ OwnN wr w.heap.size o L ∧ Below w.heap.size w wr ∧
      u ≤ l.length ∧ l.length - u ≤ m ∧ m ≤ n ∧ cc ≤ 256 ∧ L.len ≤ u)
    case atStart => exact ⟨.nil, 0, c, by rw [preL_nil]; rfl, rfl, rfl, OwnN.nil _ _, Below.refl _ _, by omega, by omega, Nat.le_refl _, hc, Nat.le_refl _⟩
    case round =>
      obtain ⟨L, u, cc, E, rfl, rfl, hown, hbel, hu1, hu2, hm, hcc, hLl⟩ := hrel
      obtain ⟨oa, oc, rfl⟩ := hown.form
      have Hown := Lib.hid hown; have Hbel := Lib.hid hbel
      clear hown hbel
      by_cases hlt : u < l.length
      · obtain ⟨m, rfl⟩ : ∃ m, gk = m + 1 := ⟨gk - 1, by omega⟩
        have hh : headP (l.drop u) false = none := by unfold headP; rw [if_neg (by decide), if_neg (by rw [List.length_drop]; omega)]
        have ihT := ihT m (by omega); have ihF := ihF m (by omega)
        have b0 : (u : Int) ≤ l.length := by omega
        have b4 : (u : Int) < bc := by omega
        have HT := fun (w1 : World) (hb : Below w.heap.size w w1) => Lib.hid (rtag_any (l.drop u) _ (· < w.heap.size) w1 (cutFrom (HV.out.below hb) u (by omega) (A := some ⟨bb, bo + u, none⟩) (by rw [if_neg (by omega)])))
        cases ht : tagP (l.drop u) with
        | error er =>
          have E2 : Hid (listP st n l d c false = .error er) := by rw [E.out, listP_err hh (by show objF _ _ _ _ _ = _; unfold objF; rw [ht])]; rfl
          have ne := tagP_err ht
          have n0 : (er != 0) = true := by simp [ne]
          have N0 := Lib.hid ne
          simp only [ht, tripE] at HT
          clear ht ne hh E
          go_wp2_with (go_at_call 80; refine (HT _ Hbel.out).out.mono ?_; rintro e1 w' ⟨rfl, n1, rfl⟩)
          refine bodyPost_ret (v := .tuple #[.slice none 0 0, .int .i64 0, .int .i64 0, .int .i64 er]) (by simp [results, Tryd.results58, go_sem]) rfl (RListOut.no E2.out N0.out (below_drewN Hbel.out _))
        | ok x =>
          obtain ⟨t, k⟩ := x
          obtain ⟨tv, k1, k2⟩ := tagP_ok ht
          rw [List.length_drop] at k2
          have hin := tagV_in tv
          obtain ⟨tc, htc⟩ : ∃ tc, tc = tagC t := ⟨_, rfl⟩
          have HC := Lib.hid (fun w => rcons_any t hin w)
          rw [← htc] at HC
          simp only [ht, tripO] at HT
          obtain ⟨A1, hA1⟩ : ∃ A, (if bc = u + k then some (⟨bb, bo, none⟩ : Addr) else some ⟨bb, bo + (u + k), none⟩) = A := ⟨_, rfl⟩
          have CUT1 := Lib.hid (fun (w1 : World) (hb : Below w.heap.size w w1) => cutFrom (HV.out.below hb) (u + k) (by omega) hA1)
          have HS := fun (w1 : World) (hb : Below w.heap.size w w1) => Lib.hid (rsize_any (l.drop (u + k)) _ (· < w.heap.size) tc st w1 (CUT1.out w1 hb))
          have HI := Lib.hid hin; have TC := Lib.hid htc
          have HT2 := Lib.hid ht
          have b1 : (0 : Int) ≤ (u : Int) + k := by omega
          have b2 : (u : Int) + k ≤ l.length := by omega
          have b3 : (u : Int) + k ≤ bc := by omega
          clear tv hin htc ht
          cases hs : sizeP (l.drop (u + k)) (tc && !st) st with
          | error er =>
            have ho : objP st m (l.drop u) d cc = .error er := obj_e1 HT2.out (by rw [List.drop_drop, ← TC.out]; exact hs)
            have E2 : Hid (listP st n l d c false = .error er) := by rw [E.out, listP_err hh ho]; rfl
            have ne := sizeP_err hs
            have n0 : (er != 0) = true := by simp [ne]
            have N0 := Lib.hid ne
            simp only [hs, tripE] at HS
            clear hs ho ne hh E
            go_upto_region 14 with (go_at_call 80; refine (HT _ Hbel.out).out.mono ?_; rintro e1 w' ⟨rfl, n1, rfl⟩)
            have HB1 := Lib.hid (below_drewN Hbel.out n1)
            obtain ⟨w1, hw1⟩ : ∃ w1, w1 = wr.drewN n1 := ⟨_, rfl⟩
            have HD1 := Lib.hid (below_drews wr n1)
            rw [← hw1] at HB1 HD1 ⊢
            clear hw1
            refine wp_region_quiet_lit (by kernel_rfl) (by kernel_rfl) ?_
            iterate 3 (first | go_big_quiet_step (fail) | quiet_step (fail))
            (try rw [hA1])
            repeat (first | go_big_quiet_step ((first | (go_at_call 75; exact Calls.quiet_of_same (HC.out _)) | (go_at_call 81; exact quiet_of_drew (HS _ (below_drewN HB1.out _)).out))) | quiet_step ((first | (go_at_call 75; exact Calls.quiet_of_same (HC.out _)) | (go_at_call 81; exact quiet_of_drew (HS _ (below_drewN HB1.out _)).out))))
            refine wpQuiet_nil ?_
            intro w2 hqq
            obtain ⟨nq, hqr⟩ := hqq
            have HB2 := Lib.hid (below_drewN HB1.out nq)
            have HD2 := Lib.hid (below_drewN HD1.out nq)
            rw [← hqr] at HB2 HD2
            clear hqr
            go_wp2_with fail
            refine bodyPost_ret (v := .tuple #[.slice none 0 0, .int .i64 0, .int .i64 0, .int .i64 er]) (by simp [results, Tryd.results58, go_sem]) rfl (RListOut.no E2.out N0.out HB2.out)
          | ok y =>
            obtain ⟨z, j⟩ := y
            obtain ⟨j1, j2, m1, m2⟩ := sizeP_ok hs
            rw [List.length_drop] at j2
            have hs' : sizeP ((l.drop u).drop k) (tagC t && !st) st = .ok (z, j) := by rw [List.drop_drop, ← TC.out]; exact hs
            have HS2 := Lib.hid hs'
            simp only [hs, tripO] at HS
            clear hs hs'
            obtain rfl : some (⟨bb, bo + (u + k), none⟩ : Addr) = A1 := by rw [← hA1, if_neg (by omega)]
            clear hA1
            by_cases h8 : 8 < d
            · have E2 : Hid (listP st n l d c false = .error 7) := by rw [E.out, listP_err hh (obj_e2 HT2.out HS2.out h8)]; rfl
              clear hh E
              go_upto_region 14 with (go_at_call 80; refine (HT _ Hbel.out).out.mono ?_; rintro e1 w' ⟨rfl, n1, rfl⟩)
              have HB1 := Lib.hid (below_drewN Hbel.out n1)
              obtain ⟨w1, hw1⟩ : ∃ w1, w1 = wr.drewN n1 := ⟨_, rfl⟩
              have HD1 := Lib.hid (below_drews wr n1)
              rw [← hw1] at HB1 HD1 ⊢
              clear hw1
              refine wp_region_quiet_lit (by kernel_rfl) (by kernel_rfl) ?_
              iterate 3 (first | go_big_quiet_step (fail) | quiet_step (fail))
              (try rw [hA1])
              repeat (first | go_big_quiet_step ((first | (go_at_call 75; exact Calls.quiet_of_same (HC.out _)) | (go_at_call 81; exact quiet_of_drew (HS _ (below_drewN HB1.out _)).out))) | quiet_step ((first | (go_at_call 75; exact Calls.quiet_of_same (HC.out _)) | (go_at_call 81; exact quiet_of_drew (HS _ (below_drewN HB1.out _)).out))))
              refine wpQuiet_nil ?_
              intro w2 hqq
              obtain ⟨nq, hqr⟩ := hqq
              have HB2 := Lib.hid (below_drewN HB1.out nq)
              have HD2 := Lib.hid (below_drewN HD1.out nq)
              rw [← hqr] at HB2 HD2
              clear hqr
              go_wp2_with fail
              refine bodyPost_ret (v := .tuple #[.slice none 0 0, .int .i64 0, .int .i64 0, .int .i64 7]) (by simp [results, Tryd.results58, go_sem]) rfl (RListOut.no E2.out (by decide) HB2.out)
            · by_cases h9 : 256 < cc + 1
              · have E2 : Hid (listP st n l d c false = .error 2) := by rw [E.out, listP_err hh (obj_e3 HT2.out HS2.out h8 h9)]; rfl
                clear hh E
                go_upto_region 14 with (go_at_call 80; refine (HT _ Hbel.out).out.mono ?_; rintro e1 w' ⟨rfl, n1, rfl⟩)
                have HB1 := Lib.hid (below_drewN Hbel.out n1)
                obtain ⟨w1, hw1⟩ : ∃ w1, w1 = wr.drewN n1 := ⟨_, rfl⟩
                have HD1 := Lib.hid (below_drews wr n1)
                rw [← hw1] at HB1 HD1 ⊢
                clear hw1
                refine wp_region_quiet_lit (by kernel_rfl) (by kernel_rfl) ?_
                iterate 3 (first | go_big_quiet_step (fail) | quiet_step (fail))
                (try rw [hA1])
                repeat (first | go_big_quiet_step ((first | (go_at_call 75; exact Calls.quiet_of_same (HC.out _)) | (go_at_call 81; exact quiet_of_drew (HS _ (below_drewN HB1.out _)).out))) | quiet_step ((first | (go_at_call 75; exact Calls.quiet_of_same (HC.out _)) | (go_at_call 81; exact quiet_of_drew (HS _ (below_drewN HB1.out _)).out))))
                refine wpQuiet_nil ?_
                intro w2 hqq
                obtain ⟨nq, hqr⟩ := hqq
                have HB2 := Lib.hid (below_drewN HB1.out nq)
                have HD2 := Lib.hid (below_drewN HD1.out nq)
                rw [← hqr] at HB2 HD2
                clear hqr
                go_wp2_with fail
                refine bodyPost_ret (v := .tuple #[.slice none 0 0, .int .i64 0, .int .i64 0, .int .i64 2]) (by simp [results, Tryd.results58, go_sem]) rfl (RListOut.no E2.out (by decide) HB2.out)
              · by_cases h10 : (l.length : Int) - ((u + k + j : Nat) : Int) < z
                · have E2 : Hid (listP st n l d c false = .error 6) := by rw [E.out, listP_err hh (obj_e4 HT2.out HS2.out h8 h9 (by rw [List.drop_drop, List.length_drop]; omega))]; rfl
                  have h11 : (l.length : Int) - ((u : Int) + k + j) < z := by omega
                  clear hh E h10
                  go_upto_region 14 with (go_at_call 80; refine (HT _ Hbel.out).out.mono ?_; rintro e1 w' ⟨rfl, n1, rfl⟩)
                  have HB1 := Lib.hid (below_drewN Hbel.out n1)
                  obtain ⟨w1, hw1⟩ : ∃ w1, w1 = wr.drewN n1 := ⟨_, rfl⟩
                  have HD1 := Lib.hid (below_drews wr n1)
                  rw [← hw1] at HB1 HD1 ⊢
                  clear hw1
                  refine wp_region_quiet_lit (by kernel_rfl) (by kernel_rfl) ?_
                  iterate 3 (first | go_big_quiet_step (fail) | quiet_step (fail))
                  (try rw [hA1])
                  repeat (first | go_big_quiet_step ((first | (go_at_call 75; exact Calls.quiet_of_same (HC.out _)) | (go_at_call 81; exact quiet_of_drew (HS _ (below_drewN HB1.out _)).out))) | quiet_step ((first | (go_at_call 75; exact Calls.quiet_of_same (HC.out _)) | (go_at_call 81; exact quiet_of_drew (HS _ (below_drewN HB1.out _)).out))))
                  refine wpQuiet_nil ?_
                  intro w2 hqq
                  obtain ⟨nq, hqr⟩ := hqq
                  have HB2 := Lib.hid (below_drewN HB1.out nq)
                  have HD2 := Lib.hid (below_drewN HD1.out nq)
                  rw [← hqr] at HB2 HD2
                  clear hqr
                  go_wp2_with fail
                  refine bodyPost_ret (v := .tuple #[.slice none 0 0, .int .i64 0, .int .i64 0, .int .i64 6]) (by simp [results, Tryd.results58, go_sem]) rfl (RListOut.no E2.out (by decide) HB2.out)
                · have h3' : ¬ (((l.drop u).drop (k + j)).length : Int) < z := by rw [List.drop_drop, List.length_drop]; omega
                  have H3 := Lib.hid h3'; clear h3'
                  have h11 : z ≤ (l.length : Int) - ((u : Int) + k + j) := by omega
                  clear h10
                  obtain ⟨A2, hA2⟩ : ∃ A, (if bc = u + k + j then some (⟨bb, bo, none⟩ : Addr) else some ⟨bb, bo + (u + k + j), none⟩) = A := ⟨_, rfl⟩
                  have hA3 : (A2 = some ⟨bb, bo + (u + k + j), none⟩ ∧ u + k + j < bc) ∨ (A2 = some ⟨bb, bo, none⟩ ∧ bc ≤ u + k + j) := by
                    rcases Nat.lt_or_ge (u + k + j) bc with h | h
                    · exact .inl ⟨by rw [← hA2, if_neg (by omega)], h⟩
                    · exact .inr ⟨by rw [← hA2, if_pos (by omega)], h⟩
                  have hj2 : u + k + j ≤ l.length := by omega
                  have hm2 : l.length ≤ u + m + 1 := by omega
                  have hz1 := Lib.hid (show z = -1 ∨ 0 ≤ z from m2.elim .inr fun h => .inl h.1)
                  have hkj : 2 ≤ k + j := by omega
                  have HA3 := Lib.hid hA3; clear hA3
                  clear k2 j2 m1 m2 hu2 hu1 hlt hln
                  by_cases hz0 : z < 0
                  · skip
                    have hpl : (l.drop (u + k + j)).length ≤ m := by rw [List.length_drop]; omega
                    have hp4 : (l.drop (u + k + j)).length ≤ 4096 := by rw [List.length_drop]; omega
                    have HF := fun (w3 : World) (hb : Below w.heap.size w w3) (A : Option Addr) (N C : Nat) (h : BsS w3 (· < w.heap.size) (.slice A N C) (l.drop (u + k + j))) => Lib.hid (show Calls Tryd.prog 58 #[.slice A N C, .int .i64 ((d : Int) + 1), .int .i64 ((cc : Int) + 1), .bool st, .bool true] w3 (RListOut (listP st m (l.drop (u + k + j)) (d + 1) (cc + 1) true) w3) from
                      ihT (l.drop (u + k + j)) _ (d + 1) (cc + 1) st w3 (h.keep fun b hs _ => ⟨rfl, Nat.lt_of_lt_of_le hs hb.size⟩) hp4 hpl (by omega) (by omega))
                    have hl0 := listP_sound st m (l.drop (u + k + j)) (d + 1) (cc + 1) true (by omega)
                    clear hpl hp4
                    cases hl : listP st m (l.drop (u + k + j)) (d + 1) (cc + 1) true with
                    | error er =>
                      have ho : objP st m (l.drop u) d cc = .error er := obj_ie HT2.out HS2.out h8 h9 (by have := H3.out; omega) hz0 (by rw [List.drop_drop, ← Nat.add_assoc]; exact hl)
                      have E2 : Hid (listP st n l d c false = .error er) := by rw [E.out, listP_err hh ho]; rfl
                      have ne := hl0.2 er hl
                      have n0 : (er != 0) = true := by simp [ne]
                      have N0 := Lib.hid ne
                      rw [hl] at HF
                      clear hl hl0 ne hh E ho hA2
                      go_upto_region 14 with (go_at_call 80; refine (HT _ Hbel.out).out.mono ?_; rintro e1 w' ⟨rfl, n1, rfl⟩)
                      have HB1 := Lib.hid (below_drewN Hbel.out n1)
                      obtain ⟨w1, hw1⟩ : ∃ w1, w1 = wr.drewN n1 := ⟨_, rfl⟩
                      have HD1 := Lib.hid (below_drews wr n1)
                      rw [← hw1] at HB1 HD1 ⊢
                      clear hw1
                      refine wp_region_quiet_lit (by kernel_rfl) (by kernel_rfl) ?_
                      iterate 3 (first | go_big_quiet_step (fail) | quiet_step (fail))
                      (try rw [hA1])
                      repeat (first | go_big_quiet_step ((first | (go_at_call 75; exact Calls.quiet_of_same (HC.out _)) | (go_at_call 81; exact quiet_of_drew (HS _ (below_drewN HB1.out _)).out))) | quiet_step ((first | (go_at_call 75; exact Calls.quiet_of_same (HC.out _)) | (go_at_call 81; exact quiet_of_drew (HS _ (below_drewN HB1.out _)).out))))
                      refine wpQuiet_nil ?_
                      intro w2 hqq
                      obtain ⟨nq, hqr⟩ := hqq
                      have HB2 := Lib.hid (below_drewN HB1.out nq)
                      have HD2 := Lib.hid (below_drewN HD1.out nq)
                      rw [← hqr] at HB2 HD2
                      clear hqr
                      have HW := Lib.hid HD2.out
                      go_upto_region 28 with (go_at_call 75; refine (HC.out _).mono ?_; rintro e w' ⟨rfl, rfl⟩)
                      have hsz3 := Lib.hid HW.out.size
                      obtain ⟨w3, hw3⟩ : ∃ w3, w3 = w2.alloc (.cells #[.int .i64 t, .slice none 0 0, .slice none 0 0] 53) := ⟨_, rfl⟩
                      obtain ⟨X, hX⟩ : ∃ X, X = w2.heap.size := ⟨_, rfl⟩
                      have X3 : Hid (w3.heap[X]? = some (.cells #[.int .i64 t, .slice none 0 0, .slice none 0 0] 53 (0, 0))) := by rw [hw3, hX]; exact heap_alloc_new w2 _
                      have HW3 : Hid (Below wr.heap.size wr w3) := by rw [hw3]; exact HW.out.alloc HW.out.size _
                      have HB3 : Hid (Below w.heap.size w w3) := by rw [hw3]; exact HB2.out.alloc HB2.out.size _
                      have hXr : wr.heap.size ≤ X := by rw [hX]; exact HD2.out.size
                      have hXw : w.heap.size ≤ X := Nat.le_trans Hbel.out.size hXr
                      have hX3 : X < w3.heap.size := (Array.getElem?_eq_some_iff.1 X3.out).1
                      rw [← hw3, ← hX]
                      clear hw3 hX hsz3
                      obtain ⟨x0, x1, x2, xf⟩ := three X3.out
                      have xf1 := xf 2
                      clear xf
                      rcases HA3.out with ⟨rfl, hb5⟩ | ⟨rfl, hb5⟩
                      rotate_left
                      obtain rfl : bc = u + k + j := by omega
                      clear hb5
                      all_goals
                        go_wp2_with (go_at_call 58; refine (HF _ HB3.out _ _ _ (cutGen (HV.out.below HB3.out) (u + k + j) hj2 (fun h => by first | rfl | omega) (by omega) ⟨by omega, by omega⟩)).out.mono ?_; intro e4 w4 h4; obtain ⟨_, rfl, hb4⟩ := h4; have X4 := Lib.hid ((hb4.block _ (Array.getElem?_eq_some_iff.1 X3.out).1).trans X3.out); have Hb4 := Lib.hid hb4; clear hb4 x0 x1 x2 xf1; obtain ⟨x0, x1, x2, xf⟩ := three X4.out; have xf1 := xf 2; clear xf)
                        refine bodyPost_ret (v := .tuple #[.slice none 0 0, .int .i64 0, .int .i64 0, .int .i64 er]) (by simp [results, Tryd.results58, go_sem]) rfl (RListOut.no E2.out N0.out ((HB3.out.trans (Hb4.out.mono HB3.out.size)).setCell hXw _))
                    | ok r =>
                      have ho : objP st m (l.drop u) d cc = .ok ⟨t, [], r.list, k + j + r.used, r.count⟩ := obj_i HT2.out HS2.out h8 h9 (by have := H3.out; omega) hz0 (by rw [List.drop_drop, ← Nat.add_assoc]; exact hl)
                      obtain ⟨u1, u2, u3⟩ := hl0.1 r hl
                      have u5 : u + k + j + r.used ≤ l.length := by rw [List.length_drop] at u1; omega
                      clear u1
                      have E2 : Hid (listP st n l d c false = preL (L.app (.cons t [] r.list .nil)) (u + (k + j + r.used)) (listP st m (l.drop (u + (k + j + r.used))) d r.count false)) := by
                        rw [E.out, listP_step hh ho, preL_pre, List.drop_drop]; rfl
                      rw [hl] at HF
                      clear hl hl0 hh E ho u3 hA2
                      go_upto_region 14 with (go_at_call 80; refine (HT _ Hbel.out).out.mono ?_; rintro e1 w' ⟨rfl, n1, rfl⟩)
                      have HB1 := Lib.hid (below_drewN Hbel.out n1)
                      obtain ⟨w1, hw1⟩ : ∃ w1, w1 = wr.drewN n1 := ⟨_, rfl⟩
                      have HD1 := Lib.hid (below_drews wr n1)
                      rw [← hw1] at HB1 HD1 ⊢
                      clear hw1
                      refine wp_region_quiet_lit (by kernel_rfl) (by kernel_rfl) ?_
                      iterate 3 (first | go_big_quiet_step (fail) | quiet_step (fail))
                      (try rw [hA1])
                      repeat (first | go_big_quiet_step ((first | (go_at_call 75; exact Calls.quiet_of_same (HC.out _)) | (go_at_call 81; exact quiet_of_drew (HS _ (below_drewN HB1.out _)).out))) | quiet_step ((first | (go_at_call 75; exact Calls.quiet_of_same (HC.out _)) | (go_at_call 81; exact quiet_of_drew (HS _ (below_drewN HB1.out _)).out))))
                      refine wpQuiet_nil ?_
                      intro w2 hqq
                      obtain ⟨nq, hqr⟩ := hqq
                      have HB2 := Lib.hid (below_drewN HB1.out nq)
                      have HD2 := Lib.hid (below_drewN HD1.out nq)
                      rw [← hqr] at HB2 HD2
                      clear hqr
                      have HW := Lib.hid HD2.out
                      go_upto_region 28 with (go_at_call 75; refine (HC.out _).mono ?_; rintro e w' ⟨rfl, rfl⟩)
                      have hsz3 := Lib.hid HW.out.size
                      obtain ⟨w3, hw3⟩ : ∃ w3, w3 = w2.alloc (.cells #[.int .i64 t, .slice none 0 0, .slice none 0 0] 53) := ⟨_, rfl⟩
                      obtain ⟨X, hX⟩ : ∃ X, X = w2.heap.size := ⟨_, rfl⟩
                      have X3 : Hid (w3.heap[X]? = some (.cells #[.int .i64 t, .slice none 0 0, .slice none 0 0] 53 (0, 0))) := by rw [hw3, hX]; exact heap_alloc_new w2 _
                      have HW3 : Hid (Below wr.heap.size wr w3) := by rw [hw3]; exact HW.out.alloc HW.out.size _
                      have HB3 : Hid (Below w.heap.size w w3) := by rw [hw3]; exact HB2.out.alloc HB2.out.size _
                      have hXr : wr.heap.size ≤ X := by rw [hX]; exact HD2.out.size
                      have hXw : w.heap.size ≤ X := Nat.le_trans Hbel.out.size hXr
                      have hX3 : X < w3.heap.size := (Array.getElem?_eq_some_iff.1 X3.out).1
                      rw [← hw3, ← hX]
                      clear hw3 hX hsz3
                      obtain ⟨x0, x1, x2, xf⟩ := three X3.out
                      have xf1 := xf 2
                      clear xf
                      rcases HA3.out with ⟨rfl, hb5⟩ | ⟨rfl, hb5⟩
                      rotate_left
                      obtain rfl : bc = u + k + j := by omega
                      clear hb5
                      all_goals
                        go_wp2_with (first
                          | (go_at_call 58; refine (HF _ HB3.out _ _ _ (cutGen (HV.out.below HB3.out) (u + k + j) hj2 (fun h => by first | rfl | omega) (by omega) ⟨by omega, by omega⟩)).out.mono ?_; intro e4 w4 h4; obtain ⟨v4, rfl, hv4, hb4⟩ := h4; obtain ⟨va, vc, rfl⟩ := NsS.form2 hv4; have X4 := Lib.hid ((hb4.block _ (Array.getElem?_eq_some_iff.1 X3.out).1).trans X3.out); have Hb4 := Lib.hid hb4; have Hv4 := Lib.hid hv4; clear hb4 hv4 x0 x1 x2 xf1; obtain ⟨x0, x1, x2, xf⟩ := three X4.out; have xf1 := xf 2; clear xf; have HWW := Lib.hid (show Below wr.heap.size wr (w4.setCell ⟨X, 2, none⟩ (.slice va r.list.len vc)) from (HW3.out.trans (Hb4.out.mono HW3.out.size)).setCell hXr _); have HN := Lib.hid (kids_off Hown.out Hb4.out HW3.out hX3 hXr Hbel.out.size (.slice va r.list.len vc) Hv4.out))
                          | (at_builtin; (with_reducible refine wpList_node rfl (.tmp 164) (.tmp 166) rfl w.heap.size (.slice oa L.len oc) L rfl (Hown.out.below HWW.out) t [] r.list (.slice none 0 0) (.slice va r.list.len vc) _ w4.heap.size rfl (by simp [World.setCell]) HI.out (BsS.nil0 _ _) HN.out (by omega) (Nat.le_trans Hbel.out.size HWW.out.size) ?_); intro o2 w2 hg2; have G2 := Lib.hid hg2; clear hg2))
                        go_roundg m
                        case measure => omega
                        case rel => exact ⟨L.app (.cons t [] r.list .nil), u + (k + j + r.used), r.count, E2.out, by go_num, by go_num, G2.out.1, (Hbel.out.trans (HWW.out.mono Hbel.out.size)).trans G2.out.2.1, by omega, by omega, by omega, u2, by rw [Ns.len_snoc]; omega⟩
                  · obtain ⟨q, rfl⟩ := Int.eq_ofNat_of_zero_le (show 0 ≤ z by omega)
                    have hq : u + k + j + q ≤ l.length := by omega
                    clear hz1 h11 hz0
                    cases tc with
                    | true =>
                      have hpl : ((l.drop (u + k + j)).take q).length ≤ m := by rw [List.length_take, List.length_drop]; omega
                      have hp4 : ((l.drop (u + k + j)).take q).length ≤ 4096 := by rw [List.length_take, List.length_drop]; omega
                      have HF := fun (w3 : World) (hb : Below w.heap.size w w3) (A : Option Addr) (N C : Nat) (h : BsS w3 (· < w.heap.size) (.slice A N C) ((l.drop (u + k + j)).take q)) => Lib.hid (show Calls Tryd.prog 58 #[.slice A N C, .int .i64 ((d : Int) + 1), .int .i64 ((cc : Int) + 1), .bool st, .bool false] w3 (RListOut (listP st m ((l.drop (u + k + j)).take q) (d + 1) (cc + 1) false) w3) from
                        ihF ((l.drop (u + k + j)).take q) _ (d + 1) (cc + 1) st w3 (h.keep fun b hs _ => ⟨rfl, Nat.lt_of_lt_of_le hs hb.size⟩) hp4 hpl (by omega) (by omega))
                      have hl0 := listP_sound st m ((l.drop (u + k + j)).take q) (d + 1) (cc + 1) false (by omega)
                      clear hpl hp4
                      cases hl : listP st m ((l.drop (u + k + j)).take q) (d + 1) (cc + 1) false with
                      | error er =>
                        have ho : objP st m (l.drop u) d cc = .error er := obj_ce HT2.out HS2.out h8 h9 (by have := H3.out; omega) (by omega) (TC.out.symm.trans rfl) (by rw [List.drop_drop, ← Nat.add_assoc, Int.toNat_natCast]; exact hl)
                        have E2 : Hid (listP st n l d c false = .error er) := by rw [E.out, listP_err hh ho]; rfl
                        have ne := hl0.2 er hl
                        have n0 : (er != 0) = true := by simp [ne]
                        have N0 := Lib.hid ne
                        rw [hl] at HF
                        clear hl hl0 ne hh E ho hA2
                        go_upto_region 14 with (go_at_call 80; refine (HT _ Hbel.out).out.mono ?_; rintro e1 w' ⟨rfl, n1, rfl⟩)
                        have HB1 := Lib.hid (below_drewN Hbel.out n1)
                        obtain ⟨w1, hw1⟩ : ∃ w1, w1 = wr.drewN n1 := ⟨_, rfl⟩
                        have HD1 := Lib.hid (below_drews wr n1)
                        rw [← hw1] at HB1 HD1 ⊢
                        clear hw1
                        refine wp_region_quiet_lit (by kernel_rfl) (by kernel_rfl) ?_
                        iterate 3 (first | go_big_quiet_step (fail) | quiet_step (fail))
                        (try rw [hA1])
                        repeat (first | go_big_quiet_step ((first | (go_at_call 75; exact Calls.quiet_of_same (HC.out _)) | (go_at_call 81; exact quiet_of_drew (HS _ (below_drewN HB1.out _)).out))) | quiet_step ((first | (go_at_call 75; exact Calls.quiet_of_same (HC.out _)) | (go_at_call 81; exact quiet_of_drew (HS _ (below_drewN HB1.out _)).out))))
                        refine wpQuiet_nil ?_
                        intro w2 hqq
                        obtain ⟨nq, hqr⟩ := hqq
                        have HB2 := Lib.hid (below_drewN HB1.out nq)
                        have HD2 := Lib.hid (below_drewN HD1.out nq)
                        rw [← hqr] at HB2 HD2
                        clear hqr
                        have HW := Lib.hid HD2.out
                        go_upto_region 31 with (go_at_call 75; refine (HC.out _).mono ?_; rintro e w' ⟨rfl, rfl⟩)
                        have hsz3 := Lib.hid HW.out.size
                        obtain ⟨w3, hw3⟩ : ∃ w3, w3 = w2.alloc (.cells #[.int .i64 t, .slice none 0 0, .slice none 0 0] 53) := ⟨_, rfl⟩
                        obtain ⟨X, hX⟩ : ∃ X, X = w2.heap.size := ⟨_, rfl⟩
                        have X3 : Hid (w3.heap[X]? = some (.cells #[.int .i64 t, .slice none 0 0, .slice none 0 0] 53 (0, 0))) := by rw [hw3, hX]; exact heap_alloc_new w2 _
                        have HW3 : Hid (Below wr.heap.size wr w3) := by rw [hw3]; exact HW.out.alloc HW.out.size _
                        have HB3 : Hid (Below w.heap.size w w3) := by rw [hw3]; exact HB2.out.alloc HB2.out.size _
                        have hXr : wr.heap.size ≤ X := by rw [hX]; exact HD2.out.size
                        have hXw : w.heap.size ≤ X := Nat.le_trans Hbel.out.size hXr
                        have hX3 : X < w3.heap.size := (Array.getElem?_eq_some_iff.1 X3.out).1
                        rw [← hw3, ← hX]
                        clear hw3 hX hsz3
                        obtain ⟨x0, x1, x2, xf⟩ := three X3.out
                        have xf1 := xf 2
                        clear xf
                        rcases HA3.out with ⟨rfl, hb5⟩ | ⟨rfl, hb5⟩
                        rotate_left
                        obtain rfl : bc = u + k + j := by omega
                        clear hb5
                        all_goals
                          go_wp2_with (go_at_call 58; refine (HF _ HB3.out _ _ _ (cutGenP (HV.out.below HB3.out) (u + k + j) q hq (fun h => by first | rfl | omega) (by omega) ⟨by omega, by omega⟩)).out.mono ?_; intro e4 w4 h4; obtain ⟨_, rfl, hb4⟩ := h4; have X4 := Lib.hid ((hb4.block _ (Array.getElem?_eq_some_iff.1 X3.out).1).trans X3.out); have Hb4 := Lib.hid hb4; clear hb4 x0 x1 x2 xf1; obtain ⟨x0, x1, x2, xf⟩ := three X4.out; have xf1 := xf 2; clear xf)
                          refine bodyPost_ret (v := .tuple #[.slice none 0 0, .int .i64 0, .int .i64 0, .int .i64 er]) (by simp [results, Tryd.results58, go_sem]) rfl (RListOut.no E2.out N0.out ((HB3.out.trans (Hb4.out.mono HB3.out.size)).setCell hXw _))
                      | ok r =>
                        have ho : objP st m (l.drop u) d cc = .ok ⟨t, [], r.list, k + j + q, r.count⟩ := obj_c HT2.out HS2.out h8 h9 (by have := H3.out; omega) (by omega) (TC.out.symm.trans rfl) (by rw [List.drop_drop, ← Nat.add_assoc, Int.toNat_natCast]; exact hl)
                        obtain ⟨u1, u2, u3⟩ := hl0.1 r hl
                        have u4 := u3 rfl
                        rw [List.length_take, List.length_drop, Nat.min_eq_left (by omega)] at u4
                        clear u1
                        have E2 : Hid (listP st n l d c false = preL (L.app (.cons t [] r.list .nil)) (u + (k + j + q)) (listP st m (l.drop (u + (k + j + q))) d r.count false)) := by
                          rw [E.out, listP_step hh ho, preL_pre, List.drop_drop]; rfl
                        rw [hl] at HF
                        clear hl hl0 hh E ho u3 hA2
                        go_upto_region 14 with (go_at_call 80; refine (HT _ Hbel.out).out.mono ?_; rintro e1 w' ⟨rfl, n1, rfl⟩)
                        have HB1 := Lib.hid (below_drewN Hbel.out n1)
                        obtain ⟨w1, hw1⟩ : ∃ w1, w1 = wr.drewN n1 := ⟨_, rfl⟩
                        have HD1 := Lib.hid (below_drews wr n1)
                        rw [← hw1] at HB1 HD1 ⊢
                        clear hw1
                        refine wp_region_quiet_lit (by kernel_rfl) (by kernel_rfl) ?_
                        iterate 3 (first | go_big_quiet_step (fail) | quiet_step (fail))
                        (try rw [hA1])
                        repeat (first | go_big_quiet_step ((first | (go_at_call 75; exact Calls.quiet_of_same (HC.out _)) | (go_at_call 81; exact quiet_of_drew (HS _ (below_drewN HB1.out _)).out))) | quiet_step ((first | (go_at_call 75; exact Calls.quiet_of_same (HC.out _)) | (go_at_call 81; exact quiet_of_drew (HS _ (below_drewN HB1.out _)).out))))
                        refine wpQuiet_nil ?_
                        intro w2 hqq
                        obtain ⟨nq, hqr⟩ := hqq
                        have HB2 := Lib.hid (below_drewN HB1.out nq)
                        have HD2 := Lib.hid (below_drewN HD1.out nq)
                        rw [← hqr] at HB2 HD2
                        clear hqr
                        have HW := Lib.hid HD2.out
                        go_upto_region 31 with (go_at_call 75; refine (HC.out _).mono ?_; rintro e w' ⟨rfl, rfl⟩)
                        have hsz3 := Lib.hid HW.out.size
                        obtain ⟨w3, hw3⟩ : ∃ w3, w3 = w2.alloc (.cells #[.int .i64 t, .slice none 0 0, .slice none 0 0] 53) := ⟨_, rfl⟩
                        obtain ⟨X, hX⟩ : ∃ X, X = w2.heap.size := ⟨_, rfl⟩
                        have X3 : Hid (w3.heap[X]? = some (.cells #[.int .i64 t, .slice none 0 0, .slice none 0 0] 53 (0, 0))) := by rw [hw3, hX]; exact heap_alloc_new w2 _
                        have HW3 : Hid (Below wr.heap.size wr w3) := by rw [hw3]; exact HW.out.alloc HW.out.size _
                        have HB3 : Hid (Below w.heap.size w w3) := by rw [hw3]; exact HB2.out.alloc HB2.out.size _
                        have hXr : wr.heap.size ≤ X := by rw [hX]; exact HD2.out.size
                        have hXw : w.heap.size ≤ X := Nat.le_trans Hbel.out.size hXr
                        have hX3 : X < w3.heap.size := (Array.getElem?_eq_some_iff.1 X3.out).1
                        rw [← hw3, ← hX]
                        clear hw3 hX hsz3
                        obtain ⟨x0, x1, x2, xf⟩ := three X3.out
                        have xf1 := xf 2
                        clear xf
                        rcases HA3.out with ⟨rfl, hb5⟩ | ⟨rfl, hb5⟩
                        rotate_left
                        obtain rfl : bc = u + k + j := by omega
                        clear hb5
                        all_goals
                          go_wp2_with (first
                            | (go_at_call 58; refine (HF _ HB3.out _ _ _ (cutGenP (HV.out.below HB3.out) (u + k + j) q hq (fun h => by first | rfl | omega) (by omega) ⟨by omega, by omega⟩)).out.mono ?_; intro e4 w4 h4; obtain ⟨v4, rfl, hv4, hb4⟩ := h4; obtain ⟨va, vc, rfl⟩ := NsS.form2 hv4; have X4 := Lib.hid ((hb4.block _ (Array.getElem?_eq_some_iff.1 X3.out).1).trans X3.out); have Hb4 := Lib.hid hb4; have Hv4 := Lib.hid hv4; clear hb4 hv4 x0 x1 x2 xf1; obtain ⟨x0, x1, x2, xf⟩ := three X4.out; have xf1 := xf 2; clear xf; have HWW := Lib.hid (show Below wr.heap.size wr (w4.setCell ⟨X, 2, none⟩ (.slice va r.list.len vc)) from (HW3.out.trans (Hb4.out.mono HW3.out.size)).setCell hXr _); have HN := Lib.hid (kids_off Hown.out Hb4.out HW3.out hX3 hXr Hbel.out.size (.slice va r.list.len vc) Hv4.out))
                            | (at_builtin; (with_reducible refine wpList_node rfl (.tmp 164) (.tmp 166) rfl w.heap.size (.slice oa L.len oc) L rfl (Hown.out.below HWW.out) t [] r.list (.slice none 0 0) (.slice va r.list.len vc) _ w4.heap.size rfl (by simp [World.setCell]) HI.out (BsS.nil0 _ _) HN.out (by omega) (Nat.le_trans Hbel.out.size HWW.out.size) ?_); intro o2 w2 hg2; have G2 := Lib.hid hg2; clear hg2))
                          go_roundg m
                          case measure => omega
                          case rel => exact ⟨L.app (.cons t [] r.list .nil), u + (k + j + q), r.count, E2.out, by go_num, by go_num, G2.out.1, (Hbel.out.trans (HWW.out.mono Hbel.out.size)).trans G2.out.2.1, by omega, by omega, by omega, u2, by rw [Ns.len_snoc]; omega⟩
                    | false =>
                      have CUT2 := Lib.hid (fun (w1 : World) (hb : Below w.heap.size w w1) => cutPart (HV.out.below hb) (u + k + j) q (by omega) hA2)
                      have ho : objP st m (l.drop u) d cc = .ok ⟨t, (l.drop (u + k + j)).take q, .nil, k + j + q, cc + 1⟩ := by
                        rw [obj_p HT2.out HS2.out h8 h9 (by have := H3.out; omega) (by omega) (by rw [← TC.out]; decide), List.drop_drop, ← Nat.add_assoc, Int.toNat_natCast]
                      have E2 : Hid (listP st n l d c false = preL (L.app (.cons t ((l.drop (u + k + j)).take q) .nil .nil)) (u + (k + j + q)) (listP st m (l.drop (u + (k + j + q))) d (cc + 1) false)) := by
                        rw [E.out, listP_step hh ho, preL_pre, List.drop_drop]; rfl
                      obtain ⟨vl, hvl⟩ : ∃ vl, vl = (l.drop (u + k + j)).take q := ⟨_, rfl⟩
                      have hql : vl.length = q := by rw [hvl, List.length_take, List.length_drop]; omega
                      rw [← hvl] at E2 CUT2
                      clear hh E ho hvl hA2
                      have HQ := Lib.hid hql; clear hql
                      go_upto_region 14 with (go_at_call 80; refine (HT _ Hbel.out).out.mono ?_; rintro e1 w' ⟨rfl, n1, rfl⟩)
                      have HB1 := Lib.hid (below_drewN Hbel.out n1)
                      obtain ⟨w1, hw1⟩ : ∃ w1, w1 = wr.drewN n1 := ⟨_, rfl⟩
                      have HD1 := Lib.hid (below_drews wr n1)
                      rw [← hw1] at HB1 HD1 ⊢
                      clear hw1
                      refine wp_region_quiet_lit (by kernel_rfl) (by kernel_rfl) ?_
                      iterate 3 (first | go_big_quiet_step (fail) | quiet_step (fail))
                      (try rw [hA1])
                      repeat (first | go_big_quiet_step ((first | (go_at_call 75; exact Calls.quiet_of_same (HC.out _)) | (go_at_call 81; exact quiet_of_drew (HS _ (below_drewN HB1.out _)).out))) | quiet_step ((first | (go_at_call 75; exact Calls.quiet_of_same (HC.out _)) | (go_at_call 81; exact quiet_of_drew (HS _ (below_drewN HB1.out _)).out))))
                      refine wpQuiet_nil ?_
                      intro w2 hqq
                      obtain ⟨nq, hqr⟩ := hqq
                      have HB2 := Lib.hid (below_drewN HB1.out nq)
                      have HD2 := Lib.hid (below_drewN HD1.out nq)
                      rw [← hqr] at HB2 HD2
                      clear hqr
                      have HW := Lib.hid HD2.out
                      go_upto_region 26 with (go_at_call 75; refine (HC.out _).mono ?_; rintro e w' ⟨rfl, rfl⟩)
                      have hsz3 := Lib.hid HW.out.size
                      obtain ⟨w3, hw3⟩ : ∃ w3, w3 = w2.alloc (.cells #[.int .i64 t, .slice none 0 0, .slice none 0 0] 53) := ⟨_, rfl⟩
                      obtain ⟨X, hX⟩ : ∃ X, X = w2.heap.size := ⟨_, rfl⟩
                      have X3 : Hid (w3.heap[X]? = some (.cells #[.int .i64 t, .slice none 0 0, .slice none 0 0] 53 (0, 0))) := by rw [hw3, hX]; exact heap_alloc_new w2 _
                      have HW3 : Hid (Below wr.heap.size wr w3) := by rw [hw3]; exact HW.out.alloc HW.out.size _
                      have HB3 : Hid (Below w.heap.size w w3) := by rw [hw3]; exact HB2.out.alloc HB2.out.size _
                      have hXr : wr.heap.size ≤ X := by rw [hX]; exact HD2.out.size
                      have hXw : w.heap.size ≤ X := Nat.le_trans Hbel.out.size hXr
                      have hX3 : X < w3.heap.size := (Array.getElem?_eq_some_iff.1 X3.out).1
                      rw [← hw3, ← hX]
                      clear hw3 hX hsz3
                      obtain ⟨x0, x1, x2, xf⟩ := three X3.out
                      have xf1 := xf 1
                      clear xf
                      rcases HA3.out with ⟨rfl, hb5⟩ | ⟨rfl, hb5⟩
                      rotate_left
                      obtain rfl : bc = u + k + j := by omega
                      simp only [Nat.sub_self] at CUT2
                      clear hb5
                      all_goals
                        have CC := Lib.hid (CUT2.out w3 HB3.out)
                        go_wp2_with (first
                          | (at_builtin; (with_reducible refine wpList_more rfl (.const (.slice none 0 0)) (.tmp 117) rfl w3.heap.size (.slice none 0 0) [] rfl (OwnB.nil _ _) (some ⟨bb, bo + (u + k + j), none⟩) q (bc - (u + k + j)) vl _ (by simp [Act.eval]) CC.out (by have := HQ.out; simp; omega) (Nat.le_refl _) ?_); intro v4 w4 hg4; rw [List.nil_append] at hg4; obtain ⟨va, vc, rfl⟩ := hg4.1.form; have X4 := Lib.hid ((hg4.2.1.block _ (Array.getElem?_eq_some_iff.1 X3.out).1).trans X3.out); have Hb4 := Lib.hid hg4.2.1; have Hv4 := Lib.hid ((BsS.of_own hg4.1 (by have := HQ.out; omega))); clear hg4 x0 x1 x2 xf1; obtain ⟨x0, x1, x2, xf⟩ := three X4.out; have xf1 := xf 1; clear xf; have HWW := Lib.hid (show Below wr.heap.size wr (w4.setCell ⟨X, 1, none⟩ (.slice va vl.length vc)) from (HW3.out.trans (Hb4.out.mono HW3.out.size)).setCell hXr _); have HN := Lib.hid (bytes_off Hown.out Hb4.out HW3.out hX3 hXr Hbel.out.size (.slice va vl.length vc) Hv4.out))
                          | (at_builtin; (with_reducible refine wpList_more rfl (.const (.slice none 0 0)) (.tmp 117) rfl w3.heap.size (.slice none 0 0) [] rfl (OwnB.nil _ _) (some ⟨bb, bo, none⟩) q 0 vl _ (by simp [Act.eval]) CC.out (by have := HQ.out; simp; omega) (Nat.le_refl _) ?_); intro v4 w4 hg4; rw [List.nil_append] at hg4; obtain ⟨va, vc, rfl⟩ := hg4.1.form; have X4 := Lib.hid ((hg4.2.1.block _ (Array.getElem?_eq_some_iff.1 X3.out).1).trans X3.out); have Hb4 := Lib.hid hg4.2.1; have Hv4 := Lib.hid ((BsS.of_own hg4.1 (by have := HQ.out; omega))); clear hg4 x0 x1 x2 xf1; obtain ⟨x0, x1, x2, xf⟩ := three X4.out; have xf1 := xf 1; clear xf; have HWW := Lib.hid (show Below wr.heap.size wr (w4.setCell ⟨X, 1, none⟩ (.slice va vl.length vc)) from (HW3.out.trans (Hb4.out.mono HW3.out.size)).setCell hXr _); have HN := Lib.hid (bytes_off Hown.out Hb4.out HW3.out hX3 hXr Hbel.out.size (.slice va vl.length vc) Hv4.out))
                          | (at_builtin; (with_reducible refine wpList_node rfl (.tmp 164) (.tmp 166) rfl w.heap.size (.slice oa L.len oc) L rfl (Hown.out.below HWW.out) t vl .nil (.slice va vl.length vc) (.slice none 0 0) _ w4.heap.size rfl (by simp [World.setCell]) HI.out HN.out (NsS.nil0 _ _) (by omega) (Nat.le_trans Hbel.out.size HWW.out.size) ?_); intro o2 w2 hg2; have G2 := Lib.hid hg2; clear hg2))
                        go_roundg m
                        case measure => omega
                        case rel => exact ⟨L.app (.cons t vl .nil .nil), u + (k + j + q), cc + 1, E2.out, by go_num, by go_num, G2.out.1, (Hbel.out.trans (HWW.out.mono Hbel.out.size)).trans G2.out.2.1, by omega, by omega, by omega, by omega, by rw [Ns.len_snoc]; omega⟩

      · have E2 : Hid (listP st n l d c false = .ok ⟨L, u + 0, cc⟩) := by
          rw [E.out, listP_end (u := 0) (by unfold headP; rw [if_neg (by decide), if_pos (drop_empty (by omega))]), preL_nilr]; rfl
        clear E
        go_wp2_with fail
        exact bodyPost_ret (v := .tuple #[.slice oa L.len oc, .int .i64 (u : Int), .int .i64 (cc : Int), .int .i64 0]) (by simp [results, Tryd.results58, go_sem]) rfl (RListOut.yes E2.out rfl rfl Hown.out (by omega) Hbel.out)
end Go.Proofs.YtdpiehhblflacaaDoor
/- Layer 2: the reference's list, Parse and Size. -/
namespace Go.Proofs.YtdpiehhblflacaaDoor
open Go.RowKit Go.Deep

theorem rlists_any (n : Nat) : RListC n true ∧ RListC n false := by
  induction n using Nat.strongRecOn with
  | _ n ih => exact ⟨rlist_open n (fun m hm => (ih m hm).1) (fun m hm => (ih m hm).2), rlist_closed n (fun m hm => (ih m hm).1) (fun m hm => (ih m hm).2)⟩
set_option maxRecDepth 100000 in
set_option maxHeartbeats 1000000 in
theorem rparse_any (B : List UInt8) (v : Value) (st : Bool) (w : World) (hv : Bs w w.heap.size v B) : Calls Tryd.prog 34 #[v, .bool st] w (NodesOut (parseP B st) w) := by
  have hlen := hv.len
  by_cases h1 : 4096 < B.length
  · obtain ⟨a, c, rfl⟩ := hv.form2
    have E := Lib.hid (parseP_long (st := st) h1)
    clear hv
    go_enter Tryd.func34, Tryd.ntmps34
    go_wp2_with fail
    go_ret2
    exact NodesOut.no E.out (Below.refl _ _)
  · have hc := (rlists_any B.length).2 B v 1 0 st w hv (by omega) (Nat.le_refl _) (by omega) (by omega)
    obtain ⟨a, c, rfl⟩ := hv.form2
    have HC := Lib.hid hc
    cases hl : listP st B.length B 1 0 false with
    | error er =>
      have E := Lib.hid (parseP_err h1 hl)
      rw [hl] at HC
      clear hc hl hv
      go_enter Tryd.func34, Tryd.ntmps34
      go_wp2_with (go_at_call 58; refine HC.out.mono ?_; intro e w1 h1; obtain ⟨_, rfl, hb⟩ := h1; have Hb := Lib.hid hb; clear hb)
      go_ret2
      exact NodesOut.no E.out Hb.out
    | ok r =>
      have E := Lib.hid (parseP_ok h1 hl)
      rw [hl] at HC
      clear hc hl hv
      go_enter Tryd.func34, Tryd.ntmps34
      go_wp2_with (go_at_call 58; refine HC.out.mono ?_; intro e w1 h1; obtain ⟨v1, rfl, hv1, hb⟩ := h1; obtain ⟨va, vc, rfl⟩ := NsS.form2 hv1; have Hv1 := Lib.hid hv1; have Hb := Lib.hid hb; clear hb hv1)
      go_ret2
      exact NodesOut.yes E.out Hv1.out Hb.out
set_option maxRecDepth 100000 in
theorem sizeP_closed (l : List UInt8) (op st : Bool) : (∀ e, sizeP l op st = .error e → sizeP l false st = .error e) ∧ (∀ n j, sizeP l op st = .ok (n, j) → (n < 0 → sizeP l false st = .error 5) ∧ (0 ≤ n → sizeP l false st = .ok (n, j))) := by
  have hb := beV_nn l ((gb l 0).toNat - 128)
  have hg := bv_nn (gb l 0)
  unfold sizeP
  by_cases h1 : l.length = 0
  · simp only [if_pos h1]; exact ⟨fun e h => h, fun n j h => by cases h⟩
  · simp only [if_neg h1]
    by_cases h2 : bv (gb l 0) < 128
    · simp only [if_pos h2]; exact ⟨fun e h => h, fun n j h => ⟨fun hn => by injection h with h; injection h with h _; omega, fun _ => h⟩⟩
    · simp only [if_neg h2]
      by_cases h3 : 132 < bv (gb l 0)
      · simp only [if_pos h3]; exact ⟨fun e h => h, fun n j h => by cases h⟩
      · simp only [if_neg h3]
        by_cases h4 : bv (gb l 0) = 128
        · simp only [if_pos h4]
          cases op with
          | true => exact ⟨fun e h => by simp at h, fun n j h => ⟨fun _ => rfl, fun hn => by simp at h; omega⟩⟩
          | false => exact ⟨fun e h => h, fun n j h => by simp at h⟩
        · simp only [if_neg h4]
          refine ⟨fun e h => h, fun n j h => ⟨fun hn => ?_, fun _ => h⟩⟩
          split at h
          · cases h
          · split at h
            · cases h
            · injection h with h; injection h with h _; omega
end Go.Proofs.YtdpiehhblflacaaDoor
