/- Layer 2: the reference's Size. -/
import Derived.Test.YtljalnfjneeieaaTlvL
import Derived.Test.YtljalnfjneeieaaTlvO
namespace Go.Proofs.Ytljalnfjneeieaa
open Go.RowKit Go.Deep

set_option maxRecDepth 100000 in
set_option maxHeartbeats 1000000 in
theorem rsizeQ_any (B : List UInt8) (v : Value) (w : World) (hv : Bs w w.heap.size v B) : Calls Try.prog 31 #[v] w (NumPost (sizeQ B) w) := by
  have hlen := hv.len
  have HT := fun w1 (hb : Below w.heap.size w w1) => Lib.hid (rtag_any B v _ w1 (hv.below hb))
  obtain ⟨a, c, rfl⟩ := hv.form2
  cases ht : tagP B with
  | error er =>
    have E : Hid (sizeQ B = .error er) := by unfold sizeQ; rw [ht]; rfl
    have ne := tagP_err ht
    have n0 : (er != 0) = true := by simp [ne]
    simp only [ht, tripE] at HT
    clear ht ne hv
    go_enter Try.func31, Try.ntmps31
    go_wp2_with (go_at_call 47; refine (HT _ (Below.refl _ _)).out.mono ?_; rintro e w1 ⟨rfl, n1, rfl⟩)
    go_ret2
    exact NumPost.no E.out (below_drewN (Below.refl _ _) n1)
  | ok x =>
    obtain ⟨t, k⟩ := x
    obtain ⟨tv, k1, k2⟩ := tagP_ok ht
    obtain ⟨bb, bo, rfl⟩ := addr_of hv (by omega)
    have hin := tagV_in tv
    obtain ⟨tc, htc⟩ : ∃ tc, tc = tagC t := ⟨_, rfl⟩
    have HC := Lib.hid (fun w => rcons_any t hin w)
    rw [← htc] at HC
    simp only [ht, tripO] at HT
    have hcap := hv.capLe
    obtain ⟨A1, hA1⟩ : ∃ A, (if c = k then some (⟨bb, bo, none⟩ : Addr) else some ⟨bb, bo + k, none⟩) = A := ⟨_, rfl⟩
    have CUT1 := Lib.hid (fun (w1 : World) (hb : Below w.heap.size w w1) => cutFrom (hv.below hb) k (by omega) hA1)
    have HS := fun (w1 : World) (hb : Below w.heap.size w w1) => Lib.hid (rsize_any (B.drop k) _ (· < w.heap.size) tc false w1 (CUT1.out w1 hb))
    have HT2 := Lib.hid ht
    have b1 : (0 : Int) ≤ (k : Int) := by omega
    have b2 : (k : Int) ≤ B.length := by omega
    have b3 : (k : Int) ≤ c := by omega
    obtain ⟨s1, s2⟩ := sizeP_closed (B.drop k) (tc && !false) false
    clear tv hin htc ht hv
    cases hs : sizeP (B.drop k) (tc && !false) false with
    | error er =>
      have E : Hid (sizeQ B = .error er) := by show sizeQ B = _; unfold sizeQ; rw [HT2.out]; simp only [s1 er hs]
      have ne := sizeP_err hs
      have n0 : (er != 0) = true := by simp [ne]
      simp only [hs, tripE] at HS
      clear hs ne s1 s2
      go_enter Try.func31, Try.ntmps31
      go_upto_region 4 with (go_at_call 47; refine (HT _ (Below.refl _ _)).out.mono ?_; rintro e1 w' ⟨rfl, n1, rfl⟩)
      have HB1 := Lib.hid (below_drewN (Below.refl w.heap.size w) n1)
      obtain ⟨w1, hw1⟩ : ∃ w1, w1 = w.drewN n1 := ⟨_, rfl⟩
      rw [← hw1] at HB1 ⊢
      clear hw1
      refine wp_region_quiet_lit (by kernel_rfl) (by kernel_rfl) ?_
      iterate 3 (first | go_big_quiet_step (fail) | quiet_step (fail))
      (try rw [hA1])
      repeat (first | go_big_quiet_step ((first | (go_at_call 15; exact Calls.quiet_of_same (HC.out _)) | (go_at_call 48; exact quiet_of_drew (HS _ (below_drewN HB1.out _)).out))) | quiet_step ((first | (go_at_call 15; exact Calls.quiet_of_same (HC.out _)) | (go_at_call 48; exact quiet_of_drew (HS _ (below_drewN HB1.out _)).out))))
      refine wpQuiet_nil ?_
      intro w2 hqq
      obtain ⟨nq, hqr⟩ := hqq
      have HB2 := Lib.hid (below_drewN HB1.out nq)
      rw [← hqr] at HB2
      clear hqr
      go_wp2_with fail
      go_ret2
      exact NumPost.no E.out HB2.out
    | ok y =>
      obtain ⟨z, j⟩ := y
      obtain ⟨j1, j2, m1, m2⟩ := sizeP_ok hs
      rw [List.length_drop] at j2
      have s3 := s2 z j hs
      simp only [hs, tripO] at HS
      obtain rfl : some (⟨bb, bo + k, none⟩ : Addr) = A1 := by rw [← hA1, if_neg (by omega)]
      clear hA1
      clear hs s1 s2
      by_cases hz : z < 0
      · have E : Hid (sizeQ B = .error 5) := by show sizeQ B = _; unfold sizeQ; rw [HT2.out]; simp only [s3.1 hz]
        have hz' : decide (z < 0) = true := decide_eq_true hz
        clear s3 m2
        go_enter Try.func31, Try.ntmps31
        go_upto_region 4 with (go_at_call 47; refine (HT _ (Below.refl _ _)).out.mono ?_; rintro e1 w' ⟨rfl, n1, rfl⟩)
        have HB1 := Lib.hid (below_drewN (Below.refl w.heap.size w) n1)
        obtain ⟨w1, hw1⟩ : ∃ w1, w1 = w.drewN n1 := ⟨_, rfl⟩
        rw [← hw1] at HB1 ⊢
        clear hw1
        refine wp_region_quiet_lit (by kernel_rfl) (by kernel_rfl) ?_
        iterate 3 (first | go_big_quiet_step (fail) | quiet_step (fail))
        skip
        repeat (first | go_big_quiet_step ((first | (go_at_call 15; exact Calls.quiet_of_same (HC.out _)) | (go_at_call 48; exact quiet_of_drew (HS _ (below_drewN HB1.out _)).out))) | quiet_step ((first | (go_at_call 15; exact Calls.quiet_of_same (HC.out _)) | (go_at_call 48; exact quiet_of_drew (HS _ (below_drewN HB1.out _)).out))))
        refine wpQuiet_nil ?_
        intro w2 hqq
        obtain ⟨nq, hqr⟩ := hqq
        have HB2 := Lib.hid (below_drewN HB1.out nq)
        rw [← hqr] at HB2
        clear hqr
        go_wp2_with fail
        go_ret2
        exact NumPost.no E.out HB2.out
      · have E : Hid (sizeQ B = .ok ((k : Int) + j + z)) := by show sizeQ B = _; unfold sizeQ; rw [HT2.out]; simp only [s3.2 (by omega)]
        have hz' : decide (z < 0) = false := decide_eq_false hz
        have hz2 : 0 ≤ z := by omega
        clear s3 m2
        go_enter Try.func31, Try.ntmps31
        go_upto_region 4 with (go_at_call 47; refine (HT _ (Below.refl _ _)).out.mono ?_; rintro e1 w' ⟨rfl, n1, rfl⟩)
        have HB1 := Lib.hid (below_drewN (Below.refl w.heap.size w) n1)
        obtain ⟨w1, hw1⟩ : ∃ w1, w1 = w.drewN n1 := ⟨_, rfl⟩
        rw [← hw1] at HB1 ⊢
        clear hw1
        refine wp_region_quiet_lit (by kernel_rfl) (by kernel_rfl) ?_
        iterate 3 (first | go_big_quiet_step (fail) | quiet_step (fail))
        skip
        repeat (first | go_big_quiet_step ((first | (go_at_call 15; exact Calls.quiet_of_same (HC.out _)) | (go_at_call 48; exact quiet_of_drew (HS _ (below_drewN HB1.out _)).out))) | quiet_step ((first | (go_at_call 15; exact Calls.quiet_of_same (HC.out _)) | (go_at_call 48; exact quiet_of_drew (HS _ (below_drewN HB1.out _)).out))))
        refine wpQuiet_nil ?_
        intro w2 hqq
        obtain ⟨nq, hqr⟩ := hqq
        have HB2 := Lib.hid (below_drewN HB1.out nq)
        rw [← hqr] at HB2
        clear hqr
        go_wp2_with fail
        go_ret2
        exact NumPost.yes E.out HB2.out
end Go.Proofs.Ytljalnfjneeieaa
