/- Layer 2: TlvCuts. -/
import Derived.Test.YtljalnfjneeieaaLaw2a
import Derived.Test.YtljalnfjneeieaaMadeP
import Derived.Test.YtljalnfjneeieaaRows2
import Derived.Test.YtljalnfjneeieaaTlvO
namespace Go.Proofs.Ytljalnfjneeieaa
open Go.RowKit Go.Deep

/-- What TlvCuts leans on, of the encoding E of one constructed object with head bytes hd. -/
structure CutF (E : List UInt8) (hd : Nat) : Prop where
  long : hd + 0 ≤ E.length
  par : E.length ≤ hd + 127 → ∀ j, 1 ≤ j → j < E.length → parseP (E.take j) true = .error 6
  lo : E.length ≤ hd + 127 → ∀ j, 1 ≤ j → j < E.length → j < hd → sizeQ (E.take j) = .error 6
  hi : E.length ≤ hd + 127 → ∀ j, 1 ≤ j → j < E.length → ¬ j < hd → sizeQ (E.take j) = .ok (E.length : Nat)
theorem lenG_pos (n : Nat) : 1 ≤ (lenG n).length := by unfold lenG; split <;> simp
theorem cut_facts {t : Int} {k : Ns} (tv : tagV t = true) (tc : tagC t = true) : CutF (Ns.cons t [] k .nil).enc ((tagB t).length + 1) := by
  have e : (Ns.cons t [] k .nil).enc = tagB t ++ lenG k.enc.length ++ k.enc ++ [] := enc_cons t [] k .nil k.enc (by rw [tc]; rfl)
  have hl : (Ns.cons t [] k .nil).enc.length = (tagB t).length + (lenG k.enc.length).length + k.enc.length := by rw [e]; simp only [List.length_append, List.length_nil]; omega
  have hp := lenG_pos k.enc.length
  exact ⟨by omega, fun h j h1 h2 => (cut_one tv tc (by omega) h1 h2).1, fun h j h1 h2 h3 => (cut_one tv tc (by omega) h1 h2).2.2.1 h3, fun h j h1 h2 h3 => (cut_one tv tc (by omega) h1 h2).2.2.2 h3⟩
theorem NodesOut.bad {r : Except Int Ns} {w : World} {e : Ending} {w' : World} (h : NodesOut r w e w') {er : Int} (h1 : r = .error er) : ∃ a c, e = .returned (.tuple #[.slice a 0 c, .int .i64 er]) ∧ Below w.heap.size w w' := by subst h1; exact NodesOut.err h
theorem NumPost.parts {r : Except Int Int} {w : World} {e : Ending} {w' : World} (h : NumPost r w e w') : e = .returned (.tuple #[.int .i64 (numOf r), .int .i64 (errOf r)]) ∧ Below w.heap.size w w' := h
theorem NumPost.bad {r : Except Int Int} {w : World} {e : Ending} {w' : World} (h : NumPost r w e w') {er : Int} (h1 : r = .error er) : e = .returned (.tuple #[.int .i64 0, .int .i64 er]) ∧ Below w.heap.size w w' := by subst h1; exact h
theorem NumPost.good {r : Except Int Int} {w : World} {e : Ending} {w' : World} (h : NumPost r w e w') {n : Int} (h1 : r = .ok n) : e = .returned (.tuple #[.int .i64 n, .int .i64 0]) ∧ Below w.heap.size w w' := by subst h1; exact h
theorem BytesOut.fits {r : Except Int (List UInt8)} {w : World} {e : Ending} {w' : World} (h : BytesOut r w e w') {E : List UInt8} (h1 : r = .ok E) : ∃ a c, e = .returned (.tuple #[.slice a E.length c, .int .i64 0]) ∧ BsS w' (New w w') (.slice a E.length c) E ∧ E.length ≤ c ∧ Below w.heap.size w w' := by
  subst h1
  obtain ⟨a, c, g1, g2, g3⟩ := BytesOut.got h
  exact ⟨a, c, g1, g2, g2.capLe.1, g3⟩
theorem BytesOut.bad {r : Except Int (List UInt8)} {w : World} {e : Ending} {w' : World} (h : BytesOut r w e w') {er : Int} (h1 : r = .error er) : ∃ a c, e = .returned (.tuple #[.slice a 0 c, .int .i64 er]) ∧ Below w.heap.size w w' := by subst h1; exact BytesOut.err h
set_option maxRecDepth 100000 in
set_option maxHeartbeats 4000000 in
theorem tlvCuts_law (v : Value) (n : Nat) (at_ : Int) (wf : (Lit.int .i64 at_).wf = true) (w : World) (hv : IntsS w (· < w.heap.size) v n) : Calls Try.prog 7 #[v, .int .i64 at_] w fun e w' => e = .returned (.bool true) ∧ Below w.heap.size w w' := by
  have hat : I64in at_ := by simp [Lit.wf, IntKind.min, IntKind.max, IntKind.signed, IntKind.bits] at wf; exact ⟨by omega, by omega⟩
  have HAT := Lib.hid hat
  have HL := Lib.hid (light_any _ v n w hv)
  have HR := Lib.hid (roll_any v n w hv)
  obtain ⟨va, vc, rfl⟩ := hv.form
  clear hv wf hat
  by_cases hn : (n : Int) ≤ 400
  · have hn1 : decide ((n : Int) ≤ 400) = true := decide_eq_true hn
    rw [hn1] at HL
    clear hn hn1
    go_enter Try.func7, Try.ntmps7
    go_upto_region 5 with (first
      | (go_at_call 16; refine HL.out.mono ?_; rintro e w' ⟨rfl, hw'⟩; rw [hw']; clear hw' w')
      | (go_at_call 17; refine HR.out.mono ?_; rintro e w1 ⟨rfl, hd, hb⟩; have HD1 := Lib.hid hd; have B1 := Lib.hid hb; have s1 := hb.size; have s1' := hd.le; clear hd hb)
      | (go_at_call 28; refine (dtag_any _ _ n true _ HD1.out).mono ?_; rintro e w2 ⟨t, rfl, ht, hc, hd⟩; have HTV := Lib.hid ht; have HTC := Lib.hid hc; have HD2 := Lib.hid hd; clear ht hc hd)
      | (go_at_call 20; refine (dnodes_any 3 _ _ n _ HD2.out.1 (by decide) (by decide)).mono ?_; rintro e w3 ⟨kv, K, rfl, hk, hkm, hkl, hd⟩; obtain ⟨ka, kc, rfl⟩ := hk.form2; have HK := Lib.hid hk; have HKM := Lib.hid hkm; have HD3 := Lib.hid hd; clear hk hkm hd))
    have ti := tagV_in HTV.out
    have B3 : Hid (Below w.heap.size w w3) := (B1.out.grown HD2.out.2 (by omega) (fun k e => by injection e with e; omega)).grown HD3.out.2 (by have := HD2.out.2.size; omega) (fun k e => by injection e with e; omega)
    have z3 := B3.out.size
    have hall : K.all ≤ 39 := by have h := made_all K 3 HKM.out; have : allM 3 = 13 := rfl; rw [this] at h; omega
    have hchk : (Ns.cons t [] K .nil).chk 1 = 0 := by rw [chk_good t [] K .nil 1 HTV.out (by rw [HTC.out]; simp), if_neg (by omega), if_pos (made_chk K 3 2 HKM.out (by omega) (by omega))]; rfl
    have hal : (Ns.cons t [] K .nil).all ≤ 256 := by simp only [Ns.all]; omega
    have hKe := made_enc K 3 HKM.out
    have hel := enc_len t [] K .nil
    rw [if_pos HTC.out] at hel
    have hnil : (Ns.nil).enc.length = 0 := rfl
    have HE := Lib.hid (fun (w4 : World) (h4 : w4 = (w3.alloc (.cells #[.int .i64 t, .slice none 0 0, .slice ka K.len kc] 42)).alloc (.cells #[.int .i64 t, .slice none 0 0, .slice ka K.len kc] 42)) => encode_any (Ns.cons t [] K .nil) (.slice (some ⟨w3.heap.size + 1, 0, none⟩) 1 1) w4
      (by subst h4; exact NsS.one (by have := heap_alloc_new (w3.alloc (.cells #[.int .i64 t, .slice none 0 0, .slice ka K.len kc] 42)) (.cells #[.int .i64 t, .slice none 0 0, .slice ka K.len kc] 42); simpa using this) (by simp) ti (BsS.nil0 _ _) (HK.out.keep fun b hs hl => ⟨(Below.heap_alloc _ _ _ (by simp; omega)).trans (Below.heap_alloc _ _ _ hl), by simp; omega⟩)) (by omega) (by omega))
    have HB4 : Hid (Below w.heap.size w ((w3.alloc (.cells #[.int .i64 t, .slice none 0 0, .slice ka K.len kc] 42)).alloc (.cells #[.int .i64 t, .slice none 0 0, .slice ka K.len kc] 42))) := (B3.out.alloc z3 _).alloc (by simp; omega) _
    have z4 := HB4.out.size
    obtain ⟨nc0, nc1, nc2⟩ := node_cells w3 (.int .i64 t) (.slice none 0 0) (.slice ka K.len kc) 42
    have hep := good_encP hchk hal
    have HCF := Lib.hid (cut_facts (k := K) HTV.out HTC.out)
    have htl := tagB_len (t := t)
    clear hall hchk hal hKe hel hnil s1 s1'
    by_cases h4 : 4096 < (Ns.cons t [] K .nil).enc.length
    · rw [if_pos h4] at hep
      have HEP := Lib.hid hep
      clear hep h4 htl
      go_wp2_with (first
        | (go_at_call 23; refine (HE.out _ rfl).mono ?_; intro e w4 h4; obtain ⟨a4, c4, rfl, hb4⟩ := h4.bad HEP.out; have K4 := Lib.hid (HB4.out.trans (hb4.mono z4)); clear h4 hb4)
        | (go_at_call 11; refine (awake_any _).mono ?_; rintro e w7 ⟨rfl, hb7⟩; have K7 := Lib.hid (K4.out.trans (hb7.mono K4.out.size)); clear hb7))
      go_ret
      exact ⟨by simp, K7.out⟩
    · rw [if_neg h4] at hep
      obtain ⟨E, hE⟩ : ∃ E, Hid ((Ns.cons t [] K .nil).enc = E) := ⟨_, rfl⟩
      rw [hE.out] at hep HCF h4
      have HEP := Lib.hid hep
      have hlong := HCF.out.long
      clear hep
      by_cases h255 : 255 < t
      · rw [if_pos h255] at htl
        rw [htl] at HCF hlong
        clear htl
        have d255 : decide (t > 255) = true := decide_eq_true h255
        clear h255
        by_cases h127 : E.length ≤ 3 + 127
        · have HP := Lib.hid (HCF.out.par h127); have HLO := Lib.hid (HCF.out.lo h127); have HHI := Lib.hid (HCF.out.hi h127)
          clear HCF
          obtain ⟨r, hr⟩ : ∃ r : Nat, Hid (at_ % ((E.length : Int) - 1) = r) := ⟨(at_ % ((E.length : Int) - 1)).toNat, by have := Int.emod_nonneg at_ (show (E.length : Int) - 1 ≠ 0 by omega); show _ = _; omega⟩
          have hr2 : r + 1 < E.length := by have := Int.emod_lt_of_pos at_ (show 0 < (E.length : Int) - 1 by omega); rw [hr.out] at this; omega
          have HM := Lib.hid (fun w => mod_any at_ ((E.length : Int) - 1) HAT.out (by omega) (by omega) w)
          rw [hr.out] at HM
          obtain ⟨j, hj⟩ : ∃ j : Nat, Hid (j = r + 1) := ⟨_, rfl⟩
          have hj1 : (1 : Int) + r = j := by have := hj.out; omega
          have hj2 : j < E.length := by have := hj.out; omega
          have hj3 : 1 ≤ j := by have := hj.out; omega
          clear hr2
          by_cases hk : j < 3
          · skip
            have HQ := Lib.hid (HLO.out j hj3 hj2 hk)
            go_wp2_with (first
              | (go_at_call 23; refine (HE.out _ rfl).mono ?_; intro e w4 h4'; obtain ⟨a4, c4, rfl, hv4, hc4, hb4⟩ := h4'.fits HEP.out; have HV4 := Lib.hid hv4; have K4 := Lib.hid (HB4.out.trans (hb4.mono z4)); have n4 := (Below.cell hb4 (p := ⟨w3.heap.size, 0, none⟩) (by simp; omega)).trans ((Below.cell (Below.alloc (Below.refl (w3.heap.size + 1) (w3.alloc (.cells #[.int .i64 t, .slice none 0 0, .slice ka K.len kc] 42))) (by simp) (.cells #[.int .i64 t, .slice none 0 0, .slice ka K.len kc] 42)) (p := ⟨w3.heap.size, 0, none⟩) (Nat.lt_succ_self _)).trans nc0); clear h4' hv4 hb4)
              | (go_at_call 25; refine (HM.out _).mono ?_; rintro e w5 ⟨rfl, hw5⟩; rw [hw5]; clear hw5 w5)
              | (go_at_call 22; refine (parse_any (E.take j) _ true _ ((BsS.head HV4.out j (by omega)).keep fun b hs hl => ⟨rfl, hl⟩)).mono ?_; intro e w5 h5; obtain ⟨a5, c5, rfl, hb5⟩ := h5.bad (HP.out j hj3 hj2); have HV5 := Lib.hid (HV4.out.below hb5); have K5 := Lib.hid (K4.out.trans (hb5.mono K4.out.size)); clear h5 hb5)
              | (go_at_call 29; refine (size_any (E.take j) _ _ ((BsS.head HV5.out j (by omega)).keep fun b hs hl => ⟨rfl, hl⟩)).mono ?_; intro e w6 h6; obtain ⟨rfl, hb6⟩ := h6.bad HQ.out; have K6 := Lib.hid (K5.out.trans (hb6.mono K5.out.size)); clear h6 hb6)
              | (go_at_call 11; refine (awake_any _).mono ?_; rintro e w7 ⟨rfl, hb7⟩; have K7 := Lib.hid (K6.out.trans (hb7.mono K6.out.size)); clear hb7))
            go_ret
            exact ⟨by simp, K7.out⟩
          · skip
            have HQ := Lib.hid (HHI.out j hj3 hj2 hk)
            go_wp2_with (first
              | (go_at_call 23; refine (HE.out _ rfl).mono ?_; intro e w4 h4'; obtain ⟨a4, c4, rfl, hv4, hc4, hb4⟩ := h4'.fits HEP.out; have HV4 := Lib.hid hv4; have K4 := Lib.hid (HB4.out.trans (hb4.mono z4)); have n4 := (Below.cell hb4 (p := ⟨w3.heap.size, 0, none⟩) (by simp; omega)).trans ((Below.cell (Below.alloc (Below.refl (w3.heap.size + 1) (w3.alloc (.cells #[.int .i64 t, .slice none 0 0, .slice ka K.len kc] 42))) (by simp) (.cells #[.int .i64 t, .slice none 0 0, .slice ka K.len kc] 42)) (p := ⟨w3.heap.size, 0, none⟩) (Nat.lt_succ_self _)).trans nc0); clear h4' hv4 hb4)
              | (go_at_call 25; refine (HM.out _).mono ?_; rintro e w5 ⟨rfl, hw5⟩; rw [hw5]; clear hw5 w5)
              | (go_at_call 22; refine (parse_any (E.take j) _ true _ ((BsS.head HV4.out j (by omega)).keep fun b hs hl => ⟨rfl, hl⟩)).mono ?_; intro e w5 h5; obtain ⟨a5, c5, rfl, hb5⟩ := h5.bad (HP.out j hj3 hj2); have HV5 := Lib.hid (HV4.out.below hb5); have K5 := Lib.hid (K4.out.trans (hb5.mono K4.out.size)); clear h5 hb5)
              | (go_at_call 29; refine (size_any (E.take j) _ _ ((BsS.head HV5.out j (by omega)).keep fun b hs hl => ⟨rfl, hl⟩)).mono ?_; intro e w6 h6; obtain ⟨rfl, hb6⟩ := h6.good HQ.out; have K6 := Lib.hid (K5.out.trans (hb6.mono K5.out.size)); clear h6 hb6)
              | (go_at_call 11; refine (awake_any _).mono ?_; rintro e w7 ⟨rfl, hb7⟩; have K7 := Lib.hid (K6.out.trans (hb7.mono K6.out.size)); clear hb7))
            go_ret
            exact ⟨by simp, K7.out⟩
        · clear HCF
          go_wp2_with (first
            | (go_at_call 23; refine (HE.out _ rfl).mono ?_; intro e w4 h4'; obtain ⟨a4, c4, rfl, hv4, hc4, hb4⟩ := h4'.fits HEP.out; have HV4 := Lib.hid hv4; have K4 := Lib.hid (HB4.out.trans (hb4.mono z4)); have n4 := (Below.cell hb4 (p := ⟨w3.heap.size, 0, none⟩) (by simp; omega)).trans ((Below.cell (Below.alloc (Below.refl (w3.heap.size + 1) (w3.alloc (.cells #[.int .i64 t, .slice none 0 0, .slice ka K.len kc] 42))) (by simp) (.cells #[.int .i64 t, .slice none 0 0, .slice ka K.len kc] 42)) (p := ⟨w3.heap.size, 0, none⟩) (Nat.lt_succ_self _)).trans nc0); clear h4' hv4 hb4)
            | (go_at_call 11; refine (awake_any _).mono ?_; rintro e w7 ⟨rfl, hb7⟩; have K7 := Lib.hid (K4.out.trans (hb7.mono K4.out.size)); clear hb7))
          go_ret
          exact ⟨by simp, K7.out⟩
      · rw [if_neg h255] at htl
        rw [htl] at HCF hlong
        clear htl
        have d255 : decide (t > 255) = false := decide_eq_false h255
        clear h255
        by_cases h127 : E.length ≤ 2 + 127
        · have HP := Lib.hid (HCF.out.par h127); have HLO := Lib.hid (HCF.out.lo h127); have HHI := Lib.hid (HCF.out.hi h127)
          clear HCF
          obtain ⟨r, hr⟩ : ∃ r : Nat, Hid (at_ % ((E.length : Int) - 1) = r) := ⟨(at_ % ((E.length : Int) - 1)).toNat, by have := Int.emod_nonneg at_ (show (E.length : Int) - 1 ≠ 0 by omega); show _ = _; omega⟩
          have hr2 : r + 1 < E.length := by have := Int.emod_lt_of_pos at_ (show 0 < (E.length : Int) - 1 by omega); rw [hr.out] at this; omega
          have HM := Lib.hid (fun w => mod_any at_ ((E.length : Int) - 1) HAT.out (by omega) (by omega) w)
          rw [hr.out] at HM
          obtain ⟨j, hj⟩ : ∃ j : Nat, Hid (j = r + 1) := ⟨_, rfl⟩
          have hj1 : (1 : Int) + r = j := by have := hj.out; omega
          have hj2 : j < E.length := by have := hj.out; omega
          have hj3 : 1 ≤ j := by have := hj.out; omega
          clear hr2
          by_cases hk : j < 2
          · skip
            have HQ := Lib.hid (HLO.out j hj3 hj2 hk)
            go_wp2_with (first
              | (go_at_call 23; refine (HE.out _ rfl).mono ?_; intro e w4 h4'; obtain ⟨a4, c4, rfl, hv4, hc4, hb4⟩ := h4'.fits HEP.out; have HV4 := Lib.hid hv4; have K4 := Lib.hid (HB4.out.trans (hb4.mono z4)); have n4 := (Below.cell hb4 (p := ⟨w3.heap.size, 0, none⟩) (by simp; omega)).trans ((Below.cell (Below.alloc (Below.refl (w3.heap.size + 1) (w3.alloc (.cells #[.int .i64 t, .slice none 0 0, .slice ka K.len kc] 42))) (by simp) (.cells #[.int .i64 t, .slice none 0 0, .slice ka K.len kc] 42)) (p := ⟨w3.heap.size, 0, none⟩) (Nat.lt_succ_self _)).trans nc0); clear h4' hv4 hb4)
              | (go_at_call 25; refine (HM.out _).mono ?_; rintro e w5 ⟨rfl, hw5⟩; rw [hw5]; clear hw5 w5)
              | (go_at_call 22; refine (parse_any (E.take j) _ true _ ((BsS.head HV4.out j (by omega)).keep fun b hs hl => ⟨rfl, hl⟩)).mono ?_; intro e w5 h5; obtain ⟨a5, c5, rfl, hb5⟩ := h5.bad (HP.out j hj3 hj2); have HV5 := Lib.hid (HV4.out.below hb5); have K5 := Lib.hid (K4.out.trans (hb5.mono K4.out.size)); clear h5 hb5)
              | (go_at_call 29; refine (size_any (E.take j) _ _ ((BsS.head HV5.out j (by omega)).keep fun b hs hl => ⟨rfl, hl⟩)).mono ?_; intro e w6 h6; obtain ⟨rfl, hb6⟩ := h6.bad HQ.out; have K6 := Lib.hid (K5.out.trans (hb6.mono K5.out.size)); clear h6 hb6)
              | (go_at_call 11; refine (awake_any _).mono ?_; rintro e w7 ⟨rfl, hb7⟩; have K7 := Lib.hid (K6.out.trans (hb7.mono K6.out.size)); clear hb7))
            go_ret
            exact ⟨by simp, K7.out⟩
          · skip
            have HQ := Lib.hid (HHI.out j hj3 hj2 hk)
            go_wp2_with (first
              | (go_at_call 23; refine (HE.out _ rfl).mono ?_; intro e w4 h4'; obtain ⟨a4, c4, rfl, hv4, hc4, hb4⟩ := h4'.fits HEP.out; have HV4 := Lib.hid hv4; have K4 := Lib.hid (HB4.out.trans (hb4.mono z4)); have n4 := (Below.cell hb4 (p := ⟨w3.heap.size, 0, none⟩) (by simp; omega)).trans ((Below.cell (Below.alloc (Below.refl (w3.heap.size + 1) (w3.alloc (.cells #[.int .i64 t, .slice none 0 0, .slice ka K.len kc] 42))) (by simp) (.cells #[.int .i64 t, .slice none 0 0, .slice ka K.len kc] 42)) (p := ⟨w3.heap.size, 0, none⟩) (Nat.lt_succ_self _)).trans nc0); clear h4' hv4 hb4)
              | (go_at_call 25; refine (HM.out _).mono ?_; rintro e w5 ⟨rfl, hw5⟩; rw [hw5]; clear hw5 w5)
              | (go_at_call 22; refine (parse_any (E.take j) _ true _ ((BsS.head HV4.out j (by omega)).keep fun b hs hl => ⟨rfl, hl⟩)).mono ?_; intro e w5 h5; obtain ⟨a5, c5, rfl, hb5⟩ := h5.bad (HP.out j hj3 hj2); have HV5 := Lib.hid (HV4.out.below hb5); have K5 := Lib.hid (K4.out.trans (hb5.mono K4.out.size)); clear h5 hb5)
              | (go_at_call 29; refine (size_any (E.take j) _ _ ((BsS.head HV5.out j (by omega)).keep fun b hs hl => ⟨rfl, hl⟩)).mono ?_; intro e w6 h6; obtain ⟨rfl, hb6⟩ := h6.good HQ.out; have K6 := Lib.hid (K5.out.trans (hb6.mono K5.out.size)); clear h6 hb6)
              | (go_at_call 11; refine (awake_any _).mono ?_; rintro e w7 ⟨rfl, hb7⟩; have K7 := Lib.hid (K6.out.trans (hb7.mono K6.out.size)); clear hb7))
            go_ret
            exact ⟨by simp, K7.out⟩
        · clear HCF
          go_wp2_with (first
            | (go_at_call 23; refine (HE.out _ rfl).mono ?_; intro e w4 h4'; obtain ⟨a4, c4, rfl, hv4, hc4, hb4⟩ := h4'.fits HEP.out; have HV4 := Lib.hid hv4; have K4 := Lib.hid (HB4.out.trans (hb4.mono z4)); have n4 := (Below.cell hb4 (p := ⟨w3.heap.size, 0, none⟩) (by simp; omega)).trans ((Below.cell (Below.alloc (Below.refl (w3.heap.size + 1) (w3.alloc (.cells #[.int .i64 t, .slice none 0 0, .slice ka K.len kc] 42))) (by simp) (.cells #[.int .i64 t, .slice none 0 0, .slice ka K.len kc] 42)) (p := ⟨w3.heap.size, 0, none⟩) (Nat.lt_succ_self _)).trans nc0); clear h4' hv4 hb4)
            | (go_at_call 11; refine (awake_any _).mono ?_; rintro e w7 ⟨rfl, hb7⟩; have K7 := Lib.hid (K4.out.trans (hb7.mono K4.out.size)); clear hb7))
          go_ret
          exact ⟨by simp, K7.out⟩
  · have hn1 : decide ((n : Int) ≤ 400) = false := decide_eq_false hn
    rw [hn1] at HL
    clear hn hn1
    go_enter Try.func7, Try.ntmps7
    go_wp2_with (first
      | (go_at_call 16; refine HL.out.mono ?_; rintro e w' ⟨rfl, hw'⟩; rw [hw']; clear hw' w')
      | (go_at_call 11; refine (awake_any _).mono ?_; rintro e w1 ⟨rfl, hb⟩; have HB := Lib.hid hb; clear hb))
    go_ret
    exact ⟨by simp, HB.out⟩
end Go.Proofs.Ytljalnfjneeieaa
