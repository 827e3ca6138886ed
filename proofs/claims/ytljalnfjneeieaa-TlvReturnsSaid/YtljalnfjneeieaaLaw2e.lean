/- Layer 2: TlvReturns. -/
import Derived.Test.YtljalnfjneeieaaLaw2d
import Derived.Test.YtljalnfjneeieaaLoose
import Derived.Test.YtljalnfjneeieaaSameN
import Derived.Test.YtljalnfjneeieaaDiceK
namespace Go.Proofs.Ytljalnfjneeieaa
open Go.RowKit Go.Deep

theorem made_lmx (l : Ns) : ∀ d, l.made d → l.lmx ≤ 281 * l.all := by
  induction l with
  | nil => intro d _; simp [Ns.lmx]
  | cons t v k r ihk ihr =>
    intro d ⟨tv, hf, hr⟩
    have hrr := ihr d hr
    simp only [Ns.all, Ns.lmx]
    rcases hf with ⟨tc, rfl, h3, hk, hl⟩ | ⟨tc, rfl, hv⟩
    · have hkk := ihk (d - 1) hk
      simp only [List.length_nil]
      omega
    · simp only [Ns.all, Ns.lmx]
      omega
set_option maxRecDepth 100000 in
set_option maxHeartbeats 4000000 in
theorem tlvReturns_law (v : Value) (n : Nat) (w : World) (hv : IntsS w (· < w.heap.size) v n) : Calls Try.prog 6 #[v] w fun e w' => e = .returned (.bool true) ∧ Below w.heap.size w w' := by
  have HL := Lib.hid (light_any _ v n w hv)
  have HR := Lib.hid (roll_any v n w hv)
  obtain ⟨va, vc, rfl⟩ := hv.form
  clear hv
  by_cases hn : (n : Int) ≤ 400
  · have hn1 : decide ((n : Int) ≤ 400) = true := decide_eq_true hn
    rw [hn1] at HL
    clear hn hn1
    go_enter Try.func6, Try.ntmps6
    go_upto_region 5 with (first
      | (go_at_call 16; refine HL.out.mono ?_; rintro e w' ⟨rfl, hw'⟩; rw [hw']; clear hw' w')
      | (go_at_call 17; refine HR.out.mono ?_; rintro e w1 ⟨rfl, hd, hb⟩; have HD1 := Lib.hid hd; have B1 := Lib.hid hb; have s1 := hb.size; have s1' := hd.le; clear hd hb)
      | (go_at_call 20; refine (dnodes_any 4 _ _ n _ HD1.out (by decide) (by decide)).mono ?_; rintro e w3 ⟨kv, K, rfl, hk, hkm, hkl, hd⟩; obtain ⟨ka, kc, rfl⟩ := hk.form2; have HK := Lib.hid (hk.made (p := w.heap.size) (by omega)); have HKM := Lib.hid hkm; have HD3 := Lib.hid hd; clear hk hkm hd))
    have B3 : Hid (Below w.heap.size w w3) := B1.out.grown HD3.out.2 (by omega) (fun k e => by injection e with e; omega)
    have z3 := B3.out.size
    have hall : K.all ≤ 120 := by have h := made_all K 4 HKM.out; have : allM 4 = 40 := rfl; rw [this] at h; omega
    have hchk : K.chk 1 = 0 := made_chk K 4 1 HKM.out (by omega) (by omega)
    have hKe := made_enc K 4 HKM.out
    have hKl := made_lmx K 4 HKM.out
    have hep := good_encP hchk (by omega)
    have HE := Lib.hid (encode_any K (.slice ka K.len kc) w3 HK.out.size (by omega) (by omega))
    have hp3 : w.heap.size < w3.heap.size := by have := HD3.out.1.lt; have := HD3.out.1.le; omega
    have HCHK := Lib.hid hchk
    clear s1 s1' hchk
    by_cases h4 : 4096 < K.enc.length
    · rw [if_pos h4] at hep
      have HEP := Lib.hid hep
      clear hep h4
      go_wp2_with (first
        | (go_at_call 23; refine HE.out.mono ?_; intro e w4 h4; obtain ⟨a4, c4, rfl, hb4⟩ := h4.bad HEP.out; have K4 := Lib.hid (B3.out.trans (hb4.mono z3)); clear h4 hb4)
        | (go_at_call 11; refine (awake_any _).mono ?_; rintro e w7 ⟨rfl, hb7⟩; have K7 := Lib.hid (K4.out.trans (hb7.mono K4.out.size)); clear hb7))
      go_ret
      exact ⟨by simp, K7.out⟩
    · rw [if_neg h4] at hep
      obtain ⟨E, hE⟩ : ∃ E, Hid (K.enc = E) := ⟨_, rfl⟩
      have hpar : ∀ st, parseP E st = .ok K := fun st => by rw [← hE.out]; exact codes_parseP st K K.enc (enc_codes st K (by omega)) HCHK.out (by omega) (by omega)
      have HPAR := Lib.hid hpar
      rw [hE.out] at hep h4
      have HEP := Lib.hid hep
      clear hep hpar
      go_upto_region 11 with (first
        | (go_at_call 23; refine HE.out.mono ?_; intro e w4 h4'; obtain ⟨a4, c4, rfl, hv4, hc4, hb4⟩ := h4'.fits HEP.out; have HV4 := Lib.hid (hv4.made (p := w.heap.size) hp3); have HK4 := Lib.hid (HK.out.on hb4); have HD4 := Lib.hid (HD3.out.1.below (hb4.mono HD3.out.1.le)); have K4 := Lib.hid (B3.out.trans (hb4.mono z3)); have z4 := hb4.size; clear h4' hv4 hb4)
        | (go_at_call 22; refine (parse_any E _ false _ HV5.out.size).mono ?_; intro e w6 h6; obtain ⟨a6, c6, rfl, hv6, hb6⟩ := h6.okay (HPAR.out false); have HY := Lib.hid (hv6.made (p := w.heap.size) (by omega)); have HV6 := Lib.hid (HV5.out.on hb6); have HK6 := Lib.hid (HK5.out.on hb6); have HX6 := Lib.hid (HX.out.on hb6); have HD6 := Lib.hid (HD5.out.below (hb6.mono HD5.out.le)); have K6 := Lib.hid (K5.out.trans (hb6.mono K5.out.size)); have z6 := hb6.size; clear h6 hv6 hb6)
        | (go_at_call 22; refine (parse_any E _ true _ HV4.out.size).mono ?_; intro e w5 h5; obtain ⟨a5, c5, rfl, hv5, hb5⟩ := h5.okay (HPAR.out true); have HX := Lib.hid (hv5.made (p := w.heap.size) (by omega)); have HV5 := Lib.hid (HV4.out.on hb5); have HK5 := Lib.hid (HK4.out.on hb5); have HD5 := Lib.hid (HD4.out.below (hb5.mono HD4.out.le)); have K5 := Lib.hid (K4.out.trans (hb5.mono K4.out.size)); have z5 := hb5.size; clear h5 hv5 hb5)
        | (go_at_call 26; refine (loose_any K.all K _ _ _ n _ (Nat.le_refl _) HK6.out (by omega) HD6.out).mono ?_; rintro e w7 ⟨lv, l, rfl, hl, hll, hlc, hd⟩; obtain ⟨la, lc, rfl⟩ := hl.form2; have HLV := Lib.hid (hl.made (p := w.heap.size) (by omega)); have HLC := Lib.hid hlc; have HV7 := Lib.hid (HV6.out.dice hd); have HK7 := Lib.hid (HK6.out.dice hd); have HX7 := Lib.hid (HX6.out.dice hd); have HY7 := Lib.hid (HY.out.dice hd); have K7 := Lib.hid (K6.out.grown hd.2 (by omega) (fun k e => by injection e with e; omega)); have z7 := hd.2.size; clear hl hlc hd))
      by_cases hl4 : 4096 < l.length
      · go_wp2_with (go_at_call 11; refine (awake_any _).mono ?_; rintro e w8 ⟨rfl, hb8⟩; have K8 := Lib.hid (K7.out.trans (hb8.mono K7.out.size)); clear hb8)
        go_ret
        exact ⟨by simp, K8.out⟩
      · have hp7 : parseP l false = .ok K := codes_parseP false K l (HLC.out (by omega)) HCHK.out (by omega) (by omega)
        have hc7 : canonP l = .ok E := by unfold canonP; rw [hp7]; exact HEP.out
        have HP7 := Lib.hid hp7; have HC7 := Lib.hid hc7
        clear hp7 hc7
        go_wp2_with (first
          | (go_at_call 22; refine (parse_any l _ false _ HLV.out.size).mono ?_; intro e w8 h8; obtain ⟨a8, c8, rfl, hv8, hb8⟩ := h8.okay HP7.out; have HZ := Lib.hid (hv8.made (p := w.heap.size) (by omega)); have HL8 := Lib.hid (HLV.out.on hb8); have HV8 := Lib.hid (HV7.out.on hb8); have HK8 := Lib.hid (HK7.out.on hb8); have HX8 := Lib.hid (HX7.out.on hb8); have HY8 := Lib.hid (HY7.out.on hb8); have K8 := Lib.hid (K7.out.trans (hb8.mono K7.out.size)); have z8 := hb8.size; clear h8 hv8 hb8)
          | (go_at_call 27; refine (canon_any l _ _ HL8.out.size).mono ?_; intro e w9 h9; obtain ⟨a9, c9, rfl, hv9, hc9, hb9⟩ := h9.fits HC7.out; have HC9 := Lib.hid (hv9.made (p := w.heap.size) (by omega)); have HV9 := Lib.hid (HV8.out.on hb9); have HK9 := Lib.hid (HK8.out.on hb9); have HX9 := Lib.hid (HX8.out.on hb9); have HY9 := Lib.hid (HY8.out.on hb9); have HZ9 := Lib.hid (HZ.out.on hb9); have K9 := Lib.hid (K8.out.trans (hb9.mono K8.out.size)); clear h9 hv9 hb9)
          | (go_at_call 11; refine (awake_any _).mono ?_; rintro e w10 ⟨rfl, hb10⟩; have HV10 := Lib.hid (HV9.out.on hb10); have HK10 := Lib.hid (HK9.out.on hb10); have HX10 := Lib.hid (HX9.out.on hb10); have HY10 := Lib.hid (HY9.out.on hb10); have HZ10 := Lib.hid (HZ9.out.on hb10); have HC10 := Lib.hid (HC9.out.on hb10); have K10 := Lib.hid (K9.out.trans (hb10.mono K9.out.size)); clear hb10)
          | (go_at_call 24; refine (rsame_any _ _ _ _ _ _ _ _ (Nat.le_refl _) (HZ10.out.drewN (m1 + m2)) (HK10.out.drewN (m1 + m2))).mono ?_; rintro e w13 ⟨rfl, m3, rfl⟩; rw [Ns.same_refl]; have s1 := str_runN HC10.out (m1 + m2 + m3); have s2 := str_runN HV10.out (m1 + m2 + m3); rw [World.drewN_drewN])
          | (go_at_call 24; refine (rsame_any _ _ _ _ _ _ _ _ (Nat.le_refl _) (HY10.out.drewN m1) (HK10.out.drewN m1)).mono ?_; rintro e w12 ⟨rfl, m2, rfl⟩; rw [Ns.same_refl, World.drewN_drewN])
          | (go_at_call 24; refine (rsame_any _ _ _ _ _ _ _ _ (Nat.le_refl _) HX10.out HK10.out).mono ?_; rintro e w11 ⟨rfl, m1, rfl⟩; rw [Ns.same_refl]))
        go_ret
        exact ⟨by simp, below_drewN K10.out _⟩
  · have hn1 : decide ((n : Int) ≤ 400) = false := decide_eq_false hn
    rw [hn1] at HL
    clear hn hn1
    go_enter Try.func6, Try.ntmps6
    go_wp2_with (first
      | (go_at_call 16; refine HL.out.mono ?_; rintro e w' ⟨rfl, hw'⟩; rw [hw']; clear hw' w')
      | (go_at_call 11; refine (awake_any _).mono ?_; rintro e w1 ⟨rfl, hb⟩; have HB := Lib.hid hb; clear hb))
    go_ret
    exact ⟨by simp, HB.out⟩
end Go.Proofs.Ytljalnfjneeieaa
