/- Layer 2: TlvReadsMade. -/
import Derived.Test.YtljalnfjneeieaaLaw2f
import Derived.Test.YtljalnfjneeieaaLaw2g
import Derived.Test.YtljalnfjneeieaaOdd3
namespace Go.Proofs.Ytljalnfjneeieaa
open Go.RowKit Go.Deep

theorem made_lmx2 (l : Ns) : ∀ d, l.made d → l.lmx ≤ 281 * l.all := by
  induction l with
  | nil => intro d _; simp [Ns.lmx]
  | cons t v k r ihk ihr =>
    intro d ⟨tv, hf, hr⟩
    have hrr := ihr d hr
    simp only [Ns.all, Ns.lmx]
    rcases hf with ⟨tc, rfl, h3, hk, hl⟩ | ⟨tc, rfl, hv⟩
    · have hkk := ihk (d - 1) hk
      simp only [List.length_nil]
      omega
    · simp only [Ns.all, Ns.lmx]
      omega
/-- What stands beside the dice. -/
def Base (w : World) (n : Nat) (wx : World) : Prop := Die (w.heap.size + 1) wx w.heap.size n ∧ Below w.heap.size w wx
theorem Base.dice {w wx wy : World} {n : Nat} (h : Base w n wx) (hd : DiePost (w.heap.size + 1) wx w.heap.size n wy) : Base w n wy :=
  ⟨hd.1, h.2.grown hd.2 h.2.size (fun k e => by injection e with e; omega)⟩
theorem Base.on {w wx wy : World} {n : Nat} (h : Base w n wx) (hb : Below wx.heap.size wx wy) : Base w n wy :=
  ⟨h.1.below (hb.mono h.1.le), h.2.trans (hb.mono h.2.size)⟩
theorem Base.lt {w wx : World} {n : Nat} (h : Base w n wx) : w.heap.size < wx.heap.size := h.1.le
def RA (w : World) (n : Nat) (y : Value) (wx : World) : Prop :=
  ∃ L, NsS wx (fun b => b < wx.heap.size ∧ b ≠ w.heap.size) y L ∧ L.all ≤ 400 ∧ L.lmx ≤ 200000 ∧ Base w n wx
def RB (w : World) (n m : Nat) (y : Value) (wx : World) : Prop :=
  ∃ l, BsS wx (fun b => b < wx.heap.size ∧ b ≠ w.heap.size) y l ∧ l.length ≤ m ∧ Base w n wx
theorem lit2 (w : World) (ty : TypeId) {s t : Int} (hs : I64in s) (ht : I64in t) :
    IntL (w.alloc (.cells #[.int .i64 s, .int .i64 t] ty)) (· < (w.alloc (.cells #[.int .i64 s, .int .i64 t] ty)).heap.size) (.slice (some ⟨w.heap.size, 0, none⟩) 2 2) [s, t] := by
  refine ⟨_, _, rfl, Nat.le_refl _, by omega, by simp, fun z hz => ?_, fun _ => ⟨_, _, rfl, by simp, by simp, fun j hj => ?_⟩⟩
  · simp only [List.mem_cons, List.not_mem_nil, or_false] at hz
    rcases hz with rfl | rfl
    · exact hs
    · exact ht
  · rw [Nat.zero_add, cell_of_row _ _ _ _ _ _ (heap_alloc_new _ _)]
    rcases (by simp at hj; omega : j = 0 ∨ j = 1) with rfl | rfl <;> rfl
set_option maxRecDepth 100000 in
set_option maxHeartbeats 4000000 in
theorem tlvReadsMade_law (v : Value) (n : Nat) (st : Bool) (w : World) (hv : IntsS w (· < w.heap.size) v n) : Calls Try.prog 10 #[v, .bool st] w fun e w' => e = .returned (.bool true) ∧ Below w.heap.size w w' := by
  have HL := Lib.hid (light_any _ v n w hv)
  have HR := Lib.hid (roll_any v n w hv)
  obtain ⟨va, vc, rfl⟩ := hv.form
  clear hv
  by_cases hn : (n : Int) ≤ 400
  · have hn1 : decide ((n : Int) ≤ 400) = true := decide_eq_true hn
    rw [hn1] at HL
    clear hn hn1
    go_enter Try.func10, Try.ntmps10
    go_upto_region 5 with (first
      | (go_at_call 16; refine HL.out.mono ?_; rintro e w' ⟨rfl, hw'⟩; rw [hw']; clear hw' w')
      | (go_at_call 17; refine HR.out.mono ?_; rintro e w1 ⟨rfl, hd, hb⟩; have B1 : Hid (Base w n w1) := ⟨hd, hb⟩; clear hd hb)
      | (go_at_call 20; refine (dnodes_any 5 _ _ n _ B1.out.1 (by decide) (by decide)).mono ?_; rintro e w2 ⟨kv, K, rfl, hk, hkm, hkl, hd⟩; obtain ⟨ka, kc, rfl⟩ := hk.form2; have HK := Lib.hid (hk.made (p := w.heap.size) B1.out.lt); have HKA := Lib.hid (made_all K 5 hkm); have HKX := Lib.hid (made_lmx2 K 5 hkm); have B2 := Lib.hid (B1.out.dice hd); clear hk hkm hd))
    have hka : K.all ≤ 363 := by have h := HKA.out; have : allM 5 = 121 := rfl; rw [this] at h; omega
    have hkx : K.lmx ≤ 110000 := by have := HKX.out; omega
    clear HKA HKX HL HR
    go_upto_if 25 with (go_at_call 21; refine (one_any _ _ n _ _ B2.out.1 (by decide) (by decide)).mono ?_; rintro e w3 ⟨b3, rfl, hd⟩; have HK3 := Lib.hid (HK.out.dice hd); have B3 := Lib.hid (B2.out.dice hd); clear hd)
    go_cut [6] from 26 to 28 (fun y wx => RA w n y wx)
    case first =>
      cases b3
      · go_wp2_with fail
        go_meet
        exact ⟨K, HK3.out, by omega, by omega, B3.out⟩
      · have HO := Lib.hid (odd_any K.all K (.slice ka K.len kc) _ w.heap.size n (fun b => b < w3.heap.size ∧ b ≠ w.heap.size) w3 (Nat.le_refl _) (by omega) (by omega) (fun b h => h) HK3.out B3.out.1)
        go_wp2_with (go_at_call 37; refine HO.out.mono ?_; rintro e w4 ⟨ov, L, rfl, ho, ha, hm, hd⟩; obtain ⟨oa, oc, rfl⟩ := ho.form2; have B4 := Lib.hid (B3.out.dice hd); have H4 := Lib.hid ho; have D4 := Lib.hid hd; clear ho hd)
        go_meet
        exact ⟨L, H4.out.keep (fun b hs hl => ⟨rfl, hl, by rcases hs with h | h; exact h.2; have := h.1; have := B3.out.lt; omega⟩), by omega, by omega, B4.out⟩
    case rest =>
    obtain ⟨L, hL, hLa, hLx, hB⟩ := hcut
    obtain ⟨la, lc, rfl⟩ := hL.form2
    obtain ⟨w5, rfl⟩ : ∃ w5 : World, w5 = wc := ⟨_, rfl⟩
    have HN5 := Lib.hid hL; have B5 := Lib.hid hB
    have HLA := Lib.hid hLa; have HLX := Lib.hid hLx
    clear hL hB HK B1 B2 hka hkx hLa hLx
    go_upto_region 10 with (first
      | (go_at_call 28; refine (dtag_any _ _ n false _ B6.out.1).mono ?_; rintro e w7 ⟨t7, rfl, ht7, _, hd⟩; have T7 := Lib.hid (tagV_in ht7); have HN7 := Lib.hid (HN6.out.dice hd); have B7 := Lib.hid (B6.out.dice hd); clear hd ht7)
      | (go_at_call 28; refine (dtag_any _ _ n true _ B5.out.1).mono ?_; rintro e w6 ⟨t6, rfl, ht6, _, hd⟩; have T6 := Lib.hid (tagV_in ht6); have HN6 := Lib.hid (HN5.out.dice hd); have B6 := Lib.hid (B5.out.dice hd); clear hd ht6)
      | (go_at_call 9; have hn7 := (HN7.out.on ((Below.refl _ _).alloc (Nat.le_refl _) (.cells #[.int .i64 t6, .int .i64 t7] 3))).size; have hl7 := lit2 w7 3 T6.out T7.out; have ha7 := HLA.out; have hx7 := HLX.out; have he7 := enc_lmx L; have h7 := encodes_any L _ _ [t6, t7] _ hn7 hl7 (by omega) (by omega); clear hn7 hl7 ha7 hx7 he7; with_reducible refine h7.mono ?_; clear h7; rintro e w8 ⟨rfl, hb⟩; have b8 := ((Below.refl w7.heap.size w7).alloc (Nat.le_refl _) _).trans (hb.mono (by simp)); have HN8 := Lib.hid (HN7.out.on b8); have B8 := Lib.hid (B7.out.on b8); clear hb b8)
      | (go_at_call 19; refine (rplain_any L _ _ HN8.out.size (by have := HLA.out; omega)).mono ?_; rintro e w9 ⟨pv, rfl, hp, hb⟩; obtain ⟨pa, pc, rfl⟩ := hp.form2; have HP := Lib.hid (hp.made (p := w.heap.size) B8.out.lt); have HN9 := Lib.hid (HN8.out.on hb); have B9 := Lib.hid (B8.out.on hb); clear hp hb))
    go_upto_if 40 with (go_at_call 21; refine (one_any _ _ n _ _ B9.out.1 (by decide) (by decide)).mono ?_; rintro e w10 ⟨b10, rfl, hd⟩; have HP10 := Lib.hid (HP.out.dice hd); have HN10 := Lib.hid (HN9.out.dice hd); have B10 := Lib.hid (B9.out.dice hd); clear hd)
    go_cut [7] from 41 to 43 (fun y wx => RB w n 300000 y wx)
    case first =>
      cases b10
      · go_wp2_with fail
        go_meet
        exact ⟨_, HP10.out, by have := encP_len (L := L); omega, B10.out⟩
      · go_wp2_with (go_at_call 26; refine (loose_any L.all L _ _ _ n _ (Nat.le_refl _) HN10.out (by have := HLX.out; omega) B10.out.1).mono ?_; rintro e w11 ⟨lv, l, rfl, hl, hll, hlc, hd⟩; obtain ⟨la, lc, rfl⟩ := hl.form2; have HLV := Lib.hid (hl.made (p := w.heap.size) B10.out.lt); have B11 := Lib.hid (B10.out.dice hd); clear hl hlc hd)
        go_meet
        exact ⟨l, HLV.out, by have := HLX.out; omega, B11.out⟩
    case rest =>
    obtain ⟨l, hl, hll, hB⟩ := hcut
    obtain ⟨pa, pc, rfl⟩ := hl.form2
    obtain ⟨w12, rfl⟩ : ∃ w12 : World, w12 = wc := ⟨_, rfl⟩
    have HL12 := Lib.hid hl; have B12 := Lib.hid hB; have HLL := Lib.hid hll
    clear hl hB hll HP HN9 B9 HP10 HN10 B10 HN5 HN6 HN7 HN8 B5 B6 B7 B8 T6 T7
    go_upto_if 45 with (go_at_call 21; refine (one_any _ _ n _ _ B12.out.1 (by decide) (by decide)).mono ?_; rintro e w13 ⟨b13, rfl, hd⟩; have HL13 := Lib.hid (HL12.out.dice hd); have B13 := Lib.hid (B12.out.dice hd); clear hd)
    go_cut [7] from 46 to 48 (fun y wx => RB w n 300001 y wx)
    case first =>
      cases b13
      · go_wp2_with fail
        go_meet
        exact ⟨_, HL13.out, by have := HLL.out; omega, B13.out⟩
      · go_wp2_with (go_at_call 18; refine (spoil_any _ _ n l _ _ HL13.out (by have := HLL.out; omega) B13.out.1).mono ?_; rintro e w14 ⟨sv, sl, rfl, hs, hsl, hd⟩; obtain ⟨sa, sc, rfl⟩ := hs.form2; have HS := Lib.hid (hs.made (p := w.heap.size) B13.out.lt); have B14 := Lib.hid (B13.out.dice hd); have HSL := Lib.hid hsl; clear hs hd hsl)
        go_meet
        exact ⟨sl, HS.out, by have := HLL.out; have := HSL.out; omega, B14.out⟩
    case rest =>
    obtain ⟨l, hl, hll, hB⟩ := hcut
    obtain ⟨qa, qc, rfl⟩ := hl.form2
    obtain ⟨w15, rfl⟩ : ∃ w15 : World, w15 = wc := ⟨_, rfl⟩
    have HV := Lib.hid hl; have B15 := Lib.hid hB.2
    clear hl hB hll HL12 B12 HL13 B13 HLL
    obtain ⟨ep, hep⟩ : ∃ x, Hid (x = errOf (parseP l st)) := ⟨_, rfl⟩
    obtain ⟨ec, hec⟩ : ∃ x, Hid (x = errOf (canonP l)) := ⟨_, rfl⟩
    obtain ⟨bc, hbc⟩ : ∃ x, Hid (x = bytesOf (canonP l)) := ⟨_, rfl⟩
    go_wp2_with (first
      | (go_at_call 22; refine (parse_any l _ st _ HV.out.size).mono ?_; rintro e w1 ⟨v1, rfl, hv1, hb1⟩; obtain ⟨a1, c1, rfl⟩ := hv1.form2; rw [← hep.out]; have H1 := Lib.hid hv1.size; have k1 := Lib.hid (B15.out.trans (hb1.mono B15.out.size)); have HV1 := Lib.hid (HV.out.on hb1); clear hv1 hb1)
      | (go_at_call 30; refine (rparse_any l _ st _ HV1.out.size).mono ?_; rintro e w2 ⟨v2, rfl, hv2, hb2⟩; obtain ⟨a2, c2, rfl⟩ := hv2.form2; rw [← hep.out]; have H2 := Lib.hid hv2.size; have k2 := Lib.hid (k1.out.trans (hb2.mono k1.out.size)); have G1 := Lib.hid (H1.out.old hb2); have HV2 := Lib.hid (HV1.out.on hb2); clear hv2 hb2)
      | (go_at_call 27; refine (canon_any l _ _ HV2.out.size).mono ?_; rintro e w5 ⟨v5, rfl, hv5, hb5⟩; obtain ⟨a5, c5, rfl⟩ := hv5.form2; rw [← hec.out]; rw [← hbc.out] at hv5 ⊢; have H5 := Lib.hid hv5.size; have k5 := Lib.hid (k2.out.trans (hb5.mono k2.out.size)); have G2 := Lib.hid (G1.out.old hb5); have G3 := Lib.hid (H2.out.old hb5); have HV5 := Lib.hid (HV2.out.on hb5); clear hv5 hb5)
      | (go_at_call 32; refine (rcanon_any l _ _ HV5.out.size).mono ?_; rintro e w6 ⟨v6, rfl, hv6, hb6⟩; obtain ⟨a6, c6, rfl⟩ := hv6.form2; rw [← hec.out]; rw [← hbc.out] at hv6 ⊢; have H6 := Lib.hid hv6.size; have k6 := Lib.hid (k5.out.trans (hb6.mono k5.out.size)); have G4 := Lib.hid (G2.out.old hb6); have G5 := Lib.hid (G3.out.old hb6); have G6 := Lib.hid (H5.out.keep fun b hs hl => ⟨hb6.block b hs, hs⟩); clear hv6 hb6)
      | (go_at_call 24; refine (rsame_any _ _ _ _ _ _ _ _ (Nat.le_refl _) G4.out G5.out).mono ?_; rintro e w8 ⟨rfl, m, rfl⟩; rw [Ns.same_refl]; have s1 := str_runN G6.out m; have s2 := str_runN H6.out m))
    go_ret
    exact ⟨by simp, below_drewN k6.out _⟩
  · have hn1 : decide ((n : Int) ≤ 400) = false := decide_eq_false hn
    rw [hn1] at HL
    clear hn hn1
    go_enter Try.func10, Try.ntmps10
    go_wp2_with (first
      | (go_at_call 16; refine HL.out.mono ?_; rintro e w' ⟨rfl, hw'⟩; rw [hw']; clear hw' w')
      | (go_at_call 11; refine (awake_any _).mono ?_; rintro e w1 ⟨rfl, hb⟩; have HB := Lib.hid hb; clear hb))
    go_ret
    exact ⟨by simp, HB.out⟩
end Go.Proofs.Ytljalnfjneeieaa
