/- The walk of the reference's Code. -/
import Derived.Test.YtmpcjaoemfnjcaaCode
import Derived.Test.YtmpcjaoemfnjcaaRefSeal
import Derived.StillTailTactics
namespace Go.Proofs.Ytmpcjaoemfnjcaa
open Go.RowKit

theorem gb_left (a b : List UInt8) (j : Nat) (h : j < a.length) : gb (a ++ b) j = gb a j := by unfold gb; rw [List.getD_eq_getElem?_getD, List.getD_eq_getElem?_getD, List.getElem?_append_left h]
theorem gb_right (a b : List UInt8) (j : Nat) (h : a.length ≤ j) : gb (a ++ b) j = gb b (j - a.length) := by unfold gb; rw [List.getD_eq_getElem?_getD, List.getD_eq_getElem?_getD, List.getElem?_append_right h]
theorem gb_bList (n : Nat) (f : Nat → UInt8) (j : Nat) (h : j < n) : gb (bList n f) j = f j := by unfold gb bList; rw [List.getD_eq_getElem?_getD]; simp [h]
theorem lastX_get {x kk : List UInt8} {M j : Nat} (hx : x.length = M + 16) (hj : j < M + 16) : gb (lastX x kk) j = if M ≤ j then gb x j ^^^ gb kk (j - M) else gb x j := by
  unfold lastX
  rw [show x.length - 16 = M by omega]
  by_cases h : M ≤ j
  · rw [if_pos h, gb_right _ _ _ (by rw [List.length_take]; omega), List.length_take, show min M x.length = M by omega]
    unfold xorL
    rw [gb_bList _ _ _ (by omega)]
    congr 1
    unfold gb
    rw [List.getD_eq_getElem?_getD, List.getD_eq_getElem?_getD, List.getElem?_drop, show M + (j - M) = j by omega]
  · rw [if_neg h, gb_left _ _ _ (by rw [List.length_take]; omega)]
    unfold gb
    rw [List.getD_eq_getElem?_getD, List.getD_eq_getElem?_getD, List.getElem?_take, if_pos (by omega)]
/-- The bytes of the last block up to a place. -/
def lastF (x kk : List UInt8) (M n : Nat) (j : Nat) : UInt8 := if M ≤ j ∧ j < M + n then gb x j ^^^ gb kk (j - M) else gb x j
theorem lastF_zero (x kk : List UInt8) (M : Nat) : lastF x kk M 0 = gb x := by funext j; unfold lastF; rw [if_neg (by omega)]
theorem lastF_at (x kk : List UInt8) (M n : Nat) : lastF x kk M n (M + n) = gb x (M + n) := by unfold lastF; rw [if_neg (by omega)]
theorem lastF_set (x kk : List UInt8) (M n N : Nat) : (vals N (lastF x kk M n)).set (M + n) (U8 (gb x (M + n) ^^^ gb kk n)) = vals N (lastF x kk M (n + 1)) := by
  rw [vals_set]
  refine vals_congr fun j _ => ?_
  unfold lastF
  by_cases e : j = M + n
  · subst e; rw [if_pos rfl, if_pos (by omega), Nat.add_sub_cancel_left]
  · rw [if_neg e]
    by_cases e2 : M ≤ j ∧ j < M + n
    · rw [if_pos e2, if_pos (by omega)]
    · rw [if_neg e2, if_neg (by omega)]
theorem lastF_full {x kk : List UInt8} {M : Nat} (hx : x.length = M + 16) : vals (M + 16) (lastF x kk M 16) = (lastX x kk).map U8 := by
  rw [vals_of (lastX x kk) (M + 16) (by rw [lastX_len _ (by omega), hx])]
  refine vals_congr fun j hj => ?_
  rw [lastX_get hx hj]
  unfold lastF
  by_cases h : M ≤ j
  · rw [if_pos ⟨h, by omega⟩, if_pos h]
  · rw [if_neg (fun e => h e.1), if_neg h]

set_option maxRecDepth 100000 in
set_option maxHeartbeats 400000 in
theorem rcode_bad (vk vb : Value) (k : List UInt8) (h : ¬ k.length = 16) (w : World) (hvk : Bs w w.heap.size vk k) :
    Calls Try.prog 23 #[vk, vb] w fun e w' => e = .returned (.tuple #[.slice none 0 0, .int .i64 14]) ∧ w' = w := by
  obtain ⟨A0, n0, c0, rfl⟩ := hvk.form
  have hn := Bs.lenEq hvk
  have t1 : ((n0 : Int) != 16) = true := by rw [bne_iff_ne]; omega
  clear hn h hvk
  go_enter Try.func23, Try.ntmps23
  go_wp2_with fail
  go_ret2
  exact ⟨rfl, rfl⟩

set_option maxRecDepth 100000 in
set_option maxHeartbeats 1000000 in
theorem rcode_good (vk vb : Value) (k b : List UInt8) (hk : k.length = 16) (hl : b.length ≤ 140737488351232) (w : World) (hvk : Bs w w.heap.size vk k) (hvb : Bs w w.heap.size vb b) :
    Calls Try.prog 23 #[vk, vb] w fun e w' => ∃ v', e = .returned (.tuple #[v', .int .i64 0]) ∧ Bs w' w'.heap.size v' (codeO k b) ∧ Below w.heap.size w w' := by
  obtain ⟨A1, n1, c1, rfl⟩ := hvk.form
  have hn1 := Bs.lenEq hvk
  rw [hk] at hn1
  subst hn1
  obtain ⟨A0, n0, c0, rfl⟩ := hvb.form
  have hn := Bs.lenEq hvb
  subst hn
  have Hk := Lib.hid hvk; have Hb := Lib.hid hvb; have Lk := Lib.hid hk; have Lb := Lib.hid hl; have Hm := make16; clear hvk hvb hk hl
  go_enter Try.func23, Try.ntmps23
  go_upto_region 3 with (fail)
  go_cut [6] from 14 to 18 (fun v wx => Bs wx wx.heap.size v (subK k) ∧ Below w.heap.size w wx)
  case first =>
    go_region_with (first
      | (go_at_call 35
         first
         | (refine (refReady_any _ k Lk.out w.drew (show Bs w.drew w.drew.heap.size _ k from Hk.out)).mono ?_
            rintro e w1 ⟨p, rfl, hp, hb1⟩
            have hz := Lib.hid (zero_z w1).bs; have hP2 := Lib.hid ((hp.below (zero16b w1)).mono (zero16b w1).size); have hB1 := Lib.hid (hb1.trans ((zero16b w1).mono hb1.size))
            clear hp hb1)
         | (refine (refReady_any _ k Lk.out (wz w.drew) ((show Bs w.drew w.drew.heap.size _ k from Hk.out).lift (zero16b w.drew))).mono ?_
            rintro e w1 ⟨p, rfl, hp, hb1⟩
            have hP2 := Lib.hid hp; have hz := Lib.hid ((zero_z w.drew).bs.lift hb1); have hB1 := Lib.hid ((zero16b w.drew).trans (hb1.mono (zero16b w.drew).size))
            clear hp hb1))
      | (go_at_call 36
         refine (rencC _ _ k Z16 Z16_len _ hP2.out hz.out).mono ?_
         rintro e w2 ⟨v2, rfl, hv2, hb2⟩
         have hV2 := Lib.hid hv2.bs; have hB2 := Lib.hid (hB1.out.trans (hb2.mono hB1.out.size)); clear hv2 hb2)
      | (go_at_call 39
         refine (rdouble_any _ (encL k Z16) (encL_len _ _) _ hV2.out).mono ?_
         rintro e w3 ⟨v3, rfl, hv3, hb3⟩
         have hV3 := Lib.hid hv3.bs; have hB3 := Lib.hid (hB2.out.trans (hb3.mono hB2.out.size)); clear hv3 hb3))
    all_goals (go_wp2_with fail; go_meet; exact ⟨hV3.out, Below.undrew hB3.out⟩)
  case rest =>
  obtain ⟨hk6, hB⟩ := hcut
  obtain ⟨w1, rfl⟩ : ∃ w1, w1 = wc := ⟨_, rfl⟩
  obtain ⟨v1, rfl⟩ : ∃ v1, v1 = u6 := ⟨_, rfl⟩
  have HK6 := Lib.hid hk6; have HB := Lib.hid hB
  have Hsrc := Lib.hid ((Hb.out.lift hB).src).2
  have h0 : w1.ownsRow w1.heap.size 5 1 (.slice none 0 0) 0 [] := World.ownsRow_nil _ _ _ _
  have H0 := Lib.hid h0
  clear hk6 hB h0
  go_upto_region 5 with (first
    | (at_builtin
       (with_reducible refine wpList_append1 _ rfl (.const (.slice none 0 0)) (.tmp 19) 22 rfl w1.heap.size 5 (.int .u8 0) 1 Try.underlying22 infoU8 rfl (by omega) (.slice none 0 0) 0 [] rfl H0.out A0 b.length c0 (b.map U8) rfl Hsrc.out (by have := Lb.out; omega) (Nat.le_refl _) ?_)
       intro v2 w2 hown2 hg2 _ _
       have hb2 := below_append H0.out hg2 (Nat.le_refl _) (Nat.le_refl _)
       have hown2 : w2.ownsRow w1.heap.size 5 1 v2 b.length (b.map U8) := by simpa using hown2
       have Hown2 := Lib.hid hown2; have HB2 := Lib.hid hb2
       clear hown2 hg2 hb2))
  obtain ⟨o, Ho⟩ : ∃ o : Bool, Hid (o = decide (codeOdd b)) := ⟨_, Lib.hid rfl⟩
  go_cut [29] from 21 to 29 (fun c wx => c = .bool o ∧ wx = w2)
  case first =>
    by_cases h0 : b.length = 0
    · have t1 : ((b.length : Int) == 0) = true := by rw [beq_iff_eq]; omega
      have ho : decide (codeOdd b) = true := decide_eq_true (Or.inl h0)
      have HO := Lib.hid ho; clear h0 ho
      go_wp2_with fail
      go_meet
      exact ⟨by rw [Ho.out, HO.out], rfl⟩
    · have t1 : ((b.length : Int) == 0) = false := by rw [beq_eq_false_iff_ne]; omega
      by_cases h1 : b.length % 16 = 0
      · have t2 : ((b.length : Int) % 16 != 0) = false := by rw [bne_eq_false_iff_eq]; omega
        have ho : decide (codeOdd b) = false := decide_eq_false (fun e => e.elim h0 (fun e => e h1))
        have HO := Lib.hid ho; clear h0 h1 ho
        go_wp2_with fail
        go_meet
        exact ⟨by rw [Ho.out, HO.out], rfl⟩
      · have t2 : ((b.length : Int) % 16 != 0) = true := by rw [bne_iff_ne]; omega
        have ho : decide (codeOdd b) = true := decide_eq_true (Or.inr h1)
        have HO := Lib.hid ho; clear h0 h1 ho
        go_wp2_with fail
        go_meet
        exact ⟨by rw [Ho.out, HO.out], rfl⟩
  case rest =>
  obtain ⟨rfl, hw2⟩ := hcut
  subst hw2
  go_upto_if 29 with (fail)
  go_cut [6, 7] from 14 to 33 (fun vk vx wx => ∃ B, Bs wx B vk (codeK k b) ∧ wx.ownsRow B 5 1 vx (codeX b).length ((codeX b).map U8) ∧ w.heap.size ≤ B ∧ Below w.heap.size w wx ∧ B ≤ wx.heap.size)
  case first =>
    cases o with
    | true =>
      have ho : codeOdd b := of_decide_eq_true Ho.out.symm
      have eK : codeK k b = dblL (subK k) := if_pos ho
      have eX : codeX b = padL b := if_pos ho
      clear ho
      go_wp2_with fail
      refine (rdouble_any v1 (subK k) (subK_len k) _ (HK6.out.lift HB2.out)).mono ?_
      rintro e w4 ⟨v4, rfl, h1, h2⟩
      have hb4 := HB.out.trans ((HB2.out.trans (h2.mono HB2.out.size)).mono HB.out.size)
      have H1 := Lib.hid h1.bs; have H4 := Lib.hid hb4; clear h1 h2 hb4
      go_wp2_with fail
      refine (rpad_own _ b Lb.out w4 (Hb.out.lift H4.out)).mono ?_
      rintro e w5 ⟨v5, rfl, h3, h4⟩
      have H5 : Hid (∃ B, Bs w5 B v4 (codeK k b) ∧ w5.ownsRow B 5 1 v5 (codeX b).length ((codeX b).map U8) ∧ w.heap.size ≤ B ∧ Below w.heap.size w w5 ∧ B ≤ w5.heap.size) := by
        rw [eK, eX]
        exact ⟨w4.heap.size, H1.out.below h4, h3, H4.out.size, H4.out.trans (h4.mono H4.out.size), h4.size⟩
      clear h3 h4 eK eX
      go_wp2_with fail
      go_meet
      exact H5.out
    | false =>
      have ho : ¬ codeOdd b := of_decide_eq_false Ho.out.symm
      have eK : codeK k b = subK k := if_neg ho
      have eX : codeX b = b := if_neg ho
      have H5 : Hid (∃ B, Bs wc B v1 (codeK k b) ∧ wc.ownsRow B 5 1 v2 (codeX b).length ((codeX b).map U8) ∧ w.heap.size ≤ B ∧ Below w.heap.size w wc ∧ B ≤ wc.heap.size) := by
        rw [eK, eX]
        exact ⟨w1.heap.size, HK6.out.below HB2.out, Hown2.out, HB.out.size, HB.out.trans (HB2.out.mono HB.out.size), HB2.out.size⟩
      clear eK eX ho
      go_wp2_with fail
      go_meet
      exact H5.out
  case rest =>
  obtain ⟨B, hk7, hx9, hwB, hBw, hBs⟩ := hcut
  obtain ⟨m, hm⟩ := codeX_len b
  obtain ⟨x, hX⟩ : ∃ x, x = codeX b := ⟨_, rfl⟩
  obtain ⟨kk, hKK⟩ : ∃ kk, kk = codeK k b := ⟨_, rfl⟩
  have hkl : kk.length = 16 := by rw [hKK, codeK_len]
  rw [← hX] at hx9 hm
  rw [← hKK] at hk7
  obtain ⟨M, hM⟩ : ∃ M, M = 16 * m := ⟨_, rfl⟩
  rw [← hM] at hm
  have hM2 : M + 16 ≤ 140737488355328 := by
    rw [← hm, hX]; have := Lb.out; unfold codeX; split
    · rw [padL_len]; have := padN_le b.length; omega
    · omega
  rw [hm, vals_of x (M + 16) hm] at hx9
  obtain ⟨g, cap, rfl, hg1, hg2, hcap⟩ := own_form16 hx9 (by omega)
  obtain ⟨ak, ck, rfl, hck, _, _, hcell⟩ := hk7
  obtain ⟨kb, ko, rfl, hkb, hkx⟩ := hcell (by omega)
  rw [hkl] at hkx hck
  rw [hkl]
  have HX := Lib.hid hX; have HKK := Lib.hid hKK; have HM := Lib.hid hm; have HMM := Lib.hid hM; have HBW := Lib.hid hBw; have HX9 := Lib.hid hx9; have HKX := Lib.hid hkx; have HWB := Lib.hid hwB; have HBS := Lib.hid hBs
  obtain ⟨w3, hw3⟩ : ∃ w3, w3 = wc := ⟨_, rfl⟩
  rw [← hw3] at HBW HX9 HKX HBS hg2 ⊢
  clear hX hKK hkl hm hM hBw hx9 hkx hcell hwB hBs hw3 HK6 HB Hsrc H0 Hown2 HB2
  go_wp2_with fail
  go_loopw [8] (fun i wr => ∃ n : Nat, n ≤ 16 ∧ i = .int .i64 n ∧ wr.ownsRow B 5 1 (.slice (some ⟨g, 0, none⟩) (M + 16) cap) (M + 16) (vals (M + 16) (lastF x kk M n)) ∧ Below B w3 wr) (fun i _ => 16 - (intOf i).toNat)
  case atStart => exact ⟨0, by omega, rfl, by rw [lastF_zero]; exact HX9.out, Below.refl _ _⟩
  case round =>
    obtain ⟨n, hn, rfl, hown, hB⟩ := hrel
    have Hown2 := Lib.hid hown; have HB2 := Lib.hid hB; clear hown hB
    by_cases hlt : n < 16
    · have hd : decide ((n : Int) < 16) = true := by simp; omega
      have c1 : wr.cell? ⟨g, M + n, none⟩ = some (U8 (gb x (M + n))) := by rw [Hown2.out.cellAt (M + n) (by omega), vals_get _ _ _ (by omega), lastF_at]
      have f1 := Hown2.out.frozenAt (M + n)
      have c2 : wr.cell? ⟨kb, ko + n, none⟩ = some (U8 (gb kk n)) := (HB2.out.cell (p := ⟨kb, ko + n, none⟩) hkb).trans (HKX.out n hlt)
      have n1 : (n : Int) < 16 := by omega
      have n2 : (0 : Int) ≤ M + n := by omega
      have n3 : (M : Int) + n < M + 16 := by omega
      have n4 : ((M : Int) + n).toNat = M + n := by omega
      have hw2 : IntKind.i64.wrap ((M : Int) + n) = M + n := IntWalk.i64_in _ ⟨by omega, by omega⟩
      have s0 : Value.int .i64 (IntKind.i64.wrap ((M : Int) + n)) = .int .i64 (M + n) := congrArg _ hw2
      clear hw2
      have hw1 : IntKind.i64.wrap ((M : Int) + n) = M + n := IntWalk.i64_in _ (by omega)
      have HW1 := Lib.hid hw1; clear hw1
      have hw0 : IntKind.i64.wrap (M : Int) = M := IntWalk.i64_in _ (by omega)
      have HW0 := Lib.hid hw0; clear hw0
      go_wp2
      refine wp_region_still_tail 14 (by kernel_rfl) (by kernel_rfl) ?_
      simp only [List.take_succ_cons, List.take_zero, List.drop_succ_cons, List.drop_zero]
      have hw0 := HW0.out
      iterate 4 (refine wpStill_step (fun K hK => ?_); go_simp; (try go_bits); refine hK _ ?_; clear hK K)
      clear hw0
      have hw1 := HW1.out
      iterate 2 (refine wpStill_step (fun K hK => ?_); go_simp; (try go_bits); refine hK _ ?_; clear hK K)
      clear hw1
      repeat (refine wpStill_step (fun K hK => ?_); go_simp; (try go_bits); refine hK _ ?_; clear hK K)
      refine wpStill_nil ?_
      go_wp2
      go_roundw
      case rel =>
        obtain ⟨h1, h2⟩ := Hown2.out.stored (M + n) (U8 (gb x (M + n) ^^^ gb kk n))
        rw [lastF_set] at h1
        exact ⟨n + 1, by omega, by go_num, h1, HB2.out.drew.setCell (by simpa using hg1) _⟩
      case measure => simp [intOf] <;> omega
    · have hn16 : n = 16 := by omega
      subst hn16
      have h1 := Hown2.out
      rw [lastF_full HM.out] at h1
      have hL : (lastX x kk).length = 16 * (m + 1) := by rw [lastX_len _ (by rw [HM.out]; omega), HM.out, HMM.out]; omega
      have hbs : Bs wr wr.heap.size (.slice (some ⟨g, 0, none⟩) (M + 16) cap) (lastX x kk) := (BsS.of_own h1 (by rw [hL]; have := HMM.out; omega)).keep fun _ hg _ => ⟨rfl, hg.2⟩
      have hbw := HBW.out.trans (HB2.out.mono HWB.out)
      have C6 := Lib.hid (refSeal_good (.slice A1 16 c1) (.slice (some ⟨wr.heap.size, 0, none⟩) 16 16) (.slice (some ⟨g, 0, none⟩) (M + 16) cap) k Z16 (lastX x kk) (m + 1) Lk.out Z16_len hL (wz wr) ((Hk.out.lift hbw).lift (zero16b wr)) (zero_z wr).bs (hbs.lift (zero16b wr)))
      have HL := Lib.hid hL; have HBw := Lib.hid (hbw.trans ((zero16b wr).mono hbw.size))
      clear h1 hL hbs hbw
      go_wp2_with fail
      refine C6.out.mono ?_
      rintro e w7 ⟨v7, rfl, hv7, hb7⟩
      have hl7 : (sealO k Z16 (lastX x kk)).length = M + 16 := by rw [sealO_sP k Z16 (lastX x kk) HL.out, sP_len, HMM.out]; omega
      obtain ⟨A7, n7, c7, rfl⟩ := hv7.form
      obtain rfl : n7 = M + 16 := by have := Bs.lenEq hv7; omega
      have hc7 : M + 16 ≤ c7 := by obtain ⟨_, _, e, h, _⟩ := hv7; injection e with _ _ e3; omega
      obtain ⟨zb, zo, rfl⟩ := addrOf hv7 (by omega)
      have c8 := cutOn2 hv7.bs M (by omega) 16 (c7 - M) (by omega) rfl
      have e8 : codeO k b = (sealO k Z16 (lastX x kk)).drop M := by unfold codeO; rw [if_pos Lk.out, ← HX.out, ← HKK.out, HM.out, Nat.add_sub_cancel]
      rw [← e8] at c8
      have Hfin := Lib.hid (show Bs w7 w7.heap.size (.slice (some ⟨zb, zo + M, none⟩) 16 (c7 - M)) (codeO k b) ∧ Below w.heap.size w w7 from ⟨c8, HBw.out.trans (hb7.mono HBw.out.size)⟩)
      have n3 : ¬ c7 = M := by omega
      have n2 : (M : Int) ≤ (M : Int) + 16 := by omega
      clear c8 e8 hv7 hb7 hl7
      have hw : wrap64 (M : Int) = M := IntWalk.wrap64_in _ (by omega)
      go_wp2_with fail
      go_ret2
      exact ⟨_, rfl, Hfin.out⟩
end Go.Proofs.Ytmpcjaoemfnjcaa
