/- modes.Code and Check: the code lies in a row of its own. -/
import Derived.Test.YtnogcnmoeekcpaaDoorQCheckM
import Derived.Test.YtnogcnmoeekcpaaDoorQCat
namespace Go.Proofs.YtnogcnmoeekcpaaDoor
open Go.RowKit

set_option maxRecDepth 100000 in
set_option maxHeartbeats 1000000 in
theorem code_own (vk vb : Value) (k b : List UInt8) (hk : k.length = 16) (hl : b.length ≤ 140737488351232) (w : World) (hvk : Bs w w.heap.size vk k) (hvb : Bs w w.heap.size vb b) :
    Calls Tryd.prog 58 #[vk, vb] w fun e w' => ∃ v', e = .returned (.tuple #[v', .int .i64 0]) ∧ OwnB w' w.heap.size v' (codeO k b) ∧ Below w.heap.size w w' := by
  obtain ⟨A0, n0, c0, rfl⟩ := hvb.form
  have hn := Bs.lenEq hvb
  subst hn
  have Hk := Lib.hid hvk; have Hb := Lib.hid hvb; have Lk := Lib.hid hk; have Lb := Lib.hid hl; have Hm := make16; clear hvk hvb hk hl
  go_enter Tryd.func58, Tryd.ntmps58
  go_upto_if 34 with (fail)
  refine (encrypt_good vk _ k Z16 Lk.out Z16_len (wz w) (Hk.out.lift (zero16b w)) (zero_z w).bs).mono ?_
  rintro e w1 ⟨v1, rfl, hv1, hB1⟩
  have hv1 : Bs w1 w1.heap.size v1 (encL k Z16) := by unfold encL; exact hv1
  have HB1 := Lib.hid hB1; have HV1 := Lib.hid hv1; clear hB1 hv1; clear hv1
  go_upto_if 34 with (fail)
  refine (double_any2 v1 (encL k Z16) (encL_len _ _) w1 HV1.out).mono ?_
  rintro e w2 ⟨v2, rfl, hv2, hB2⟩
  have HB2 := Lib.hid (HB1.out.trans (hB2.mono HB1.out.size)); have HV2 := Lib.hid hv2.bs; clear hB2 hv2
  go_upto_if 34 with (fail)
  refine (clone_any _ b _ ((Hb.out.lift (zero16b w)).lift HB2.out)).mono ?_
  rintro e w3 ⟨v3, rfl, hown, hB3⟩
  have HB3 := Lib.hid (HB2.out.trans (hB3.mono HB2.out.size)); have HV3 := Lib.hid (HV2.out.lift hB3); have Hown := Lib.hid hown; clear hB3 hown
  go_upto_region 7 with (fail)
  obtain ⟨o, Ho⟩ : ∃ o : Bool, Hid (o = decide (codeOdd b)) := ⟨_, Lib.hid rfl⟩
  go_cut [34] from 26 to 34 (fun c wc => c = .bool o ∧ wc = w3)
  case first =>
    by_cases h0 : b.length = 0
    · have t1 : ((b.length : Int) == 0) = true := by rw [beq_iff_eq]; omega
      have ho : decide (codeOdd b) = true := decide_eq_true (Or.inl h0)
      have HO := Lib.hid ho; clear h0 ho
      go_wp2_with fail
      go_meet
      exact ⟨by rw [Ho.out, HO.out], rfl⟩
    · have t1 : ((b.length : Int) == 0) = false := by rw [beq_eq_false_iff_ne]; omega
      by_cases h1 : b.length % 16 = 0
      · have t2 : ((b.length : Int) % 16 != 0) = false := by rw [bne_eq_false_iff_eq]; omega
        have ho : decide (codeOdd b) = false := decide_eq_false (fun e => e.elim h0 (fun e => e h1))
        have HO := Lib.hid ho; clear h0 h1 ho
        go_wp2_with fail
        go_meet
        exact ⟨by rw [Ho.out, HO.out], rfl⟩
      · have t2 : ((b.length : Int) % 16 != 0) = true := by rw [bne_iff_ne]; omega
        have ho : decide (codeOdd b) = true := decide_eq_true (Or.inr h1)
        have HO := Lib.hid ho; clear h0 h1 ho
        go_wp2_with fail
        go_meet
        exact ⟨by rw [Ho.out, HO.out], rfl⟩
  case rest =>
  obtain ⟨rfl, rfl⟩ := hcut
  go_upto_if 34 with (fail)
  go_cut [7, 9] from 13 to 41 (fun vk vx wc => Bs wc wc.heap.size vk (codeK k b) ∧ OwnB wc (wz w).heap.size vx (codeX b) ∧ Below (wz w).heap.size (wz w) wc)
  case first =>
    cases o with
    | true =>
      have ho : codeOdd b := of_decide_eq_true Ho.out.symm
      have eK : codeK k b = dblL (subK k) := if_pos ho
      have eX : codeX b = padL b := if_pos ho
      have Rest : ∀ w4, Below wc.heap.size wc w4 → Calls Tryd.prog 72 #[.slice A0 b.length c0] w4 (fun e w5 => ∃ v5, e = .returned v5 ∧ OwnB w5 w4.heap.size v5 (padL b) ∧ Below w4.heap.size w4 w5) :=
        fun w4 h4 => pad_own _ b Lb.out w4 (((Hb.out.lift (zero16b w)).lift HB3.out).lift h4)
      have Fin : ∀ w4 v4 w5 v5, BsS w4 (New wc w4) v4 (dblL (subK k)) → Below wc.heap.size wc w4 → OwnB w5 w4.heap.size v5 (padL b) → Below w4.heap.size w4 w5 → Bs w5 w5.heap.size v4 (codeK k b) ∧ OwnB w5 (wz w).heap.size v5 (codeX b) ∧ Below (wz w).heap.size (wz w) w5 := by
        intro w4 v4 w5 v5 h1 h2 h3 h4
        rw [eK, eX]
        refine ⟨h1.bs.lift h4, own_wide h3 (Nat.le_trans HB3.out.size h2.size), (HB3.out.trans (h2.mono HB3.out.size)).trans (h4.mono (Nat.le_trans HB3.out.size h2.size))⟩
      have REST := Lib.hid Rest; have FIN := Lib.hid Fin
      clear Rest Fin eK eX ho
      go_wp2_with fail
      refine (double_any2 v2 (subK k) (subK_len k) _ HV3.out).mono ?_
      rintro e w4 ⟨v4, rfl, h1, h2⟩
      have H1 := Lib.hid h1; have H2 := Lib.hid h2; clear h1 h2
      go_wp2_with fail
      refine (REST.out w4 H2.out).mono ?_
      rintro e w5 ⟨v5, rfl, h3, h4⟩
      have H5 := Lib.hid (FIN.out _ _ _ _ H1.out H2.out h3 h4)
      clear h3 h4
      go_wp2_with fail
      go_meet
      exact H5.out
    | false =>
      have ho : ¬ codeOdd b := of_decide_eq_false Ho.out.symm
      have eK : codeK k b = subK k := if_neg ho
      have eX : codeX b = b := if_neg ho
      have H5 : Hid (Bs wc wc.heap.size v2 (codeK k b) ∧ OwnB wc (wz w).heap.size v3 (codeX b) ∧ Below (wz w).heap.size (wz w) wc) := by
        rw [eK, eX]
        exact ⟨HV3.out, own_wide Hown.out HB2.out.size, HB3.out⟩
      clear eK eX ho
      go_wp2_with fail
      go_meet
      exact H5.out
  case rest =>
  obtain ⟨hk7, hx9, hB⟩ := hcut
  obtain ⟨m, hm⟩ := codeX_len b
  obtain ⟨x, hX⟩ : ∃ x, x = codeX b := ⟨_, rfl⟩
  obtain ⟨kk, hKK⟩ : ∃ kk, kk = codeK k b := ⟨_, rfl⟩
  have hkl : kk.length = 16 := by rw [hKK, codeK_len]
  rw [← hX] at hx9 hm
  rw [← hKK] at hk7
  have hbs := (BsS.of_own hx9 (by have := Lb.out; rw [hX]; unfold codeX; split; (rw [padL_len]; have := padN_le b.length; omega); omega)).keep (w' := wc) (S' := fun b => b < wc.heap.size) fun g hg _ => ⟨rfl, hg.2⟩
  obtain ⟨M, hM⟩ : ∃ M, M = 16 * m := ⟨_, rfl⟩
  rw [← hM] at hm
  obtain ⟨hl9, hx9⟩ := hx9
  rw [hm] at hx9
  rcases hx9 with ⟨_, h0⟩ | ⟨g, cap, cur, rfl, hg, hh, hc, hcm, hsz, htk⟩
  · exact absurd h0 (by omega)
  rw [Nat.mul_one] at hsz htk
  have HH := Lib.hid hh; have HG := Lib.hid hg; have HC := Lib.hid hcm; have HS := Lib.hid hsz; have HT := Lib.hid htk; have HX := Lib.hid hX; have HKK := Lib.hid hKK; have HKL := Lib.hid hkl; have HM := Lib.hid hm; have HB := Lib.hid hB; have HK := Lib.hid hk7; have HBS := Lib.hid hbs; have HMM := Lib.hid hM
  clear hh hg hcm hsz htk hX hKK hkl hm hB hk7 hbs hM hl9 HB1 HV1 HB2 HV2 HB3 HV3 Hown Hm
  have hM2 : M + 16 ≤ 140737488355328 := by have := HBS.out.len; rw [HM.out] at this; omega
  have hcM : M + 16 ≤ cap := hc
  have hw : wrap64 (M : Int) = M := IntWalk.wrap64_in _ (by omega)
  have n1 : ¬ cap = M := by omega
  have n2 : (M : Int) ≤ (M : Int) + 16 := by omega
  have hsl : Bs wc wc.heap.size (.slice (some ⟨g, M, none⟩) 16 (cap - M)) (x.drop M) := by
    have h := cutOn HBS.out M (by rw [HM.out]; omega)
    rwa [Nat.zero_add, Nat.add_sub_cancel_left] at h
  have HSL := Lib.hid hsl; clear hsl
  have hcur : cur.toList.toArray = cur := by simp
  have HCUR := Lib.hid hcur
  clear hcur
  have c5 : Calls Tryd.prog 73 #[.slice (some ⟨g, M, none⟩) 16 (cap - M), u7] wc.drew fun e w5 => ∃ A5 c5, e = .returned (.slice A5 16 c5) ∧ Hid (SrcAt w5 A5 16 ((xorL (x.drop M) kk).map U8)) ∧ Hid (w5.heap[g]? = some (.cells cur.toList.toArray 5 (0, 0))) ∧ Hid (Below (wz w).heap.size (wz w) w5) := by
    refine (combineX _ _ (x.drop M) kk (by rw [List.length_drop, HM.out]; omega) HKL.out wc.drew HSL.out HK.out).mono ?_
    rintro e w5 ⟨v5, rfl, hv5, hb5⟩
    obtain ⟨A5, n5, c5, rfl⟩ := hv5.form
    obtain ⟨hn5, hsrc⟩ := hv5.src
    obtain rfl : n5 = 16 := by rw [hn5, xorL_len]
    refine ⟨A5, c5, rfl, Lib.hid hsrc, ?_, Lib.hid (HB.out.drew.trans (hb5.mono HB.out.size))⟩
    rw [HCUR.out]
    exact Lib.hid ((hb5.block g (Array.getElem?_eq_some_iff.1 HH.out).1).trans HH.out)
  have C5 := Lib.hid c5; clear c5
  go_upto_region 10 with (fail)
  go_region_law (first
      | (refine step_copy_splice rfl (.tmp 44) (.tmp 49) 22 22 rfl 5 Tryd.underlying22 (by kernel_rfl) (some ⟨g, M, none⟩) A5 16 (cap - M) 16 c5 (by simp [Act.eval]) (by simp [Act.eval]) g M cur.toList 5 HH5.out ((xorL (x.drop M) kk).map U8) (by rw [List.length_map, xorL_len]; rfl) (fun _ => ⟨rfl, HSRC.out.2.1 (by omega)⟩) (by rw [List.length_map, xorL_len, Array.length_toList]; have := HS.out; omega) HSRC.out.2.2 (wz w).heap.size (wz w) HB5.out HG.out ?_
         intro w6 h6 hb6)
      | (go_simp
         go_at_call 73
         refine C5.out.mono ?_
         rintro e w5 ⟨A5, c5, rfl, HSRC, HH5, HB5⟩))
  have hown6 := own_splice (kk := kk) HM.out HG.out (by rw [Array.length_toList]; exact HS.out) hcM HC.out HT.out h6.out
  have hL : (lastX x kk).length = 16 * (m + 1) := by rw [lastX_len _ (by rw [HM.out]; omega), HM.out, HMM.out]; omega
  have hbs6 : Bs w6 w6.heap.size (.slice (some ⟨g, 0, none⟩) (M + 16) cap) (lastX x kk) := (BsS.of_own hown6 (by rw [hL]; have := HMM.out; omega)).keep fun _ hg _ => ⟨rfl, hg.2⟩
  have C6 := Lib.hid (seal_good vk (.slice (some ⟨w.heap.size, 0, none⟩) 16 16) (.slice (some ⟨g, 0, none⟩) (M + 16) cap) k Z16 (lastX x kk) (m + 1) Lk.out Z16_len hL w6 ((Hk.out.lift (zero16b w)).lift hb6) ((zero_z w).bs.lift hb6) hbs6)
  have HL := Lib.hid hL; have HB6 := Lib.hid hb6
  clear hown6 hL hbs6 hb6 h6
  go_wp2_with fail
  refine C6.out.mono ?_
  rintro e w7 ⟨v7, rfl, hv7, hb7⟩
  have hl7 : (sealO k Z16 (lastX x kk)).length = M + 16 := by rw [sealO_sP k Z16 (lastX x kk) HL.out, sP_len, HMM.out]; omega
  obtain ⟨A7, n7, c7, rfl⟩ := hv7.form
  obtain rfl : n7 = M + 16 := by have := Bs.lenEq hv7; omega
  have hc7 : M + 16 ≤ c7 := by obtain ⟨_, _, e, h, _⟩ := hv7; injection e with _ _ e3; omega
  obtain ⟨zb, zo, rfl⟩ := addrOf hv7 (by omega)
  have c8 := cutOn2 hv7.bs M (by omega) 16 (c7 - M) (by omega) rfl
  have C8 := Lib.hid (clone_any _ _ w7 c8)
  have HB7 := Lib.hid (HB6.out.trans (hb7.mono HB6.out.size))
  have n3 : ¬ c7 = M := by omega
  clear c8 hv7 hb7 hl7
  go_wp2_with fail
  refine C8.out.mono ?_
  rintro e w8 ⟨v8, rfl, hown, hb8⟩
  have hfin : OwnB w8 w.heap.size v8 (codeO k b) ∧ Below w.heap.size w w8 := by
    have hb := HB7.out.trans (hb8.mono HB7.out.size)
    have e : codeO k b = (sealO k Z16 (lastX x kk)).drop M := by unfold codeO; rw [if_pos Lk.out, ← HX.out, ← HKK.out, HM.out, Nat.add_sub_cancel]
    rw [e]
    exact ⟨own_wide hown (Nat.le_trans (zero16b w).size HB7.out.size), (zero16b w).trans (hb.mono (zero16b w).size)⟩
  have Hfin := Lib.hid hfin; clear hfin hown hb8
  go_wp2_with fail
  go_ret2
  exact ⟨v8, rfl, Hfin.out⟩
/-- An own row of bytes, cell by cell. -/
theorem OwnB.slot2 {w : World} {base : Nat} {A : Option Addr} {c : Nat} {l : List UInt8} (h : OwnB w base (.slice A l.length c) l) (hl : 0 < l.length) :
    ∃ g, A = some ⟨g, 0, none⟩ ∧ base ≤ g ∧ g < w.heap.size ∧ l.length ≤ c ∧ c ≤ 9223372036854775807 ∧ (∀ j, j < l.length → w.cell? ⟨g, j, none⟩ = some (U8 (gb l j))) ∧ ∀ j, w.frozen? ⟨g, j, none⟩ = false := by
  have hc := fun g => World.ownsRow.cells h (g := g)
  rcases h.2 with ⟨e, h0⟩ | ⟨g, cap, cur, hv, hb, hh, hn, hm, r⟩
  · omega
  · injection hv with e1 _ e3
    subst e1 e3
    refine ⟨g, rfl, hb, (Array.getElem?_eq_some_iff.1 hh).1, hn, hm, fun j hj => ?_, fun j => by simp [World.frozen?, hh]⟩
    have := hc g rfl j (U8 (gb l j)) (mapU8_get l j hj)
    have e : (⟨g, 0, none⟩ : Addr).add j = ⟨g, 0 + j, none⟩ := by unfold Addr.add; split <;> simp_all
    rwa [e, Nat.zero_add] at this
/-- One byte of a slice is turned. -/
theorem BsS.set0 {w : World} {S : Nat → Prop} {g c k : Nat} {l : List UInt8} (h : BsS w S (.slice (some ⟨g, 0, none⟩) l.length c) l) (hk : k < l.length) (u : UInt8) : BsS (w.setCell ⟨g, k, none⟩ (U8 u)) S (.slice (some ⟨g, 0, none⟩) l.length c) (l.set k u) := by
  obtain ⟨a, c', hv, h1, h2, h3, h4⟩ := h
  injection hv with e1 e2 e3
  subst e1 e3
  have hll : (l.set k u).length = l.length := by simp
  refine ⟨_, c, by rw [hll], by omega, h2, by omega, fun hp => ?_⟩
  rw [hll] at hp
  obtain ⟨b, off, ha, hb, hc⟩ := h4 hp
  injection ha with ha
  injection ha with ha1 ha2
  subst ha1 ha2
  refine ⟨g, 0, rfl, hb, fun j hj => ?_⟩
  rw [hll] at hj
  by_cases e : j = k
  · subst e
    rw [Nat.zero_add]
    have := hc j hj
    rw [Nat.zero_add] at this
    rw [World.cell?_setCell_same (h := this)]
    congr 2
    unfold gb
    simp [hj]
  · rw [World.cell?_setCell_other (h := by intro h; injection h with _ h; omega), hc j hj]
    congr 2
    unfold gb
    simp [show ¬ k = j by omega]
/-- Bytes in a row of one's own that may be stored to. -/
def OwnS (w : World) (base : Nat) (v : Value) (l : List UInt8) : Prop := ∃ g c, v = .slice (some ⟨g, 0, none⟩) l.length c ∧ base ≤ g ∧ g < w.heap.size ∧ l.length ≤ c ∧ c ≤ 9223372036854775807 ∧ (∀ j, j < l.length → w.cell? ⟨g, j, none⟩ = some (U8 (gb l j))) ∧ ∀ o, w.frozen? ⟨g, o, none⟩ = false
theorem OwnS.bs {w w0 : World} {v : Value} {l : List UInt8} (h : OwnS w w0.heap.size v l) (hl : l.length ≤ 140737488355328) : BsS w (New w0 w) v l := by
  obtain ⟨g, c, e, h1, h2, h3, h4, h5, _⟩ := h
  exact ⟨_, c, e, h3, h4, hl, fun _ => ⟨g, 0, rfl, ⟨h1, h2⟩, fun j hj => by rw [Nat.zero_add]; exact h5 j hj⟩⟩
theorem OwnS.on {w w' : World} {base : Nat} {v : Value} {l : List UInt8} (h : OwnS w base v l) (hb : Below w.heap.size w w') : OwnS w' base v l := by
  obtain ⟨g, c, e, h1, h2, h3, h4, h5, h6⟩ := h
  exact ⟨g, c, e, h1, Nat.lt_of_lt_of_le h2 hb.size, h3, h4, fun j hj => (hb.cell (p := ⟨g, j, none⟩) h2).trans (h5 j hj), fun o => (hb.frozen (p := ⟨g, o, none⟩) h2).trans (h6 o)⟩
theorem OwnS.wide {w : World} {base base' : Nat} {v : Value} {l : List UInt8} (h : OwnS w base v l) (hb : base' ≤ base) : OwnS w base' v l := by
  obtain ⟨g, c, e, h1, h2⟩ := h
  exact ⟨g, c, e, Nat.le_trans hb h1, h2⟩
theorem OwnS.of_own {w : World} {base c : Nat} {A : Option Addr} {l : List UInt8} (h : OwnB w base (.slice A l.length c) l) (hl : 0 < l.length) (k : Nat) (hk : k ≤ l.length) : OwnS w base (.slice A k k) (l.take k) := by
  obtain ⟨g, rfl, h1, h2, h3, h4, h5, h6⟩ := OwnB.slot2 h hl
  have e : (l.take k).length = k := by rw [List.length_take]; omega
  refine ⟨g, k, by rw [e], h1, h2, by omega, by omega, fun j hj => ?_, h6⟩
  rw [h5 j (by omega)]
  simp only [gb, List.getD_eq_getElem?_getD]
  rw [List.getElem?_take, if_pos (by omega)]
set_option maxRecDepth 100000 in
set_option maxHeartbeats 1000000 in
theorem check_own (vk vb : Value) (k b : List UInt8) (hk : k.length = 16) (hl : b.length ≤ 140737488351232) (w : World) (hvk : Bs w w.heap.size vk k) (hvb : Bs w w.heap.size vb b) :
    Calls Tryd.prog 39 #[vk, vb] w fun e w' => ∃ v', e = .returned (.tuple #[v', .int .i64 0]) ∧ OwnS w' w.heap.size v' ((codeO k b).take 8) ∧ Below w.heap.size w w' := by
  have C := Lib.hid (code_own vk vb k b hk hl w hvk hvb)
  have L := Lib.hid (codeO_len hk b)
  clear hvk hvb hk hl
  go_enter Tryd.func39, Tryd.ntmps39
  go_wp2_with fail
  refine C.out.mono ?_
  rintro e w1 ⟨v1, rfl, hv0, hB⟩
  have hv1 : Bs w1 w1.heap.size v1 (codeO k b) := (hv0.out (by rw [L.out]; omega) w (Nat.le_refl _)).keep fun _ hs _ => ⟨rfl, hs.2⟩
  obtain ⟨A1, n1, c1, rfl⟩ := hv1.form
  obtain rfl : n1 = 16 := by rw [Bs.lenEq hv1]; exact L.out
  have hv9 : OwnB w1 w.heap.size (.slice A1 (codeO k b).length c1) (codeO k b) := by rw [L.out]; exact hv0
  have hc1 : 16 ≤ c1 := by obtain ⟨_, _, e, h, _⟩ := hv1; rw [L.out] at h; injection e with _ _ e3; omega
  have Hfin := Lib.hid (show OwnS w1 w.heap.size (.slice A1 8 8) ((codeO k b).take 8) ∧ Below w.heap.size w w1 from ⟨OwnS.of_own hv9 (by rw [L.out]; omega) 8 (by rw [L.out]; omega), hB⟩)
  clear hv1 hB hv0 hv9
  have n1 : (8 : Int) ≤ c1 := by omega
  have n2 : 8 ≤ c1 := by omega
  go_wp2_with fail
  go_ret2
  exact ⟨_, rfl, Hfin.out⟩
end Go.Proofs.YtnogcnmoeekcpaaDoor
