/- awake of layer 6; the walks of ModesPads, ModesSeals, ModesSealsMade. Printed by gen/law6a.py. -/
import Derived.Test.YtmpcjaoemfnjcaaMake
import Derived.Test.YtmpcjaoemfnjcaaModes2
import Derived.Test.YtmpcjaoemfnjcaaModes3
import Derived.Test.YtmpcjaoemfnjcaaChainLaw
namespace Go.Proofs.Ytmpcjaoemfnjcaa
open Go.RowKit

theorem padX (v : Value) (l : List UInt8) (hl : l.length ≤ 140737488351232) (w : World) (hv : Bs w w.heap.size v l) : Calls Try.prog 17 #[v] w (BytesOnly w (padL l)) :=
  (pad_any v l hl w hv).mono fun _ _ ⟨v', h1, h2, h3⟩ => ⟨v', h1, h2.bs, h3⟩
theorem rpadX (v : Value) (l : List UInt8) (hl : l.length ≤ 140737488351232) (w : World) (hv : Bs w w.heap.size v l) : Calls Try.prog 14 #[v] w (BytesOnly w (padL l)) :=
  (rpad_any v l hl w hv).mono fun _ _ ⟨v', h1, h2, h3⟩ => ⟨v', h1, h2.bs, h3⟩
theorem unpX (v : Value) (l : List UInt8) (w : World) (hv : Bs w w.heap.size v l) : Calls Try.prog 12 #[v] w (BytesErr w (unpO l) (unpE l)) := unpad_any v l w hv
theorem runpX (v : Value) (l : List UInt8) (w : World) (hv : Bs w w.heap.size v l) : Calls Try.prog 13 #[v] w (BytesErr w (unpO l) (unpE l)) := runpad_any v l w hv
theorem sealOk (vk vi vb : Value) (k iv b : List UInt8) (h : argE k iv b = 0) (w : World) (hvk : Bs w w.heap.size vk k) (hvi : Bs w w.heap.size vi iv) (hvb : Bs w w.heap.size vb b) :
    Calls Try.prog 18 #[vk, vi, vb] w (BytesErr w (sealO k iv b) 0) := by
  have := sealX vk vi vb k iv b w hvk hvi hvb
  unfold sealR at this
  rwa [if_pos h, h] at this
theorem openOk (vk vi vb : Value) (k iv b : List UInt8) (h : argE k iv b = 0) (w : World) (hvk : Bs w w.heap.size vk k) (hvi : Bs w w.heap.size vi iv) (hvb : Bs w w.heap.size vb b) :
    Calls Try.prog 20 #[vk, vi, vb] w (BytesErr w (openO k iv b) 0) := by
  have := openX vk vi vb k iv b w hvk hvi hvb
  unfold openR at this
  rwa [if_pos h, h] at this
theorem rsealOk (vk vi vb : Value) (k iv b : List UInt8) (h : argE k iv b = 0) (w : World) (hvk : Bs w w.heap.size vk k) (hvi : Bs w w.heap.size vi iv) (hvb : Bs w w.heap.size vb b) :
    Calls Try.prog 19 #[vk, vi, vb] w (BytesErr w (sealO k iv b) 0) := by
  have := rsealX vk vi vb k iv b w hvk hvi hvb
  unfold sealR at this
  rwa [if_pos h, h] at this
theorem argE_of {k iv b : List UInt8} (hk : k.length = 16) (hi : iv.length = 16) (hb : b.length % 16 = 0) : argE k iv b = 0 := by
  unfold argE; rw [if_pos ⟨hk, hi⟩, if_pos hb]
theorem argZ : argE Z16 Z16 (padL [7]) = 0 := argE_of Z16_len Z16_len (by decide)
def B7 : List UInt8 := sealO Z16 Z16 (padL [7])
theorem B7_def : sealO Z16 Z16 (padL [7]) = B7 := rfl
theorem pad7 : (padL [7]).length = 16 * 1 := by decide
theorem B7_len : B7.length = 16 := by
  have := sealO_sP Z16 Z16 (padL [7]) pad7
  show (sealO Z16 Z16 (padL [7])).length = 16
  rw [this, sP_len]
theorem argB : argE Z16 Z16 B7 = 0 := argE_of Z16_len Z16_len (by rw [B7_len])
theorem open_b7 : openO Z16 Z16 B7 = padL [7] := open_seal Z16 Z16 (padL [7]) 1 pad7
theorem unpO7 : unpO (padL [7]) = [7] := by decide +kernel
theorem unpE7 : unpE (padL [7]) = 0 := by decide +kernel
theorem form_b7 {w : World} {S : Nat → Prop} {v : Value} (h : BsS w S v B7) : ∃ A c, v = .slice A 16 c := by
  obtain ⟨a, c, h1, _⟩ := h
  exact ⟨a, c, by rw [h1, B7_len]⟩
theorem one_byte {w : World} {S : Nat → Prop} {v : Value} (h : BsS w S v [7]) : ∃ b off c, v = .slice (some ⟨b, off, none⟩) 1 c ∧ w.cell? ⟨b, off, none⟩ = some (.int .u8 7) := by
  obtain ⟨a, c, h1, _, _, _, h4⟩ := h
  obtain ⟨b, off, rfl, _, hc⟩ := h4 (by simp)
  exact ⟨b, off, c, h1, hc 0 (by simp)⟩
theorem argE_six (k iv b : List UInt8) : argE (six k) (six iv) (padL b) = 0 := argE_of (six_len k) (six_len iv) (by rw [padL_mod]; omega)
theorem argE_sealed (k iv b : List UInt8) : argE (six k) (six iv) (sealO (six k) (six iv) (padL b)) = 0 :=
  argE_of (six_len k) (six_len iv) (by rw [sealO_sP _ _ _ (padL_mod b), sP_len]; omega)
theorem argE_opened (k iv b : List UInt8) : argE (six k) (six iv) (openO (six k) (six iv) (padL b)) = 0 :=
  argE_of (six_len k) (six_len iv) (by rw [openO_oP _ _ _ (padL_mod b), oP_len]; omega)
/-- Unpad undoes Pad. -/
theorem unpS_tail (l : List UInt8) (j : Nat) (r : List UInt8) : ∀ k, j + 1 ≤ k → unpS (l ++ [128] ++ List.replicate j 0 ++ r) (l.length + 1 + j) k = some l.length := by
  induction j generalizing r with
  | zero =>
    intro k hk
    obtain ⟨k, rfl⟩ : ∃ q, k = q + 1 := ⟨k - 1, by omega⟩
    refine unpS_hit _ _ _ ?_
    simp [gb]
  | succ j ih =>
    intro k hk
    obtain ⟨k, rfl⟩ : ∃ q, k = q + 1 := ⟨k - 1, by omega⟩
    rw [show l.length + 1 + (j + 1) = (l.length + 1 + j) + 1 by omega, unpS_zero]
    · have := ih ([0] ++ r) k (by omega)
      rw [List.replicate_succ', ← List.append_assoc (l ++ [128]), List.append_assoc _ [0] r]
      exact this
    · unfold gb
      have hl : (l ++ [128] ++ List.replicate (j + 1) 0).length = l.length + 1 + j + 1 := by simp; omega
      rw [List.getD_eq_getElem?_getD, List.getElem?_append_left (by omega), List.getElem?_append_right (by simp)]
      simp
theorem unpS_padL (l : List UInt8) : unpS (padL l) (padL l).length 16 = some l.length := by
  have h := unpS_tail l (padN l.length) [] 16 (by have := padN_le l.length; omega)
  rw [List.append_nil] at h
  rw [padL_len]
  exact h
theorem unpO_padL (l : List UInt8) : unpO (padL l) = l := by
  unfold unpO
  rw [if_neg (by have := padL_mod l; have := padL_len l; omega), unpS_padL]
  show (padL l).take l.length = l
  unfold padL
  rw [List.append_assoc, List.take_left' rfl]
theorem unpE_padL (l : List UInt8) : unpE (padL l) = 0 := by
  unfold unpE
  rw [if_neg (by have := padL_mod l; have := padL_len l; omega), unpS_padL]
theorem seven (w : World) : Bs (w.alloc (.cells #[.int .u8 7] 5)) (w.alloc (.cells #[.int .u8 7] 5)).heap.size (.slice (some ⟨w.heap.size, 0, none⟩) 1 1) [7] :=
  ⟨_, 1, rfl, by simp, by simp, by simp, fun _ => ⟨w.heap.size, 0, rfl, by simp, fun j hj => by
    have hj : j = 0 := by simpa using hj
    subst hj
    rw [cell_of_row _ _ _ _ _ _ (heap_alloc_new _ _)]
    rfl⟩⟩
attribute [irreducible] B7
attribute [local irreducible] sealO openO
set_option maxRecDepth 100000 in
set_option maxHeartbeats 400000 in
theorem awake_any (w : World) : Calls Try.prog 15 #[] w fun e w' => e = .returned (.bool true) ∧ Below w.heap.size w w' := by
  have Hm := make16
  go_enter Try.func15, Try.ntmps15
  go_wp2_with fail
  have hb0 := (zero16b w).alloc (zero16b w).size (.cells #[.int .u8 7] 5)
  have hk_1 : Bs ((wz w).alloc (.cells #[.int .u8 7] 5)) ((wz w).alloc (.cells #[.int .u8 7] 5)).heap.size (.slice (some ⟨w.heap.size, 0, none⟩) 16 16) Z16 := (zero_z w).lift ((Below.refl _ _).alloc (Nat.le_refl _) _)
  have hs_1 := seven (wz w)
  have hT_1 := hb0
  clear hb0
  refine (padX _ [7] (by simp) _ hs_1).mono ?_
  rintro e w2 ⟨p, rfl, hp, hB⟩
  have hk_2 := hk_1.lift hB
  clear hk_1 hs_1
  have hT_2 := hT_1.trans (hB.mono hT_1.size); clear hT_1 hB
  have hp_2 := hp; clear hp
  go_wp2_with fail
  refine (sealOk _ _ p Z16 Z16 (padL [7]) argZ _ hk_2 hk_2 hp_2).mono ?_
  rintro e w3 ⟨b, rfl, hb, hB⟩
  have hk_3 := hk_2.lift hB
  clear hk_2 hp_2
  have hT_3 := hT_2.trans (hB.mono hT_2.size); clear hT_2 hB
  have hb_3 := hb; clear hb
  rw [B7_def] at hb_3
  go_wp2_with fail
  refine (openOk _ _ b Z16 Z16 B7 argB _ hk_3 hk_3 hb_3).mono ?_
  rintro e w4 ⟨c, rfl, hc, hB⟩
  have hb_4 := hb_3.lift hB
  clear hk_3 hb_3
  have hT_4 := hT_3.trans (hB.mono hT_3.size); clear hT_3 hB
  have hc_4 := hc; clear hc
  rw [open_b7] at hc_4
  go_wp2_with fail
  refine (unpad_any _ (padL [7]) _ hc_4).mono ?_
  rintro e w5 ⟨d, rfl, hd, hB⟩
  have hb_5 := hb_4.lift hB
  clear hb_4 hc_4
  have hT_5 := hT_4.trans (hB.mono hT_4.size); clear hT_4 hB
  have hd_5 := hd; clear hd
  rw [unpO7] at hd_5
  rw [unpE7]
  obtain ⟨Ab, cb, rfl⟩ := form_b7 hb_5
  obtain ⟨db, dof, dc, rfl, hd0⟩ := one_byte hd_5
  go_wp2
  go_ret
  exact ⟨rfl, hT_5⟩

set_option maxRecDepth 100000 in
set_option maxHeartbeats 400000 in
theorem modesPads_law (vb : Value) (b : List UInt8) (nb : b.length ≤ 140737488351232) (w : World) (hb : Bs w w.heap.size vb b) :
    Calls Try.prog 4 #[vb] w fun e w' => e = .returned (.bool true) ∧ Below w.heap.size w w' := by
  have Nb := Lib.hid nb; clear nb
  go_enter Try.func4, Try.ntmps4
  go_wp2_with fail
  refine (unpX vb b _ hb).mono ?_
  rintro e w1 ⟨x, rfl, hx, hB⟩
  have hb_1 := hb.lift hB
  clear hb
  have hT_1 := hB; clear hB
  have hx_1 := hx; clear hx
  go_wp2_with fail
  refine (runpX vb b _ hb_1).mono ?_
  rintro e w2 ⟨y, rfl, hy, hB⟩
  have hb_2 := hb_1.lift hB; have hx_2 := hx_1.lift hB
  clear hb_1 hx_1
  have hT_2 := hT_1.trans (hB.mono hT_1.size); clear hT_1 hB
  have hy_2 := hy; clear hy
  go_wp2_with fail
  refine (rpadX vb b Nb.out _ hb_2).mono ?_
  rintro e w3 ⟨p, rfl, hp, hB⟩
  have hb_3 := hb_2.lift hB; have hx_3 := hx_2.lift hB; have hy_3 := hy_2.lift hB
  clear hb_2 hx_2 hy_2
  have hT_3 := hT_2.trans (hB.mono hT_2.size); clear hT_2 hB
  have hp_3 := hp; clear hp
  go_wp2_with fail
  refine (unpX p (padL b) _ hp_3).mono ?_
  rintro e w4 ⟨z, rfl, hz, hB⟩
  have hb_4 := hb_3.lift hB; have hx_4 := hx_3.lift hB; have hy_4 := hy_3.lift hB
  clear hb_3 hx_3 hy_3 hp_3
  have hT_4 := hT_3.trans (hB.mono hT_3.size); clear hT_3 hB
  have hz_4 := hz; clear hz
  rw [unpO_padL] at hz_4
  rw [unpE_padL]
  go_wp2_with fail
  refine (awake_any _).mono ?_
  rintro e w5 ⟨rfl, hB⟩
  have hb_5 := hb_4.lift hB; have hx_5 := hx_4.lift hB; have hy_5 := hy_4.lift hB; have hz_5 := hz_4.lift hB
  clear hb_4 hx_4 hy_4 hz_4
  have hT_5 := hT_4.trans (hB.mono hT_4.size); clear hT_4 hB
  go_wp2_with fail
  refine (padX vb b Nb.out _ hb_5).mono ?_
  rintro e w6 ⟨q, rfl, hq, hB⟩
  have hb_6 := hb_5.lift hB; have hx_6 := hx_5.lift hB; have hy_6 := hy_5.lift hB; have hz_6 := hz_5.lift hB
  clear hb_5 hx_5 hy_5 hz_5
  have hT_6 := hT_5.trans (hB.mono hT_5.size); clear hT_5 hB
  have hq_6 := hq; clear hq
  go_wp2_with fail
  refine (rpadX vb b Nb.out _ hb_6).mono ?_
  rintro e w7 ⟨r, rfl, hr, hB⟩
  have hb_7 := hb_6.lift hB; have hx_7 := hx_6.lift hB; have hy_7 := hy_6.lift hB; have hz_7 := hz_6.lift hB; have hq_7 := hq_6.lift hB
  clear hb_6 hx_6 hy_6 hz_6 hq_6
  have hT_7 := hT_6.trans (hB.mono hT_6.size); clear hT_6 hB
  have hr_7 := hr; clear hr
  go_wp2_with fail
  refine (same_refl q r _ _ hq_7 hr_7).mono ?_
  rintro e w8 ⟨rfl, hB⟩
  have hb_8 := hb_7.lift hB; have hx_8 := hx_7.lift hB; have hy_8 := hy_7.lift hB; have hz_8 := hz_7.lift hB
  clear hb_7 hx_7 hy_7 hz_7 hq_7 hr_7
  have hT_8 := hT_7.trans (hB.mono hT_7.size); clear hT_7 hB
  go_wp2_with fail
  refine (same_refl x y _ _ hx_8 hy_8).mono ?_
  rintro e w9 ⟨rfl, hB⟩
  have hb_9 := hb_8.lift hB; have hz_9 := hz_8.lift hB
  clear hb_8 hx_8 hy_8 hz_8
  have hT_9 := hT_8.trans (hB.mono hT_8.size); clear hT_8 hB
  go_wp2_with fail
  refine (same_refl z vb _ _ hz_9 hb_9).mono ?_
  rintro e w10 ⟨rfl, hB⟩
  clear hb_9 hz_9
  have hT_10 := hT_9.trans (hB.mono hT_9.size); clear hT_9 hB
  go_wp2
  go_ret
  exact ⟨rfl, hT_10⟩

set_option maxRecDepth 100000 in
set_option maxHeartbeats 400000 in
theorem modesSeals_law (vk : Value) (k : List UInt8) (_nk : k.length ≤ 140737488351232) (vi : Value) (iv : List UInt8) (_ni : iv.length ≤ 140737488351232) (vb : Value) (b : List UInt8) (_nb : b.length ≤ 140737488351232) (w : World) (hk : Bs w w.heap.size vk k) (hi : Bs w w.heap.size vi iv) (hb : Bs w w.heap.size vb b) :
    Calls Try.prog 5 #[vk, vi, vb] w fun e w' => e = .returned (.bool true) ∧ Below w.heap.size w w' := by
  clear _nk _ni _nb
  go_enter Try.func5, Try.ntmps5
  go_wp2_with fail
  refine (sealX vk vi vb k iv b _ hk hi hb).mono ?_
  rintro e w1 ⟨x, rfl, hx, hB⟩
  have hk_1 := hk.lift hB; have hi_1 := hi.lift hB; have hb_1 := hb.lift hB
  clear hk hi hb
  have hT_1 := hB; clear hB
  have hx_1 := hx; clear hx
  go_wp2_with fail
  refine (rsealX vk vi vb k iv b _ hk_1 hi_1 hb_1).mono ?_
  rintro e w2 ⟨y, rfl, hy, hB⟩
  have hk_2 := hk_1.lift hB; have hi_2 := hi_1.lift hB; have hb_2 := hb_1.lift hB; have hx_2 := hx_1.lift hB
  clear hk_1 hi_1 hb_1 hx_1
  have hT_2 := hT_1.trans (hB.mono hT_1.size); clear hT_1 hB
  have hy_2 := hy; clear hy
  go_wp2_with fail
  refine (openX vk vi vb k iv b _ hk_2 hi_2 hb_2).mono ?_
  rintro e w3 ⟨z, rfl, hz, hB⟩
  have hk_3 := hk_2.lift hB; have hi_3 := hi_2.lift hB; have hb_3 := hb_2.lift hB; have hx_3 := hx_2.lift hB; have hy_3 := hy_2.lift hB
  clear hk_2 hi_2 hb_2 hx_2 hy_2
  have hT_3 := hT_2.trans (hB.mono hT_2.size); clear hT_2 hB
  have hz_3 := hz; clear hz
  go_wp2_with fail
  refine (ropenX vk vi vb k iv b _ hk_3 hi_3 hb_3).mono ?_
  rintro e w4 ⟨u, rfl, hu, hB⟩
  have hx_4 := hx_3.lift hB; have hy_4 := hy_3.lift hB; have hz_4 := hz_3.lift hB
  clear hk_3 hi_3 hb_3 hx_3 hy_3 hz_3
  have hT_4 := hT_3.trans (hB.mono hT_3.size); clear hT_3 hB
  have hu_4 := hu; clear hu
  go_wp2_with fail
  refine (awake_any _).mono ?_
  rintro e w5 ⟨rfl, hB⟩
  have hx_5 := hx_4.lift hB; have hy_5 := hy_4.lift hB; have hz_5 := hz_4.lift hB; have hu_5 := hu_4.lift hB
  clear hx_4 hy_4 hz_4 hu_4
  have hT_5 := hT_4.trans (hB.mono hT_4.size); clear hT_4 hB
  go_wp2_with fail
  refine (same_refl x y _ _ hx_5 hy_5).mono ?_
  rintro e w6 ⟨rfl, hB⟩
  have hz_6 := hz_5.lift hB; have hu_6 := hu_5.lift hB
  clear hx_5 hy_5 hz_5 hu_5
  have hT_6 := hT_5.trans (hB.mono hT_5.size); clear hT_5 hB
  go_wp2_with fail
  refine (same_refl z u _ _ hz_6 hu_6).mono ?_
  rintro e w7 ⟨rfl, hB⟩
  clear hz_6 hu_6
  have hT_7 := hT_6.trans (hB.mono hT_6.size); clear hT_6 hB
  go_wp2
  go_ret
  exact ⟨rfl, hT_7⟩

set_option maxRecDepth 100000 in
set_option maxHeartbeats 400000 in
theorem modesSealsMade_law (vk : Value) (k : List UInt8) (nk : k.length ≤ 140737488351232) (vi : Value) (iv : List UInt8) (ni : iv.length ≤ 140737488351232) (vb : Value) (b : List UInt8) (nb : b.length ≤ 140737488351232) (w : World) (hk : Bs w w.heap.size vk k) (hi : Bs w w.heap.size vi iv) (hb : Bs w w.heap.size vb b) :
    Calls Try.prog 6 #[vk, vi, vb] w fun e w' => e = .returned (.bool true) ∧ Below w.heap.size w w' := by
  have Nk := Lib.hid nk; have Ni := Lib.hid ni; have Nb := Lib.hid nb; clear nk ni nb
  go_enter Try.func6, Try.ntmps6
  go_wp2_with fail
  refine (sixX vk k Nk.out _ hk).mono ?_
  rintro e w1 ⟨q, rfl, hq, hB⟩
  have hi_1 := hi.lift hB; have hb_1 := hb.lift hB
  clear hk hi hb
  have hT_1 := hB; clear hB
  have hq_1 := hq; clear hq
  go_wp2_with fail
  refine (sixX vi iv Ni.out _ hi_1).mono ?_
  rintro e w2 ⟨v, rfl, hv, hB⟩
  have hb_2 := hb_1.lift hB; have hq_2 := hq_1.lift hB
  clear hi_1 hb_1 hq_1
  have hT_2 := hT_1.trans (hB.mono hT_1.size); clear hT_1 hB
  have hv_2 := hv; clear hv
  go_wp2_with fail
  refine (rpadX vb b Nb.out _ hb_2).mono ?_
  rintro e w3 ⟨p, rfl, hp, hB⟩
  have hq_3 := hq_2.lift hB; have hv_3 := hv_2.lift hB
  clear hb_2 hq_2 hv_2
  have hT_3 := hT_2.trans (hB.mono hT_2.size); clear hT_2 hB
  have hp_3 := hp; clear hp
  go_wp2_with fail
  refine (sealOk q v p (six k) (six iv) (padL b) (argE_six k iv b) _ hq_3 hv_3 hp_3).mono ?_
  rintro e w4 ⟨x, rfl, hx, hB⟩
  have hq_4 := hq_3.lift hB; have hv_4 := hv_3.lift hB; have hp_4 := hp_3.lift hB
  clear hq_3 hv_3 hp_3
  have hT_4 := hT_3.trans (hB.mono hT_3.size); clear hT_3 hB
  have hx_4 := hx; clear hx
  go_wp2_with fail
  refine (rsealOk q v p (six k) (six iv) (padL b) (argE_six k iv b) _ hq_4 hv_4 hp_4).mono ?_
  rintro e w5 ⟨y, rfl, hy, hB⟩
  have hq_5 := hq_4.lift hB; have hv_5 := hv_4.lift hB; have hp_5 := hp_4.lift hB; have hx_5 := hx_4.lift hB
  clear hq_4 hv_4 hp_4 hx_4
  have hT_5 := hT_4.trans (hB.mono hT_4.size); clear hT_4 hB
  have hy_5 := hy; clear hy
  go_wp2_with fail
  refine (openOk q v x (six k) (six iv) (sealO (six k) (six iv) (padL b)) (argE_sealed k iv b) _ hq_5 hv_5 hx_5).mono ?_
  rintro e w6 ⟨z, rfl, hz, hB⟩
  have hq_6 := hq_5.lift hB; have hv_6 := hv_5.lift hB; have hp_6 := hp_5.lift hB; have hx_6 := hx_5.lift hB; have hy_6 := hy_5.lift hB
  clear hq_5 hv_5 hp_5 hx_5 hy_5
  have hT_6 := hT_5.trans (hB.mono hT_5.size); clear hT_5 hB
  have hz_6 := hz; clear hz
  rw [open_seal _ _ _ _ (padL_mod b)] at hz_6
  go_wp2_with fail
  refine (openOk q v p (six k) (six iv) (padL b) (argE_six k iv b) _ hq_6 hv_6 hp_6).mono ?_
  rintro e w7 ⟨u, rfl, hu, hB⟩
  have hq_7 := hq_6.lift hB; have hv_7 := hv_6.lift hB; have hp_7 := hp_6.lift hB; have hx_7 := hx_6.lift hB; have hy_7 := hy_6.lift hB; have hz_7 := hz_6.lift hB
  clear hq_6 hv_6 hp_6 hx_6 hy_6 hz_6
  have hT_7 := hT_6.trans (hB.mono hT_6.size); clear hT_6 hB
  have hu_7 := hu; clear hu
  go_wp2_with fail
  refine (sealOk q v u (six k) (six iv) (openO (six k) (six iv) (padL b)) (argE_opened k iv b) _ hq_7 hv_7 hu_7).mono ?_
  rintro e w8 ⟨t, rfl, ht, hB⟩
  have hp_8 := hp_7.lift hB; have hx_8 := hx_7.lift hB; have hy_8 := hy_7.lift hB; have hz_8 := hz_7.lift hB
  clear hq_7 hv_7 hp_7 hx_7 hy_7 hz_7 hu_7
  have hT_8 := hT_7.trans (hB.mono hT_7.size); clear hT_7 hB
  have ht_8 := ht; clear ht
  rw [seal_open _ _ _ _ (padL_mod b)] at ht_8
  go_wp2_with fail
  refine (awake_any _).mono ?_
  rintro e w9 ⟨rfl, hB⟩
  have hp_9 := hp_8.lift hB; have hx_9 := hx_8.lift hB; have hy_9 := hy_8.lift hB; have hz_9 := hz_8.lift hB; have ht_9 := ht_8.lift hB
  clear hp_8 hx_8 hy_8 hz_8 ht_8
  have hT_9 := hT_8.trans (hB.mono hT_8.size); clear hT_8 hB
  go_wp2_with fail
  refine (same_refl x y _ _ hx_9 hy_9).mono ?_
  rintro e w10 ⟨rfl, hB⟩
  have hp_10 := hp_9.lift hB; have hz_10 := hz_9.lift hB; have ht_10 := ht_9.lift hB
  clear hp_9 hx_9 hy_9 hz_9 ht_9
  have hT_10 := hT_9.trans (hB.mono hT_9.size); clear hT_9 hB
  go_wp2_with fail
  refine (same_refl z p _ _ hz_10 hp_10).mono ?_
  rintro e w11 ⟨rfl, hB⟩
  have hp_11 := hp_10.lift hB; have ht_11 := ht_10.lift hB
  clear hp_10 hz_10 ht_10
  have hT_11 := hT_10.trans (hB.mono hT_10.size); clear hT_10 hB
  go_wp2_with fail
  refine (same_refl t p _ _ ht_11 hp_11).mono ?_
  rintro e w12 ⟨rfl, hB⟩
  clear hp_11 ht_11
  have hT_12 := hT_11.trans (hB.mono hT_11.size); clear hT_11 hB
  go_wp2
  go_ret
  exact ⟨rfl, hT_12⟩
end Go.Proofs.Ytmpcjaoemfnjcaa
