/- Check on both sides, and the walk of ModesCodes. Printed by gen/law6b.py. -/
import Derived.Test.YtmpcjaoemfnjcaaRefCode
import Derived.Test.YtmpcjaoemfnjcaaLaw6a
namespace Go.Proofs.Ytmpcjaoemfnjcaa
open Go.RowKit

theorem codeO_len {k : List UInt8} (hk : k.length = 16) (b : List UInt8) : (codeO k b).length = 16 := by
  obtain ⟨m, hm⟩ := codeX_len b
  have h : (lastX (codeX b) (codeK k b)).length = 16 * (m + 1) := by rw [lastX_len _ (by omega), hm]; omega
  unfold codeO
  rw [if_pos hk, sealO_sP k Z16 _ h, List.length_drop, sP_len, hm]
  omega
theorem Bs.cutCap {w : World} {S : Nat → Prop} {A : Option Addr} {n c : Nat} {l : List UInt8} (h : BsS w S (.slice A n c) l) (k : Nat) (hk : k ≤ l.length) : BsS w S (.slice A k k) (l.take k) := by
  obtain ⟨a, c1, e, h1, h2, h3, h4⟩ := Bs.cutTo h k hk
  have hl : (l.take k).length = k := by rw [List.length_take]; omega
  injection e with e1 e2 e3
  rw [hl] at h3
  refine ⟨a, k, by rw [hl, e1], by omega, by omega, by omega, h4⟩
def checkO (k b : List UInt8) : List UInt8 := if k.length = 16 then (codeO k b).take 8 else []
theorem check_bad (vk vb : Value) (k : List UInt8) (h : ¬ k.length = 16) (w : World) (hvk : Bs w w.heap.size vk k) :
    Calls Try.prog 24 #[vk, vb] w fun e w' => e = .returned (.tuple #[.slice none 0 0, .int .i64 14]) ∧ Below w.heap.size w w' := by
  have C := code_bad vk vb k h w hvk
  go_enter Try.func24, Try.ntmps24
  go_wp2_with fail
  refine C.mono ?_
  rintro e w1 ⟨rfl, hB⟩
  
  go_wp2_with fail
  go_ret2
  exact ⟨rfl, hB⟩
set_option maxHeartbeats 400000 in
theorem check_good (vk vb : Value) (k b : List UInt8) (hk : k.length = 16) (hl : b.length ≤ 140737488351232) (w : World) (hvk : Bs w w.heap.size vk k) (hvb : Bs w w.heap.size vb b) :
    Calls Try.prog 24 #[vk, vb] w fun e w' => ∃ v', e = .returned (.tuple #[v', .int .i64 0]) ∧ Bs w' w'.heap.size v' ((codeO k b).take 8) ∧ Below w.heap.size w w' := by
  have C := Lib.hid (code_good vk vb k b hk hl w hvk hvb)
  have L := Lib.hid (codeO_len hk b)
  clear hvk hvb hk hl
  go_enter Try.func24, Try.ntmps24
  go_wp2_with fail
  refine C.out.mono ?_
  rintro e w1 ⟨v1, rfl, hv0, hB⟩
  have hv1 : Bs w1 w1.heap.size v1 (codeO k b) := hv0.bs
  clear hv0
  obtain ⟨A1, n1, c1, rfl⟩ := hv1.form
  obtain rfl : n1 = 16 := by rw [Bs.lenEq hv1]; exact L.out
  have hc1 : 16 ≤ c1 := by obtain ⟨_, _, e, h, _⟩ := hv1; rw [L.out] at h; injection e with _ _ e3; omega
  have Hfin := Lib.hid (show Bs w1 w1.heap.size (.slice A1 8 8) ((codeO k b).take 8) ∧ Below w.heap.size w w1 from ⟨Bs.cutCap hv1 8 (by rw [L.out]; omega), hB⟩)
  clear hv1 hB
  have n1 : (8 : Int) ≤ c1 := by omega
  have n2 : 8 ≤ c1 := by omega
  go_wp2_with fail
  go_ret2
  exact ⟨_, rfl, Hfin.out⟩
theorem rcheck_bad (vk vb : Value) (k : List UInt8) (h : ¬ k.length = 16) (w : World) (hvk : Bs w w.heap.size vk k) :
    Calls Try.prog 25 #[vk, vb] w fun e w' => e = .returned (.tuple #[.slice none 0 0, .int .i64 14]) ∧ Below w.heap.size w w' := by
  have C := rcode_bad vk vb k h w hvk
  go_enter Try.func25, Try.ntmps25
  go_wp2_with fail
  refine C.mono ?_
  rintro e w1 ⟨rfl, hB⟩
  subst hB
  go_wp2_with fail
  go_ret2
  exact ⟨rfl, Below.refl _ _⟩
set_option maxHeartbeats 400000 in
theorem rcheck_good (vk vb : Value) (k b : List UInt8) (hk : k.length = 16) (hl : b.length ≤ 140737488351232) (w : World) (hvk : Bs w w.heap.size vk k) (hvb : Bs w w.heap.size vb b) :
    Calls Try.prog 25 #[vk, vb] w fun e w' => ∃ v', e = .returned (.tuple #[v', .int .i64 0]) ∧ Bs w' w'.heap.size v' ((codeO k b).take 8) ∧ Below w.heap.size w w' := by
  have C := Lib.hid (rcode_good vk vb k b hk hl w hvk hvb)
  have L := Lib.hid (codeO_len hk b)
  clear hvk hvb hk hl
  go_enter Try.func25, Try.ntmps25
  go_wp2_with fail
  refine C.out.mono ?_
  rintro e w1 ⟨v1, rfl, hv0, hB⟩
  have hv1 : Bs w1 w1.heap.size v1 (codeO k b) := hv0
  clear hv0
  obtain ⟨A1, n1, c1, rfl⟩ := hv1.form
  obtain rfl : n1 = 16 := by rw [Bs.lenEq hv1]; exact L.out
  have hc1 : 16 ≤ c1 := by obtain ⟨_, _, e, h, _⟩ := hv1; rw [L.out] at h; injection e with _ _ e3; omega
  have Hfin := Lib.hid (show Bs w1 w1.heap.size (.slice A1 8 c1) ((codeO k b).take 8) ∧ Below w.heap.size w w1 from ⟨Bs.cutTo hv1 8 (by rw [L.out]; omega), hB⟩)
  clear hv1 hB
  have n1 : (8 : Int) ≤ c1 := by omega
  have n2 : 8 ≤ c1 := by omega
  go_wp2_with fail
  go_ret2
  exact ⟨_, rfl, Hfin.out⟩

section
variable (vk vb : Value) (k b : List UInt8) (hl : b.length ≤ 140737488351232) (w : World) (hvk : Bs w w.heap.size vk k) (hvb : Bs w w.heap.size vb b)
include hl hvk hvb
theorem codeW : Calls Try.prog 10 #[vk, vb] w (BytesErr w (codeO k b) (codeE k)) := by
  unfold codeE
  by_cases h : k.length = 16
  · rw [if_pos h]; exact (code_good vk vb k b h hl w hvk hvb).mono fun _ _ ⟨v, e, h1, h2⟩ => ⟨v, e, h1.bs, h2⟩
  · rw [if_neg h]; unfold codeO; rw [if_neg h]; exact (code_bad vk vb k h w hvk).mono fun _ _ ⟨e, h2⟩ => ⟨_, e, Bs.nil _ _, h2⟩
theorem rcodeW : Calls Try.prog 23 #[vk, vb] w (BytesErr w (codeO k b) (codeE k)) := by
  unfold codeE
  by_cases h : k.length = 16
  · rw [if_pos h]; exact (rcode_good vk vb k b h hl w hvk hvb).mono fun _ _ ⟨v, e, h1, h2⟩ => ⟨v, e, h1, h2⟩
  · rw [if_neg h]; unfold codeO; rw [if_neg h]; exact (rcode_bad vk vb k h w hvk).mono fun _ _ ⟨e, h2⟩ => ⟨_, e, Bs.nil _ _, by rw [h2]; exact Below.refl _ _⟩
theorem checkW : Calls Try.prog 24 #[vk, vb] w (BytesErr w (checkO k b) (codeE k)) := by
  unfold codeE checkO
  by_cases h : k.length = 16
  · rw [if_pos h, if_pos h]; exact (check_good vk vb k b h hl w hvk hvb).mono fun _ _ ⟨v, e, h1, h2⟩ => ⟨v, e, h1, h2⟩
  · rw [if_neg h, if_neg h]; exact (check_bad vk vb k h w hvk).mono fun _ _ ⟨e, h2⟩ => ⟨_, e, Bs.nil _ _, h2⟩
theorem rcheckW : Calls Try.prog 25 #[vk, vb] w (BytesErr w (checkO k b) (codeE k)) := by
  unfold codeE checkO
  by_cases h : k.length = 16
  · rw [if_pos h, if_pos h]; exact (rcheck_good vk vb k b h hl w hvk hvb).mono fun _ _ ⟨v, e, h1, h2⟩ => ⟨v, e, h1, h2⟩
  · rw [if_neg h, if_neg h]; exact (rcheck_bad vk vb k h w hvk).mono fun _ _ ⟨e, h2⟩ => ⟨_, e, Bs.nil _ _, h2⟩
end
/-- The key that the law takes. -/
def qL (k b : List UInt8) : List UInt8 := if b.length % 3 = 0 then k else six k
set_option maxRecDepth 100000 in
set_option maxHeartbeats 400000 in
theorem modesCodes_law (vk : Value) (k : List UInt8) (nk : k.length ≤ 140737488351232) (vb : Value) (b : List UInt8) (nb : b.length ≤ 140737488351232) (w : World) (hk : Bs w w.heap.size vk k) (hb : Bs w w.heap.size vb b) :
    Calls Try.prog 8 #[vk, vb] w fun e w' => e = .returned (.bool true) ∧ Below w.heap.size w w' := by
  obtain ⟨A0, n0, c0, rfl⟩ := hb.form
  have hn := Bs.lenEq hb
  subst hn
  have Nk := Lib.hid nk; have Nb := Lib.hid nb; clear nk nb
  go_enter Try.func8, Try.ntmps8
  go_upto_if 19 with (fail)
  refine (sixX vk k Nk.out _ hk).mono ?_
  rintro e w1 ⟨s, rfl, hs, hB⟩
  have HS := Lib.hid hs; have HB := Lib.hid hB; have HK := Lib.hid (hk.lift hB); have Hb := Lib.hid (hb.lift hB)
  clear hs hB hk hb
  obtain ⟨o, Ho⟩ : ∃ o : Bool, Hid (o = ((b.length : Int) % 3 == 0)) := ⟨_, Lib.hid rfl⟩
  go_upto_if 19 with (fail)
  go_cut [5] from 14 to 20 (fun v wx => Bs wx wx.heap.size v (qL k b) ∧ wx = w1)
  case first =>
    by_cases h : b.length % 3 = 0
    · have t1 : ((b.length : Int) % 3 == 0) = true := by rw [beq_iff_eq]; omega
      have H5 : Hid (Bs w1 w1.heap.size vk (qL k b)) := by unfold qL; rw [if_pos h]; exact HK
      clear h
      go_wp2_with fail
      go_meet
      exact ⟨H5.out, rfl⟩
    · have t1 : ((b.length : Int) % 3 == 0) = false := by rw [beq_eq_false_iff_ne]; omega
      have H5 : Hid (Bs w1 w1.heap.size s (qL k b)) := by unfold qL; rw [if_neg h]; exact HS
      clear h
      go_wp2_with fail
      go_meet
      exact ⟨H5.out, rfl⟩
  case rest =>
  obtain ⟨hq_1, rfl⟩ := hcut
  obtain ⟨q, rfl⟩ : ∃ q, q = u5 := ⟨_, rfl⟩
  obtain ⟨vb, hvb⟩ : ∃ vb, vb = Value.slice A0 b.length c0 := ⟨_, rfl⟩
  have hb_1 := Hb.out; have hT_1 := HB.out
  rw [← hvb] at hb_1 ⊢
  clear HS HB HK Hb hvb Ho
  go_wp2_with fail
  refine (codeW q vb (qL k b) b Nb.out _ hq_1 hb_1).mono ?_
  rintro e w2 ⟨x, rfl, hx, hB⟩
  have hq_2 := hq_1.lift hB; have hb_2 := hb_1.lift hB
  clear hq_1 hb_1
  have hT_2 := hT_1.trans (hB.mono hT_1.size); clear hT_1 hB
  have hx_2 := hx; clear hx
  go_wp2_with fail
  refine (rcodeW q vb (qL k b) b Nb.out _ hq_2 hb_2).mono ?_
  rintro e w3 ⟨y, rfl, hy, hB⟩
  have hq_3 := hq_2.lift hB; have hb_3 := hb_2.lift hB; have hx_3 := hx_2.lift hB
  clear hq_2 hb_2 hx_2
  have hT_3 := hT_2.trans (hB.mono hT_2.size); clear hT_2 hB
  have hy_3 := hy; clear hy
  go_wp2_with fail
  refine (checkW q vb (qL k b) b Nb.out _ hq_3 hb_3).mono ?_
  rintro e w4 ⟨z, rfl, hz, hB⟩
  have hq_4 := hq_3.lift hB; have hb_4 := hb_3.lift hB; have hx_4 := hx_3.lift hB; have hy_4 := hy_3.lift hB
  clear hq_3 hb_3 hx_3 hy_3
  have hT_4 := hT_3.trans (hB.mono hT_3.size); clear hT_3 hB
  have hz_4 := hz; clear hz
  go_wp2_with fail
  refine (rcheckW q vb (qL k b) b Nb.out _ hq_4 hb_4).mono ?_
  rintro e w5 ⟨u, rfl, hu, hB⟩
  have hx_5 := hx_4.lift hB; have hy_5 := hy_4.lift hB; have hz_5 := hz_4.lift hB
  clear hq_4 hb_4 hx_4 hy_4 hz_4
  have hT_5 := hT_4.trans (hB.mono hT_4.size); clear hT_4 hB
  have hu_5 := hu; clear hu
  go_wp2_with fail
  refine (awake_any _).mono ?_
  rintro e w6 ⟨rfl, hB⟩
  have hx_6 := hx_5.lift hB; have hy_6 := hy_5.lift hB; have hz_6 := hz_5.lift hB; have hu_6 := hu_5.lift hB
  clear hx_5 hy_5 hz_5 hu_5
  have hT_6 := hT_5.trans (hB.mono hT_5.size); clear hT_5 hB
  go_wp2_with fail
  refine (same_refl x y _ _ hx_6 hy_6).mono ?_
  rintro e w7 ⟨rfl, hB⟩
  have hz_7 := hz_6.lift hB; have hu_7 := hu_6.lift hB
  clear hx_6 hy_6 hz_6 hu_6
  have hT_7 := hT_6.trans (hB.mono hT_6.size); clear hT_6 hB
  go_wp2_with fail
  refine (same_refl z u _ _ hz_7 hu_7).mono ?_
  rintro e w8 ⟨rfl, hB⟩
  clear hz_7 hu_7
  have hT_8 := hT_7.trans (hB.mono hT_7.size); clear hT_7 hB
  go_wp2
  go_ret
  exact ⟨rfl, hT_8⟩
end Go.Proofs.Ytmpcjaoemfnjcaa
