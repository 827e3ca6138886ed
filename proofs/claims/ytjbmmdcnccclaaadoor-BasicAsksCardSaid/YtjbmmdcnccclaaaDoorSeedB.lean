/- Basic access: the seed of a text, both sides. -/
import Derived.Test.YtjbmmdcnccclaaaDoorQKey
import Derived.Lib.ConvBytes
namespace Go.Proofs.YtjbmmdcnccclaaaDoor
open Go.RowKit Go.Deep

/-- A text's bytes. -/
def strL (s : ByteArray) : List UInt8 := s.data.toList
theorem strL_len (s : ByteArray) : (strL s).length = s.size := rfl
/-- Bytes of a text: a new row. -/
theorem conv_bytes (w : World) (s : ByteArray) (hl : s.size ≤ 140737488355328) : ∃ A c w1, (convert 9 23 (.string s)).run Tryd.prog w = .ok (.slice A s.size c) w1 ∧ BsS w1 (New w w1) (.slice A s.size c) (strL s) ∧ Below w.heap.size w w1 := by
  refine ⟨_, _, _, Lib.run_convert_string_bytes w 9 23 5 s Tryd.underlying9 Tryd.underlying23 Tryd.underlying5, ⟨_, _, rfl, grownCap_ge _ _ _ _, ?_, hl, fun _ => ⟨w.heap.size, 0, rfl, ⟨Nat.le_refl _, ?_⟩, fun j hj => ?_⟩⟩, ⟨rfl, rfl, rfl, ?_, fun k hk => Lib.bytesWorld_at_old w 5 s k hk⟩⟩
  · have h := grownCap_le_maxLen w s.size 0 5 (by unfold maxLen; omega)
    unfold maxLen at h; omega
  · rw [Lib.bytesWorld_size]; omega
  · rw [Nat.zero_add, Lib.bytesWorld_cell w 5 s j hj]
    simp only [gb, strL, U8]
    have hj' : j < s.data.toList.length := hj
    simp [bv, hj']
  · rw [Lib.bytesWorld_size]; omega
/-- The seed of a text. -/
def seedW (s : ByteArray) : List UInt8 := (sumW (strL s)).take 16
theorem seedW_len (s : ByteArray) : (seedW s).length = 16 := by unfold seedW; rw [List.length_take, sumW_len]; rfl
set_option maxRecDepth 100000 in
theorem seed_any (s : ByteArray) (hl : s.size ≤ 140737488355000) (w : World) (hK : KD w) :
    Calls Tryd.prog 12 #[.string s] w fun e w' => ∃ v', e = .returned v' ∧ BsS w' (New w w') v' (seedW s) ∧ Below w.heap.size w w' := by
  obtain ⟨A, c, w1, cv, hb1, hB1⟩ := conv_bytes w s (by omega)
  have HV := Lib.hid hb1; have HB1 := Lib.hid hB1; have HK := Lib.hid hK
  clear hb1 hB1 hK
  go_enter Tryd.func12, Tryd.ntmps12
  go_wp2_with (go_at_call 31; refine (sum_any _ (strL s) hl w1 (HK.out.below HB1.out HK.out.lt) (BsS.keep HV.out fun g hs _ => ⟨rfl, hs.2⟩)).mono ?_; rintro e w2 ⟨v2, rfl, hs2, hb2⟩; obtain ⟨A2, c2, hv2⟩ : ∃ A c, v2 = .slice A 32 c := (by obtain ⟨a, c, e, _⟩ := hs2; rw [sumW_len] at e; exact ⟨a, c, e⟩); subst hv2; have hc2 : 32 ≤ c2 := (by obtain ⟨_, _, e, h, _⟩ := hs2; obtain ⟨_, _, h3⟩ := Value.slice.inj e; clear e; rw [sumW_len] at h; omega); have HS2 := Lib.hid hs2; have HB2 := Lib.hid hb2; clear hs2 hb2)
  go_ret
  refine ⟨_, rfl, ?_, HB1.out.trans (HB2.out.mono HB1.out.size)⟩
  exact (BsS.cut HS2.out (by rw [sumW_len]; omega) (by omega) (by omega)).keep fun g hs _ => ⟨rfl, Nat.le_trans HB1.out.size hs.1, hs.2⟩
set_option maxRecDepth 100000 in
theorem rseed_any (s : ByteArray) (hl : s.size ≤ 140737488355000) (w : World) (hK : KR w) :
    Calls Tryd.prog 9 #[.string s] w fun e w' => ∃ v', e = .returned v' ∧ BsS w' (New w w') v' (seedW s) ∧ Below w.heap.size w w' := by
  obtain ⟨A, c, w1, cv, hb1, hB1⟩ := conv_bytes w s (by omega)
  have HV := Lib.hid hb1; have HB1 := Lib.hid hB1; have HK := Lib.hid hK
  clear hb1 hB1 hK
  go_enter Tryd.func9, Tryd.ntmps9
  go_wp2_with (go_at_call 30; refine (rsum_any _ (strL s) hl w1 (HK.out.below HB1.out HK.out.lt) (BsS.keep HV.out fun g hs _ => ⟨rfl, hs.2⟩)).mono ?_; rintro e w2 ⟨v2, rfl, hs2, hb2⟩; obtain ⟨A2, c2, hv2⟩ : ∃ A c, v2 = .slice A 32 c := (by obtain ⟨a, c, e, _⟩ := hs2; rw [sumW_len] at e; exact ⟨a, c, e⟩); subst hv2; obtain ⟨hc2, hc3⟩ : 32 ≤ c2 ∧ c2 ≤ 9223372036854775807 := (by obtain ⟨_, _, e, h, h', _⟩ := hs2; obtain ⟨_, _, h3⟩ := Value.slice.inj e; clear e; rw [sumW_len] at h; omega); have HC3 := Lib.hid hc3; clear hc3; have HS2 := Lib.hid hs2; have HB2 := Lib.hid hb2; clear hs2 hb2)
  go_ret
  refine ⟨_, rfl, ?_, HB1.out.trans (HB2.out.mono HB1.out.size)⟩
  exact (BsS.cut HS2.out (by rw [sumW_len]; omega) (by omega) HC3.out).keep fun g hs _ => ⟨rfl, Nat.le_trans HB1.out.size hs.1, hs.2⟩
end Go.Proofs.YtjbmmdcnccclaaaDoor
