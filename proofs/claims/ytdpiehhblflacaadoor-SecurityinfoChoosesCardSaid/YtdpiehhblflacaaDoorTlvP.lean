/- Layer 2: the reference's Encode and Canonical. -/
import Derived.Test.YtdpiehhblflacaaDoorTlvO
import Derived.Test.YtdpiehhblflacaaDoorQTlvL
namespace Go.Proofs.YtdpiehhblflacaaDoor
open Go.RowKit Go.Deep

theorem lenR_lenG {n : Nat} (h : n ≤ 65535) : lenR n = lenG n := by
  unfold lenR lenG
  by_cases h1 : n ≤ 127
  · rw [if_pos h1, if_pos (by omega)]
  · rw [if_neg h1, if_neg (show ¬ n < 128 by omega)]
    by_cases h2 : n ≤ 255
    · rw [if_pos h2]
      have e : leN 8 n = [ofI n] := by
        rw [show (8 : Nat) = 7 + 1 from rfl, leN, if_neg (by omega), show n / 256 = 0 by omega, leN_zero]
      rw [e]; rfl
    · rw [if_neg h2]
      have e : leN 8 n = [ofI n, ofI ((n : Int) / 256)] := by
        rw [show (8 : Nat) = 7 + 1 from rfl, leN, if_neg (by omega), show (7 : Nat) = 6 + 1 from rfl, leN, if_neg (by omega), show n / 256 / 256 = 0 by omega, leN_zero]
        rfl
      rw [e]; rfl
theorem raw_enc (L : Ns) : ∀ o : List UInt8, (o.length + L.enc.length ≤ 4096 → L.raw o = o ++ L.enc) ∧ (4096 < o.length + L.enc.length → 4096 < (L.raw o).length) := by
  induction L with
  | nil => intro o; simp [Ns.raw, Ns.enc]
  | cons t v k r ihk ihr =>
    intro o
    by_cases ho : o.length ≤ 4096
    · obtain ⟨c, hc⟩ : ∃ c, (if tagC t then k.enc else v) = c := ⟨_, rfl⟩
      obtain ⟨c', hc'⟩ : ∃ c', (if tagC t then k.raw [] else v) = c' := ⟨_, rfl⟩
      rw [enc_cons t v k r c hc.symm, raw_cons t v k r o c' _ ho hc' rfl]
      simp only [List.length_append]
      by_cases h : c.length ≤ 4096
      · have e : c' = c := by
          rw [← hc, ← hc']
          split
          · rename_i ht
            rw [if_pos ht] at hc
            have := (ihk []).1 (by rw [hc]; simpa using h)
            simpa using this
          · rfl
        rw [e, cut4_no (by omega), lenR_lenG (by omega)]
        obtain ⟨h1, h2⟩ := ihr (o ++ tagB t ++ lenG c.length ++ c)
        simp only [List.length_append] at h1 h2
        refine ⟨fun hh => ?_, fun hh => h2 (by omega)⟩
        rw [h1 (by omega)]
        simp [List.append_assoc]
      · refine ⟨fun hh => by omega, fun _ => ?_⟩
        have h3 : 4096 < c'.length := by
          rw [← hc']
          split
          · rename_i ht
            rw [if_pos ht] at hc
            exact (ihk []).2 (by rw [hc]; simp; omega)
          · rename_i ht
            rw [if_neg ht] at hc
            rw [hc]; omega
        obtain ⟨h1, h2⟩ := ihr (o ++ tagB t ++ lenR (cut4 c').length ++ cut4 c')
        have h4 : (cut4 c').length = 4097 := by rw [cut4_yes h3, List.length_take]; omega
        simp only [List.length_append] at h1 h2
        exact h2 (by omega)
    · rw [raw_stop t v k r o ho]
      exact ⟨fun h => by omega, fun _ => by omega⟩
set_option maxRecDepth 100000 in
set_option maxHeartbeats 1000000 in
theorem rencode_any (L : Ns) (v : Value) (w : World) (hv : NsS w (· < w.heap.size) v L) (ha : L.all ≤ 100000000000) :
    Calls Tryd.prog 30 #[v] w (BytesOut (encP L) w) := by
  obtain ⟨a, c, rfl⟩ := hv.form2
  have HC := Lib.hid (rcheck_any L.all L _ 1 _ w (Nat.le_refl _) hv (by omega))
  have HN := Lib.hid (fun (w1 : World) (h : Below w.heap.size w w1) => count_any L.all L _ _ w1 (Nat.le_refl _) ha (hv.keep fun b hs hl => ⟨h.block b hl, hs⟩))
  have HR := Lib.hid (fun (w1 : World) (h : Below w.heap.size w w1) => raw_any L.all L (.slice a L.len c) w1 (Nat.le_refl _) (hv.keep fun b hs hl => ⟨h.block b hl, Nat.lt_of_lt_of_le hs h.size⟩))
  clear hv
  by_cases h1 : L.chk 1 = 0
  · by_cases h2 : 256 < L.all
    · have E : Hid (encP L = .error 2) := by unfold encP; rw [if_neg (by simpa using h1), if_pos h2]; rfl
      have hc := (Ns.cnt_all L 0).2 (by omega)
      rw [h1] at HC
      clear h1
      go_enter Tryd.func30, Tryd.ntmps30
      go_wp2_with (first | (go_at_call 50; refine HC.out.mono ?_; rintro e w1 ⟨rfl, hb⟩; have HB := Lib.hid hb; clear hb) | (go_at_call 51; refine (HN.out _ HB.out).mono ?_; rintro e w2 ⟨rfl, rfl⟩))
      go_ret2
      exact BytesOut.no E.out HB.out
    · have hc := (Ns.cnt_all L 0).1 (by omega)
      rw [Nat.zero_add] at hc
      rw [h1] at HC
      rw [hc] at HN
      clear hc
      obtain ⟨r1, r2⟩ := raw_enc L []
      rw [List.length_nil, Nat.zero_add] at r1 r2
      by_cases h3 : 4096 < L.enc.length
      · have E : Hid (encP L = .error 2) := by unfold encP; rw [if_neg (by simpa using h1), if_neg h2, if_pos h3]; rfl
        have h4 := r2 h3
        clear h1 r1 r2
        go_enter Tryd.func30, Tryd.ntmps30
        go_wp2_with (first | (go_at_call 50; refine HC.out.mono ?_; rintro e w1 ⟨rfl, hb⟩; have HB := Lib.hid hb; clear hb) | (go_at_call 51; refine (HN.out _ HB.out).mono ?_; rintro e w2 ⟨rfl, rfl⟩) | (go_at_call 52; refine (HR.out _ HB.out).mono ?_; rintro e w3 ⟨v3, rfl, hv3, hb3⟩; obtain ⟨a3, c3, rfl⟩ := hv3.form2; have Hv3 := Lib.hid hv3; have Hb3 := Lib.hid hb3; clear hv3 hb3))
        go_ret2
        exact BytesOut.no E.out (HB.out.trans (Hb3.out.mono HB.out.size))
      · have E : Hid (encP L = .ok L.enc) := by unfold encP; rw [if_neg (by simpa using h1), if_neg h2, if_neg h3]; rfl
        have r3 := r1 (by omega)
        rw [List.nil_append] at r3
        rw [r3] at HR
        clear h1 r1 r2 r3
        go_enter Tryd.func30, Tryd.ntmps30
        go_wp2_with (first | (go_at_call 50; refine HC.out.mono ?_; rintro e w1 ⟨rfl, hb⟩; have HB := Lib.hid hb; clear hb) | (go_at_call 51; refine (HN.out _ HB.out).mono ?_; rintro e w2 ⟨rfl, rfl⟩) | (go_at_call 52; refine (HR.out _ HB.out).mono ?_; rintro e w3 ⟨v3, rfl, hv3, hb3⟩; obtain ⟨a3, c3, rfl⟩ := hv3.form2; have Hv3 := Lib.hid hv3; have Hb3 := Lib.hid hb3; clear hv3 hb3))
        go_ret2
        exact BytesOut.yes E.out (Hv3.out.keep fun b hs _ => ⟨rfl, Nat.le_trans HB.out.size hs.1, hs.2⟩) (HB.out.trans (Hb3.out.mono HB.out.size))
  · have E : Hid (encP L = .error (L.chk 1)) := by unfold encP; rw [if_pos h1]; rfl
    have n0 : ((L.chk 1) != 0) = true := by simp [h1]
    clear h1
    go_enter Tryd.func30, Tryd.ntmps30
    go_wp2_with (first | (go_at_call 50; refine HC.out.mono ?_; rintro e w1 ⟨rfl, hb⟩; have HB := Lib.hid hb; clear hb))
    go_ret2
    exact BytesOut.no E.out HB.out
end Go.Proofs.YtdpiehhblflacaaDoor
