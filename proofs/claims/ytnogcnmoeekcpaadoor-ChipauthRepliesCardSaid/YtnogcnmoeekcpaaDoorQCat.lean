/- Digest: the walks of Pad, both sides. -/
import Derived.Test.YtnogcnmoeekcpaaDoorDig1
import Derived.Test.YtnogcnmoeekcpaaDoorAppB
import Derived.KernelRfl
import Derived.Test.YtnogcnmoeekcpaaDoorZeros
namespace Go.Proofs.YtnogcnmoeekcpaaDoor
open Go.RowKit Go.Deep

theorem eight_two (z : Int) (h0 : 0 ≤ z) (h1 : z < 18446744073709551616) : bytesW (ofW (z / 4294967296)) ++ bytesW (ofW z) = eightB z := by
  have d : ∀ (a : UInt32) (k : Int), 0 ≤ k → k < 4294967296 → wv (a / ofW k) = wv a / k := fun a k h h' => (wv_div a k h h').symm
  unfold bytesW eightB
  rw [d _ 16777216 (by omega) (by omega), d _ 65536 (by omega) (by omega), d _ 256 (by omega) (by omega), d _ 16777216 (by omega) (by omega), d _ 65536 (by omega) (by omega), d _ 256 (by omega) (by omega), wv_ofW, wv_ofW]
  show [_, _, _, _, _, _, _, _] = _
  congr 1
  · exact ofI_congr (by omega)
  congr 1
  · exact ofI_congr (by omega)
  congr 1
  · exact ofI_congr (by omega)
  congr 1
  · exact ofI_congr (by omega)
  congr 1
  · exact ofI_congr (by omega)
  congr 1
  · exact ofI_congr (by omega)
  congr 1
  · exact ofI_congr (by omega)
  congr 1
  exact ofI_congr (by omega)
theorem eight_take (z : Int) {i j : Nat} (h : i + j = 7) : (eightB z).take (j + 1) = (eightB z).take j ++ [ofI (z / 2 ^ (8 * i))] := by
  obtain rfl | rfl | rfl | rfl | rfl | rfl | rfl | rfl : j = 0 ∨ j = 1 ∨ j = 2 ∨ j = 3 ∨ j = 4 ∨ j = 5 ∨ j = 6 ∨ j = 7 := by omega
  · obtain rfl : i = 7 := by omega
    simp [eightB]
  · obtain rfl : i = 6 := by omega
    simp [eightB]
  · obtain rfl : i = 5 := by omega
    simp [eightB]
  · obtain rfl : i = 4 := by omega
    simp [eightB]
  · obtain rfl : i = 3 := by omega
    simp [eightB]
  · obtain rfl : i = 2 := by omega
    simp [eightB]
  · obtain rfl : i = 1 := by omega
    simp [eightB]
  · obtain rfl : i = 0 := by omega
    simp [eightB]
theorem lit128 (w : World) : BsS (w.alloc (.cells #[.int .u8 128] 5)) (New w (w.alloc (.cells #[.int .u8 128] 5))) (.slice (some ⟨w.heap.size, 0, none⟩) 1 1) [128] := lit_row w [128] _ (by simp) _ rfl
theorem litZero (w : World) : BsS (w.alloc (.cells #[.int .u8 0] 5)) (New w (w.alloc (.cells #[.int .u8 0] 5))) (.slice (some ⟨w.heap.size, 0, none⟩) 1 1) [0] := lit_row w [0] _ (by simp) _ rfl
theorem own_later {w w' : World} {base : Nat} {v : Value} {l : List UInt8} (h : OwnB w base v l) (hb : Below w.heap.size w w') : OwnB w' base v l := by
  refine ⟨h.1, ?_⟩
  rcases h.2 with h0 | ⟨g, cap, cur, hv, hb', hh, r⟩
  · exact .inl h0
  · exact .inr ⟨g, cap, cur, hv, hb', (hb.block g (Array.getElem?_eq_some_iff.1 hh).1).trans hh, r⟩
def padL0 (l : List UInt8) (j : Nat) : List UInt8 := l ++ [128] ++ List.replicate j 0
theorem padL0_len (l : List UInt8) (j : Nat) : (padL0 l j).length = l.length + 1 + j := by simp [padL0]; omega
theorem padL0_next (l : List UInt8) (j : Nat) : padL0 l (j + 1) = padL0 l j ++ [0] := by unfold padL0; rw [List.replicate_succ', ← List.append_assoc]
set_option maxRecDepth 100000 in
set_option maxHeartbeats 1000000 in
theorem pad64_any (v : Value) (l : List UInt8) (hl : l.length ≤ 140737488355000) (w : World) (hv : Bs w w.heap.size v l) :
    Calls Tryd.prog 49 #[v] w fun e w' => ∃ v', e = .returned v' ∧ OwnB w' w.heap.size v' (padW l) ∧ Below w.heap.size w w' := by
  obtain ⟨A, n, c, rfl⟩ := hv.form
  obtain rfl := Bs.lenEq hv
  have HC := Lib.hid (clone_any _ l w hv)
  have HL := Lib.hid hl
  have hl2 : (l.length : Int) ≤ 140737488355000 := by omega
  clear hv
  go_enter Tryd.func49, Tryd.ntmps49
  go_wp2_with (first
    | (at_builtin; (with_reducible refine wpList_more (w := w1.alloc (.cells #[.int .u8 128] 5)) rfl (.tmp 6) (.tmp 7) rfl w.heap.size (.slice A1 l.length c1) l rfl (HO1.out.alloc _) (some ⟨w1.heap.size, 0, none⟩) 1 1 [128] (New w1 (w1.alloc (.cells #[.int .u8 128] 5))) rfl (lit128 w1) (by have := HL.out; simp only [List.length_singleton]; omega) (by have := HB1.out.size; simp; omega) ?_); intro o2 w2 hG; obtain ⟨A2, c2, ho2⟩ := hG.1.form; rw [List.length_append, List.length_singleton] at ho2; subst ho2; have HO2 := Lib.hid hG.1; have HB2 := Lib.hid ((HB1.out.alloc HB1.out.size (.cells #[.int .u8 128] 5)).trans hG.2.1); clear hG)
    | (go_at_call 62; refine HC.out.mono ?_; rintro e w1 ⟨v1, rfl, ho, hb⟩; obtain ⟨A1, c1, rfl⟩ := OwnB.form ho; have HO1 := Lib.hid ho; have HB1 := Lib.hid hb; clear ho hb))
  go_loopg [3] (padZ l.length) (fun m ov wr => ∃ (j N : Nat) (A c : _), j + m = padZ l.length ∧ N = l.length + 1 + j ∧ ov = .slice A N c ∧ Hid (OwnB wr w.heap.size (.slice A N c) (padL0 l j)) ∧ Below w.heap.size w wr)
  case atStart => exact ⟨0, l.length + 1, A2, c2, by omega, rfl, rfl, Lib.hid (by unfold padL0; simpa using HO2.out), HB2.out⟩
  case round =>
    obtain ⟨j, N, A3, c3, hj, hN, rfl, HO, hb⟩ := hrel
    have HB := Lib.hid hb
    have hsz := hb.size
    have hp : padZ l.length = (119 - l.length % 64) % 64 := rfl
    have hN2 : N ≤ 140737488355100 := by omega
    by_cases hlt : j < padZ l.length
    · have t1 : ((N : Int) % 64 != 56) = true := by simp; omega
      have HNN : Hid ((padL0 l j).length = N) := Lib.hid (by rw [padL0_len]; exact hN.symm)
      have HN2 := Lib.hid hN2
      clear hp hb
      go_wp2_with (at_builtin; (with_reducible refine wpList_more (w := wr.alloc (.cells #[.int .u8 0] 5)) rfl (.tmp 13) (.tmp 14) rfl w.heap.size (.slice A3 N c3) (padL0 l j) rfl (OwnB.alloc HO.out _) (some ⟨wr.heap.size, 0, none⟩) 1 1 [0] (New wr (wr.alloc (.cells #[.int .u8 0] 5))) rfl (litZero wr) (by rw [HNN.out]; have := HN2.out; simp only [List.length_singleton]; omega) (by have := HB.out.size; simp; omega) ?_); intro o4 w4 hG; rw [← padL0_next] at hG; obtain ⟨A4, c4, ho4⟩ := hG.1.form; rw [padL0_len] at ho4; subst ho4; have HO4 := Lib.hid hG.1; have HB4 := Lib.hid ((HB.out.alloc HB.out.size (.cells #[.int .u8 0] 5)).trans hG.2.1); clear hG)
      go_roundg (padZ l.length - (j + 1))
      case measure => omega
      case rel => exact ⟨j + 1, l.length + 1 + (j + 1), A4, c4, by omega, rfl, rfl, HO4, HB4.out⟩
    · obtain rfl : j = padZ l.length := by omega
      have t1 : ((N : Int) % 64 != 56) = false := by simp; omega
      have HNN : Hid ((padL0 l (padZ l.length)).length = N) := Lib.hid (by rw [padL0_len]; exact hN.symm)
      have HN2 := Lib.hid hN2
      obtain ⟨z, hz⟩ : ∃ z : Int, 8 * (l.length : Int) = z := ⟨_, rfl⟩
      have hz0 : 0 ≤ z := by omega
      have hz1 : z < 18446744073709551616 := by omega
      have E : Hid (padL0 l (padZ l.length) ++ bytesW (ofW (z / 4294967296)) ++ bytesW (ofW z) = padW l) := Lib.hid (by rw [List.append_assoc, eight_two z hz0 hz1, ← hz]; rfl)
      have HX : Hid (∀ w, Calls Tryd.prog 51 #[.int .u32 (z / 4294967296)] w fun e w' => ∃ v', e = .returned v' ∧ BsS w' (New w w') v' (bytesW (ofW (z / 4294967296))) ∧ Below w.heap.size w w') := Lib.hid (fun w => by
        have h := bytesOf_any (ofW (z / 4294967296)) w
        have e : W32 (ofW (z / 4294967296)) = Value.int .u32 (z / 4294967296) := by show Value.int .u32 (wv (ofW (z / 4294967296))) = _; rw [wv_in (by omega) (by omega)]
        rwa [e] at h)
      have HY := Lib.hid (fun w => bytesOf_any (ofW z) w)
      clear hp hlt hN hj hb
      go_wp2_with (first
        | (at_builtin; (with_reducible refine wpList_more rfl (.tmp 25) (.tmp 28) rfl w.heap.size v6 (padL0 l (padZ l.length) ++ bytesW (ofW (z / 4294967296))) rfl HO7.out A7 4 c7 (bytesW (ofW z)) (New w6 w7) rfl HS7.out (by rw [List.length_append, HNN.out, bytesW_len, bytesW_len]; have := HN2.out; omega) HB7.out.size ?_); intro v8 w8 hG; rw [E.out] at hG; have HO8 := Lib.hid hG.1; have HB8 := Lib.hid (HB7.out.trans hG.2.1); clear hG)
        | (at_builtin; (with_reducible refine wpList_more rfl (.tmp 20) (.tmp 24) rfl w.heap.size (.slice A3 N c3) (padL0 l (padZ l.length)) rfl HO5.out A5 4 c5 (bytesW (ofW (z / 4294967296))) (New wr w5) rfl HS5.out (by rw [HNN.out, bytesW_len]; have := HN2.out; omega) HB5.out.size ?_); intro v6 w6 hG; have HO6 := Lib.hid hG.1; have HB6 := Lib.hid (HB5.out.trans hG.2.1); clear hG)
        | (go_at_call 51; refine (HY.out w6).mono ?_; rintro e w7 ⟨v7, rfl, hs, hb⟩; obtain ⟨A7, c7, rfl⟩ : ∃ A c, v7 = .slice A 4 c := (by obtain ⟨a, c, e, _⟩ := hs; exact ⟨a, c, e⟩); have HS7 := Lib.hid hs; have HB7 := Lib.hid (HB6.out.trans (hb.mono HB6.out.size)); have HO7 := Lib.hid (own_later HO6.out hb); clear hs hb)
        | (go_at_call 51; refine (HX.out wr).mono ?_; rintro e w5 ⟨v5, rfl, hs, hb⟩; obtain ⟨A5, c5, rfl⟩ : ∃ A c, v5 = .slice A 4 c := (by obtain ⟨a, c, e, _⟩ := hs; exact ⟨a, c, e⟩); have HS5 := Lib.hid hs; have HB5 := Lib.hid (HB.out.trans (hb.mono HB.out.size)); have HO5 := Lib.hid (own_later HO.out hb); clear hs hb))
      go_ret
      exact ⟨_, rfl, HO8.out, HB8.out⟩
set_option maxRecDepth 100000 in
set_option maxHeartbeats 1000000 in
theorem rpad64_any (v : Value) (l : List UInt8) (hl : l.length ≤ 140737488355000) (w : World) (hv : Bs w w.heap.size v l) :
    Calls Tryd.prog 53 #[v] w fun e w' => ∃ v', e = .returned v' ∧ OwnB w' w.heap.size v' (padW l) ∧ Below w.heap.size w w' := by
  obtain ⟨A, n, c, rfl⟩ := hv.form
  obtain rfl := Bs.lenEq hv
  have HV := Lib.hid hv
  have HL := Lib.hid hl
  have hl2 : (l.length : Int) ≤ 140737488355000 := by omega
  clear hv
  go_enter Tryd.func53, Tryd.ntmps53
  go_wp2_with (first
    | (at_builtin; (with_reducible refine wpList_more (w := w1.alloc (.cells #[.int .u8 128] 5)) rfl (.tmp 7) (.tmp 8) rfl w.heap.size (.slice A1 l.length c1) l rfl (OwnB.alloc HO1.out _) (some ⟨w1.heap.size, 0, none⟩) 1 1 [128] (New w1 (w1.alloc (.cells #[.int .u8 128] 5))) rfl (lit128 w1) (by have := HL.out; simp only [List.length_singleton]; omega) (by have := HB1.out.size; simp; omega) ?_); intro o2 w2 hG; obtain ⟨A2, c2, ho2⟩ := hG.1.form; rw [List.length_append, List.length_singleton] at ho2; subst ho2; have HO2 := Lib.hid hG.1; have HB2 := Lib.hid ((HB1.out.alloc HB1.out.size (.cells #[.int .u8 128] 5)).trans hG.2.1); clear hG)
    | (at_builtin; (with_reducible refine wpList_more rfl (.const (.slice none 0 0)) (.tmp 6) rfl w.heap.size (.slice none 0 0) [] rfl (OwnB.nil _ _) A l.length c l _ rfl HV.out (by have := HL.out; simp only [List.length_nil]; omega) (Nat.le_refl _) ?_); intro o1 w1 hG; rw [List.nil_append] at hG; obtain ⟨A1, c1, ho1⟩ := hG.1.form; subst ho1; have HO1 := Lib.hid hG.1; have HB1 := Lib.hid hG.2.1; clear hG))
  go_loopg [3] (padZ l.length) (fun m ov wr => ∃ (j N : Nat) (A c : _), j + m = padZ l.length ∧ N = l.length + 1 + j ∧ ov = .slice A N c ∧ Hid (OwnB wr w.heap.size (.slice A N c) (padL0 l j)) ∧ Below w.heap.size w wr)
  case atStart => exact ⟨0, l.length + 1, A2, c2, by omega, rfl, rfl, Lib.hid (by unfold padL0; simpa using HO2.out), HB2.out⟩
  case round =>
    obtain ⟨j, N, A3, c3, hj, hN, rfl, HO, hb⟩ := hrel
    have HB := Lib.hid hb
    have hsz := hb.size
    have hp : padZ l.length = (119 - l.length % 64) % 64 := rfl
    have hN2 : N ≤ 140737488355100 := by omega
    by_cases hlt : j < padZ l.length
    · have t1 : ((N : Int) % 64 != 56) = true := by simp; omega
      have HNN : Hid ((padL0 l j).length = N) := Lib.hid (by rw [padL0_len]; exact hN.symm)
      have HN2 := Lib.hid hN2
      clear hp hb
      go_wp2_with (at_builtin; (with_reducible refine wpList_more (w := wr.alloc (.cells #[.int .u8 0] 5)) rfl (.tmp 14) (.tmp 15) rfl w.heap.size (.slice A3 N c3) (padL0 l j) rfl (OwnB.alloc HO.out _) (some ⟨wr.heap.size, 0, none⟩) 1 1 [0] (New wr (wr.alloc (.cells #[.int .u8 0] 5))) rfl (litZero wr) (by rw [HNN.out]; have := HN2.out; simp only [List.length_singleton]; omega) (by have := HB.out.size; simp; omega) ?_); intro o4 w4 hG; rw [← padL0_next] at hG; obtain ⟨A4, c4, ho4⟩ := hG.1.form; rw [padL0_len] at ho4; subst ho4; have HO4 := Lib.hid hG.1; have HB4 := Lib.hid ((HB.out.alloc HB.out.size (.cells #[.int .u8 0] 5)).trans hG.2.1); clear hG)
      go_roundg (padZ l.length - (j + 1))
      case measure => omega
      case rel => exact ⟨j + 1, l.length + 1 + (j + 1), A4, c4, by omega, rfl, rfl, HO4, HB4.out⟩
    · obtain rfl : j = padZ l.length := by omega
      have t1 : ((N : Int) % 64 != 56) = false := by simp; omega
      have HNN : Hid ((padL0 l (padZ l.length)).length = N) := Lib.hid (by rw [padL0_len]; exact hN.symm)
      have HN2 := Lib.hid hN2
      obtain ⟨z, hz⟩ : ∃ z : Int, 8 * (l.length : Int) = z := ⟨_, rfl⟩
      have hz0 : 0 ≤ z := by omega
      have hz1 : z ≤ 1125899906840000 := by omega
      have E : Hid (padL0 l (padZ l.length) ++ eightB z = padW l) := Lib.hid (by rw [← hz]; rfl)
      obtain ⟨wo, rfl⟩ : ∃ wo : World, wo = wr := ⟨_, rfl⟩
      clear hp hlt hN hj hb
      go_wp2_with fail
      go_loopg [3, 5] 8 (fun m ov iv wr => ∃ (i M : Nat) (A c : _), i + m = 8 ∧ M = N + i ∧ ov = .slice A M c ∧ iv = .int .i64 (7 - (i : Int)) ∧ Hid (OwnB wr w.heap.size (.slice A M c) (padL0 l (padZ l.length) ++ (eightB z).take i)) ∧ Below w.heap.size w wr)
      case atStart => exact ⟨0, N, A3, c3, by omega, rfl, rfl, rfl, Lib.hid (by simpa using HO.out), HB.out⟩
      case round =>
        obtain ⟨i, M, A4, c4, hi, hM, rfl, rfl, HO4, hb4⟩ := hrel
        have HB4 := Lib.hid hb4
        have hsz4 := hb4.size
        have hM2 : M ≤ 140737488355200 := by omega
        clear hb4
        by_cases hlt : i < 8
        · obtain ⟨q, hq⟩ : ∃ q : Nat, q + i = 7 := ⟨7 - i, by omega⟩
          have hqi : (7 : Int) - i = q := by omega
          have hqi2 : (q : Int) - 1 = 7 - ((i + 1 : Nat) : Int) := by omega
          have hq7 : q ≤ 7 := by omega
          have hq0 : (0 : Int) ≤ q := by omega
          have HT := Lib.hid (eight_take z hq)
          have HMM : Hid ((padL0 l (padZ l.length) ++ (eightB z).take i).length = M) := Lib.hid (by
            have h : (eightB z).length = 8 := rfl
            rw [List.length_append, HNN.out, List.length_take, h]; omega)
          have HM5 : Hid ((padL0 l (padZ l.length) ++ (eightB z).take (i + 1)).length = N + (i + 1)) := Lib.hid (by
            have h : (eightB z).length = 8 := rfl
            rw [List.length_append, HNN.out, List.length_take, h]; omega)
          have HM2 := Lib.hid hM2
          have HI2 := Lib.hid hqi2
          rw [hqi]
          clear hqi hqi2
          go_wp2_with (at_builtin; (with_reducible refine wpList_push1 (w := wr) rfl (.tmp 24) (.tmp 31) rfl w.heap.size (.slice A4 M c4) (padL0 l (padZ l.length) ++ (eightB z).take i) rfl HO4.out (ofI (z / 2 ^ (8 * q))) 5 wr.heap.size rfl rfl (by rw [HMM.out]; have := HM2.out; omega) hsz4 ?_); intro o5 w5 hG; rw [List.append_assoc, ← HT.out] at hG; obtain ⟨A5, c5, ho5⟩ := hG.1.form; rw [HM5.out] at ho5; subst ho5; have HO5 := Lib.hid hG.1; have HB5 := Lib.hid (HB4.out.trans hG.2.1); clear hG)
          go_roundg (8 - (i + 1))
          case measure => omega
          case rel => exact ⟨i + 1, N + (i + 1), A5, c5, by omega, rfl, rfl, by rw [← HI2.out], HO5, HB5.out⟩
        · obtain rfl : i = 8 := by omega
          have hneg : decide ((7 : Int) - ((8 : Nat) : Int) ≥ 0) = false := by decide
          have E3 : Hid (padL0 l (padZ l.length) ++ (eightB z).take 8 = padW l) := Lib.hid (by rw [← E.out]; rfl)
          rw [E3.out] at HO4
          clear hi hM
          go_wp2_with fail
          go_ret
          exact ⟨_, rfl, HO4.out, HB4.out⟩
theorem padW_len2 (b : List UInt8) : (padW b).length = b.length + 1 + padZ b.length + 8 := by simp [padW, eightB]; omega
end Go.Proofs.YtnogcnmoeekcpaaDoor
/- Numbers in four bytes, both sides; two slices of bytes joined, both sides. -/
namespace Go.Proofs.YtnogcnmoeekcpaaDoor
open Go.RowKit Go.Deep

def fourO (k : Int) : List UInt8 := [ofI (k / 16777216), ofI (k / 65536), ofI (k / 256), ofI k]
set_option maxRecDepth 100000 in
set_option maxHeartbeats 1000000 in
theorem four_o (k : Int) (w : World) (h0 : 0 ≤ k) (h1 : k < 4294967296) : Calls Tryd.prog 52 #[.int .i64 k] w fun e w' => ∃ v', e = .returned v' ∧ BsS w' (New w w') v' (fourO k) ∧ Below w.heap.size w w' := by
  go_enter Tryd.func52, Tryd.ntmps52
  go_wp2_with fail
  go_ret
  refine ⟨_, rfl, ?_, (Below.refl _ _).alloc (Nat.le_refl _) _⟩
  have e : ∀ z : Int, Value.int .u8 (z % 256) = U8 (ofI z) := fun z => val_mod z
  have e0 : Value.int .u8 (k / 16777216) = U8 (ofI (k / 16777216)) := by rw [← val_mod, Int.emod_eq_of_lt (by omega) (by omega)]
  rw [e0, e, e, e]
  exact lit_row w (fourO k) _ (by simp [fourO]) _ rfl
theorem make4o (w : World) : (Instr.makeSlice 22 (.int .i64 4) (.int .i64 4)).run Tryd.prog w = .ok (.slice (some ⟨w.heap.size, 0, none⟩) 4 4) (w.alloc (.cells #[.int .u8 0, .int .u8 0, .int .u8 0, .int .u8 0] 5)) := by kernel_rfl
def octRo (k : Int) (j : Nat) : Array Value := #[U8 (if 4 ≤ j then ofI (k / 16777216) else 0), U8 (if 3 ≤ j then ofI (k / 65536) else 0), U8 (if 2 ≤ j then ofI (k / 256) else 0), U8 (if 1 ≤ j then ofI k else 0)]
theorem row_sets {w : World} {g o : Nat} {C : Array Value} {t : TypeId} {f : Nat × Nat} {v : Value} (h : w.heap[g]? = some (.cells C t f)) : (w.setCell ⟨g, o, none⟩ v).heap[g]? = some (.cells (C.set! o v) t f) := by
  unfold World.setCell
  simp [Array.getElem?_modify, h]
set_option maxRecDepth 100000 in
set_option maxHeartbeats 1000000 in
theorem octets_o (k : Int) (w : World) (h0 : 0 ≤ k) (h1 : k < 4294967296) : Calls Tryd.prog 46 #[.int .i64 k, .int .i64 4] w fun e w' => ∃ v', e = .returned (.tuple #[v', .int .i64 0]) ∧ BsS w' (New w w') v' (fourO k) ∧ Below w.heap.size w w' := by
  have g1 : decide (k < 0) = false := decide_eq_false (by omega)
  have g2 : (k / 4294967296 != 0) = false := by simp; omega
  have hm := make4o w
  have hB0 : Below w.heap.size w (w.alloc (.cells #[.int .u8 0, .int .u8 0, .int .u8 0, .int .u8 0] 5)) := (Below.refl _ _).alloc (Nat.le_refl _) _
  have HB0 := Lib.hid hB0
  clear hB0
  go_enter Tryd.func46, Tryd.ntmps46
  go_wp2_with fail
  go_loopg [26] 4 (fun m i wr => ∃ j n : Nat, n = m ∧ j + n = 4 ∧ i = .int .i64 j ∧ wr.heap[w.heap.size]? = some (.cells (octRo k j) 5 (0, 0)) ∧ Below w.heap.size w wr)
  case atStart => exact ⟨0, 4, rfl, rfl, rfl, heap_alloc_new _ _, HB0.out⟩
  case round =>
    obtain ⟨j, n, rfl, hj, rfl, hr, hb⟩ := hrel
    have HB := Lib.hid hb; have HR := Lib.hid hr
    have hf : ∀ o, wr.frozen? ⟨w.heap.size, o, none⟩ = false := fun o => by simp [World.frozen?, hr]
    have hc : ∀ o, o < 4 → wr.cell? ⟨w.heap.size, o, none⟩ = (octRo k j)[o]? := fun o ho => by rw [cell_of_row _ _ _ _ _ _ hr]
    clear hr hb
    obtain rfl | rfl | rfl | rfl | rfl : j = 0 ∨ j = 1 ∨ j = 2 ∨ j = 3 ∨ j = 4 := by omega
    · obtain rfl : n = 4 := by omega
      go_wp2_with fail
      go_roundg 3
      case measure => omega
      case rel =>
        have hs := row_sets (o := 3) (v := .int .u8 (k % 256)) HR.out
        rw [show Value.int .u8 (k % 256) = U8 (ofI k) from val_mod k] at hs
        exact ⟨1, 3, rfl, rfl, rfl, hs, HB.out.setCell (Nat.le_refl _) _⟩
    · obtain rfl : n = 3 := by omega
      go_wp2_with fail
      go_roundg 2
      case measure => omega
      case rel =>
        have hs := row_sets (o := 2) (v := .int .u8 (k / 256 % 256)) HR.out
        rw [show Value.int .u8 (k / 256 % 256) = U8 (ofI (k / 256)) from val_mod (k / 256)] at hs
        exact ⟨2, 2, rfl, rfl, rfl, hs, HB.out.setCell (Nat.le_refl _) _⟩
    · obtain rfl : n = 2 := by omega
      go_wp2_with fail
      go_roundg 1
      case measure => omega
      case rel =>
        have hs := row_sets (o := 1) (v := .int .u8 (k / 65536 % 256)) HR.out
        rw [show Value.int .u8 (k / 65536 % 256) = U8 (ofI (k / 65536)) from val_mod (k / 65536)] at hs
        exact ⟨3, 1, rfl, rfl, rfl, hs, HB.out.setCell (Nat.le_refl _) _⟩
    · obtain rfl : n = 1 := by omega
      go_wp2_with fail
      go_roundg 0
      case measure => omega
      case rel =>
        have hs := row_sets (o := 0) (v := .int .u8 (k / 16777216)) HR.out
        rw [show (octRo k 3).set! 0 (.int .u8 (k / 16777216)) = octRo k 4 by rw [show Value.int .u8 (k / 16777216) = U8 (ofI (k / 16777216)) by rw [← val_mod, Int.emod_eq_of_lt (by omega) (by omega)]]; rfl] at hs
        exact ⟨4, 0, rfl, rfl, rfl, hs, HB.out.setCell (Nat.le_refl _) _⟩
    · obtain rfl : n = 0 := by omega
      go_wp2_with fail
      go_ret2
      refine ⟨_, rfl, ⟨_, _, rfl, Nat.le_refl _, by simp, by simp [fourO], fun _ => ⟨w.heap.size, 0, rfl, ⟨Nat.le_refl _, (Array.getElem?_eq_some_iff.1 HR.out).1⟩, fun i hi => ?_⟩⟩, HB.out⟩
      rw [Nat.zero_add, cell_of_row _ _ _ _ _ _ HR.out, ← Array.getElem?_toList, show (octRo k 4).toList = (fourO k).map U8 from rfl]
      exact mapU8_get _ i hi
set_option maxRecDepth 100000 in
set_option maxHeartbeats 1000000 in
theorem join_any (va vb : Value) (a b : List UInt8) (S S' : Nat → Prop) (w : World) (ha : BsS w S va a) (hb : BsS w S' vb b) (hl : a.length + b.length ≤ 140737488355000) :
    Calls Tryd.prog 59 #[va, vb] w fun e w' => ∃ v', e = .returned v' ∧ OwnB w' w.heap.size v' (a ++ b) ∧ Below w.heap.size w w' := by
  obtain ⟨A, n, c, rfl⟩ : ∃ A n c, va = .slice A n c := by obtain ⟨a, c, e, _⟩ := ha; exact ⟨_, _, _, e⟩
  obtain ⟨B, m, d, rfl⟩ : ∃ A n c, vb = .slice A n c := by obtain ⟨a, c, e, _⟩ := hb; exact ⟨_, _, _, e⟩
  have HA := Lib.hid ha; have HB := Lib.hid hb; have HL := Lib.hid hl
  clear ha hb
  go_enter Tryd.func59, Tryd.ntmps59
  go_wp2_with (first
    | (at_builtin; (with_reducible refine wpList_more rfl (.tmp 6) (.tmp 7) rfl w.heap.size v1 a rfl HO1.out B m d b (fun g => S' g ∧ g < w.heap.size) rfl HB1.out (by have := HL.out; omega) HBW.out.size ?_); intro v2 w2 hG; have HO2 := Lib.hid hG.1; have HB2 := Lib.hid (HBW.out.trans hG.2.1); clear hG)
    | (at_builtin; (with_reducible refine wpList_more rfl (.const (.slice none 0 0)) (.tmp 5) rfl w.heap.size (.slice none 0 0) [] rfl (OwnB.nil _ _) A n c a S rfl HA.out (by have := HL.out; simp only [List.length_nil]; omega) (Nat.le_refl _) ?_); intro v1 w1 hG; rw [List.nil_append] at hG; have HO1 := Lib.hid hG.1; have HBW := Lib.hid hG.2.1; have HB1 : Hid (BsS w1 (fun g => S' g ∧ g < w.heap.size) (.slice B m d) b) := Lib.hid (BsS.keep HB.out fun g hs hl => ⟨hG.2.1.block g hl, hs, hl⟩); clear hG))
  go_ret
  exact ⟨_, rfl, HO2.out, HB2.out⟩
end Go.Proofs.YtnogcnmoeekcpaaDoor
/- slices.Grow of nil, slices.Concat of slices of bytes. -/
namespace Go.Proofs.YtnogcnmoeekcpaaDoor
open Go.RowKit Go.Deep

theorem wpList_zerosN {ops : Array Oper} {rest : List Oper} {op : Oper} {a : Act} {w : World} {Q : Exit → Act → World → Prop} (hgd : op.guard = none) (s x : Operand)
    (ho : op.op = .call { callee := .builtin .append, args := #[s, x], argTypes := #[22, 3] })
    (base : Nat) (v : Value) (l : List UInt8) (hs : a.eval s = v) (hown : OwnB w base v l) (k : Nat) (hk : 0 < k) (hx : a.eval x = .int .i64 k) (hl : l.length + k ≤ 140737488355328) (hbase : base ≤ w.heap.size)
    (h : ∀ v' w', OwnB w' base v' (l ++ List.replicate k 0) → Below base w w' → wpList Tryd.prog ops Q rest (a.put op.dst v') w') : wpList Tryd.prog ops Q (op :: rest) a w := by
  obtain ⟨v', w', hr, ho', hg⟩ := run_append_zeros (P := Tryd.prog) w base 22 3 op.type 5 (.int .u8 0) 1 .i64 .i64 Tryd.underlying22 Tryd.underlying3 infoU8 rfl rfl (by omega) v l.length (l.map U8) hown k hk (by omega) hbase
  refine wpList_plain hgd fun K hK => ?_
  unfold Oper.wp execOp
  simp only [ho, resolve, invoke, builtin, Sem.run_bind, Sem.run_pure, Result.andThen_ok, List.map_toArray, List.map_cons, List.map_nil, hs, hx, hr]
  refine hK _ _ (h v' w' ?_ (below_append hown hg (Nat.le_refl _) hbase))
  show w'.ownsRow base 5 1 v' (l ++ List.replicate k 0).length ((l ++ List.replicate k 0).map U8)
  rw [List.length_append, List.length_replicate, List.map_append, List.map_replicate]
  exact ho'
theorem OwnB.none_of {w : World} {base n c : Nat} {A : Option Addr} {l : List UInt8} (h : OwnB w base (.slice A n c) l) (h0 : 0 < l.length) : OwnB w base (.slice A 0 c) [] := by
  rcases h.2 with ⟨_, h1⟩ | ⟨g, cap, cur, hv, hb, hh, _, hm, hs, _⟩
  · omega
  · obtain ⟨rfl, _, rfl⟩ := Value.slice.inj hv
    exact ⟨rfl, .inr ⟨g, c, cur, rfl, hb, hh, Nat.zero_le _, hm, hs, by simp⟩⟩
set_option maxRecDepth 100000 in
set_option maxHeartbeats 1000000 in
theorem grow_nil (n : Nat) (hn : n ≤ 140737488355328) (w : World) : Calls Tryd.prog 80 #[.slice none 0 0, .int .i64 n] w fun e w' => ∃ v', e = .returned v' ∧ OwnB w' w.heap.size v' [] ∧ Below w.heap.size w w' := by
  have hn2 : (n : Int) ≤ 140737488355328 := by omega
  by_cases h0 : n = 0
  · subst h0
    go_enter Tryd.func80, Tryd.ntmps80
    go_wp2_with fail
    go_ret
    exact ⟨_, rfl, OwnB.nil _ _, Below.refl _ _⟩
  · have hp : (n : Int) > 0 := by omega
    have HN := Lib.hid hn
    have HP : Hid (0 < n) := Lib.hid (by omega)
    clear h0
    go_enter Tryd.func80, Tryd.ntmps80
    go_wp2_with (at_builtin; (with_reducible refine wpList_zerosN rfl (.tmp 20) (.tmp 21) rfl w.heap.size (.slice none 0 0) [] rfl (OwnB.nil _ _) n HP.out rfl (by have := HN.out; simp only [List.length_nil]; omega) (Nat.le_refl _) ?_); intro v1 w1 ho hb; obtain ⟨A1, c1, e1⟩ := ho.form; rw [List.nil_append, List.length_replicate] at e1; subst e1; have HO1 := Lib.hid (OwnB.none_of ho (by rw [List.nil_append, List.length_replicate]; exact HP.out)); have HB1 := Lib.hid hb; clear ho hb)
    go_ret
    exact ⟨_, rfl, HO1.out, HB1.out⟩
def catL (L : List (Value × List UInt8)) : List UInt8 := (L.map (·.2)).flatten
theorem catL_snoc (L : List (Value × List UInt8)) (p : Value × List UInt8) : catL (L ++ [p]) = catL L ++ p.2 := by simp [catL]
theorem catL_app (L M : List (Value × List UInt8)) : (catL (L ++ M)).length = (catL L).length + (catL M).length := by simp [catL]
set_option maxRecDepth 100000 in
set_option maxHeartbeats 2000000 in
theorem concat_any (L : List (Value × List UInt8)) (g : Nat) (S : Nat → Prop) (w : World) (t : TypeId) (hg : w.heap[g]? = some (.cells (L.map (·.1)).toArray t (0, 0))) (hb : ∀ p ∈ L, BsS w S p.1 p.2) (hl : (catL L).length ≤ 140737488355000) (hn : L.length ≤ 1000) :
    Calls Tryd.prog 69 #[.slice (some ⟨g, 0, none⟩) L.length L.length] w fun e w' => ∃ v', e = .returned v' ∧ OwnB w' w.heap.size v' (catL L) ∧ Below w.heap.size w w' := by
  have hgl := (Array.getElem?_eq_some_iff.1 hg).1
  have HC : Hid (∀ j (h : j < L.length), w.cell? ⟨g, j, none⟩ = some L[j].1) := Lib.hid (fun j h => by
    rw [cell_of_row _ _ _ _ _ _ hg]
    simp [h])
  have HB := Lib.hid hb; have HL := Lib.hid hl
  clear hg hb
  go_enter Tryd.func69, Tryd.ntmps69
  go_wp2_with fail
  go_loopg [3, 11] L.length (fun m sv iv wr => ∃ (D R : List (Value × List UInt8)) (N : Nat), R.length = m ∧ N = (catL D).length ∧ sv = .int .i64 (N : Int) ∧ iv = .int .i64 D.length ∧ D.length + R.length = L.length ∧ Hid (D ++ R = L) ∧ w = wr)
  case atStart => exact ⟨[], L, 0, rfl, rfl, rfl, rfl, by simp, rfl, rfl⟩
  case round =>
    obtain ⟨D, R, N, rfl, hN, rfl, rfl, hj, hab, rfl⟩ := hrel
    cases R with
    | nil =>
      have hD : D = L := by have := hab.out; rwa [List.append_nil] at this
      have hN2 : N ≤ 140737488355000 := by rw [hN, hD]; exact hl
      have hN3 : (N : Int) ≤ 140737488355000 := by omega
      have HG := Lib.hid (grow_nil N (by omega) w)
      simp only [List.length_nil, Nat.add_zero] at hj
      clear hab hN hD hN2
      go_wp2_with (go_at_call 80; refine HG.out.mono ?_; rintro e w1 ⟨v1, rfl, ho, hb1⟩; obtain ⟨A1, c1, rfl⟩ : ∃ A c, v1 = .slice A 0 c := ho.form; have HO1 := Lib.hid ho; have HB1 := Lib.hid hb1; clear ho hb1)
      go_loopg [6, 27] L.length (fun m ov iv wr => ∃ (D R : List (Value × List UInt8)) (N : Nat) (A c : _), R.length = m ∧ N = (catL D).length ∧ ov = .slice A N c ∧ iv = .int .i64 D.length ∧ D.length + R.length = L.length ∧ Hid (D ++ R = L) ∧ Hid (OwnB wr w.heap.size (.slice A N c) (catL D)) ∧ Below w.heap.size w wr)
      case atStart => exact ⟨[], L, 0, A1, c1, rfl, rfl, rfl, rfl, by simp, rfl, HO1, HB1.out⟩
      case round =>
        obtain ⟨D, R, N, A2, c2, rfl, hN, rfl, rfl, hj, hab, HO2, hbr⟩ := hrel
        have HBR := Lib.hid hbr
        cases R with
        | nil =>
          have hD : D = L := by have := hab.out; rwa [List.append_nil] at this
          simp only [List.length_nil, Nat.add_zero] at hj
          clear hab hN
          go_wp2_with fail
          go_ret
          rw [hD] at HO2
          exact ⟨_, rfl, HO2.out, HBR.out⟩
        | cons p R =>
          obtain ⟨x, l⟩ := p
          simp only [List.length_cons] at hj
          have hlt : D.length < L.length := by omega
          have hlt' : (D.length : Int) < L.length := by omega
          have c0 := HC.out D.length hlt
          have en : L[D.length] = (x, l) := by simp [← hab.out]
          rw [en] at c0
          have hx := HB.out (x, l) (by rw [← hab.out]; simp)
          obtain ⟨ax, cx, hxe, _⟩ := id hx
          dsimp only at hxe
          subst hxe
          have q0 := (hbr.cell (p := ⟨g, D.length, none⟩) hgl).trans c0
          have HX : Hid (BsS wr (fun b => S b ∧ b < w.heap.size) (.slice ax l.length cx) l) := Lib.hid (BsS.keep hx fun b hs hl => ⟨hbr.block b hl, hs, hl⟩)
          have hlen : (catL D).length + l.length ≤ 140737488355000 := by
            have h := HL.out
            rw [← hab.out, catL_app] at h
            have h2 : l.length ≤ (catL ((.slice ax l.length cx, l) :: R)).length := by simp [catL]
            omega
          have HLN := Lib.hid hlen
          have HNN := Lib.hid hN
          have HAB : Hid (D ++ [(.slice ax l.length cx, l)] ++ R = L) := Lib.hid (by rw [List.append_assoc]; exact hab.out)
          clear en hx c0 hab hbr hN hlen
          go_wp2_with (at_builtin; (with_reducible refine wpList_more rfl (.tmp 31) (.tmp 32) rfl w.heap.size (.slice A2 N c2) (catL D) rfl HO2.out ax l.length cx l (fun b => S b ∧ b < w.heap.size) rfl HX.out (by have := HLN.out; omega) HBR.out.size ?_); intro o3 w3 hG; obtain ⟨A3, c3, e3⟩ := hG.1.form; rw [List.length_append, ← HNN.out] at e3; subst e3; have HO3 := Lib.hid hG.1; have HB3 := Lib.hid (HBR.out.trans hG.2.1); clear hG)
          go_roundg R.length
          case measure => simp
          case rel => exact ⟨D ++ [(.slice ax l.length cx, l)], R, N + l.length, A3, c3, rfl, by rw [catL_snoc, List.length_append, HNN.out], rfl, by rw [List.length_append, List.length_singleton]; go_num, by rw [List.length_append, List.length_singleton]; omega, HAB, Lib.hid (by rw [catL_snoc]; exact HO3.out), HB3.out⟩
    | cons p R =>
      obtain ⟨x, l⟩ := p
      simp only [List.length_cons] at hj
      have hlt : D.length < L.length := by omega
      have hlt' : (D.length : Int) < L.length := by omega
      have c0 := HC.out D.length hlt
      have en : L[D.length] = (x, l) := by simp [← hab.out]
      rw [en] at c0
      have hx := HB.out (x, l) (by rw [← hab.out]; simp)
      obtain ⟨ax, cx, hxe, _⟩ := hx
      dsimp only at hxe
      subst hxe
      have hlen : (catL D).length + l.length ≤ 140737488355000 := by
        have h := HL.out
        rw [← hab.out, catL_app] at h
        have h2 : l.length ≤ (catL ((.slice ax l.length cx, l) :: R)).length := by simp [catL]
        omega
      have hN2 : N + l.length ≤ 140737488355000 := by rw [hN]; exact hlen
      have HNN := Lib.hid hN
      have HAB : Hid (D ++ [(.slice ax l.length cx, l)] ++ R = L) := Lib.hid (by rw [List.append_assoc]; exact hab.out)
      clear en hab hN hlen
      go_wp2_with fail
      go_roundg R.length
      case measure => simp
      case rel => exact ⟨D ++ [(.slice ax l.length cx, l)], R, N + l.length, rfl, by rw [catL_snoc, List.length_append, HNN.out], by go_num, by rw [List.length_append, List.length_singleton]; go_num, by rw [List.length_append, List.length_singleton]; omega, HAB, rfl⟩
end Go.Proofs.YtnogcnmoeekcpaaDoor
