/- The walk of the statement AesStandard. Printed by gen/law5e.py. -/
import Derived.Test.YtiedfobnpcenkaaLaw5d
import Derived.Test.YtiedfobnpcenkaaHex
namespace Go.Proofs.Ytiedfobnpcenkaa
open Go.RowKit

theorem digits_all {s : ByteArray} {n : Nat} (h : (List.range n).all (fun k => decide (0 ≤ digV (gs s k))) = true) : ∀ k, k < n → 0 ≤ digV (gs s k) := fun k hk => by
  have := List.all_eq_true.1 h k (List.mem_range.2 hk)
  simpa using this
theorem unhexP (w : World) : Calls Try.prog 18 #[.string { data := #[48, 48, 49, 49, 50, 50, 51, 51, 52, 52, 53, 53, 54, 54, 55, 55, 56, 56, 57, 57, 97, 97, 98, 98, 99, 99, 100, 100, 101, 101, 102, 102] }] w (BytesErr w lp 0) := by
  refine (unhex_ok _ 16 rfl (by omega) (digits_all (by decide +kernel)) w).mono ?_
  rintro e w' ⟨v, rfl, h, hB⟩
  have e : unhexN { data := #[48, 48, 49, 49, 50, 50, 51, 51, 52, 52, 53, 53, 54, 54, 55, 55, 56, 56, 57, 57, 97, 97, 98, 98, 99, 99, 100, 100, 101, 101, 102, 102] } 16 = lp := by decide +kernel
  rw [e] at h
  exact ⟨v, rfl, Bs.of_own h (by decide), hB⟩
theorem unhexQ (w : World) : Calls Try.prog 18 #[.string { data := #[50, 98, 55, 101, 49, 53, 49, 54, 50, 56, 97, 101, 100, 50, 97, 54, 97, 98, 102, 55, 49, 53, 56, 56, 48, 57, 99, 102, 52, 102, 51, 99] }] w (BytesErr w lq0 0) := by
  refine (unhex_ok _ 16 rfl (by omega) (digits_all (by decide +kernel)) w).mono ?_
  rintro e w' ⟨v, rfl, h, hB⟩
  have e : unhexN { data := #[50, 98, 55, 101, 49, 53, 49, 54, 50, 56, 97, 101, 100, 50, 97, 54, 97, 98, 102, 55, 49, 53, 56, 56, 48, 57, 99, 102, 52, 102, 51, 99] } 16 = lq0 := by decide +kernel
  rw [e] at h
  exact ⟨v, rfl, Bs.of_own h (by decide), hB⟩
theorem keyX (w : World) : Calls Try.prog 19 #[] w (BytesOnly w K16) := (key_k w).mono fun _ _ ⟨v, h1, h2, h3⟩ => ⟨v, h1, h2.bs, h3⟩
theorem encO_std : encO K16 lp = lp10 := by
  unfold encO
  rw [if_pos ⟨K16_len, rfl⟩]
  show bList 16 (encS (gb K16) (gb lp) 10) = _
  rw [encS_eIter K16 lp K16_len 10, K16_lk, lpi10]
theorem encStd (k v : Value) (w : World) (hk : Bs w w.heap.size k K16) (hv : Bs w w.heap.size v lp) : Calls Try.prog 9 #[k, v] w (BytesErr w lp10 0) := by
  have := encOk k v K16 lp K16_len rfl w hk hv
  rwa [encO_std] at this
theorem expStd (v : Value) (w : World) (hv : Bs w w.heap.size v lq0) : Calls Try.prog 20 #[v] w (ListsErr w (keyL (gb lq0) 11) 0) := by
  have h := expX v lq0 w hv
  have e1 : expO lq0 = keyL (gb lq0) 11 := by unfold expO; exact if_pos rfl
  have e2 : expE lq0 = 0 := by unfold expE; exact if_pos rfl
  rwa [e1, e2] at h
theorem keys_ten {w : World} {B : Nat} {k : Value} (h : LBs w B k (keyL (gb lq0) 11)) : ∃ (c : Nat) (b off : Nat) (x : Value), k = .slice (some ⟨b, off, none⟩) 11 c ∧ w.cell? ⟨b, off + 10, none⟩ = some x ∧ BsS w (· < B) x lq10 ∧ b < B := by
  obtain ⟨a, c, xs, hv, h1, h2, hE, h4⟩ := h
  rw [keyL_len] at hv h4
  obtain ⟨b, off, rfl, hb, hc⟩ := h4 (by omega)
  have hx : xs[10]? = some (xs[10]'(by rw [hE.1, keyL_len]; omega)) := List.getElem?_eq_getElem _
  have hr := hE.2 10 _ hx
  have e : gl (keyL (gb lq0) 11) 10 = lq10 := by
    have : gl (keyL (gb lq0) 11) 10 = bList 16 (keyF fwd (gb lq0) 10) := by simp [gl, keyL]
    rw [this, keyF_kIter lq0 rfl 10, lqi10]
  rw [e] at hr
  exact ⟨c, b, off, _, hv, hc 10 _ hx, hr, hb⟩
theorem hexStd (v : Value) (w : World) (hv : Bs w w.heap.size v lp10) : Calls Try.prog 21 #[v] w fun e w' => e = .returned (.string { data := #[54, 57, 99, 52, 101, 48, 100, 56, 54, 97, 55, 98, 48, 52, 51, 48, 100, 56, 99, 100, 98, 55, 56, 48, 55, 48, 98, 52, 99, 53, 53, 97] }) ∧ Below w.heap.size w w' := by
  have h := hex_any v lp10 (by decide) _ w hv
  have e : hexS lp10 = [54, 57, 99, 52, 101, 48, 100, 56, 54, 97, 55, 98, 48, 52, 51, 48, 100, 56, 99, 100, 98, 55, 56, 48, 55, 48, 98, 52, 99, 53, 53, 97] := by decide +kernel
  rwa [e] at h
theorem hexStd2 (v : Value) (w : World) (hv : Bs w w.heap.size v lq10) : Calls Try.prog 21 #[v] w fun e w' => e = .returned (.string { data := #[100, 48, 49, 52, 102, 57, 97, 56, 99, 57, 101, 101, 50, 53, 56, 57, 101, 49, 51, 102, 48, 99, 99, 56, 98, 54, 54, 51, 48, 99, 97, 54] }) ∧ Below w.heap.size w w' := by
  have h := hex_any v lq10 (by decide) _ w hv
  have e : hexS lq10 = [100, 48, 49, 52, 102, 57, 97, 56, 99, 57, 101, 101, 50, 53, 56, 57, 101, 49, 51, 102, 48, 99, 99, 56, 98, 54, 54, 51, 48, 99, 97, 54] := by decide +kernel
  rwa [e] at h
theorem subStd83 (w : World) : Calls Try.prog 16 #[.int .i64 83] w fun e w' => e = .returned (.int .i64 237) ∧ Below w.heap.size w w' := by
  have h := subX 83 w
  have e : subF 83 = 237 := (subF_sT 83 (by omega)).trans (by decide +kernel)
  rwa [e] at h
theorem subStd0 (w : World) : Calls Try.prog 16 #[.int .i64 0] w fun e w' => e = .returned (.int .i64 99) ∧ Below w.heap.size w w' := by
  have h := subX 0 w
  have e : subF 0 = 99 := (subF_sT 0 (by omega)).trans (by decide +kernel)
  rwa [e] at h
set_option maxRecDepth 100000 in
set_option maxHeartbeats 400000 in
theorem aesStandard_law (w : World) : Calls Try.prog 7 #[] w fun e w' => e = .returned (.bool true) ∧ Below w.heap.size w w' := by
  go_enter Try.func7, Try.ntmps7
  go_wp2_with fail
  refine (unhexP _).mono ?_
  rintro e w1 ⟨p, rfl, hp, hB⟩
  have hT_1 := hB; clear hB
  have hp_1 := hp; clear hp
  go_wp2_with fail
  refine (unhexQ _).mono ?_
  rintro e w2 ⟨q, rfl, hq, hB⟩
  have hp_2 := hp_1.lift hB
  clear hp_1
  have hT_2 := hT_1.trans (hB.mono hT_1.size); clear hT_1 hB
  have hq_2 := hq; clear hq
  go_wp2_with fail
  refine (keyX _).mono ?_
  rintro e w3 ⟨ky, rfl, hky, hB⟩
  have hp_3 := hp_2.lift hB; have hq_3 := hq_2.lift hB
  clear hp_2 hq_2
  have hT_3 := hT_2.trans (hB.mono hT_2.size); clear hT_2 hB
  have hky_3 := hky; clear hky
  go_wp2_with fail
  refine (encStd ky p _ hky_3 hp_3).mono ?_
  rintro e w4 ⟨b, rfl, hb, hB⟩
  have hq_4 := hq_3.lift hB
  clear hp_3 hq_3 hky_3
  have hT_4 := hT_3.trans (hB.mono hT_3.size); clear hT_3 hB
  have hb_4 := hb; clear hb
  go_wp2_with fail
  refine (expStd q _ hq_4).mono ?_
  rintro e w5 ⟨k, rfl, hk, hB⟩
  have hb_5 := hb_4.lift hB
  clear hq_4 hb_4
  have hT_5 := hT_4.trans (hB.mono hT_4.size); clear hT_4 hB
  have hk_5 := hk; clear hk
  obtain ⟨kc, kb, ko, kx, rfl, hkx, hkS, hkb⟩ := keys_ten hk_5
  clear hk_5
  go_wp2_with fail
  refine (hexStd b _ hb_5).mono ?_
  rintro e w6 ⟨rfl, hB⟩
  have hkS_6 := BsS.keep hkS fun b hs hlt => ⟨hB.block b hs, Nat.lt_of_lt_of_le hs hB.size⟩; have hkx_6 := (hB.cell (p := ⟨kb, ko + 10, none⟩) hkb).trans hkx; have hkb_6 := Nat.lt_of_lt_of_le hkb hB.size
  clear hb_5 hkS hkx hkb
  have hT_6 := hT_5.trans (hB.mono hT_5.size); clear hT_5 hB
  go_wp2_with fail
  refine (hexStd2 kx _ hkS_6).mono ?_
  rintro e w7 ⟨rfl, hB⟩
  clear hkS_6 hkx_6 hkb_6
  have hT_7 := hT_6.trans (hB.mono hT_6.size); clear hT_6 hB
  go_wp2_with fail
  refine (subStd83 _).mono ?_
  rintro e w8 ⟨rfl, hB⟩
  have hT_8 := hT_7.trans (hB.mono hT_7.size); clear hT_7 hB
  go_wp2_with fail
  refine (subStd0 _).mono ?_
  rintro e w9 ⟨rfl, hB⟩
  have hT_9 := hT_8.trans (hB.mono hT_8.size); clear hT_8 hB
  go_wp2
  go_ret
  exact ⟨rfl, hT_9⟩
end Go.Proofs.Ytiedfobnpcenkaa
