/- The walk of ModesStandard. Printed by gen/lit6.py. -/
import Derived.Test.YtmpcjaoemfnjcaaLit6
import Derived.Test.YtmpcjaoemfnjcaaLaw6b
import Derived.Test.YtmpcjaoemfnjcaaHex
namespace Go.Proofs.Ytmpcjaoemfnjcaa
open Go.RowKit

theorem digits_all2 {s : ByteArray} {n : Nat} (h : (List.range n).all (fun k => decide (0 ≤ digV (gs s k))) = true) : ∀ k, k < n → 0 ≤ digV (gs s k) := fun k hk => by
  have := List.all_eq_true.1 h k (List.mem_range.2 hk)
  simpa using this
theorem unhexK (w : World) : Calls Try.prog 9 #[.string { data := #[50, 98, 55, 101, 49, 53, 49, 54, 50, 56, 97, 101, 100, 50, 97, 54, 97, 98, 102, 55, 49, 53, 56, 56, 48, 57, 99, 102, 52, 102, 51, 99] }] w (BytesErr w lq0 0) := by
  refine (unhex_ok _ 16 rfl (by omega) (digits_all2 (by decide +kernel)) w).mono ?_
  rintro e w' ⟨v, rfl, h, hB⟩
  have e : unhexN { data := #[50, 98, 55, 101, 49, 53, 49, 54, 50, 56, 97, 101, 100, 50, 97, 54, 97, 98, 102, 55, 49, 53, 56, 56, 48, 57, 99, 102, 52, 102, 51, 99] } 16 = lq0 := by decide +kernel
  rw [e] at h
  exact ⟨v, rfl, Bs.of_own h (by decide), hB⟩
theorem unhexM (w : World) : Calls Try.prog 9 #[.string { data := #[54, 98, 99, 49, 98, 101, 101, 50, 50, 101, 52, 48, 57, 102, 57, 54, 101, 57, 51, 100, 55, 101, 49, 49, 55, 51, 57, 51, 49, 55, 50, 97] }] w (BytesErr w lm 0) := by
  refine (unhex_ok _ 16 rfl (by omega) (digits_all2 (by decide +kernel)) w).mono ?_
  rintro e w' ⟨v, rfl, h, hB⟩
  have e : unhexN { data := #[54, 98, 99, 49, 98, 101, 101, 50, 50, 101, 52, 48, 57, 102, 57, 54, 101, 57, 51, 100, 55, 101, 49, 49, 55, 51, 57, 51, 49, 55, 50, 97] } 16 = lm := by decide +kernel
  rw [e] at h
  exact ⟨v, rfl, Bs.of_own h (by decide), hB⟩
theorem hexA (v : Value) (w : World) (hv : Bs w w.heap.size v lb10) : Calls Try.prog 11 #[v] w fun e w' => e = .returned (.string { data := #[98, 98, 49, 100, 54, 57, 50, 57, 101, 57, 53, 57, 51, 55, 50, 56, 55, 102, 97, 51, 55, 100, 49, 50, 57, 98, 55, 53, 54, 55, 52, 54] }) ∧ Below w.heap.size w w' := by
  have h := hex_any v lb10 (by decide) _ w hv
  have e : hexS lb10 = [98, 98, 49, 100, 54, 57, 50, 57, 101, 57, 53, 57, 51, 55, 50, 56, 55, 102, 97, 51, 55, 100, 49, 50, 57, 98, 55, 53, 54, 55, 52, 54] := by decide +kernel
  rwa [e] at h
theorem hexB (v : Value) (w : World) (hv : Bs w w.heap.size v lc10) : Calls Try.prog 11 #[v] w fun e w' => e = .returned (.string { data := #[48, 55, 48, 97, 49, 54, 98, 52, 54, 98, 52, 100, 52, 49, 52, 52, 102, 55, 57, 98, 100, 100, 57, 100, 100, 48, 52, 97, 50, 56, 55, 99] }) ∧ Below w.heap.size w w' := by
  have h := hex_any v lc10 (by decide) _ w hv
  have e : hexS lc10 = [48, 55, 48, 97, 49, 54, 98, 52, 54, 98, 52, 100, 52, 49, 52, 52, 102, 55, 57, 98, 100, 100, 57, 100, 100, 48, 52, 97, 50, 56, 55, 99] := by decide +kernel
  rwa [e] at h
theorem codeOk1 (k : Value) (w : World) (hk : Bs w w.heap.size k lq0) : Calls Try.prog 10 #[k, .slice none 0 0] w (BytesErr w lb10 0) := by
  have h := codeW k (.slice none 0 0) lq0 [] (by decide) w hk (Bs.nil _ _)
  have e : codeE lq0 = 0 := if_pos rfl
  rwa [codeA, e] at h
theorem codeOk2 (k b : Value) (w : World) (hk : Bs w w.heap.size k lq0) (hb : Bs w w.heap.size b lm) : Calls Try.prog 10 #[k, b] w (BytesErr w lc10 0) := by
  have h := codeW k b lq0 lm (by decide) w hk hb
  have e : codeE lq0 = 0 := if_pos rfl
  rwa [codeB, e] at h
set_option maxRecDepth 100000 in
set_option maxHeartbeats 400000 in
theorem modesStandard_law (w : World) : Calls Try.prog 3 #[] w fun e w' => e = .returned (.bool true) ∧ Below w.heap.size w w' := by
  go_enter Try.func3, Try.ntmps3
  go_wp2_with fail
  refine (unhexK _).mono ?_
  rintro e w1 ⟨k, rfl, hk, hB⟩
  have hT_1 := hB; clear hB
  have hk_1 := hk; clear hk
  go_wp2_with fail
  refine (unhexM _).mono ?_
  rintro e w2 ⟨b, rfl, hb, hB⟩
  have hk_2 := hk_1.lift hB
  clear hk_1
  have hT_2 := hT_1.trans (hB.mono hT_1.size); clear hT_1 hB
  have hb_2 := hb; clear hb
  go_wp2_with fail
  refine (codeOk1 k _ hk_2).mono ?_
  rintro e w3 ⟨x, rfl, hx, hB⟩
  have hk_3 := hk_2.lift hB; have hb_3 := hb_2.lift hB
  clear hk_2 hb_2
  have hT_3 := hT_2.trans (hB.mono hT_2.size); clear hT_2 hB
  have hx_3 := hx; clear hx
  go_wp2_with fail
  refine (codeOk2 k b _ hk_3 hb_3).mono ?_
  rintro e w4 ⟨y, rfl, hy, hB⟩
  have hx_4 := hx_3.lift hB
  clear hk_3 hb_3 hx_3
  have hT_4 := hT_3.trans (hB.mono hT_3.size); clear hT_3 hB
  have hy_4 := hy; clear hy
  go_wp2_with fail
  refine (hexA x _ hx_4).mono ?_
  rintro e w5 ⟨rfl, hB⟩
  have hy_5 := hy_4.lift hB
  clear hx_4 hy_4
  have hT_5 := hT_4.trans (hB.mono hT_4.size); clear hT_4 hB
  go_wp2_with fail
  refine (hexB y _ hy_5).mono ?_
  rintro e w6 ⟨rfl, hB⟩
  clear hy_5
  have hT_6 := hT_5.trans (hB.mono hT_5.size); clear hT_5 hB
  go_wp2
  go_ret
  exact ⟨rfl, hT_6⟩
end Go.Proofs.Ytmpcjaoemfnjcaa
