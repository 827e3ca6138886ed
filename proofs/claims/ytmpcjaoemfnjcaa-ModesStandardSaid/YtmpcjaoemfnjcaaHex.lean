/- The walks of digit, Unhex (of digits) and Hex. -/
import Derived.Test.YtmpcjaoemfnjcaaClone
import Derived.Deep.QuietTactic
import Derived.BigQuiet
namespace Go.Proofs.Ytmpcjaoemfnjcaa
open Go.RowKit

/-- The value of a hexadecimal digit. -/
def digV (c : UInt8) : Int := if 48 ≤ bv c ∧ bv c ≤ 57 then bv c - 48 else if 97 ≤ bv c ∧ bv c ≤ 102 then bv c - 97 + 10 else if 65 ≤ bv c ∧ bv c ≤ 70 then bv c - 65 + 10 else -1
theorem digV_lt (c : UInt8) : -1 ≤ digV c ∧ digV c < 16 := by unfold digV; split <;> (try split) <;> (try split) <;> omega
set_option maxRecDepth 100000 in
set_option maxHeartbeats 400000 in
theorem digit_any (c : UInt8) (w : World) : Calls Try.prog 26 #[U8 c] w fun e w' => e = .returned (.int .i64 (digV c)) ∧ w' = w := by
  have h0 := bv_nn c
  have h1 := bv_lt c
  by_cases a : 48 ≤ bv c ∧ bv c ≤ 57
  · have e : digV c = bv c - 48 := by unfold digV; rw [if_pos a]
    have E := Lib.hid e; clear e
    obtain ⟨a1, a2⟩ := a
    go_enter Try.func26, Try.ntmps26
    go_wp2
    go_ret
    exact ⟨by rw [E.out]; rfl, rfl⟩
  · by_cases b : 97 ≤ bv c ∧ bv c ≤ 102
    · have e : digV c = bv c - 97 + 10 := by unfold digV; rw [if_neg a, if_pos b]
      have E := Lib.hid e; clear e a
      obtain ⟨a1, a2⟩ := b
      go_enter Try.func26, Try.ntmps26
      go_wp2
      go_ret
      exact ⟨by rw [E.out]; rfl, rfl⟩
    · by_cases d : 65 ≤ bv c ∧ bv c ≤ 70
      · have e : digV c = bv c - 65 + 10 := by unfold digV; rw [if_neg a, if_neg b, if_pos d]
        have E := Lib.hid e; clear e a b
        obtain ⟨a1, a2⟩ := d
        go_enter Try.func26, Try.ntmps26
        go_wp2
        go_ret
        exact ⟨by rw [E.out]; rfl, rfl⟩
      · have e : digV c = -1 := by unfold digV; rw [if_neg a, if_neg b, if_neg d]
        have E := Lib.hid e; clear e
        have A := Lib.hid a; have B := Lib.hid b; have D := Lib.hid d; clear a b d
        go_enter Try.func26, Try.ntmps26
        go_wp2
        all_goals first
          | (go_ret; exact ⟨by rw [E.out]; rfl, rfl⟩)
          | (exfalso; have := A.out; have := B.out; have := D.out; omega)

/-- Byte k of a string; closed to the walk's rules. -/
def gs (s : ByteArray) (k : Nat) : UInt8 := s.data.getD k 0
theorem index_str (s : ByteArray) (k : Nat) (hk : k < s.size) (w : World) : (Instr.index 9 (.string s) (.int .i64 k)).run Try.prog w = .ok (U8 (gs s k)) w := by
  have e : s[k]? = some s[k] := getElem?_pos s k hk
  have e2 : gs s k = s[k] := by
    unfold gs
    have : k < s.data.size := hk
    rw [Array.getD_eq_getD_getElem?, Array.getElem?_eq_getElem this]
    rfl
  rw [e2]
  simp [go_sem, Instr.index, e]
  rfl
theorem index_str1 (s : ByteArray) (k : Nat) (hk : k + 1 < s.size) (w : World) : (Instr.index 9 (.string s) (.int .i64 ((k : Int) + 1))).run Try.prog w = .ok (U8 (gs s (k + 1))) w := index_str s (k + 1) hk w

theorem own_drewN {w : World} {base : Nat} {e : TypeId} {v : Value} {n size : Nat} {xs : List Value} (h : w.ownsRow base e size v n xs) (k : Nat) : (w.drewN k).ownsRow base e size v n xs := h
/-- What Unhex returns for digits, up to a pair. -/
def unhexN (s : ByteArray) (n : Nat) : List UInt8 := (List.range n).map fun k => ofI (16 * digV (gs s (2 * k)) + digV (gs s (2 * k + 1)))
theorem unhexN_len (s : ByteArray) (n : Nat) : (unhexN s n).length = n := by simp [unhexN]
theorem unhexN_succ (s : ByteArray) (n : Nat) : unhexN s (n + 1) = unhexN s n ++ [ofI (16 * digV (gs s (2 * n)) + digV (gs s (2 * n + 1)))] := by
  unfold unhexN; rw [List.range_succ, List.map_append]; rfl
set_option maxRecDepth 100000 in
set_option maxHeartbeats 1000000 in
theorem unhex_ok (s : ByteArray) (n : Nat) (hn : s.size = 2 * n) (hsmall : n ≤ 1048576) (hd : ∀ k, k < 2 * n → 0 ≤ digV (gs s k)) (w : World) :
    Calls Try.prog 9 #[.string s] w fun e w' => ∃ v', e = .returned (.tuple #[v', .int .i64 0]) ∧ OwnB w' w.heap.size v' (unhexN s n) ∧ Below w.heap.size w w' := by
  have e0 : ((s.size : Int) % 2 != 0) = false := by rw [hn]; simp
  have Hd := Lib.hid hd; have Hn := Lib.hid hn
  have hs1 : (s.size : Int) ≤ 2097152 := by omega
  clear hd hn
  go_enter Try.func9, Try.ntmps9
  go_wp2
  go_loopw [4, 5] (fun o i wr => ∃ k m : Nat, k ≤ n ∧ Hid (m = 2 * k) ∧ i = .int .i64 m ∧ wr.ownsRow w.heap.size 5 1 o k ((unhexN s k).map U8) ∧ Below w.heap.size w wr) (fun _ i _ => s.size - (intOf i).toNat)
  case atStart => exact ⟨0, 0, by omega, rfl, rfl, World.ownsRow_nil _ _ _ _, Below.refl _ _⟩
  case round =>
    obtain ⟨k, m, hk, hm, rfl, hown, hb⟩ := hrel
    have Hown := Lib.hid hown; have Hb := Lib.hid hb; clear hown hb
    by_cases hlt : k < n
    · have hlt2 : (m : Int) + 1 < s.size := by have := Hn.out; have := hm.out; omega
      have ix := fun w => index_str s m (by omega) w
      have iy := fun w => index_str1 s m (by omega) w
      have dx := Hd.out m (by have := hm.out; omega)
      have dy := Hd.out (m + 1) (by have := hm.out; omega)
      have dx2 := (digV_lt (gs s m)).2
      have dy2 := (digV_lt (gs s (m + 1))).2
      have hlt3 : decide ((m : Int) < s.size) = true := by simp; omega
      go_wp2
      go_quiet ((go_at_call 26; exact Calls.quiet_of_same (digit_any _ _)))
      obtain ⟨c, hc⟩ : ∃ c, c = 16 * digV (gs s m) + digV (gs s (m + 1)) := ⟨_, rfl⟩
      have hown2 := (own_drewN Hown.out nq).alloc (.cells #[.int .u8 (16 * digV (gs s m) + digV (gs s (m + 1)))] 5)
      have hb2 := (below_drewN Hb.out nq).alloc Hb.out.size (.cells #[.int .u8 (16 * digV (gs s m) + digV (gs s (m + 1)))] 5)
      have hsrc : SrcAt ((wr.drewN nq).alloc (.cells #[.int .u8 (16 * digV (gs s m) + digV (gs s (m + 1)))] 5)) (some ⟨wr.heap.size, 0, none⟩) 1 [.int .u8 (16 * digV (gs s m) + digV (gs s (m + 1)))] := SrcAt.one (w := wr.drewN nq) _ _ rfl
      have Hown2 := Lib.hid hown2; have Hb2 := Lib.hid hb2; have Hsrc := Lib.hid hsrc; have Hc := Lib.hid hc
      clear hown2 hb2 hsrc Hown Hb hc ix iy
      have t1 : decide (digV (gs s m) < 0) = false := by simpa using dx
      have t2 : decide (digV (gs s (m + 1)) < 0) = false := by simpa using dy
      go_wp2_with (at_builtin; (with_reducible refine wpList_append1 _ rfl (.tmp 33) (.tmp 39) 22 rfl w.heap.size 5 (.int .u8 0) 1 Try.underlying22 infoU8 rfl (by omega) u4 k ((unhexN s k).map U8) rfl Hown2.out (some ⟨wr.heap.size, 0, none⟩) 1 1 [.int .u8 (16 * digV (gs s m) + digV (gs s (m + 1)))] rfl Hsrc.out (by omega) Hb2.out.size ?_); intro v5 w5 hown5 hg5 hat5 _)
      go_roundw
      case rel =>
        refine ⟨k + 1, m + 2, by omega, by have := hm.out; unfold Hid; omega, by go_num, ?_, Hb2.out.trans (below_append Hown2.out hg5 (Nat.le_refl _) Hb2.out.size)⟩
        have e : (unhexN s (k + 1)).map U8 = (unhexN s k).map U8 ++ [.int .u8 (16 * digV (gs s m) + digV (gs s (m + 1)))] := by
          rw [unhexN_succ, List.map_append, ← hm.out]
          congr 1
          show [Value.int .u8 (bv (ofI _))] = _
          rw [bv_in (by omega) (by omega)]
        rw [e]
        exact hown5
      case measure => simp [intOf] <;> omega
    · have hkn : k = n := by omega
      subst hkn
      have hge : ¬ (m : Int) < s.size := by have := Hn.out; have := hm.out; omega
      have hge' : decide ((m : Int) < s.size) = false := by simpa using hge
      go_wp2
      go_ret2
      refine ⟨_, rfl, ?_, Hb.out⟩
      show World.ownsRow _ _ _ _ _ (unhexN s k).length _
      rw [unhexN_len]
      exact Hown.out

def digitsS : ByteArray := { data := #[48, 49, 50, 51, 52, 53, 54, 55, 56, 57, 97, 98, 99, 100, 101, 102] }
/-- A hexadecimal digit. -/
def hexd (d : UInt8) : UInt8 := digitsS.data.getD d.toNat 0
def hexS (l : List UInt8) : List UInt8 := l.flatMap fun b => [hexd (b / 16), hexd (b % 16)]
theorem hexS_len (l : List UInt8) : (hexS l).length = 2 * l.length := by
  unfold hexS
  induction l with
  | nil => rfl
  | cons b l ih => rw [List.flatMap_cons, List.length_append, ih]; simp; omega
theorem hexS_snoc (l : List UInt8) (b : UInt8) : hexS (l ++ [b]) = hexS l ++ [hexd (b / 16), hexd (b % 16)] := by
  unfold hexS; rw [List.flatMap_append]; rfl
theorem bv_mod (a : UInt8) (z : Int) (h0 : 0 ≤ z) (h1 : z < 256) : bv a % z = bv (a % ofI z) := by
  have h := bv_in h0 h1
  unfold bv at *
  rw [UInt8.toNat_mod, Int.natCast_emod, h]
theorem ofI_16 : ofI 16 = 16 := by decide
theorem bv_tdiv (a : UInt8) (z : Int) (h0 : 0 ≤ z) (h1 : z < 256) : (bv a).tdiv z = bv (a / ofI z) := by
  rw [Int.tdiv_eq_ediv_of_nonneg (bv_nn a)]; exact bv_div a z h0 h1
theorem bv_tmod (a : UInt8) (z : Int) (h0 : 0 ≤ z) (h1 : z < 256) : (bv a).tmod z = bv (a % ofI z) := by
  rw [Int.tmod_eq_emod_of_nonneg (bv_nn a)]; exact bv_mod a z h0 h1
theorem wrap_u8_bv (b : UInt8) : IntKind.u8.wrap (bv b) = bv b := by
  have h0 := bv_nn b
  have h1 := bv_lt b
  simp [IntKind.wrap_u8]
  omega
attribute [local simp] ofI_16 bv_mod bv_tdiv bv_tmod wrap_u8_bv
theorem index_digits_n (n : Nat) (h : n < 16) (w : World) : (Instr.index 9 (.string { data := #[48, 49, 50, 51, 52, 53, 54, 55, 56, 57, 97, 98, 99, 100, 101, 102] }) (.int .u8 (n : Int))).run Try.prog w = .ok (.int .u8 ((digitsS.data.getD n 0).toNat : Int)) w := by
  iterate 16 (rcases n with _ | n; · kernel_rfl)
  omega
theorem index_digits (d : UInt8) (h : d.toNat < 16) (w : World) : (Instr.index 9 (.string { data := #[48, 49, 50, 51, 52, 53, 54, 55, 56, 57, 97, 98, 99, 100, 101, 102] }) (.int .u8 (bv d))).run Try.prog w = .ok (U8 (hexd d)) w := index_digits_n d.toNat h w
theorem convert_digit_n (n : Nat) (h : n < 16) (w : World) : (convert 5 9 (.int .u8 ((digitsS.data.getD n 0).toNat : Int))).run Try.prog w = .ok (.string { data := #[digitsS.data.getD n 0] }) w := by
  iterate 16 (rcases n with _ | n; · kernel_rfl)
  omega
theorem convert_digit (d : UInt8) (h : d.toNat < 16) (w : World) : (convert 5 9 (U8 (hexd d))).run Try.prog w = .ok (.string { data := #[hexd d] }) w := convert_digit_n d.toNat h w
theorem shift4 (b : UInt8) : (b / 16).toNat < 16 ∧ (b % 16).toNat < 16 := by
  have := b.toNat_lt
  rw [UInt8.toNat_div, UInt8.toNat_mod]
  show b.toNat / 16 < 16 ∧ b.toNat % 16 < 16
  omega
set_option maxRecDepth 100000 in
set_option maxHeartbeats 1000000 in
theorem hex_any (v : Value) (l : List UInt8) (hl : l.length ≤ 1048576) (S : Nat → Prop) (w : World) (hv : BsS w S v l) :
    Calls Try.prog 11 #[v] w fun e w' => e = .returned (.string ⟨(hexS l).toArray⟩) ∧ Below w.heap.size w w' := by
  obtain ⟨a, c, rfl, hlc, hc, _, hcell⟩ := hv
  rcases Nat.eq_zero_or_pos l.length with h0 | h0
  · have e1 : l = [] := List.eq_nil_of_length_eq_zero h0
    subst e1
    clear hcell h0 hl
    go_enter Try.func11, Try.ntmps11
    go_wp2
    refine wp_loop_rounds 1 ?_
    rw [rounds_succ]
    go_wp2
    go_ret
    exact ⟨rfl, Below.refl _ _⟩
  · obtain ⟨b, off, rfl, _, hcell⟩ := hcell h0
    have HC := Lib.hid hcell; clear hcell
    go_enter Try.func11, Try.ntmps11
    go_wp2
    go_loopw [3, 4] (fun s i wr => ∃ k : Nat, k ≤ l.length ∧ i = .int .i64 k ∧ s = .string ⟨(hexS (l.take k)).toArray⟩ ∧ ∃ m, wr = w.drewN m) (fun _ i _ => l.length - (intOf i).toNat)
    case atStart => exact ⟨0, by omega, rfl, rfl, 0, rfl⟩
    case round =>
      obtain ⟨k, hk, rfl, rfl, m, rfl⟩ := hrel
      by_cases hlt : k < l.length
      · have c1 := HC.out k hlt
        have h1 := index_digits (gb l k / 16) (shift4 _).1
        have h2 := index_digits (gb l k % 16) (shift4 _).2
        have h3 := convert_digit (gb l k / 16) (shift4 _).1
        have h4 := convert_digit (gb l k % 16) (shift4 _).2
        have h5 : ¬ 9223372036854775807 < (hexS (l.take k)).length + 2 := by rw [hexS_len, List.length_take]; omega
        have hd : decide ((k : Int) < l.length) = true := by simp; omega
        obtain ⟨P, hP⟩ : ∃ P, P = hexS (l.take k) := ⟨_, rfl⟩
        rw [← hP] at h5
        rw [← hP]
        have HP := Lib.hid hP; clear hP
        go_wp2
        refine wp_region_quiet_lit (by kernel_rfl) (by kernel_rfl) ?_
        repeat (refine (wpQuiet_step (fun K hK => ?_)); go_simp; refine hK _ ?_; clear hK K)
        refine wpQuiet_nil ?_
        intro _ hw'
        obtain ⟨nq, hw''⟩ := hw'
        subst hw''
        go_wp2
        go_roundw
        case rel =>
          refine ⟨k + 1, by omega, by go_num, ?_, m + nq, by simp⟩
          rw [List.take_succ_eq_append_getElem hlt, hexS_snoc, ← HP.out]
          have e : l[k] = gb l k := by simp [gb, hlt]
          rw [e]
          congr 1
        case measure => simp [intOf] <;> omega
      · have hd : decide ((k : Int) < l.length) = false := by simp; omega
        go_wp2
        go_ret
        refine ⟨?_, below_drewN (Below.refl _ _) _⟩
        rw [List.take_of_length_le (by omega)]
        rfl
end Go.Proofs.Ytmpcjaoemfnjcaa
