/- The walks of the small functions of the package aes. -/
import Derived.Test.YtnogcnmoeekcpaaDoorQMem
import Derived.WalkSpells
import Derived.WalkLawsBesides
import Derived.Test.YtnogcnmoeekcpaaDoorProg
import Derived.Deep.QuietTactic
import Derived.BigQuiet
import Derived.StillTailTactics
import Derived.KernelRfl
namespace Go.Proofs.YtnogcnmoeekcpaaDoor
open Go.RowKit

def dbl (b : UInt8) : UInt8 := if b &&& 128 != 0 then b * 2 ^^^ 27 else b * 2
theorem dbl_yes (b : UInt8) (h : (b &&& 128 != 0) = true) : dbl b = b * 2 ^^^ 27 := by unfold dbl; rw [if_pos h]
theorem dbl_no (b : UInt8) (h : (b &&& 128 != 0) = false) : dbl b = b * 2 := by unfold dbl; rw [if_neg (by simp [h])]
set_option maxRecDepth 100000 in
set_option maxHeartbeats 400000 in
theorem double_any (b : UInt8) (w : World) :
    Calls Tryd.prog 96 #[U8 b] w fun e w' => e = .returned (U8 (dbl b)) ∧ w' = w := by
  go_enter Tryd.func96, Tryd.ntmps96
  go_wp2
  all_goals go_ret
  · exact ⟨by rw [dbl_yes b ‹_›]; rfl, rfl⟩
  · exact ⟨by rw [dbl_no b ‹_›]; rfl, rfl⟩

/-- The loop of multiply, with fuel. -/
def gmulF : Nat → UInt8 → UInt8 → UInt8 → UInt8
  | 0, _, _, out => out
  | n + 1, a, b, out => if b != 0 then gmulF n (dbl a) (b / 2) (if b &&& 1 == 1 then out ^^^ a else out) else out
def gmul (a b : UInt8) : UInt8 := gmulF 8 a b 0
theorem gmulF_end (n : Nat) (a b out : UInt8) (h : (b != 0) = false) : gmulF n a b out = out := by cases n <;> simp [gmulF, h]
theorem gmulF_odd (n : Nat) (a b out : UInt8) (h : (b != 0) = true) (h1 : (b &&& 1 == 1) = true) : gmulF (n + 1) a b out = gmulF n (dbl a) (b / 2) (out ^^^ a) := by
  rw [gmulF, if_pos h, if_pos h1]
theorem gmulF_even (n : Nat) (a b out : UInt8) (h : (b != 0) = true) (h1 : (b &&& 1 == 1) = false) : gmulF (n + 1) a b out = gmulF n (dbl a) (b / 2) out := by
  rw [gmulF, if_pos h, if_neg (by simp [h1])]
theorem shr_lt (b : UInt8) (n : Nat) (h : bv b < 2 ^ (n + 1)) : bv (b / 2) < 2 ^ n := by
  have := bv_div b 2 (by omega) (by omega)
  rw [ofI_2] at this
  rw [← this, Int.ediv_lt_iff_lt_mul (by omega)]
  have e : (2 : Int) ^ (n + 1) = 2 ^ n * 2 := Int.pow_succ ..
  omega
theorem half_lt (b : UInt8) (h : (b != 0) = true) : (bv (b / 2)).toNat < (bv b).toNat := by
  have h1 := bv_div b 2 (by omega) (by omega)
  rw [ofI_2] at h1
  have h2 := bv_nn b
  have h3 : bv b ≠ 0 := fun e => by
    have : b = 0 := bv_inj e
    simp [this] at h
  omega
theorem one_of_lt (n : Nat) (b : UInt8) (h : (b != 0) = true) (hlt : bv b < 2 ^ n) : ∃ m, n = m + 1 := by
  rcases n with _ | m
  · exfalso
    have h2 := bv_nn b
    have : b = 0 := bv_inj (by show bv b = 0; omega)
    simp [this] at h
  · exact ⟨m, rfl⟩
set_option maxRecDepth 100000 in
set_option maxHeartbeats 400000 in
theorem multiply_any (a b : UInt8) (w : World) :
    Calls Tryd.prog 97 #[U8 a, U8 b] w fun e w' => e = .returned (U8 (gmul a b)) ∧ w' = w := by
  go_enter Tryd.func97, Tryd.ntmps97
  go_wp2
  go_loop [0, 1, 5] (fun x y o => ∃ (n : Nat) (a' b' out : UInt8), x = U8 a' ∧ y = U8 b' ∧ o = U8 out ∧ bv b' < 2 ^ n ∧ Hid (gmulF n a' b' out = gmul a b)) (fun _ y _ => (intOf y).toNat)
  case atStart => exact ⟨8, a, b, 0, rfl, rfl, rfl, bv_lt b, rfl⟩
  case round =>
    obtain ⟨n, a', b', out, rfl, rfl, rfl, hlt, hg⟩ := hrel
    have H := Lib.hid hlt; clear hlt
    go_wp2_with (go_at_call 96; refine (double_any _ _).mono ?_; rintro e w' ⟨rfl, rfl⟩)
    · go_round
      case rel =>
        obtain ⟨m, rfl⟩ := one_of_lt n b' ‹_› H.out
        exact ⟨m, _, _, _, rfl, rfl, rfl, shr_lt _ _ H.out, by rw [← gmulF_odd m a' b' out ‹_› ‹_›]; exact hg⟩
      case measure => exact half_lt b' ‹_›
    · go_round
      case rel =>
        obtain ⟨m, rfl⟩ := one_of_lt n b' ‹_› H.out
        exact ⟨m, _, _, _, rfl, rfl, rfl, shr_lt _ _ H.out, by rw [← gmulF_even m a' b' out ‹_› ‹_›]; exact hg⟩
      case measure => exact half_lt b' ‹_›
    · go_ret
      refine ⟨?_, rfl⟩
      have e : gmul a b = out := by rw [← hg.out, gmulF_end n a' b' out ‹_›]
      rw [e]
      rfl

set_option maxRecDepth 100000 in
set_option maxHeartbeats 400000 in
theorem combine_any (g : Nat) (t : TypeId) (f k : Nat → UInt8) (w : World) (hg : w.rowIs g t 16 (fun j => U8 (f j))) :
    Calls Tryd.prog 90 #[.pointer (some ⟨g, 0, none⟩), .agg (bArr 16 k)] w fun e w' => e = .returned (.tuple #[]) ∧ w'.rowIs g t 16 (fun j => U8 (f j ^^^ k j)) ∧ w.grownBy w' (some g) := by
  have hlt := hg.lt
  go_enter Tryd.func90, Tryd.ntmps90
  go_wp2
  go_loopw [5] (fun i wr => ∃ n : Nat, n ≤ 16 ∧ i = .int .i64 n ∧ wr.rowIs g t 16 (fun j => U8 (upto n (fun j => f j ^^^ k j) f j)) ∧ wr.rowIs w.heap.size 101 16 (fun j => U8 (k j)) ∧ w.grownBy wr (some g)) (fun i _ => 16 - (intOf i).toNat)
  case atStart => exact ⟨0, by omega, rfl, row_upto_zero (hg.alloc _) _, rowIs_bArr _ _ _ _, only_alloc (World.grownBy.refl _ _) _⟩
  case round =>
    obtain ⟨n, hn, rfl, hr, hk, hgr⟩ := hrel
    by_cases hlt : n < 16
    · have hc1 := row_upto_cell hr hlt
      have hc2 := hk.cell hlt
      have hf := hr.frozen n
      go_wp2
      go_still_tail 11, (by kernel_rfl)
      go_wp2
      go_roundw
      case rel =>
        exact ⟨n + 1, by omega, by go_num, (row_upto_set hr rfl).drew, hk.setOther (by simp; omega) _, only_drew (only_setCell hgr (.inl rfl) _)⟩
      case measure => simp [intOf] <;> omega
    · go_wp2
      go_end0
      exact ⟨rfl, row_upto_full hr (by omega), hgr⟩

set_option maxRecDepth 100000 in
set_option maxHeartbeats 400000 in
theorem substitute_any (g tb off : Nat) (t : TypeId) (f T : Nat → UInt8) (w : World) (hg : w.rowIs g t 16 (fun j => U8 (f j))) (hT : ArrB w tb off 256 T) (hne : tb ≠ g) :
    Calls Tryd.prog 91 #[.pointer (some ⟨g, 0, none⟩), .pointer (some ⟨tb, off, none⟩)] w fun e w' => e = .returned (.tuple #[]) ∧ w'.rowIs g t 16 (fun j => U8 (T (f j).toNat)) ∧ w.grownBy w' (some g) := by
  go_enter Tryd.func91, Tryd.ntmps91
  go_wp2
  go_loopw [5] (fun i wr => ∃ n : Nat, n ≤ 16 ∧ i = .int .i64 n ∧ wr.rowIs g t 16 (fun j => U8 (upto n (fun j => T (f j).toNat) f j)) ∧ w.grownBy wr (some g)) (fun i _ => 16 - (intOf i).toNat)
  case atStart => exact ⟨0, by omega, rfl, row_upto_zero hg _, World.grownBy.refl _ _⟩
  case round =>
    obtain ⟨n, hn, rfl, hr, hgr⟩ := hrel
    by_cases hlt : n < 16
    · have hc1 := row_upto_cell hr hlt
      have hf := hr.frozen n
      have hbn := bv_nn (f n)
      have hbl := bv_lt (f n)
      have hc2 := (hT.only hgr hne).at_ (f n).toNat_lt
      go_wp2
      go_still_tail 13, (by kernel_rfl)
      go_wp2
      go_roundw
      case rel =>
        exact ⟨n + 1, by omega, by go_num, (row_upto_set hr rfl).drew, only_drew (only_setCell hgr (.inl rfl) _)⟩
      case measure => simp [intOf] <;> omega
    · go_wp2
      go_end0
      exact ⟨rfl, row_upto_full hr (by omega), hgr⟩

end Go.Proofs.YtnogcnmoeekcpaaDoor
