/- The walks of the package aes: the tables, rotate, mix. -/
import Derived.Test.YtmpcjaoemfnjcaaAes1
import Derived.BigRegion
namespace Go.Proofs.Ytmpcjaoemfnjcaa
open Go.RowKit

theorem multiply_at (a b : UInt8) (x y : Int) (hx : x = bv a) (hy : y = bv b) (w : World) :
    Calls Try.prog 53 #[.int .u8 x, .int .u8 y] w fun e w' => e = .returned (U8 (gmul a b)) ∧ w' = w := by
  subst hx; subst hy; exact multiply_any a b w

def rotI (y : UInt8) (n : Nat) : UInt8 := y * ofI (2 ^ n) ||| ofI (bv y / 2 ^ (8 - n))
def sbxF (y : UInt8) (n : Nat) : UInt8 := (List.range n).foldl (fun s i => s ^^^ rotI y i) 99
theorem sbxF_succ (y : UInt8) (n : Nat) : sbxF y (n + 1) = sbxF y n ^^^ rotI y n := by unfold sbxF; rw [List.range_succ, List.foldl_append]; rfl
/-- The substitute of a byte whose inverse is y. -/
def sbx (y : UInt8) : UInt8 := sbxF y 5
/-- What set enters. -/
def setT (F : Nat → UInt8) (x y : UInt8) (j : Nat) : UInt8 := if j = 256 + (sbx y).toNat then x else if j = x.toNat then sbx y else F j

set_option maxRecDepth 100000 in
set_option maxHeartbeats 400000 in
theorem set_any (g : Nat) (t : TypeId) (F : Nat → UInt8) (x y : UInt8) (w : World) (hg : w.rowIs g t 512 (fun j => U8 (F j))) :
    Calls Try.prog 51 #[.pointer (some ⟨g, 0, none⟩), U8 x, U8 y] w fun e w' => e = .returned (.tuple #[]) ∧
      w'.rowIs g t 512 (fun j => U8 (setT F x y j)) ∧ w.grownBy w' (some g) := by
  go_enter Try.func51, Try.ntmps51
  go_wp2
  go_loopw [6, 8] (fun s i wr => ∃ (n : Nat), n ≤ 5 ∧ i = .int .i64 n ∧ s = U8 (sbxF y n) ∧ wr.rowIs g t 512 (fun j => U8 (F j)) ∧ w.grownBy wr (some g)) (fun _ i _ => 5 - (intOf i).toNat)
  case atStart => exact ⟨0, by omega, rfl, rfl, hg, World.grownBy.refl _ _⟩
  case round =>
    obtain ⟨n, hn, rfl, rfl, hr, hgr⟩ := hrel
    by_cases hlt : n < 5
    · go_wp2
      go_quiet (fail)
      go_wp2
      go_roundw
      case rel => exact ⟨n + 1, by omega, by go_num, by rw [sbxF_succ]; rfl, rowIs_drewN hr _, only_drewN hgr _⟩
      case measure => simp [intOf] <;> omega
    · have e5 : n = 5 := by omega
      subst e5
      have hx0 := bv_nn x
      have hx1 := bv_lt x
      obtain ⟨s, hs⟩ : ∃ s, s = sbxF y 5 := ⟨_, rfl⟩
      rw [← hs]
      have Hs := Lib.hid hs; clear hs
      have hs0 := bv_nn s
      have hs1 := bv_lt s
      have hxn := x.toNat_lt
      have hsn := s.toNat_lt
      have hc1 := hr.cell (i := x.toNat) (by omega)
      have hf1 := hr.frozen x.toNat
      have hc2 := hr.cell (i := 256 + s.toNat) (by omega)
      have hf2 := hr.frozen (256 + s.toNat)
      go_wp2
      go_region
      go_wp2
      go_end0
      refine ⟨rfl, ((hr.set _ _).set _ _).drew.congr fun j hj => ?_, only_drew (only_setCell (only_setCell hgr (.inl rfl) _) (.inl rfl) _)⟩
      have es : sbx y = s := Hs.out.symm
      unfold setT
      rw [es]
      by_cases e1 : j = 256 + s.toNat
      · rw [if_pos e1, if_pos e1]
      · rw [if_neg e1, if_neg e1]
        by_cases e2 : j = x.toNat
        · rw [if_pos e2, if_pos e2]
        · rw [if_neg e2, if_neg e2]

/-- The powers of 3 and those of its inverse; the tables behind n steps. -/
def powX : Nat → UInt8
  | 0 => 1
  | n + 1 => powX n ^^^ dbl (powX n)
def powY : Nat → UInt8
  | 0 => 1
  | n + 1 => gmul (powY n) 246
def tabF : Nat → Nat → UInt8
  | 0 => fun _ => 0
  | n + 1 => setT (tabF n) (powX n) (powY n)
/-- Both tables, one behind the other. -/
def tabs (j : Nat) : UInt8 := setT (tabF 255) 0 0 j

theorem zeroTables (w : World) : (zeroValue 61).run Try.prog w = .ok (.agg (bArr 512 fun _ => 0)) w := by kernel_rfl
set_option maxRecDepth 100000 in
set_option maxHeartbeats 400000 in
theorem newTables_any (w : World) :
    Calls Try.prog 40 #[] w fun e w' => e = .returned (.pointer (some ⟨w.heap.size, 0, none⟩)) ∧ w'.rowIs w.heap.size 61 512 (fun j => U8 (tabs j)) ∧ Below w.heap.size w w' := by
  have hz := zeroTables
  go_enter Try.func40, Try.ntmps40
  go_wp2
  go_loopw [2, 3, 6] (fun x y i wr => ∃ n : Nat, n ≤ 255 ∧ i = .int .i64 n ∧ x = U8 (powX n) ∧ y = U8 (powY n) ∧ wr.rowIs w.heap.size 61 512 (fun j => U8 (tabF n j)) ∧ Below w.heap.size w wr) (fun _ _ i _ => 255 - (intOf i).toNat)
  case atStart => exact ⟨0, by omega, rfl, rfl, rfl, rowIs_bArr _ _ _ _, (Below.refl _ _).alloc (Nat.le_refl _) _⟩
  case round =>
    obtain ⟨n, hn, rfl, rfl, rfl, hr, hgr⟩ := hrel
    by_cases hlt : n < 255
    · go_wp2_with fail
      refine (set_any _ _ _ _ _ _ hr).mono ?_
      rintro e w1 ⟨rfl, hr1, hg1⟩
      go_wp2_with fail
      refine (double_any _ _).mono ?_
      rintro e w2 ⟨rfl, rfl⟩
      go_wp2_with fail
      refine (multiply_at (powY n) 246 _ _ rfl rfl _).mono ?_
      rintro e w2 ⟨rfl, rfl⟩
      go_wp2
      go_roundw
      case rel => exact ⟨n + 1, by omega, by go_num, rfl, rfl, hr1, hgr.trans (below_of_only hg1 hgr.size (Nat.le_refl _))⟩
      case measure => simp [intOf] <;> omega
    · have e5 : n = 255 := by omega
      subst e5
      go_wp2_with fail
      refine (set_any _ _ _ 0 0 _ hr).mono ?_
      rintro e w1 ⟨rfl, hr1, hg1⟩
      go_wp2
      go_ret
      exact ⟨rfl, hr1, hgr.trans (below_of_only hg1 hgr.size (Nat.le_refl _))⟩

def rotF (s : Nat) (f : Nat → UInt8) (i : Nat) : UInt8 := f (4 * ((i / 4 + s * (i % 4)) % 4) + i % 4)
set_option maxRecDepth 100000 in
set_option maxHeartbeats 400000 in
theorem rotate1_any (g : Nat) (t : TypeId) (f : Nat → UInt8) (w : World) (hg : w.rowIs g t 16 (fun j => U8 (f j))) :
    Calls Try.prog 45 #[.pointer (some ⟨g, 0, none⟩), .int .i64 1] w fun e w' => e = .returned (.tuple #[]) ∧ w'.rowIs g t 16 (fun j => U8 (rotF 1 f j)) ∧ w.grownBy w' (some g) := by
  have hrow := row_bArr hg
  have hlt := hg.lt
  have hst := store_new (P := Try.prog) (T := 51) (n := 16) rfl f
  go_enter Try.func45, Try.ntmps45
  go_wp2_with (refine wpList_load_row rfl 51 (.tmp 9) rfl g rfl t (bArr 16 f) (0, 0) _ hrow Try.underlying51 rfl (by rw [bArr_size]; rfl) ?_)
  go_loopw [11] (fun i wr => ∃ n : Nat, n ≤ 16 ∧ i = .int .i64 n ∧ wr.rowIs g t 16 (fun j => U8 (upto n (rotF 1 f) f j)) ∧ wr.rowIs w.heap.size 51 16 (fun j => U8 (f j)) ∧ w.grownBy wr (some g)) (fun i _ => 16 - (intOf i).toNat)
  case atStart => exact ⟨0, by omega, rfl, row_upto_zero (hg.alloc _) _, rowIs_bArr _ _ _ _, only_alloc (World.grownBy.refl _ _) _⟩
  case round =>
    obtain ⟨n, hn, rfl, hr, ho, hgr⟩ := hrel
    by_cases hlt : n < 16
    · have hc1 := row_upto_cell hr hlt
      have hf := hr.frozen n
      have hc2 := fun j (h : j < 16) => ho.cell (i := j) h
      have hi0 : 0 ≤ 4 * (((n : Int) / 4 + n) % 4) + (n : Int) % 4 := by omega
      have hi1 : 4 * (((n : Int) / 4 + n) % 4) + (n : Int) % 4 < 16 := by omega
      have hi2 : 4 * ((n / 4 + n) % 4) + n % 4 < 16 := by omega
      have he : f (4 * ((n / 4 + n) % 4) + n % 4) = rotF 1 f n := by unfold rotF; congr 1; omega
      have He := Lib.hid he; clear he
      go_wp2
      refine wp_region_still_tail 15 (by kernel_rfl) (by kernel_rfl) ?_
      simp only [List.take_succ_cons, List.take_zero, List.drop_succ_cons, List.drop_zero]
      repeat (refine wpStill_step (fun K hK => ?_); go_simp; (try go_bits); refine hK _ ?_; clear hK K)
      refine wpStill_nil ?_
      go_wp2
      go_roundw
      case rel => exact ⟨n + 1, by omega, by go_num, (row_upto_set hr He.out).drew, ho.setOther (by simp; omega) _, only_drew (only_setCell hgr (.inl rfl) _)⟩
      case measure => simp [intOf] <;> omega
    · go_wp2
      go_end0
      exact ⟨rfl, row_upto_full hr (by omega), hgr⟩
set_option maxRecDepth 100000 in
set_option maxHeartbeats 400000 in
theorem rotate3_any (g : Nat) (t : TypeId) (f : Nat → UInt8) (w : World) (hg : w.rowIs g t 16 (fun j => U8 (f j))) :
    Calls Try.prog 45 #[.pointer (some ⟨g, 0, none⟩), .int .i64 3] w fun e w' => e = .returned (.tuple #[]) ∧ w'.rowIs g t 16 (fun j => U8 (rotF 3 f j)) ∧ w.grownBy w' (some g) := by
  have hrow := row_bArr hg
  have hlt := hg.lt
  have hst := store_new (P := Try.prog) (T := 51) (n := 16) rfl f
  go_enter Try.func45, Try.ntmps45
  go_wp2_with (refine wpList_load_row rfl 51 (.tmp 9) rfl g rfl t (bArr 16 f) (0, 0) _ hrow Try.underlying51 rfl (by rw [bArr_size]; rfl) ?_)
  go_loopw [11] (fun i wr => ∃ n : Nat, n ≤ 16 ∧ i = .int .i64 n ∧ wr.rowIs g t 16 (fun j => U8 (upto n (rotF 3 f) f j)) ∧ wr.rowIs w.heap.size 51 16 (fun j => U8 (f j)) ∧ w.grownBy wr (some g)) (fun i _ => 16 - (intOf i).toNat)
  case atStart => exact ⟨0, by omega, rfl, row_upto_zero (hg.alloc _) _, rowIs_bArr _ _ _ _, only_alloc (World.grownBy.refl _ _) _⟩
  case round =>
    obtain ⟨n, hn, rfl, hr, ho, hgr⟩ := hrel
    by_cases hlt : n < 16
    · have hc1 := row_upto_cell hr hlt
      have hf := hr.frozen n
      have hc2 := fun j (h : j < 16) => ho.cell (i := j) h
      have hi0 : 0 ≤ 4 * (((n : Int) / 4 + 3 * ((n : Int) % 4)) % 4) + (n : Int) % 4 := by omega
      have hi1 : 4 * (((n : Int) / 4 + 3 * ((n : Int) % 4)) % 4) + (n : Int) % 4 < 16 := by omega
      have hi2 : 4 * ((n / 4 + 3 * (n % 4)) % 4) + n % 4 < 16 := by omega
      have he : f (4 * ((n / 4 + 3 * (n % 4)) % 4) + n % 4) = rotF 3 f n := rfl
      have He := Lib.hid he; clear he
      go_wp2
      refine wp_region_still_tail 15 (by kernel_rfl) (by kernel_rfl) ?_
      simp only [List.take_succ_cons, List.take_zero, List.drop_succ_cons, List.drop_zero]
      repeat (refine wpStill_step (fun K hK => ?_); go_simp; (try go_bits); refine hK _ ?_; clear hK K)
      refine wpStill_nil ?_
      go_wp2
      go_roundw
      case rel => exact ⟨n + 1, by omega, by go_num, (row_upto_set hr He.out).drew, ho.setOther (by simp; omega) _, only_drew (only_setCell hgr (.inl rfl) _)⟩
      case measure => simp [intOf] <;> omega
    · go_wp2
      go_end0
      exact ⟨rfl, row_upto_full hr (by omega), hgr⟩

end Go.Proofs.Ytmpcjaoemfnjcaa
