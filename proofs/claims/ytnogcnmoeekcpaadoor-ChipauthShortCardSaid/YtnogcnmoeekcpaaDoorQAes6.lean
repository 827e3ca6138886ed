/- The walks of the package aes: the tables, rotate, mix. -/
import Derived.Test.YtnogcnmoeekcpaaDoorAes1
import Derived.BigRegion
import Derived.Test.YtnogcnmoeekcpaaDoorSlice
import Derived.Deep.RegionHeld3
namespace Go.Proofs.YtnogcnmoeekcpaaDoor
open Go.RowKit

theorem multiply_at (a b : UInt8) (x y : Int) (hx : x = bv a) (hy : y = bv b) (w : World) :
    Calls Tryd.prog 97 #[.int .u8 x, .int .u8 y] w fun e w' => e = .returned (U8 (gmul a b)) ∧ w' = w := by
  subst hx; subst hy; exact multiply_any a b w

def rotI (y : UInt8) (n : Nat) : UInt8 := y * ofI (2 ^ n) ||| ofI (bv y / 2 ^ (8 - n))
def sbxF (y : UInt8) (n : Nat) : UInt8 := (List.range n).foldl (fun s i => s ^^^ rotI y i) 99
theorem sbxF_succ (y : UInt8) (n : Nat) : sbxF y (n + 1) = sbxF y n ^^^ rotI y n := by unfold sbxF; rw [List.range_succ, List.foldl_append]; rfl
/-- The substitute of a byte whose inverse is y. -/
def sbx (y : UInt8) : UInt8 := sbxF y 5
/-- What set enters. -/
def setT (F : Nat → UInt8) (x y : UInt8) (j : Nat) : UInt8 := if j = 256 + (sbx y).toNat then x else if j = x.toNat then sbx y else F j

set_option maxRecDepth 100000 in
set_option maxHeartbeats 400000 in
theorem set_any (g : Nat) (t : TypeId) (F : Nat → UInt8) (x y : UInt8) (w : World) (hg : w.rowIs g t 512 (fun j => U8 (F j))) :
    Calls Tryd.prog 95 #[.pointer (some ⟨g, 0, none⟩), U8 x, U8 y] w fun e w' => e = .returned (.tuple #[]) ∧
      w'.rowIs g t 512 (fun j => U8 (setT F x y j)) ∧ w.grownBy w' (some g) := by
  go_enter Tryd.func95, Tryd.ntmps95
  go_wp2
  go_loopw [6, 8] (fun s i wr => ∃ (n : Nat), n ≤ 5 ∧ i = .int .i64 n ∧ s = U8 (sbxF y n) ∧ wr.rowIs g t 512 (fun j => U8 (F j)) ∧ w.grownBy wr (some g)) (fun _ i _ => 5 - (intOf i).toNat)
  case atStart => exact ⟨0, by omega, rfl, rfl, hg, World.grownBy.refl _ _⟩
  case round =>
    obtain ⟨n, hn, rfl, rfl, hr, hgr⟩ := hrel
    by_cases hlt : n < 5
    · go_wp2
      go_quiet (fail)
      go_wp2
      go_roundw
      case rel => exact ⟨n + 1, by omega, by go_num, by rw [sbxF_succ]; rfl, rowIs_drewN hr _, only_drewN hgr _⟩
      case measure => simp [intOf] <;> omega
    · have e5 : n = 5 := by omega
      subst e5
      have hx0 := bv_nn x
      have hx1 := bv_lt x
      obtain ⟨s, hs⟩ : ∃ s, s = sbxF y 5 := ⟨_, rfl⟩
      rw [← hs]
      have Hs := Lib.hid hs; clear hs
      have hs0 := bv_nn s
      have hs1 := bv_lt s
      have hxn := x.toNat_lt
      have hsn := s.toNat_lt
      have hc1 := hr.cell (i := x.toNat) (by omega)
      have hf1 := hr.frozen x.toNat
      have hc2 := hr.cell (i := 256 + s.toNat) (by omega)
      have hf2 := hr.frozen (256 + s.toNat)
      go_wp2
      go_region
      go_wp2
      go_end0
      refine ⟨rfl, ((hr.set _ _).set _ _).drew.congr fun j hj => ?_, only_drew (only_setCell (only_setCell hgr (.inl rfl) _) (.inl rfl) _)⟩
      have es : sbx y = s := Hs.out.symm
      unfold setT
      rw [es]
      by_cases e1 : j = 256 + s.toNat
      · rw [if_pos e1, if_pos e1]
      · rw [if_neg e1, if_neg e1]
        by_cases e2 : j = x.toNat
        · rw [if_pos e2, if_pos e2]
        · rw [if_neg e2, if_neg e2]

/-- The powers of 3 and those of its inverse; the tables behind n steps. -/
def powX : Nat → UInt8
  | 0 => 1
  | n + 1 => powX n ^^^ dbl (powX n)
def powY : Nat → UInt8
  | 0 => 1
  | n + 1 => gmul (powY n) 246
def tabF : Nat → Nat → UInt8
  | 0 => fun _ => 0
  | n + 1 => setT (tabF n) (powX n) (powY n)
/-- Both tables, one behind the other. -/
def tabs (j : Nat) : UInt8 := setT (tabF 255) 0 0 j

theorem zeroTables (w : World) : (zeroValue 110).run Tryd.prog w = .ok (.agg (bArr 512 fun _ => 0)) w := by kernel_rfl
set_option maxRecDepth 100000 in
set_option maxHeartbeats 400000 in
theorem newTables_any (w : World) :
    Calls Tryd.prog 88 #[] w fun e w' => e = .returned (.pointer (some ⟨w.heap.size, 0, none⟩)) ∧ w'.rowIs w.heap.size 110 512 (fun j => U8 (tabs j)) ∧ Below w.heap.size w w' := by
  have hz := zeroTables
  go_enter Tryd.func88, Tryd.ntmps88
  go_wp2
  go_loopw [2, 3, 6] (fun x y i wr => ∃ n : Nat, n ≤ 255 ∧ i = .int .i64 n ∧ x = U8 (powX n) ∧ y = U8 (powY n) ∧ wr.rowIs w.heap.size 110 512 (fun j => U8 (tabF n j)) ∧ Below w.heap.size w wr) (fun _ _ i _ => 255 - (intOf i).toNat)
  case atStart => exact ⟨0, by omega, rfl, rfl, rfl, rowIs_bArr _ _ _ _, (Below.refl _ _).alloc (Nat.le_refl _) _⟩
  case round =>
    obtain ⟨n, hn, rfl, rfl, rfl, hr, hgr⟩ := hrel
    by_cases hlt : n < 255
    · go_wp2_with fail
      refine (set_any _ _ _ _ _ _ hr).mono ?_
      rintro e w1 ⟨rfl, hr1, hg1⟩
      go_wp2_with fail
      refine (double_any _ _).mono ?_
      rintro e w2 ⟨rfl, rfl⟩
      go_wp2_with fail
      refine (multiply_at (powY n) 246 _ _ rfl rfl _).mono ?_
      rintro e w2 ⟨rfl, rfl⟩
      go_wp2
      go_roundw
      case rel => exact ⟨n + 1, by omega, by go_num, rfl, rfl, hr1, hgr.trans (below_of_only hg1 hgr.size (Nat.le_refl _))⟩
      case measure => simp [intOf] <;> omega
    · have e5 : n = 255 := by omega
      subst e5
      go_wp2_with fail
      refine (set_any _ _ _ 0 0 _ hr).mono ?_
      rintro e w1 ⟨rfl, hr1, hg1⟩
      go_wp2
      go_ret
      exact ⟨rfl, hr1, hgr.trans (below_of_only hg1 hgr.size (Nat.le_refl _))⟩

def rotF (s : Nat) (f : Nat → UInt8) (i : Nat) : UInt8 := f (4 * ((i / 4 + s * (i % 4)) % 4) + i % 4)
set_option maxRecDepth 100000 in
set_option maxHeartbeats 400000 in
theorem rotate1_any (g : Nat) (t : TypeId) (f : Nat → UInt8) (w : World) (hg : w.rowIs g t 16 (fun j => U8 (f j))) :
    Calls Tryd.prog 92 #[.pointer (some ⟨g, 0, none⟩), .int .i64 1] w fun e w' => e = .returned (.tuple #[]) ∧ w'.rowIs g t 16 (fun j => U8 (rotF 1 f j)) ∧ w.grownBy w' (some g) := by
  have hrow := row_bArr hg
  have hlt := hg.lt
  have hst := store_new (P := Tryd.prog) (T := 101) (n := 16) rfl f
  go_enter Tryd.func92, Tryd.ntmps92
  go_wp2_with (refine wpList_load_row rfl 101 (.tmp 9) rfl g rfl t (bArr 16 f) (0, 0) _ hrow Tryd.underlying101 rfl (by rw [bArr_size]; rfl) ?_)
  go_loopw [11] (fun i wr => ∃ n : Nat, n ≤ 16 ∧ i = .int .i64 n ∧ wr.rowIs g t 16 (fun j => U8 (upto n (rotF 1 f) f j)) ∧ wr.rowIs w.heap.size 101 16 (fun j => U8 (f j)) ∧ w.grownBy wr (some g)) (fun i _ => 16 - (intOf i).toNat)
  case atStart => exact ⟨0, by omega, rfl, row_upto_zero (hg.alloc _) _, rowIs_bArr _ _ _ _, only_alloc (World.grownBy.refl _ _) _⟩
  case round =>
    obtain ⟨n, hn, rfl, hr, ho, hgr⟩ := hrel
    by_cases hlt : n < 16
    · have hc1 := row_upto_cell hr hlt
      have hf := hr.frozen n
      have hc2 := fun j (h : j < 16) => ho.cell (i := j) h
      have hi0 : 0 ≤ 4 * (((n : Int) / 4 + n) % 4) + (n : Int) % 4 := by omega
      have hi1 : 4 * (((n : Int) / 4 + n) % 4) + (n : Int) % 4 < 16 := by omega
      have hi2 : 4 * ((n / 4 + n) % 4) + n % 4 < 16 := by omega
      have he : f (4 * ((n / 4 + n) % 4) + n % 4) = rotF 1 f n := by unfold rotF; congr 1; omega
      have He := Lib.hid he; clear he
      go_wp2
      refine wp_region_still_tail 15 (by kernel_rfl) (by kernel_rfl) ?_
      simp only [List.take_succ_cons, List.take_zero, List.drop_succ_cons, List.drop_zero]
      repeat (refine wpStill_step (fun K hK => ?_); go_simp; (try go_bits); refine hK _ ?_; clear hK K)
      refine wpStill_nil ?_
      go_wp2
      go_roundw
      case rel => exact ⟨n + 1, by omega, by go_num, (row_upto_set hr He.out).drew, ho.setOther (by simp; omega) _, only_drew (only_setCell hgr (.inl rfl) _)⟩
      case measure => simp [intOf] <;> omega
    · go_wp2
      go_end0
      exact ⟨rfl, row_upto_full hr (by omega), hgr⟩
set_option maxRecDepth 100000 in
set_option maxHeartbeats 400000 in
theorem rotate3_any (g : Nat) (t : TypeId) (f : Nat → UInt8) (w : World) (hg : w.rowIs g t 16 (fun j => U8 (f j))) :
    Calls Tryd.prog 92 #[.pointer (some ⟨g, 0, none⟩), .int .i64 3] w fun e w' => e = .returned (.tuple #[]) ∧ w'.rowIs g t 16 (fun j => U8 (rotF 3 f j)) ∧ w.grownBy w' (some g) := by
  have hrow := row_bArr hg
  have hlt := hg.lt
  have hst := store_new (P := Tryd.prog) (T := 101) (n := 16) rfl f
  go_enter Tryd.func92, Tryd.ntmps92
  go_wp2_with (refine wpList_load_row rfl 101 (.tmp 9) rfl g rfl t (bArr 16 f) (0, 0) _ hrow Tryd.underlying101 rfl (by rw [bArr_size]; rfl) ?_)
  go_loopw [11] (fun i wr => ∃ n : Nat, n ≤ 16 ∧ i = .int .i64 n ∧ wr.rowIs g t 16 (fun j => U8 (upto n (rotF 3 f) f j)) ∧ wr.rowIs w.heap.size 101 16 (fun j => U8 (f j)) ∧ w.grownBy wr (some g)) (fun i _ => 16 - (intOf i).toNat)
  case atStart => exact ⟨0, by omega, rfl, row_upto_zero (hg.alloc _) _, rowIs_bArr _ _ _ _, only_alloc (World.grownBy.refl _ _) _⟩
  case round =>
    obtain ⟨n, hn, rfl, hr, ho, hgr⟩ := hrel
    by_cases hlt : n < 16
    · have hc1 := row_upto_cell hr hlt
      have hf := hr.frozen n
      have hc2 := fun j (h : j < 16) => ho.cell (i := j) h
      have hi0 : 0 ≤ 4 * (((n : Int) / 4 + 3 * ((n : Int) % 4)) % 4) + (n : Int) % 4 := by omega
      have hi1 : 4 * (((n : Int) / 4 + 3 * ((n : Int) % 4)) % 4) + (n : Int) % 4 < 16 := by omega
      have hi2 : 4 * ((n / 4 + 3 * (n % 4)) % 4) + n % 4 < 16 := by omega
      have he : f (4 * ((n / 4 + 3 * (n % 4)) % 4) + n % 4) = rotF 3 f n := rfl
      have He := Lib.hid he; clear he
      go_wp2
      refine wp_region_still_tail 15 (by kernel_rfl) (by kernel_rfl) ?_
      simp only [List.take_succ_cons, List.take_zero, List.drop_succ_cons, List.drop_zero]
      repeat (refine wpStill_step (fun K hK => ?_); go_simp; (try go_bits); refine hK _ ?_; clear hK K)
      refine wpStill_nil ?_
      go_wp2
      go_roundw
      case rel => exact ⟨n + 1, by omega, by go_num, (row_upto_set hr He.out).drew, ho.setOther (by simp; omega) _, only_drew (only_setCell hgr (.inl rfl) _)⟩
      case measure => simp [intOf] <;> omega
    · go_wp2
      go_end0
      exact ⟨rfl, row_upto_full hr (by omega), hgr⟩

end Go.Proofs.YtnogcnmoeekcpaaDoor
/- The walk of (*block).mix. -/
namespace Go.Proofs.YtnogcnmoeekcpaaDoor
open Go.RowKit

def mixS (row f : Nat → UInt8) (i n : Nat) : UInt8 := (List.range n).foldl (fun s k => s ^^^ gmul (f (i / 4 * 4 + k)) (row ((k + 4 - i % 4) % 4))) 0
theorem mixS_succ (row f : Nat → UInt8) (i n : Nat) : mixS row f i (n + 1) = mixS row f i n ^^^ gmul (f (i / 4 * 4 + n)) (row ((n + 4 - i % 4) % 4)) := by
  unfold mixS; rw [List.range_succ, List.foldl_append]; rfl
/-- One byte of a column times the matrix. -/
def mixF (row f : Nat → UInt8) (i : Nat) : UInt8 := mixS row f i 4
/-- The places below n new, place n at v, the others old. -/
def upto1 (n : Nat) (v : UInt8) (new old : Nat → UInt8) (j : Nat) : UInt8 := if j = n then v else upto n new old j
set_option maxRecDepth 100000 in
set_option maxHeartbeats 1000000 in
theorem mix_any (g : Nat) (t : TypeId) (f row : Nat → UInt8) (a : Array Value) (ha : a = bArr 4 row) (w : World) (hg : w.rowIs g t 16 (fun j => U8 (f j))) :
    Calls Tryd.prog 93 #[.pointer (some ⟨g, 0, none⟩), .agg a] w fun e w' => e = .returned (.tuple #[]) ∧ w'.rowIs g t 16 (fun j => U8 (mixF row f j)) ∧ w.grownBy w' (some g) := by
  subst ha
  have hrow := row_bArr hg
  have hlt := hg.lt
  have hst := store_new (P := Tryd.prog) (T := 101) (n := 16) rfl f
  have hrow' : (w.alloc (.cells (bArr 4 row) 113)).heap[g]? = some (.cells (bArr 16 f) t (0, 0)) := by rw [Below.heap_alloc _ _ _ hlt]; exact hrow
  go_enter Tryd.func93, Tryd.ntmps93
  go_wp2_with (refine wpList_load_row rfl 101 (.tmp 8) rfl g rfl t (bArr 16 f) (0, 0) _ hrow' Tryd.underlying101 rfl (by rw [bArr_size]; rfl) ?_)
  go_loopw [10] (fun i wr => ∃ n : Nat, n ≤ 16 ∧ i = .int .i64 n ∧ wr.rowIs g t 16 (fun j => U8 (upto n (mixF row f) f j)) ∧ wr.rowIs w.heap.size 113 4 (fun j => U8 (row j)) ∧ wr.rowIs (w.heap.size + 1) 101 16 (fun j => U8 (f j)) ∧ w.grownBy wr (some g)) (fun i _ => 16 - (intOf i).toNat)
  case atStart =>
    refine ⟨0, by omega, rfl, row_upto_zero ((hg.alloc _).alloc _) _, (rowIs_bArr _ _ _ _).alloc _, ?_, only_alloc (only_alloc (World.grownBy.refl _ _) _) _⟩
    have := rowIs_bArr (w.alloc (.cells (bArr 4 row) 113)) 16 101 f
    simpa using this
  case round =>
    obtain ⟨n, hn, rfl, hr, hw, ho, hgr⟩ := hrel
    by_cases hlt : n < 16
    · have hc1 := hr.cell hlt
      have hf := hr.frozen n
      have hd : decide ((n : Int) < 16) = true := by simp; omega
      go_wp2
      obtain ⟨wo, rfl⟩ : ∃ wo : World, wo = wr.setCell ⟨g, n, none⟩ (U8 0) := ⟨_, rfl⟩
      have hr1 : (wr.setCell ⟨g, n, none⟩ (U8 0)).rowIs g t 16 (fun j => U8 (upto1 n (mixS row f n 0) (mixF row f) f j)) := (hr.set n _).congr fun j _ => by
        unfold upto1
        by_cases e : j = n
        · rw [if_pos e, if_pos e]; rfl
        · rw [if_neg e, if_neg e]
      have hw1 := hw.setOther (a := ⟨g, n, none⟩) (by simp; omega) (U8 0)
      have ho1 := ho.setOther (a := ⟨g, n, none⟩) (by simp; omega) (U8 0)
      have hg1 := only_setCell (p := ⟨g, n, none⟩) hgr (.inl rfl) (U8 0)
      clear hr hw ho hgr hc1 hf hst hrow hrow'
      go_loopw [17] (fun v wi => ∃ k : Nat, k ≤ 4 ∧ v = .int .i64 k ∧ wi.rowIs g t 16 (fun j => U8 (upto1 n (mixS row f n k) (mixF row f) f j)) ∧ wi.rowIs w.heap.size 113 4 (fun j => U8 (row j)) ∧ wi.rowIs (w.heap.size + 1) 101 16 (fun j => U8 (f j)) ∧ w.grownBy wi (some g)) (fun v _ => 4 - (intOf v).toNat)
      case atStart => exact ⟨0, by omega, rfl, hr1, hw1, ho1, hg1⟩
      case round =>
        clear hr1 hw1 ho1 hg1
        obtain ⟨k, hk, rfl, hr, hw, ho, hgr⟩ := hrel
        by_cases hlt' : k < 4
        · have hc1 := hr.cell hlt
          have hf := hr.frozen n
          have hv : upto1 n (mixS row f n k) (mixF row f) f n = mixS row f n k := by unfold upto1; rw [if_pos rfl]
          rw [hv] at hc1
          clear hv
          have hc2 := fun j (h : j < 16) => ho.cell (i := j) h
          have hq : (((k : Int) - (n : Int)) % 4).toNat = (k + 4 - n % 4) % 4 := by omega
          have hc3 : wr.cell? ⟨w.heap.size, (((k : Int) - (n : Int)) % 4).toNat, none⟩ = some (U8 (row ((k + 4 - n % 4) % 4))) := by rw [hq]; exact hw.cell (by omega)
          clear hq
          have hi3 : 0 ≤ ((k : Int) - (n : Int)) % 4 := by omega
          have hi4 : ((k : Int) - (n : Int)) % 4 < 4 := by omega
          have hnI : (n : Int) < 16 := by omega
          have hi0 : 0 ≤ (n : Int) / 4 * 4 + k := by omega
          have hi1 : (n : Int) / 4 * 4 + k < 16 := by omega
          have hi2 : n / 4 * 4 + k < 16 := by omega
          go_wp2
          refine wp_region_still_tail 24 (by kernel_rfl) (by kernel_rfl) ?_
          simp only [List.take_succ_cons, List.take_zero, List.drop_succ_cons, List.drop_zero]
          repeat (refine wpStill_step (fun K hK => ?_); go_simp; (try go_bits); refine hK _ ?_; clear hK K)
          refine wpStill_step (fun K hK => ?_)
          go_simp
          refine ⟨_, multiply_any _ _ _, hK _ ?_⟩
          clear hK K
          repeat (refine wpStill_step (fun K hK => ?_); go_simp; (try go_bits); refine hK _ ?_; clear hK K)
          refine wpStill_nil ?_
          go_wp2
          go_roundw
          case rel =>
            refine ⟨k + 1, by omega, by go_num, ((hr.set n _).congr fun j _ => ?_).drew, hw.setOther (by simp; omega) _, ho.setOther (by simp; omega) _, only_drew (only_setCell hgr (.inl rfl) _)⟩
            unfold upto1
            by_cases e : j = n
            · rw [if_pos e, if_pos e, mixS_succ]
            · simp only [if_neg e]
          case measure => simp [intOf] <;> omega
        · go_wp2
          have hk4 : k = 4 := by omega
          subst hk4
          go_roundw
          case rel =>
            refine ⟨n + 1, by omega, by go_num, hr.congr fun j _ => ?_, hw, ho, hgr⟩
            unfold upto1
            by_cases e : j = n
            · subst e; rw [if_pos rfl]; unfold upto; rw [if_pos (by omega)]; rfl
            · rw [if_neg e]; unfold upto
              by_cases e2 : j < n
              · rw [if_pos e2, if_pos (by omega)]
              · rw [if_neg e2, if_neg (by omega)]
          case measure => simp [intOf] <;> omega
    · go_wp2
      go_end0
      exact ⟨rfl, row_upto_full hr (by omega), hgr⟩

end Go.Proofs.YtnogcnmoeekcpaaDoor
/- The walk of (*tables).expand. -/
namespace Go.Proofs.YtnogcnmoeekcpaaDoor
open Go.RowKit

def rconF : Nat → UInt8
  | 0 => 1
  | n + 1 => dbl (rconF n)
def kw0 (T old : Nat → UInt8) (c : UInt8) (r : Nat) : UInt8 := if r = 0 then T (old 13).toNat ^^^ c else if r = 1 then T (old 14).toNat else if r = 2 then T (old 15).toNat else T (old 12).toNat
/-- The four bytes w behind n rounds of the inner loop. -/
def kwF (T old : Nat → UInt8) (c : UInt8) : Nat → Nat → UInt8
  | 0 => kw0 T old c
  | n + 1 => fun r => if r = n % 4 then kwF T old c n r ^^^ old n else kwF T old c n r
theorem kwF_hit (T old : Nat → UInt8) (c : UInt8) (n r : Nat) (e : r = n % 4) : kwF T old c (n + 1) r = kwF T old c n r ^^^ old n := by show (if r = n % 4 then _ else _) = _; rw [if_pos e]
theorem kwF_miss (T old : Nat → UInt8) (c : UInt8) (n r : Nat) (e : ¬ r = n % 4) : kwF T old c (n + 1) r = kwF T old c n r := by show (if r = n % 4 then _ else _) = _; rw [if_neg e]
def nextK (T old : Nat → UInt8) (c : UInt8) (k : Nat) : UInt8 := kwF T old c (k + 1) (k % 4)
/-- The keys of the rounds: round i, byte k. -/
def keyF (T key : Nat → UInt8) : Nat → Nat → UInt8
  | 0 => key
  | i + 1 => nextK T (keyF T key i) (rconF i)
/-- All keys, one behind the other. -/
def keysF (T key : Nat → UInt8) (j : Nat) : UInt8 := keyF T key (j / 16) (j % 16)

theorem zeroKeys (w : World) : (zeroValue 102).run Tryd.prog w = .ok (.agg (bArr 176 fun _ => 0)) w := by kernel_rfl
set_option maxRecDepth 100000 in
set_option maxHeartbeats 1000000 in
theorem expand_any (tb off : Nat) (T : Nat → UInt8) (v : Value) (l : List UInt8) (hl : l.length = 16) (w : World) (hT : ArrB w tb off 256 T) (htb : tb < w.heap.size) (hv : Bs w w.heap.size v l) :
    Calls Tryd.prog 89 #[.pointer (some ⟨tb, off, none⟩), v] w fun e w' => e = .returned (.agg (bArr 176 (keysF T (gb l)))) ∧ Below w.heap.size w w' := by
  have hz := zeroKeys
  obtain ⟨a, c, rfl, hlc, hc, _, hcell⟩ := hv
  obtain ⟨kb, ko, rfl, hkb, hkey⟩ := hcell (by omega)
  rw [hl] at hlc hkey ⊢
  obtain ⟨key, hkey'⟩ : ∃ key : Nat → UInt8, key = gb l := ⟨_, rfl⟩
  rw [← hkey']
  have hkey : ∀ j, j < 16 → w.cell? ⟨kb, ko + j, none⟩ = some (U8 (key j)) := fun j hj => by rw [hkey']; exact hkey j hj
  clear hkey' hcell
  have hg0 : ((w.alloc (.cells (bArr 176 fun _ => 0) 102)).alloc (.cells (bArr 176 fun _ => 0) 102)).heap[w.heap.size + 1]? = some (.cells ((bArr 176 fun _ => 0).toList).toArray 102 (0, 0)) := by rw [heap_alloc2_new]
  have hr0 : ((w.alloc (.cells (bArr 176 fun _ => 0) 102)).alloc (.cells (bArr 176 fun _ => 0) 102)).rowIs w.heap.size 102 176 (fun _ => U8 0) := (rowIs_bArr _ _ _ _).alloc _
  have hk0 : ∀ (j : Nat) (u : Value), ((List.range 16).map fun j => U8 (key j))[j]? = some u → ((w.alloc (.cells (bArr 176 fun _ => 0) 102)).alloc (.cells (bArr 176 fun _ => 0) 102)).cell? ((⟨kb, ko, none⟩ : Addr).add j) = some u := by
    intro j u hu
    have hj : j < 16 := by
      rcases Nat.lt_or_ge j 16 with h | h
      · exact h
      · rw [List.getElem?_eq_none (by simp; omega)] at hu; cases hu
    have e : (⟨kb, ko, none⟩ : Addr).add j = ⟨kb, ko + j, none⟩ := by unfold Addr.add; split <;> simp_all
    rw [e, World.cell?_alloc_past _ _ _ (by simp; omega), World.cell?_alloc_past _ _ _ hkb, hkey j hj, ← hu]
    simp [hj]
  have Hg0 := Lib.hid hg0; clear hg0
  have Hr0 := Lib.hid hr0; clear hr0
  have Hk0 := Lib.hid hk0; clear hk0
  go_enter Tryd.func89, Tryd.ntmps89
  go_wp2_with (with_reducible refine wpList_copy_splice rfl (.tmp 12) (.tmp 13) 22 22 rfl 5 Tryd.underlying22 rfl _ _ 16 16 16 c rfl rfl (w.heap.size + 1) 0 (bArr 176 fun _ => 0).toList 102 Hg0.out ((List.range 16).map fun j => U8 (key j)) (by simp) (fun _ => ⟨rfl, _, rfl, Hk0.out⟩) (by simp [bArr]) (by simp [Value.oneCell']) (w.heap.size + 1) _ (Below.refl _ _) (Nat.le_refl _) ?_; intro w2 HG2 hB2)
  have hr2 : w2.rowIs (w.heap.size + 1) 102 176 (fun j => U8 (upto 16 (keysF T key) (fun _ => 0) j)) := by
    have h := HG2.out
    rw [splice_bArr 176 16 0 _ _ (by omega)] at h
    refine ⟨_, h, bArr_size _ _, fun i hi => ?_⟩
    rw [bArr_at _ _ _ hi]
    unfold upto keysF
    dsimp only
    by_cases e : i < 16
    · rw [if_pos (by omega), if_pos e, Nat.div_eq_of_lt e, Nat.mod_eq_of_lt e]; rfl
    · rw [if_neg (by omega), if_neg e]
  have hs2 : w2.rowIs w.heap.size 102 176 (fun _ => U8 0) := rowIs_below Hr0.out hB2 (by omega)
  have hb2 : Below w.heap.size w w2 := (((Below.refl _ _).alloc (Nat.le_refl _) _).alloc (by simp) _).trans (hB2.mono (by omega))
  clear hB2 HG2 Hg0 Hr0 Hk0 hkey
  go_loopw [6, 7] (fun c i wr => ∃ n : Nat, n ≤ 10 ∧ i = .int .i64 (n + 1 : Nat) ∧ c = U8 (rconF n) ∧ wr.rowIs (w.heap.size + 1) 102 176 (fun j => U8 (upto (16 * (n + 1)) (keysF T key) (fun _ => 0) j)) ∧ wr.rowIs w.heap.size 102 176 (fun _ => U8 0) ∧ Below w.heap.size w wr) (fun _ i _ => 11 - (intOf i).toNat)
  case atStart => exact ⟨0, by omega, rfl, rfl, hr2, hs2, hb2⟩
  case round =>
    clear hr2 hs2 hb2
    obtain ⟨n, hn, rfl, rfl, hr, hs, hb⟩ := hrel
    obtain ⟨wo, rfl⟩ : ∃ wo : World, wo = wr := ⟨_, rfl⟩
    have hsz := hr.lt
    by_cases hlt : n < 10
    · have hd : decide ((n : Int) + 1 ≤ 10) = true := by simp; omega
      go_wp2
      have hcl : ∀ k, k < 16 → wo.cell? ⟨w.heap.size + 1, n * 16 + k, none⟩ = some (U8 (keyF T key n k)) := fun k hk => by
        have h := hr.cell (i := n * 16 + k) (by omega)
        rw [h]
        unfold upto keysF
        rw [if_pos (by omega), show (n * 16 + k) / 16 = n by omega, show (n * 16 + k) % 16 = k by omega]
      have hTr : ArrB wo tb off 256 T := hT.of_block (hb.block tb htb)
      have c12 := hcl 12 (by omega)
      have c13 := hcl 13 (by omega)
      have c14 := hcl 14 (by omega)
      have c15 := hcl 15 (by omega)
      obtain ⟨x12, e12⟩ : ∃ x, x = keyF T key n 12 := ⟨_, rfl⟩
      rw [← e12] at c12
      have E12 := Lib.hid e12; clear e12
      obtain ⟨x13, e13⟩ : ∃ x, x = keyF T key n 13 := ⟨_, rfl⟩
      rw [← e13] at c13
      have E13 := Lib.hid e13; clear e13
      obtain ⟨x14, e14⟩ : ∃ x, x = keyF T key n 14 := ⟨_, rfl⟩
      rw [← e14] at c14
      have E14 := Lib.hid e14; clear e14
      obtain ⟨x15, e15⟩ : ∃ x, x = keyF T key n 15 := ⟨_, rfl⟩
      rw [← e15] at c15
      have E15 := Lib.hid e15; clear e15
      have t12 := hTr.at_ x12.toNat_lt
      have t13 := hTr.at_ x13.toNat_lt
      have t14 := hTr.at_ x14.toNat_lt
      have t15 := hTr.at_ x15.toNat_lt
      have b12 := bv_nn x12
      have b13 := bv_nn x13
      have b14 := bv_nn x14
      have b15 := bv_nn x15
      have d12 := bv_lt x12
      have d13 := bv_lt x13
      have d14 := bv_lt x14
      have d15 := bv_lt x15
      clear hTr hcl
      go_region_held3 (fun W => W.cell? ⟨w.heap.size + 1, n * 16 + 12, none⟩ = some (U8 x12) ∧ W.cell? ⟨w.heap.size + 1, n * 16 + 13, none⟩ = some (U8 x13) ∧ W.cell? ⟨w.heap.size + 1, n * 16 + 14, none⟩ = some (U8 x14) ∧ W.cell? ⟨w.heap.size + 1, n * 16 + 15, none⟩ = some (U8 x15) ∧
        W.cell? ⟨tb, off + x12.toNat, none⟩ = some (U8 (T x12.toNat)) ∧ W.cell? ⟨tb, off + x13.toNat, none⟩ = some (U8 (T x13.toNat)) ∧ W.cell? ⟨tb, off + x14.toNat, none⟩ = some (U8 (T x14.toNat)) ∧ W.cell? ⟨tb, off + x15.toNat, none⟩ = some (U8 (T x15.toNat)))
        (go_keep) (fail)
      clear c12 c13 c14 c15 t12 t13 t14 t15 b12 b13 b14 b15 d12 d13 d14 d15
      have hw0 : (wo.alloc (.cells #[U8 (T x13.toNat ^^^ rconF n), U8 (T x14.toNat), U8 (T x15.toNat), U8 (T x12.toNat)] 113)).rowIs wo.heap.size 113 4 (fun r => U8 (kwF T (keyF T key n) (rconF n) 0 r)) := by
        refine ⟨_, heap_alloc_new _ _, rfl, fun i hi => ?_⟩
        unfold kwF kw0
        rw [← E12.out, ← E13.out, ← E14.out, ← E15.out]
        rcases i with _ | _ | _ | _ | i
        · rfl
        · rfl
        · rfl
        · rfl
        · omega
      have hr0 := hr.alloc (.cells #[U8 (T x13.toNat ^^^ rconF n), U8 (T x14.toNat), U8 (T x15.toNat), U8 (T x12.toNat)] 113)
      have hs0 := hs.alloc (.cells #[U8 (T x13.toNat ^^^ rconF n), U8 (T x14.toNat), U8 (T x15.toNat), U8 (T x12.toNat)] 113)
      have hb0 := (hb.alloc hb.size (.cells #[U8 (T x13.toNat ^^^ rconF n), U8 (T x14.toNat), U8 (T x15.toNat), U8 (T x12.toNat)] 113))
      clear hr hs hb E12 E13 E14 E15
      go_wp2_with (go_at_call 96; refine (double_any _ _).mono ?_; rintro e w' ⟨rfl, rfl⟩)
      go_loopw [63] (fun v wi => ∃ k : Nat, k ≤ 16 ∧ v = .int .i64 k ∧ wi.rowIs (w.heap.size + 1) 102 176 (fun j => U8 (upto (16 * (n + 1) + k) (keysF T key) (fun _ => 0) j)) ∧ wi.rowIs wo.heap.size 113 4 (fun r => U8 (kwF T (keyF T key n) (rconF n) k r)) ∧ wi.rowIs w.heap.size 102 176 (fun _ => U8 0) ∧ Below w.heap.size w wi) (fun v _ => 16 - (intOf v).toNat)
      case atStart => exact ⟨0, by omega, rfl, hr0.drew, hw0.drew, hs0.drew, hb0.drew⟩
      case round =>
        clear hr0 hs0 hw0 hb0
        obtain ⟨k, hk, rfl, hr, hw, hs, hb⟩ := hrel
        by_cases hlt' : k < 16
        · have c1 := hr.cell (i := n * 16 + k) (by omega)
          have hu : upto (16 * (n + 1) + k) (keysF T key) (fun _ => 0) (n * 16 + k) = keyF T key n k := by
            unfold upto keysF
            rw [if_pos (by omega), show (n * 16 + k) / 16 = n by omega, show (n * 16 + k) % 16 = k by omega]
          rw [hu] at c1
          clear hu
          have c2 := hw.cell (i := k % 4) (by omega)
          have f2 := hw.frozen (k % 4)
          have i1 : (k : Int) % 4 < 4 := by omega
          have i0 : 0 ≤ (k : Int) % 4 := by omega
          have j0 : 0 ≤ (n : Int) + 1 := by omega
          have j1 : (n : Int) + 1 < 11 := by omega
          have k1 : (k : Int) < 16 := by omega
          go_wp2
          refine wp_region_still_tail 11 (by kernel_rfl) (by kernel_rfl) ?_
          simp only [List.take_succ_cons, List.take_zero, List.drop_succ_cons, List.drop_zero]
          repeat (refine wpStill_step (fun K hK => ?_); go_simp; (try go_bits); refine hK _ ?_; clear hK K)
          refine wpStill_nil ?_
          go_wp2
          have hw1 : ((wr.setCell ⟨wo.heap.size, k % 4, none⟩ (U8 (kwF T (keyF T key n) (rconF n) k (k % 4) ^^^ keyF T key n k))).drew).rowIs wo.heap.size 113 4 (fun r => U8 (kwF T (keyF T key n) (rconF n) (k + 1) r)) :=
            (hw.set (k % 4) _).drew.congr fun r _ => by
              by_cases e : r = k % 4
              · rw [if_pos e, kwF_hit _ _ _ _ _ e, e]
              · rw [if_neg e, kwF_miss _ _ _ _ _ e]
          have hr1 := (hr.setOther (a := ⟨wo.heap.size, k % 4, none⟩) (by simp; omega) (U8 (kwF T (keyF T key n) (rconF n) k (k % 4) ^^^ keyF T key n k))).drew
          have hs1 := (hs.setOther (a := ⟨wo.heap.size, k % 4, none⟩) (by simp; omega) (U8 (kwF T (keyF T key n) (rconF n) k (k % 4) ^^^ keyF T key n k))).drew
          have hb1 := (hb.setCell (p := ⟨wo.heap.size, k % 4, none⟩) (by simp; omega) (U8 (kwF T (keyF T key n) (rconF n) k (k % 4) ^^^ keyF T key n k))).drew
          have c3 := hw1.cell (i := k % 4) (by omega)
          have f4 := hr1.frozen ((n + 1) * 16 + k)
          have c4 := hr1.cell (i := (n + 1) * 16 + k) (by omega)
          have hnk : kwF T (keyF T key n) (rconF n) (k + 1) (k % 4) = keysF T key (16 * (n + 1) + k) := by
            unfold keysF
            rw [show (16 * (n + 1) + k) / 16 = n + 1 by omega, show (16 * (n + 1) + k) % 16 = k by omega]
            rfl
          rw [hnk] at c3
          clear hnk hr hw hs hb c1 c2 f2
          generalize (wr.setCell ⟨wo.heap.size, k % 4, none⟩ (U8 (kwF T (keyF T key n) (rconF n) k (k % 4) ^^^ keyF T key n k))).drew = w5 at *
          refine wp_region_still_tail 8 (by kernel_rfl) (by kernel_rfl) ?_
          simp only [List.take_succ_cons, List.take_zero, List.drop_succ_cons, List.drop_zero]
          repeat (refine wpStill_step (fun K hK => ?_); go_simp; (try go_bits); refine hK _ ?_; clear hK K)
          refine wpStill_nil ?_
          go_wp2
          go_roundw
          case rel =>
            refine ⟨k + 1, by omega, by go_num, ?_, (hw1.setOther (by simp; omega) _).drew, (hs1.setOther (by simp) _).drew, (hb1.setCell (by simp) _).drew⟩
            rw [show (n + 1) * 16 + k = 16 * (n + 1) + k by omega]
            exact (row_upto_set hr1 rfl).drew
          case measure => simp [intOf] <;> omega
        · go_wp2
          have hk16 : k = 16 := by omega
          subst hk16
          go_roundw
          case rel => exact ⟨n + 1, by omega, by go_num, rfl, hr, hs, hb⟩
          case measure => simp [intOf] <;> omega
    · have hn10 : n = 10 := by omega
      subst hn10
      go_wp2_with (first
        | (refine wpList_load_row rfl 102 (.tmp 5) rfl (w.heap.size + 1) rfl 102 (bArr 176 _) (0, 0) _ (row_bArr hr) Tryd.underlying102 rfl (by rw [bArr_size]; rfl) ?_)
        | (refine wpList_store_row rfl 102 (.tmp 4) (.tmp 86) rfl w.heap.size _ rfl rfl 102 (bArr 176 _) (row_bArr hs) (by rw [bArr_size]; rfl) (by rw [bArr_size, bArr_size]) (bArr_one _ _) ?_))
      have hb' := below_setRow hb (Nat.le_refl _) (bArr 176 (fun j => upto (16 * (10 + 1)) (keysF T key) (fun _ => 0) j))
      refine bodyPost_ret (results_cell_row rfl _ _ w.heap.size 102 (bArr 176 (keysF T key)) (0, 0) _ rfl ?_ Tryd.underlying102 rfl (by rw [bArr_size]; rfl)) rfl ⟨rfl, hb'⟩
      rw [setRow_heap _ _ _ _ _ _ (row_bArr hs)]
      rw [bArr_congr (g := keysF T key) fun j hj => by unfold upto; rw [if_pos (by omega)]]
end Go.Proofs.YtnogcnmoeekcpaaDoor
/- The walks of Ready and of the cipher's methods. -/
namespace Go.Proofs.YtnogcnmoeekcpaaDoor
open Go.RowKit

def fwd (j : Nat) : UInt8 := tabs j
def bck (j : Nat) : UInt8 := tabs (256 + j)
/-- p points to a cipher that was made ready with a key; it lies below block B. -/
def CipherAt (w : World) (B : Nat) (p : Value) (key : Nat → UInt8) : Prop :=
  ∃ tb cb, p = .pointer (some ⟨cb, 0, none⟩) ∧ tb < B ∧ cb < B ∧ w.cell? ⟨cb, 0, none⟩ = some (.pointer (some ⟨tb, 0, none⟩)) ∧ ArrB w tb 0 512 tabs ∧ ArrB w cb 1 176 (keysF fwd key)
theorem CipherAt.below {w w' : World} {B : Nat} {p : Value} {key : Nat → UInt8} (h : CipherAt w B p key) (hb : Below B w w') : CipherAt w' B p key := by
  obtain ⟨tb, cb, hp, h1, h2, h3, h4, h5⟩ := h
  exact ⟨tb, cb, hp, h1, h2, (hb.cell (p := ⟨cb, 0, none⟩) h2).trans h3, h4.of_block (hb.block tb h1), h5.of_block (hb.block cb h2)⟩

/-- A cipher's cells. -/
def cipArr (p : Option Addr) (K : Nat → UInt8) : Array Value := #[.pointer p] ++ bArr 176 K
theorem built_cipher (p : Option Addr) (K : Nat → UInt8) : Tryd.prog.built 105 [(0, .pointer p), (1, .agg (bArr 176 K))] = some (cipArr p K) := by kernel_rfl
theorem cipArr_zero (p : Option Addr) (K : Nat → UInt8) : (cipArr p K)[0]? = some (.pointer p) := by
  unfold cipArr; rw [Array.getElem?_append_left (by simp)]; rfl
theorem cipArr_succ (p : Option Addr) (K : Nat → UInt8) (j : Nat) (hj : j < 176) : (cipArr p K)[1 + j]? = some (U8 (K j)) := by
  unfold cipArr; rw [Array.getElem?_append_right (by simp)]
  simp only [List.size_toArray, List.length_cons, List.length_nil]
  rw [show 1 + j - (0 + 1) = j by omega]
  exact bArr_at _ _ _ hj
set_option maxRecDepth 100000 in
set_option maxHeartbeats 400000 in
theorem ready_any (v : Value) (l : List UInt8) (hl : l.length = 16) (w : World) (hv : Bs w w.heap.size v l) :
    Calls Tryd.prog 81 #[v] w fun e w' => ∃ p, e = .returned p ∧ CipherAt w' w'.heap.size p (gb l) ∧ Below w.heap.size w w' := by
  have hv0 := hv
  have Hl := Lib.hid hl
  obtain ⟨a, c, hve, hlc, hc, _, hcell⟩ := hv
  rw [hl] at hve
  subst hve
  have Hv0 := Lib.hid hv0; clear hv0 hl hcell
  go_enter Tryd.func81, Tryd.ntmps81
  go_wp2_with fail
  refine (newTables_any _).mono ?_
  rintro e w1 ⟨rfl, hr1, hb1⟩
  go_wp2_with fail
  have hT1 : ArrB w1 w.heap.size 0 256 fwd := (ArrB.of_row (off := 0) hr1 (m := 256) (by omega)).congr fun j _ => by rw [Nat.zero_add]; rfl
  refine (expand_any w.heap.size 0 fwd (.slice a 16 c) l Hl.out w1 hT1 hr1.lt ((Hv0.out.below hb1).mono hb1.size)).mono ?_
  rintro e w2 ⟨rfl, hb2⟩
  have hr2 := rowIs_below hr1 hb2 hr1.lt
  have hb12 := hb1.trans (hb2.mono hb1.size)
  clear hr1 hT1
  go_wp2_with (with_reducible refine wpList_build_eq rfl 105 #[(0, .tmp 8), (1, .tmp 11)] rfl [(0, .pointer (some ⟨w.heap.size, 0, none⟩)), (1, .agg (bArr 176 (keysF fwd (gb l))))] ?hl (cipArr (some ⟨w.heap.size, 0, none⟩) (keysF fwd (gb l))) (built_cipher _ _) ?_)
  go_ret
  refine ⟨_, rfl, ⟨w.heap.size, w2.heap.size, rfl, ?_, ?_, ?_, ?_, ?_⟩, hb12.alloc hb12.size _⟩
  · have := hr2.lt; simp; omega
  · simp
  · rw [cell_of_row _ _ _ _ _ _ (heap_alloc_new _ _)]; exact cipArr_zero _ _
  · exact ((ArrB.of_row (off := 0) hr2 (m := 512) (by omega)).congr fun j _ => by rw [Nat.zero_add]).alloc _
  · intro j hj
    rw [cell_of_row _ _ _ _ _ _ (heap_alloc_new _ _)]
    exact cipArr_succ _ _ j hj

def mixE (i : Nat) : UInt8 := if i = 0 then 2 else if i = 1 then 3 else 1
def mixD (i : Nat) : UInt8 := if i = 0 then 14 else if i = 1 then 11 else if i = 2 then 13 else 9
/-- The state of the encryption behind n rounds. -/
def encS (key f : Nat → UInt8) : Nat → Nat → UInt8
  | 0 => fun j => f j ^^^ keyF fwd key 0 j
  | n + 1 => fun j => (if n + 1 < 10 then mixF mixE (rotF 1 fun j => fwd (encS key f n j).toNat) j else rotF 1 (fun j => fwd (encS key f n j).toNat) j) ^^^ keyF fwd key (n + 1) j
def encF (key f : Nat → UInt8) (j : Nat) : UInt8 := encS key f 10 j

theorem key_arr {w : World} {cb : Nat} {key : Nat → UInt8} (h : ArrB w cb 1 176 (keysF fwd key)) (n : Nat) (hn : n < 11) : ArrB w cb (1 + n * 16) 16 (keyF fwd key n) := fun j hj => by
  have := h (n * 16 + j) (by omega)
  rw [← Nat.add_assoc] at this
  rw [this]
  unfold keysF
  rw [show (n * 16 + j) / 16 = n by omega, show (n * 16 + j) % 16 = j by omega]

theorem arrayAt_block (b off c : Nat) (w : World) : (Instr.arrayAt 101 (.slice (some ⟨b, off, none⟩) 16 c)).run Tryd.prog w = .ok (.pointer (some ⟨b, off, none⟩)) w := by kernel_rfl
set_option maxRecDepth 100000 in
set_option maxHeartbeats 1000000 in
theorem encrypt_any (p v : Value) (key : Nat → UInt8) (l : List UInt8) (hl : l.length = 16) (w : World) (hp : CipherAt w w.heap.size p key) (hv : Bs w w.heap.size v l) :
    Calls Tryd.prog 82 #[p, v] w fun e w' => ∃ v', e = .returned v' ∧ BsS w' (New w w') v' (bList 16 (encF key (gb l))) ∧ Below w.heap.size w w' := by
  obtain ⟨tb, cb, rfl, htb, hcb, hct, hT, hK⟩ := hp
  obtain ⟨a, c, hve, hlc, hc, _, hcell⟩ := hv
  obtain ⟨b, off, rfl, hb, hx⟩ := hcell (by omega)
  have hX : ArrB w b off 16 (gb l) := by rw [← hl]; exact hx
  rw [hl] at hve hlc
  subst hve
  clear hcell hx hl
  have HX := Lib.hid hX; clear hX
  have hst := store_new (P := Tryd.prog) (T := 101) (n := 16) rfl (gb l)
  have ha := arrayAt_block b off c
  have hx0 : (w.alloc (.cells (bArr 16 (gb l)) 101)).rowIs w.heap.size 101 16 (fun j => U8 (gb l j)) := rowIs_bArr _ _ _ _
  have hb0 : Below w.heap.size w (w.alloc (.cells (bArr 16 (gb l)) 101)) := (Below.refl _ _).alloc (Nat.le_refl _) _
  have Hx0 := Lib.hid hx0; clear hx0
  have Hb0 := Lib.hid hb0; clear hb0
  have HK := Lib.hid hK; clear hK
  have HT := Lib.hid hT; clear hT
  go_enter Tryd.func82, Tryd.ntmps82
  go_wp2_with (first
    | (with_reducible refine wpList_load_arr rfl 101 (.tmp 8) rfl b off 16 (gb l) rfl _ HX.out Tryd.underlying101 rfl rfl ?_)
    | (with_reducible refine wpList_load_arr rfl 101 (.tmp 13) rfl cb 1 16 (keyF fwd key 0) rfl _ ((key_arr HK.out 0 (by omega)).alloc _) Tryd.underlying101 rfl rfl ?_))
  refine (combine_any _ _ _ (keyF fwd key 0) _ Hx0.out).mono ?_
  rintro e w0 ⟨rfl, hr0, hg0⟩
  have hb0 := Hb0.out.trans (below_of_only hg0 Hb0.out.size (Nat.le_refl _))
  clear hg0
  go_wp2
  go_loopw [6] (fun i wr => ∃ n : Nat, n ≤ 10 ∧ i = .int .i64 (n + 1 : Nat) ∧ wr.rowIs w.heap.size 101 16 (fun j => U8 (encS key (gb l) n j)) ∧ Below w.heap.size w wr) (fun i _ => 11 - (intOf i).toNat)
  case atStart => exact ⟨0, by omega, rfl, hr0, hb0⟩
  case round =>
    clear hr0 hb0
    obtain ⟨n, hn, rfl, hr, hbb⟩ := hrel
    have hct' := (hbb.cell (p := ⟨cb, 0, none⟩) hcb).trans hct
    have hT' : ArrB wr tb 0 256 fwd := fun j hj => by
      have := (HT.out.of_block (hbb.block tb htb)) j (by omega)
      rw [this, show fwd j = tabs j from rfl]
    have HT' := Lib.hid hT'; clear hT'
    have j0 : 0 ≤ (n : Int) + 1 := by omega
    by_cases h9 : n < 9
    · have hd1 : decide ((n : Int) + 1 ≤ 10) = true := by simp; omega
      have hd2 : decide ((n : Int) + 1 < 10) = true := by simp; omega
      have j1 : (n : Int) + 1 < 11 := by omega
      go_wp2_with fail
      refine (substitute_any _ tb 0 _ _ fwd _ hr (HT'.out.congr fun j _ => rfl) (by omega)).mono ?_
      rintro e w1 ⟨rfl, hr1, hg1⟩
      have hbb1 := hbb.trans (below_of_only hg1 hbb.size (Nat.le_refl _))
      clear hr hg1 hbb
      go_wp2_with fail
      refine (rotate1_any _ _ _ _ hr1).mono ?_
      rintro e w2 ⟨rfl, hr2, hg2⟩
      have hbb2 := hbb1.trans (below_of_only hg2 hbb1.size (Nat.le_refl _))
      clear hr1 hg2 hbb1
      go_wp2_with fail
      refine (mix_any _ _ _ mixE _ (by rfl) _ hr2).mono ?_
      rintro e w3 ⟨rfl, hr3, hg3⟩
      have hbb3 := hbb2.trans (below_of_only hg3 hbb2.size (Nat.le_refl _))
      clear hr2 hg3 hbb2
      have hk3 := HK.out
      have hk4 := key_arr (hk3.of_block (hbb3.block cb hcb)) (n + 1) (by omega)
      have HK4 := Lib.hid hk4; clear hk3 hk4
      go_wp2_with (with_reducible refine wpList_load_arr rfl 101 (.tmp 36) rfl cb (1 + (n + 1) * 16) 16 (keyF fwd key (n + 1)) rfl _ HK4.out Tryd.underlying101 rfl rfl ?_)
      refine (combine_any _ _ _ (keyF fwd key (n + 1)) _ hr3).mono ?_
      rintro e w4 ⟨rfl, hr4, hg4⟩
      have hbb4 := hbb3.trans (below_of_only hg4 hbb3.size (Nat.le_refl _))
      clear hr3 hg4 hbb3
      go_wp2
      go_roundw
      case rel =>
        refine ⟨n + 1, by omega, by go_num, hr4.congr fun j _ => ?_, hbb4⟩
        show _ = U8 ((if n + 1 < 10 then _ else _) ^^^ _)
        rw [if_pos (by omega)]
      case measure => simp [intOf] <;> omega
    · by_cases h10 : n < 10
      · have hd1 : decide ((n : Int) + 1 ≤ 10) = true := by simp; omega
        have hd2 : decide ((n : Int) + 1 < 10) = false := by simp; omega
        have j1 : (n : Int) + 1 < 11 := by omega
        go_wp2_with fail
        refine (substitute_any _ tb 0 _ _ fwd _ hr (HT'.out.congr fun j _ => rfl) (by omega)).mono ?_
        rintro e w1 ⟨rfl, hr1, hg1⟩
        have hbb1 := hbb.trans (below_of_only hg1 hbb.size (Nat.le_refl _))
        clear hr hg1 hbb
        go_wp2_with fail
        refine (rotate1_any _ _ _ _ hr1).mono ?_
        rintro e w2 ⟨rfl, hr2, hg2⟩
        have hbb2 := hbb1.trans (below_of_only hg2 hbb1.size (Nat.le_refl _))
        clear hr1 hg2 hbb1
        have hbb3 := hbb2
        have hr3 := hr2
        clear hr2 hbb2
        have hk3 := HK.out
        have hk4 := key_arr (hk3.of_block (hbb3.block cb hcb)) (n + 1) (by omega)
        have HK4 := Lib.hid hk4; clear hk3 hk4
        go_wp2_with (with_reducible refine wpList_load_arr rfl 101 (.tmp 36) rfl cb (1 + (n + 1) * 16) 16 (keyF fwd key (n + 1)) rfl _ HK4.out Tryd.underlying101 rfl rfl ?_)
        refine (combine_any _ _ _ (keyF fwd key (n + 1)) _ hr3).mono ?_
        rintro e w4 ⟨rfl, hr4, hg4⟩
        have hbb4 := hbb3.trans (below_of_only hg4 hbb3.size (Nat.le_refl _))
        clear hr3 hg4 hbb3
        go_wp2
        go_roundw
        case rel =>
          refine ⟨n + 1, by omega, by go_num, hr4.congr fun j _ => ?_, hbb4⟩
          show _ = U8 ((if n + 1 < 10 then _ else _) ^^^ _)
          rw [if_neg (by omega)]
        case measure => simp [intOf] <;> omega
      · have hn10 : n = 10 := by omega
        subst hn10
        go_wp2
        go_ret
        exact ⟨_, rfl, BsS.of_row hr (by omega) ⟨Nat.le_refl _, hr.lt⟩, hbb⟩

end Go.Proofs.YtnogcnmoeekcpaaDoor
/- The walks of Decrypt and of the package's own functions. -/
namespace Go.Proofs.YtnogcnmoeekcpaaDoor
open Go.RowKit

/-- The state of the decryption behind n rounds. -/
def decS (key f : Nat → UInt8) : Nat → Nat → UInt8
  | 0 => f
  | n + 1 => fun j => bck (rotF 3 (if 10 - n < 10 then mixF mixD (fun j => decS key f n j ^^^ keyF fwd key (10 - n) j) else fun j => decS key f n j ^^^ keyF fwd key (10 - n) j) j).toNat
def decF (key f : Nat → UInt8) (j : Nat) : UInt8 := decS key f 10 j ^^^ keyF fwd key 0 j

set_option maxRecDepth 100000 in
set_option maxHeartbeats 400000 in
theorem encrypt_bad (vk v : Value) (k l : List UInt8) (h : ¬ (k.length = 16 ∧ l.length = 16)) (w : World) (hk : Bs w w.heap.size vk k) (hv : Bs w w.heap.size v l) :
    Calls Tryd.prog 70 #[vk, v] w fun e w' => e = .returned (.tuple #[.slice none 0 0, .int .i64 2]) ∧ w' = w := by
  obtain ⟨ak, ck, rfl, hlck, hck, hk3, hcellk⟩ := hk
  obtain ⟨a, c, rfl, hlc, hc, h3, hcell⟩ := hv
  clear hcellk hcell
  by_cases h1 : k.length = 16
  · have h2 : ¬ l.length = 16 := fun e => h ⟨h1, e⟩
    have e1 : ((k.length : Int) != 16) = false := by simp [h1]
    have e2 : ((l.length : Int) != 16) = true := by simp; omega
    clear h h1 h2
    go_enter Tryd.func70, Tryd.ntmps70
    go_wp2
    go_ret2
    exact ⟨rfl, rfl⟩
  · have e1 : ((k.length : Int) != 16) = true := by simp; omega
    clear h h1
    go_enter Tryd.func70, Tryd.ntmps70
    go_wp2
    go_ret2
    exact ⟨rfl, rfl⟩

set_option maxRecDepth 100000 in
set_option maxHeartbeats 400000 in
theorem encrypt_good (vk v : Value) (k l : List UInt8) (h1 : k.length = 16) (h2 : l.length = 16) (w : World) (hk : Bs w w.heap.size vk k) (hv : Bs w w.heap.size v l) :
    Calls Tryd.prog 70 #[vk, v] w fun e w' => ∃ v', e = .returned (.tuple #[v', .int .i64 0]) ∧ Bs w' w'.heap.size v' (bList 16 (encF (gb k) (gb l))) ∧ Below w.heap.size w w' := by
  have hk0 := hk
  have hv0 := hv
  obtain ⟨ak, ck, hke, hlck, hck, hk3, hcellk⟩ := hk
  obtain ⟨a, c, hve, hlc, hc, h3, hcell⟩ := hv
  rw [h1] at hke
  rw [h2] at hve
  subst hke hve
  have H1 := Lib.hid h1; have H2 := Lib.hid h2; have HK := Lib.hid hk0; have HV := Lib.hid hv0
  clear hcellk hcell h1 h2 hk0 hv0 hlck hlc hk3 h3
  go_enter Tryd.func70, Tryd.ntmps70
  go_wp2_with fail
  refine (ready_any _ k H1.out _ HK.out).mono ?_
  rintro e w1 ⟨p, rfl, hp, hb1⟩
  go_wp2_with fail
  refine (encrypt_any _ _ _ l H2.out _ hp ((HV.out.below hb1).mono hb1.size)).mono ?_
  rintro e w2 ⟨v', rfl, hv', hb2⟩
  go_wp2
  go_ret2
  exact ⟨v', rfl, hv'.bs, hb1.trans (hb2.mono hb1.size)⟩

theorem tabs_fwd {w : World} {b : Nat} {t : TypeId} (h : w.rowIs b t 512 (fun j => U8 (tabs j))) : ArrB w b 0 256 fwd := (ArrB.of_row (off := 0) h (m := 256) (by omega)).congr fun j _ => by rw [Nat.zero_add]; rfl
/-- What Substitute returns. -/
def subF (x : Int) : Int := if 0 ≤ x ∧ x ≤ 255 then bv (fwd x.toNat) else 0
end Go.Proofs.YtnogcnmoeekcpaaDoor
