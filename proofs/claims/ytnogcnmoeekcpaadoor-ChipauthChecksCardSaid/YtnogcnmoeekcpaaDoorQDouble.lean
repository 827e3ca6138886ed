/- make([]byte, 16). -/
import Derived.Test.YtnogcnmoeekcpaaDoorLaw5a
import Derived.KernelRfl
import Derived.Test.YtnogcnmoeekcpaaDoorModes1
namespace Go.Proofs.YtnogcnmoeekcpaaDoor
open Go.RowKit

/-- The world behind make([]byte, 16). -/
def wz (w : World) : World := w.alloc (.cells (bArr 16 fun _ => 0) 5)
theorem make16 (w : World) : (Instr.makeSlice 22 (.int .i64 16) (.int .i64 16)).run Tryd.prog w = .ok (.slice (some ⟨w.heap.size, 0, none⟩) 16 16) (wz w) := by kernel_rfl
theorem zero16 (w : World) : BsS (wz w) (New w (wz w)) (.slice (some ⟨w.heap.size, 0, none⟩) 16 16) (List.replicate 16 0) := by
  have hr : (w.alloc (.cells (bArr 16 fun _ => 0) 5)).rowIs w.heap.size 5 16 (fun j => U8 ((fun _ => 0) j)) := rowIs_bArr _ _ _ _
  exact BsS.of_row (S := New w (wz w)) hr (by omega) ⟨Nat.le_refl _, by unfold wz; simp⟩
theorem zero16b (w : World) : Below w.heap.size w (wz w) := (Below.refl _ _).alloc (Nat.le_refl _) _
def Z16 : List UInt8 := List.replicate 16 0
theorem Z16_len : Z16.length = 16 := rfl
theorem zero_z (w : World) : BsS (wz w) (New w (wz w)) (.slice (some ⟨w.heap.size, 0, none⟩) 16 16) Z16 := zero16 w
attribute [irreducible] wz Z16
end Go.Proofs.YtnogcnmoeekcpaaDoor
/- double, both sides: the shift of a block to the left by one bit. -/
namespace Go.Proofs.YtnogcnmoeekcpaaDoor
open Go.RowKit

/-- A byte of a doubled block ahead of the last step. -/
def dblB (f : Nat → UInt8) (j : Nat) : UInt8 := f j * 2 ||| if j + 1 < 16 then f (j + 1) / 128 else 0
/-- A byte of a doubled block. -/
def dblF (f : Nat → UInt8) (j : Nat) : UInt8 := if j = 15 ∧ 128 ≤ bv (f 0) then dblB f j ^^^ 135 else dblB f j
def dblL (l : List UInt8) : List UInt8 := bList 16 (dblF (gb l))
theorem dblL_len (l : List UInt8) : (dblL l).length = 16 := bList_len _ _
/-- From m on. -/
def from_ (m : Nat) (new : Nat → UInt8) (j : Nat) : UInt8 := if m ≤ j then new j else 0
theorem row_from_set {w : World} {g N n : Nat} {t : TypeId} {new : Nat → UInt8} {v : UInt8} (h : w.rowIs g t N (fun j => U8 (from_ (n + 1) new j))) (hv : v = new n) :
    (w.setCell ⟨g, n, none⟩ (U8 v)).rowIs g t N (fun j => U8 (from_ n new j)) :=
  (h.set n _).congr fun j _ => by
    unfold from_
    by_cases e : j = n
    · subst e; simp [hv]
    · by_cases e2 : n ≤ j
      · simp [e, e2, show n + 1 ≤ j by omega]
      · simp [e, e2, show ¬ n + 1 ≤ j by omega]
def carF (f : Nat → UInt8) (m : Nat) : UInt8 := if m < 16 then f m / 128 else 0
theorem wz_row (w : World) : (wz w).rowIs w.heap.size 5 16 (fun j => U8 ((fun _ => 0) j)) := by unfold wz; exact rowIs_bArr _ _ _ _
theorem high_bit (b : UInt8) : (b / 128 == 1) = decide (128 ≤ bv b) := by
  have h : (b / 128).toNat = b.toNat / 128 := by rw [UInt8.toNat_div]; rfl
  have h2 := b.toNat_lt
  by_cases e : 128 ≤ bv b
  · have : b / 128 = 1 := UInt8.toNat_inj.1 (by rw [h]; unfold bv at e; show _ = 1; omega)
    rw [this]; simp [e]
  · have : ¬ b / 128 = 1 := fun hh => by rw [hh] at h; unfold bv at e; have : (1 : UInt8).toNat = 1 := rfl; omega
    simp [e, this]
theorem row_dbl {w : World} {g : Nat} {t : TypeId} {f : Nat → UInt8} (h : w.rowIs g t 16 (fun j => U8 (dblB f j))) (hb : ¬ 128 ≤ bv (f 0)) : w.rowIs g t 16 (fun j => U8 (dblF f j)) :=
  h.congr fun j _ => by unfold dblF; rw [if_neg (fun e => hb e.2)]
theorem row_dbl_set {w : World} {g : Nat} {t : TypeId} {f : Nat → UInt8} (h : w.rowIs g t 16 (fun j => U8 (dblB f j))) (hb : 128 ≤ bv (f 0)) : (w.setCell ⟨g, 15, none⟩ (U8 (dblB f 15 ^^^ 135))).rowIs g t 16 (fun j => U8 (dblF f j)) :=
  (h.set 15 _).congr fun j _ => by
    unfold dblF
    by_cases e : j = 15
    · subst e; rw [if_pos rfl, if_pos ⟨rfl, hb⟩]
    · rw [if_neg e, if_neg (fun x => e x.1)]

set_option maxRecDepth 100000 in
set_option maxHeartbeats 400000 in
theorem double_any2 (v : Value) (l : List UInt8) (hl : l.length = 16) (w : World) (hv : Bs w w.heap.size v l) :
    Calls Tryd.prog 71 #[v] w fun e w' => ∃ v', e = .returned v' ∧ BsS w' (New w w') v' (dblL l) ∧ Below w.heap.size w w' := by
  obtain ⟨A0, n, c, rfl⟩ := hv.form
  obtain ⟨a, c0, e0, hc, _, _, hcell⟩ := hv
  injection e0 with e1 e2 e3
  subst e1 e3
  rw [hl] at e2
  subst e2
  obtain ⟨bb, ob, rfl, hbb, hx⟩ := hcell (by omega)
  rw [hl] at hx
  have HX := Lib.hid hx; have HC := Lib.hid hc; have HL := Lib.hid hl; have Hm := make16
  clear hx hcell hc hl
  go_enter Tryd.func71, Tryd.ntmps71
  go_wp2_with fail
  go_loopw [5, 4] (fun i cr wr => ∃ m : Nat, m ≤ 16 ∧ i = .int .i64 ((m : Int) - 1) ∧ cr = U8 (carF (gb l) m) ∧ wr.rowIs w.heap.size 5 16 (fun j => U8 (from_ m (dblB (gb l)) j)) ∧ Below w.heap.size w wr) (fun i _ _ => (intOf i + 1).toNat)
  case atStart => exact ⟨16, by omega, rfl, rfl, (wz_row w).congr fun j hj => by unfold from_; rw [if_neg (by omega)], zero16b w⟩
  case round =>
    obtain ⟨m, hm, hi, rfl, hr, hb⟩ := hrel
    cases m with
    | zero =>
      have hd : decide ((-1 : Int) ≥ 0) = false := by decide
      have hi : _ = Value.int .i64 (-1) := hi
      subst hi
      have hr0 := hr.congr (g := fun j => U8 (dblB (gb l) j)) fun j _ => by unfold from_; rw [if_pos (by omega)]
      have c1 : wr.cell? ⟨w.heap.size, 15, none⟩ = some (U8 (dblB (gb l) 15)) := hr0.cell (by omega)
      have f1 := hr0.frozen 15
      have hr1 := Lib.hid hr0; have hb1 := Lib.hid hb; clear hr hr0 hb
      by_cases hh : 128 ≤ bv (gb l 0)
      · have hq : (carF (gb l) 0 == 1) = true := by unfold carF; rw [if_pos (by omega), high_bit]; simp [hh]
        have H := Lib.hid hh; clear hh
        go_wp2_with fail
        go_ret
        have hr2 := row_dbl_set hr1.out H.out
        refine ⟨_, rfl, BsS.of_row (S := New w _) hr2 (by omega) ⟨Nat.le_refl _, by have := hr2.lt; exact this⟩, hb1.out.setCell (by simp) _⟩
      · have hq : (carF (gb l) 0 == 1) = false := by unfold carF; rw [if_pos (by omega), high_bit]; simp [hh]
        have H := Lib.hid hh; clear hh
        go_wp2_with fail
        go_ret
        have hr2 := row_dbl hr1.out (by have := H.out; omega)
        refine ⟨_, rfl, BsS.of_row (S := New w _) hr2 (by omega) ⟨Nat.le_refl _, by have := hr2.lt; exact this⟩, hb1.out⟩
    | succ k =>
      rw [show ((k + 1 : Nat) : Int) - 1 = k by omega] at hi
      subst hi
      have hr1 := Lib.hid hr; have hb1 := Lib.hid hb; clear hr hb
      have c1 : wr.cell? ⟨bb, ob + k, none⟩ = some (U8 (gb l k)) := (hb1.out.cell (p := ⟨bb, ob + k, none⟩) hbb).trans (HX.out k (by omega))
      have f1 := hr1.out.frozen k
      have c3 := hr1.out.cell (i := k) (by omega)
      have hn : ¬ w.heap.size = bb := by omega
      have hk : (k : Int) < 16 := by omega
      have hd : decide ((k : Int) ≥ 0) = true := by simp
      have c2 : (wr.setCell ⟨w.heap.size, k, none⟩ (.int .u8 (bv (gb l k * 2 ||| carF (gb l) (k + 1))))).cell? ⟨bb, ob + k, none⟩ = some (U8 (gb l k)) := ((hb1.out.setCell (p := ⟨w.heap.size, k, none⟩) (by simp) _).cell (p := ⟨bb, ob + k, none⟩) hbb).trans (HX.out k (by omega))
      go_wp2_with fail
      go_roundw
      case rel =>
        refine ⟨k, by omega, by go_num, ?_, row_from_set hr1.out ?_, hb1.out.setCell (by simp) _⟩
        · unfold carF; rw [if_pos (by omega)]
        · rfl
      case measure => simp [intOf] <;> omega

theorem row_upto_set2 {w : World} {g N n : Nat} {t : TypeId} {new old : Nat → UInt8} {v u : UInt8} (h : w.rowIs g t N (fun j => U8 (upto n new old j))) (hv : v = new n) :
    ((w.setCell ⟨g, n, none⟩ (U8 u)).setCell ⟨g, n, none⟩ (U8 v)).rowIs g t N (fun j => U8 (upto (n + 1) new old j)) :=
  ((h.set n _).set n _).congr fun j _ => by
    unfold upto
    by_cases e : j = n
    · subst e; simp [hv]
    · by_cases e2 : j < n
      · simp [e, e2, show j < n + 1 by omega]
      · simp [e, e2, show ¬ j < n + 1 by omega]
set_option maxRecDepth 100000 in
set_option maxHeartbeats 400000 in
theorem rdouble_any (v : Value) (l : List UInt8) (hl : l.length = 16) (w : World) (hv : Bs w w.heap.size v l) :
    Calls Tryd.prog 75 #[v] w fun e w' => ∃ v', e = .returned v' ∧ BsS w' (New w w') v' (dblL l) ∧ Below w.heap.size w w' := by
  obtain ⟨A0, n, c, rfl⟩ := hv.form
  obtain ⟨a, c0, e0, hc, _, _, hcell⟩ := hv
  injection e0 with e1 e2 e3
  subst e1 e3
  rw [hl] at e2
  subst e2
  obtain ⟨bb, ob, rfl, hbb, hx⟩ := hcell (by omega)
  rw [hl] at hx
  have HX := Lib.hid hx; have HC := Lib.hid hc; have HL := Lib.hid hl; have Hm := make16
  clear hx hcell hc hl
  go_enter Tryd.func75, Tryd.ntmps75
  go_wp2_with fail
  go_loopw [4] (fun i wr => ∃ m : Nat, m ≤ 16 ∧ i = .int .i64 (m : Int) ∧ wr.rowIs w.heap.size 5 16 (fun j => U8 (upto m (dblB (gb l)) (fun _ => 0) j)) ∧ Below w.heap.size w wr) (fun i _ => 16 - (intOf i).toNat)
  case atStart => exact ⟨0, by omega, rfl, row_upto_zero (wz_row w) _, zero16b w⟩
  case round =>
    obtain ⟨k, hm, rfl, hr, hb⟩ := hrel
    by_cases hk16 : k < 16
    · have c3 := row_upto_cell hr hk16
      have c1 : wr.cell? ⟨bb, ob + k, none⟩ = some (U8 (gb l k)) := (hb.cell (p := ⟨bb, ob + k, none⟩) hbb).trans (HX.out k (by omega))
      have f1 := hr.frozen k
      have hn : ¬ w.heap.size = bb := by omega
      have hd : decide ((k : Int) < 16) = true := by simp; omega
      by_cases h15 : k < 15
      · have hd2 : decide ((k : Int) < 15) = true := by simp; omega
        have r2 := hr.set k (U8 (gb l k * 2))
        have b2 := hb.setCell (p := ⟨w.heap.size, k, none⟩) (by simp) (U8 (gb l k * 2))
        have d1 : (wr.setCell ⟨w.heap.size, k, none⟩ (U8 (gb l k * 2))).cell? ⟨bb, ob + (k + 1), none⟩ = some (U8 (gb l (k + 1))) := (b2.cell (p := ⟨bb, ob + (k + 1), none⟩) hbb).trans (HX.out (k + 1) (by omega))
        have d2 : (wr.setCell ⟨w.heap.size, k, none⟩ (U8 (gb l k * 2))).cell? ⟨w.heap.size, k, none⟩ = some (U8 (gb l k * 2)) := by have := r2.cell (i := k) (by omega); simpa using this
        have d3 := r2.frozen k
        have k1 : (k : Int) + 1 < 16 := by omega
        have k2 : ((k : Int) + 1).toNat = k + 1 := by omega
        have hr1 := Lib.hid hr; have hb1 := Lib.hid hb; clear hr hb r2 b2
        go_wp2_with fail
        go_region
        go_wp2_with fail
        go_roundw
        case rel =>
          refine ⟨k + 1, by omega, by go_num, (row_upto_set2 hr1.out ?_).drew, ((hb1.out.setCell (by simp) _).setCell (by simp) _).drew⟩
          unfold dblB; rw [if_pos (by omega)]
        case measure => simp [intOf] <;> omega
      · have hd2 : decide ((k : Int) < 15) = false := by simp; omega
        have hr1 := Lib.hid hr; have hb1 := Lib.hid hb; clear hr hb
        go_wp2_with fail
        go_roundw
        case rel =>
          refine ⟨k + 1, by omega, by go_num, row_upto_set hr1.out ?_, hb1.out.setCell (by simp) _⟩
          unfold dblB; rw [if_neg (by omega)]; simp
        case measure => simp [intOf] <;> omega
    · have hd : decide ((k : Int) < 16) = false := by simp; omega
      have hr0 := row_upto_full hr (by omega)
      have c1 : wr.cell? ⟨w.heap.size, 15, none⟩ = some (U8 (dblB (gb l) 15)) := hr0.cell (by omega)
      have c2 : wr.cell? ⟨bb, ob, none⟩ = some (U8 (gb l 0)) := (hb.cell (p := ⟨bb, ob, none⟩) hbb).trans (HX.out 0 (by omega))
      have f1 := hr0.frozen 15
      have hr1 := Lib.hid hr0; have hb1 := Lib.hid hb; clear hr hr0 hb
      by_cases hh : 128 ≤ bv (gb l 0)
      · have hq : decide (bv (gb l 0) ≥ 128) = true := by simp; omega
        have H := Lib.hid hh
        go_wp2_with fail
        go_ret
        have hr2 := row_dbl_set hr1.out H.out
        refine ⟨_, rfl, BsS.of_row (S := New w _) hr2 (by omega) ⟨Nat.le_refl _, by have := hr2.lt; exact this⟩, hb1.out.setCell (by simp) _⟩
      · have hq : decide (bv (gb l 0) ≥ 128) = false := by simp; omega
        have H := Lib.hid hh
        go_wp2_with fail
        go_ret
        have hr2 := row_dbl hr1.out (by have := H.out; omega)
        refine ⟨_, rfl, BsS.of_row (S := New w _) hr2 (by omega) ⟨Nat.le_refl _, by have := hr2.lt; exact this⟩, hb1.out⟩
end Go.Proofs.YtnogcnmoeekcpaaDoor
