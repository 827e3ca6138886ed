/- The walks of the reference's add and mix. -/
import Derived.Test.YtnogcnmoeekcpaaDoorRef5a
import Derived.Test.YtnogcnmoeekcpaaDoorSlice
namespace Go.Proofs.YtnogcnmoeekcpaaDoor
open Go.RowKit

set_option maxRecDepth 100000 in
set_option maxHeartbeats 400000 in
theorem add_any (g : Nat) (t : TypeId) (f : Nat → UInt8) (v : Value) (l : List UInt8) (hl : l.length = 16) (w : World) (hg : w.rowIs g t 16 (fun j => U8 (f j))) (hv : BsS w (· ≠ g) v l) :
    Calls Tryd.prog 86 #[.pointer (some ⟨g, 0, none⟩), v] w fun e w' => e = .returned (.tuple #[]) ∧ w'.rowIs g t 16 (fun j => U8 (f j ^^^ gb l j)) ∧ w.grownBy w' (some g) := by
  obtain ⟨a, c, hve, hlc, hc, hlen, hcell⟩ := hv
  obtain ⟨b, off, rfl, hne, hx⟩ := hcell (by omega)
  have hX : ArrB w b off 16 (gb l) := by rw [← hl]; exact hx
  rw [hl] at hve hlc
  subst hve
  clear hcell hx hl hlen
  go_enter Tryd.func86, Tryd.ntmps86
  go_wp2
  go_loopw [4] (fun i wr => ∃ n : Nat, n ≤ 16 ∧ i = .int .i64 n ∧ wr.rowIs g t 16 (fun j => U8 (upto n (fun j => f j ^^^ gb l j) f j)) ∧ w.grownBy wr (some g)) (fun i _ => 16 - (intOf i).toNat)
  case atStart => exact ⟨0, by omega, rfl, row_upto_zero hg _, World.grownBy.refl _ _⟩
  case round =>
    obtain ⟨n, hn, rfl, hr, hgr⟩ := hrel
    by_cases hlt : n < 16
    · have hc1 := row_upto_cell hr hlt
      have hf := hr.frozen n
      have hc2 := (hX.only hgr hne).at_ hlt
      have hn16 : (n : Int) < 16 := by omega
      go_wp2
      refine wp_region_still_tail 12 (by kernel_rfl) (by kernel_rfl) ?_
      simp only [List.take_succ_cons, List.take_zero, List.drop_succ_cons, List.drop_zero]
      repeat (refine wpStill_step (fun K hK => ?_); go_simp; (try go_bits); refine hK _ ?_; clear hK K)
      refine wpStill_nil ?_
      go_wp2
      go_roundw
      case rel => exact ⟨n + 1, by omega, by go_num, (row_upto_set hr rfl).drew, only_drew (only_setCell hgr (.inl rfl) _)⟩
      case measure => simp [intOf] <;> omega
    · go_wp2
      go_end0
      exact ⟨rfl, row_upto_full hr (by omega), hgr⟩

abbrev I64 (b : UInt8) : Value := .int .i64 (bv b)
def iArr (n : Nat) (f : Nat → UInt8) : Array Value := ((List.range n).map fun i => I64 (f i)).toArray
theorem iArr_at (n : Nat) (f : Nat → UInt8) (i : Nat) (h : i < n) : (iArr n f)[i]? = some (I64 (f i)) := by simp [iArr, h]
theorem iArr_size (n : Nat) (f : Nat → UInt8) : (iArr n f).size = n := by simp [iArr]
theorem rowIs_iArr (w : World) (n : Nat) (t : TypeId) (f : Nat → UInt8) : (w.alloc (.cells (iArr n f) t)).rowIs w.heap.size t n (fun j => I64 (f j)) :=
  ⟨_, heap_alloc_new _ _, iArr_size n f, fun i hi => iArr_at n f i hi⟩
def rmixS (row f : Nat → UInt8) (c r n : Nat) : UInt8 := (List.range n).foldl (fun s k => s ^^^ tms (f (4 * c + k)) (row ((k + 4 - r) % 4))) 0
theorem rmixS_succ (row f : Nat → UInt8) (c r n : Nat) : rmixS row f c r (n + 1) = rmixS row f c r n ^^^ tms (f (4 * c + n)) (row ((n + 4 - r) % 4)) := by
  unfold rmixS; rw [List.range_succ, List.foldl_append]; rfl
def rmixF (row f : Nat → UInt8) (i : Nat) : UInt8 := rmixS row f (i / 4) (i % 4) 4
/-- The four numbers x: those below r done, number r behind k steps. -/
def xPart (row f : Nat → UInt8) (c r k j : Nat) : UInt8 := if j < r then rmixS row f c j 4 else if j = r then rmixS row f c r k else 0
theorem xPart_next (row f : Nat → UInt8) (c r j : Nat) : xPart row f c r 4 j = xPart row f c (r + 1) 0 j := by
  unfold xPart
  by_cases h1 : j < r
  · rw [if_pos h1, if_pos (by omega)]
  · rw [if_neg h1]
    by_cases h2 : j = r
    · subst h2; rw [if_pos rfl, if_pos (by omega)]
    · rw [if_neg h2, if_neg (by omega)]
      by_cases h3 : j = r + 1
      · rw [if_pos h3]; rfl
      · rw [if_neg h3]
theorem xPart_step (row f : Nat → UInt8) (c r k j : Nat) (v : UInt8) (hv : v = rmixS row f c r (k + 1)) : (if j = r then I64 v else I64 (xPart row f c r k j)) = I64 (xPart row f c r (k + 1) j) := by
  unfold xPart
  by_cases h1 : j < r
  · rw [if_neg (by omega), if_pos h1, if_pos h1]
  · by_cases h2 : j = r
    · subst h2; rw [if_pos rfl, if_neg (by omega), if_pos rfl, hv]
    · rw [if_neg h2, if_neg h1, if_neg h2, if_neg h1, if_neg h2]

set_option maxRecDepth 100000 in
set_option maxHeartbeats 2000000 in
theorem refMix_any (g : Nat) (t : TypeId) (f row : Nat → UInt8) (a : Array Value) (ha : a = iArr 4 row) (w : World) (hg : w.rowIs g t 16 (fun j => U8 (f j))) :
    Calls Tryd.prog 87 #[.pointer (some ⟨g, 0, none⟩), .agg a] w fun e w' => e = .returned (.tuple #[]) ∧ w'.rowIs g t 16 (fun j => U8 (rmixF row f j)) ∧ w.grownBy w' (some g) := by
  subst ha
  have hgl := hg.lt
  go_enter Tryd.func87, Tryd.ntmps87
  go_wp2
  go_loopw [4] (fun i wr => ∃ c : Nat, c ≤ 4 ∧ i = .int .i64 c ∧ wr.rowIs g t 16 (fun j => U8 (upto (4 * c) (rmixF row f) f j)) ∧ wr.rowIs w.heap.size 98 4 (fun j => I64 (row j)) ∧ w.grownBy wr (some g)) (fun i _ => 4 - (intOf i).toNat)
  case atStart => exact ⟨0, by omega, rfl, row_upto_zero (hg.alloc _) _, rowIs_iArr _ _ _ _, only_alloc (World.grownBy.refl _ _) _⟩
  case round =>
    obtain ⟨c, hc, rfl, hr, hw, hgr⟩ := hrel
    obtain ⟨wo, rfl⟩ : ∃ wo : World, wo = wr := ⟨_, rfl⟩
    have hsz := hgr.size
    have hwl := hw.lt
    by_cases hlt : c < 4
    · have hd : decide ((c : Int) < 4) = true := by simp; omega
      have Hr := Lib.hid hr; have Hw := Lib.hid hw; have Hgr := Lib.hid hgr
      clear hr hw hgr
      go_wp2
      have hx0 : (wo.alloc (.cells #[.int .i64 0, .int .i64 0, .int .i64 0, .int .i64 0] 98)).rowIs wo.heap.size 98 4 (fun j => I64 (xPart row f c 0 0 j)) := by
        refine ⟨_, heap_alloc_new _ _, rfl, fun i hi => ?_⟩
        have e : xPart row f c 0 0 i = 0 := by
          unfold xPart
          rw [if_neg (by omega)]
          split
          · rfl
          · rfl
        dsimp only
        rw [e]
        rcases i with _ | _ | _ | _ | i
        · rfl
        · rfl
        · rfl
        · rfl
        · omega
      go_loopw [6] (fun i w2 => ∃ r : Nat, r ≤ 4 ∧ i = .int .i64 r ∧ w2.rowIs g t 16 (fun j => U8 (upto (4 * c) (rmixF row f) f j)) ∧ w2.rowIs w.heap.size 98 4 (fun j => I64 (row j)) ∧ w2.rowIs wo.heap.size 98 4 (fun j => I64 (xPart row f c r 0 j)) ∧ w.grownBy w2 (some g)) (fun i _ => 4 - (intOf i).toNat)
      case atStart => exact ⟨0, by omega, rfl, Hr.out.alloc _, Hw.out.alloc _, hx0, only_alloc Hgr.out _⟩
      case round =>
        clear hx0 Hr Hw Hgr
        obtain ⟨r, hr4, rfl, hr, hw, hx, hgr⟩ := hrel
        by_cases hlt2 : r < 4
        · have hd2 : decide ((r : Int) < 4) = true := by simp; omega
          have Hr := Lib.hid hr; have Hw := Lib.hid hw; have Hx := Lib.hid hx; have Hgr := Lib.hid hgr
          clear hr hw hx hgr
          go_wp2
          go_loopw [7] (fun i w3 => ∃ k : Nat, k ≤ 4 ∧ i = .int .i64 k ∧ w3.rowIs g t 16 (fun j => U8 (upto (4 * c) (rmixF row f) f j)) ∧ w3.rowIs w.heap.size 98 4 (fun j => I64 (row j)) ∧ w3.rowIs wo.heap.size 98 4 (fun j => I64 (xPart row f c r k j)) ∧ w.grownBy w3 (some g)) (fun i _ => 4 - (intOf i).toNat)
          case atStart => exact ⟨0, by omega, rfl, Hr.out, Hw.out, Hx.out, Hgr.out⟩
          case round =>
            clear Hr Hw Hx Hgr
            obtain ⟨k, hk4, rfl, hr, hw, hx, hgr⟩ := hrel
            by_cases hlt3 : k < 4
            · have hc1 := hx.cell (i := r) hlt2
              have hxr : xPart row f c r k r = rmixS row f c r k := by unfold xPart; rw [if_neg (by omega), if_pos rfl]
              rw [hxr] at hc1
              clear hxr
              have hf1 := hx.frozen r
              have hc2 := hr.cell (i := 4 * c + k) (by omega)
              rw [upto_old (by omega)] at hc2
              have hq : (((k : Int) - (r : Int)) % 4).toNat = (k + 4 - r) % 4 := by omega
              have hc3 : wr.cell? ⟨w.heap.size, (((k : Int) - (r : Int)) % 4).toNat, none⟩ = some (I64 (row ((k + 4 - r) % 4))) := by rw [hq]; exact hw.cell (by omega)
              clear hq
              have hi1 : (r : Int) < 4 := by omega
              have hi2 : (4 : Int) * c + k < 16 := by omega
              have hi3 : (0 : Int) ≤ 4 * c + k := by omega
              have hi4 : 0 ≤ ((k : Int) - (r : Int)) % 4 := by omega
              have hi5 : ((k : Int) - (r : Int)) % 4 < 4 := by omega
              go_wp2
              refine wp_region_still_tail 22 (by kernel_rfl) (by kernel_rfl) ?_
              simp only [List.take_succ_cons, List.take_zero, List.drop_succ_cons, List.drop_zero]
              repeat (refine wpStill_step (fun K hK => ?_); go_simp; (try go_bits); refine hK _ ?_; clear hK K)
              refine wpStill_step (fun K hK => ?_)
              go_simp
              refine ⟨_, times_any _ _ _, hK _ ?_⟩
              clear hK K
              repeat (refine wpStill_step (fun K hK => ?_); go_simp; (try go_bits); refine hK _ ?_; clear hK K)
              refine wpStill_nil ?_
              go_wp2
              go_roundw
              case rel =>
                exact ⟨k + 1, by omega, by go_num, (hr.setOther (by simp; omega) _).drew, (hw.setOther (by simp; omega) _).drew, ((hx.set r _).congr fun j _ => xPart_step row f c r k j _ (rmixS_succ row f c r k).symm).drew, only_drew (only_setCell hgr (.inr (by simp; omega)) _)⟩
              case measure => simp [intOf] <;> omega
            · go_wp2
              have hk44 : k = 4 := by omega
              subst hk44
              go_roundw
              case rel => exact ⟨r + 1, by omega, by go_num, hr, hw, hx.congr fun j _ => by rw [xPart_next], hgr⟩
              case measure => simp [intOf] <;> omega
        · have hd3 : decide ((r : Int) < 4) = false := by simp; omega
          have Hr := Lib.hid hr; have Hw := Lib.hid hw; have Hx := Lib.hid hx; have Hgr := Lib.hid hgr
          clear hr hw hx hgr
          go_wp2
          go_loopw [8] (fun i w4 => ∃ q : Nat, q ≤ 4 ∧ i = .int .i64 q ∧ w4.rowIs g t 16 (fun j => U8 (upto (4 * c + q) (rmixF row f) f j)) ∧ w4.rowIs w.heap.size 98 4 (fun j => I64 (row j)) ∧ w4.rowIs wo.heap.size 98 4 (fun j => I64 (rmixS row f c j 4)) ∧ w.grownBy w4 (some g)) (fun i _ => 4 - (intOf i).toNat)
          case atStart => exact ⟨0, by omega, rfl, Hr.out, Hw.out, Hx.out.congr fun j hj => by unfold xPart; rw [if_pos (by omega)], Hgr.out⟩
          case round =>
            clear Hr Hw Hx Hgr
            obtain ⟨q, hq4, rfl, hr, hw, hx, hgr⟩ := hrel
            by_cases hlt3 : q < 4
            · have hc1 := hx.cell (i := q) hlt3
              have hc2 := hr.cell (i := 4 * c + q) (by omega)
              have hf1 := hr.frozen (4 * c + q)
              have hi1 : (q : Int) < 4 := by omega
              have hi2 : (4 : Int) * c + q < 16 := by omega
              have hi3 : (0 : Int) ≤ 4 * c + q := by omega
              have hv : rmixS row f c q 4 = rmixF row f (4 * c + q) := by
                unfold rmixF
                rw [show (4 * c + q) / 4 = c by omega, show (4 * c + q) % 4 = q by omega]
              have Hv := Lib.hid hv; clear hv
              go_wp2
              refine wp_region_still_tail 11 (by kernel_rfl) (by kernel_rfl) ?_
              simp only [List.take_succ_cons, List.take_zero, List.drop_succ_cons, List.drop_zero]
              repeat (refine wpStill_step (fun K hK => ?_); go_simp; (try go_bits); refine hK _ ?_; clear hK K)
              refine wpStill_nil ?_
              go_wp2
              go_roundw
              case rel => exact ⟨q + 1, by omega, by go_num, (row_upto_set hr Hv.out).drew, (hw.setOther (by simp; omega) _).drew, (hx.setOther (by simp; omega) _).drew, only_drew (only_setCell hgr (.inl rfl) _)⟩
              case measure => simp [intOf] <;> omega
            · have hq44 : q = 4 := by omega
              subst hq44
              go_wp2
              go_roundw
              case rel => exact ⟨c + 1, by omega, by go_num, hr, hw, hgr⟩
              case measure => simp [intOf] <;> omega
    · go_wp2
      go_end0
      exact ⟨rfl, row_upto_full hr (by omega), hgr⟩
end Go.Proofs.YtnogcnmoeekcpaaDoor
