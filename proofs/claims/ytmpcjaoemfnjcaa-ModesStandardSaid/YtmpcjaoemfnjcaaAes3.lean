/- The walk of (*block).mix. -/
import Derived.Test.YtmpcjaoemfnjcaaAes2
namespace Go.Proofs.Ytmpcjaoemfnjcaa
open Go.RowKit

def mixS (row f : Nat → UInt8) (i n : Nat) : UInt8 := (List.range n).foldl (fun s k => s ^^^ gmul (f (i / 4 * 4 + k)) (row ((k + 4 - i % 4) % 4))) 0
theorem mixS_succ (row f : Nat → UInt8) (i n : Nat) : mixS row f i (n + 1) = mixS row f i n ^^^ gmul (f (i / 4 * 4 + n)) (row ((n + 4 - i % 4) % 4)) := by
  unfold mixS; rw [List.range_succ, List.foldl_append]; rfl
/-- One byte of a column times the matrix. -/
def mixF (row f : Nat → UInt8) (i : Nat) : UInt8 := mixS row f i 4
/-- The places below n new, place n at v, the others old. -/
def upto1 (n : Nat) (v : UInt8) (new old : Nat → UInt8) (j : Nat) : UInt8 := if j = n then v else upto n new old j
set_option maxRecDepth 100000 in
set_option maxHeartbeats 1000000 in
theorem mix_any (g : Nat) (t : TypeId) (f row : Nat → UInt8) (a : Array Value) (ha : a = bArr 4 row) (w : World) (hg : w.rowIs g t 16 (fun j => U8 (f j))) :
    Calls Try.prog 46 #[.pointer (some ⟨g, 0, none⟩), .agg a] w fun e w' => e = .returned (.tuple #[]) ∧ w'.rowIs g t 16 (fun j => U8 (mixF row f j)) ∧ w.grownBy w' (some g) := by
  subst ha
  have hrow := row_bArr hg
  have hlt := hg.lt
  have hst := store_new (P := Try.prog) (T := 51) (n := 16) rfl f
  have hrow' : (w.alloc (.cells (bArr 4 row) 64)).heap[g]? = some (.cells (bArr 16 f) t (0, 0)) := by rw [Below.heap_alloc _ _ _ hlt]; exact hrow
  go_enter Try.func46, Try.ntmps46
  go_wp2_with (refine wpList_load_row rfl 51 (.tmp 8) rfl g rfl t (bArr 16 f) (0, 0) _ hrow' Try.underlying51 rfl (by rw [bArr_size]; rfl) ?_)
  go_loopw [10] (fun i wr => ∃ n : Nat, n ≤ 16 ∧ i = .int .i64 n ∧ wr.rowIs g t 16 (fun j => U8 (upto n (mixF row f) f j)) ∧ wr.rowIs w.heap.size 64 4 (fun j => U8 (row j)) ∧ wr.rowIs (w.heap.size + 1) 51 16 (fun j => U8 (f j)) ∧ w.grownBy wr (some g)) (fun i _ => 16 - (intOf i).toNat)
  case atStart =>
    refine ⟨0, by omega, rfl, row_upto_zero ((hg.alloc _).alloc _) _, (rowIs_bArr _ _ _ _).alloc _, ?_, only_alloc (only_alloc (World.grownBy.refl _ _) _) _⟩
    have := rowIs_bArr (w.alloc (.cells (bArr 4 row) 64)) 16 51 f
    simpa using this
  case round =>
    obtain ⟨n, hn, rfl, hr, hw, ho, hgr⟩ := hrel
    by_cases hlt : n < 16
    · have hc1 := hr.cell hlt
      have hf := hr.frozen n
      have hd : decide ((n : Int) < 16) = true := by simp; omega
      go_wp2
      obtain ⟨wo, rfl⟩ : ∃ wo : World, wo = wr.setCell ⟨g, n, none⟩ (U8 0) := ⟨_, rfl⟩
      have hr1 : (wr.setCell ⟨g, n, none⟩ (U8 0)).rowIs g t 16 (fun j => U8 (upto1 n (mixS row f n 0) (mixF row f) f j)) := (hr.set n _).congr fun j _ => by
        unfold upto1
        by_cases e : j = n
        · rw [if_pos e, if_pos e]; rfl
        · rw [if_neg e, if_neg e]
      have hw1 := hw.setOther (a := ⟨g, n, none⟩) (by simp; omega) (U8 0)
      have ho1 := ho.setOther (a := ⟨g, n, none⟩) (by simp; omega) (U8 0)
      have hg1 := only_setCell (p := ⟨g, n, none⟩) hgr (.inl rfl) (U8 0)
      clear hr hw ho hgr hc1 hf hst hrow hrow'
      go_loopw [17] (fun v wi => ∃ k : Nat, k ≤ 4 ∧ v = .int .i64 k ∧ wi.rowIs g t 16 (fun j => U8 (upto1 n (mixS row f n k) (mixF row f) f j)) ∧ wi.rowIs w.heap.size 64 4 (fun j => U8 (row j)) ∧ wi.rowIs (w.heap.size + 1) 51 16 (fun j => U8 (f j)) ∧ w.grownBy wi (some g)) (fun v _ => 4 - (intOf v).toNat)
      case atStart => exact ⟨0, by omega, rfl, hr1, hw1, ho1, hg1⟩
      case round =>
        clear hr1 hw1 ho1 hg1
        obtain ⟨k, hk, rfl, hr, hw, ho, hgr⟩ := hrel
        by_cases hlt' : k < 4
        · have hc1 := hr.cell hlt
          have hf := hr.frozen n
          have hv : upto1 n (mixS row f n k) (mixF row f) f n = mixS row f n k := by unfold upto1; rw [if_pos rfl]
          rw [hv] at hc1
          clear hv
          have hc2 := fun j (h : j < 16) => ho.cell (i := j) h
          have hq : (((k : Int) - (n : Int)) % 4).toNat = (k + 4 - n % 4) % 4 := by omega
          have hc3 : wr.cell? ⟨w.heap.size, (((k : Int) - (n : Int)) % 4).toNat, none⟩ = some (U8 (row ((k + 4 - n % 4) % 4))) := by rw [hq]; exact hw.cell (by omega)
          clear hq
          have hi3 : 0 ≤ ((k : Int) - (n : Int)) % 4 := by omega
          have hi4 : ((k : Int) - (n : Int)) % 4 < 4 := by omega
          have hnI : (n : Int) < 16 := by omega
          have hi0 : 0 ≤ (n : Int) / 4 * 4 + k := by omega
          have hi1 : (n : Int) / 4 * 4 + k < 16 := by omega
          have hi2 : n / 4 * 4 + k < 16 := by omega
          go_wp2
          refine wp_region_still_tail 24 (by kernel_rfl) (by kernel_rfl) ?_
          simp only [List.take_succ_cons, List.take_zero, List.drop_succ_cons, List.drop_zero]
          repeat (refine wpStill_step (fun K hK => ?_); go_simp; (try go_bits); refine hK _ ?_; clear hK K)
          refine wpStill_step (fun K hK => ?_)
          go_simp
          refine ⟨_, multiply_any _ _ _, hK _ ?_⟩
          clear hK K
          repeat (refine wpStill_step (fun K hK => ?_); go_simp; (try go_bits); refine hK _ ?_; clear hK K)
          refine wpStill_nil ?_
          go_wp2
          go_roundw
          case rel =>
            refine ⟨k + 1, by omega, by go_num, ((hr.set n _).congr fun j _ => ?_).drew, hw.setOther (by simp; omega) _, ho.setOther (by simp; omega) _, only_drew (only_setCell hgr (.inl rfl) _)⟩
            unfold upto1
            by_cases e : j = n
            · rw [if_pos e, if_pos e, mixS_succ]
            · simp only [if_neg e]
          case measure => simp [intOf] <;> omega
        · go_wp2
          have hk4 : k = 4 := by omega
          subst hk4
          go_roundw
          case rel =>
            refine ⟨n + 1, by omega, by go_num, hr.congr fun j _ => ?_, hw, ho, hgr⟩
            unfold upto1
            by_cases e : j = n
            · subst e; rw [if_pos rfl]; unfold upto; rw [if_pos (by omega)]; rfl
            · rw [if_neg e]; unfold upto
              by_cases e2 : j < n
              · rw [if_pos e2, if_pos (by omega)]
              · rw [if_neg e2, if_neg (by omega)]
          case measure => simp [intOf] <;> omega
    · go_wp2
      go_end0
      exact ⟨rfl, row_upto_full hr (by omega), hgr⟩

end Go.Proofs.Ytmpcjaoemfnjcaa
