/- The walk of the reference's Ready. -/
import Derived.Test.YtmpcjaoemfnjcaaRef5c
import Derived.Test.YtmpcjaoemfnjcaaRef5d
namespace Go.Proofs.Ytmpcjaoemfnjcaa
open Go.RowKit

/-- A cipher's cells: the table, the one back, the keys. -/
def rcF (T back : Nat → UInt8) (kv : Value) (j : Nat) : Value := if j < 256 then U8 (T j) else if j < 512 then U8 (back (j - 256)) else kv
def rcArr (T : Nat → UInt8) : Array Value := ((List.range 513).map (rcF T (fun _ => 0) (.slice none 0 0))).toArray
theorem built_rc (T : Nat → UInt8) : Try.prog.built 69 [(0, .agg (bArr 256 T))] = some (rcArr T) := by kernel_rfl
theorem rcArr_row (w : World) (T : Nat → UInt8) (t : TypeId) : (w.alloc (.cells (rcArr T) t)).rowIs w.heap.size t 513 (rcF T (fun _ => 0) (.slice none 0 0)) :=
  ⟨_, heap_alloc_new _ _, by simp [rcArr], fun i hi => by simp [rcArr, hi]⟩
def rBack : Nat → Nat → UInt8
  | 0 => fun _ => 0
  | n + 1 => fun j => if j = (rTab n).toNat then ofI n else rBack n j
def rBck (j : Nat) : UInt8 := rBack 256 j
def rKeys (key : Nat → UInt8) : List (List UInt8) := (List.range 11).map fun i => bList 16 fun j => keysF rTab key (16 * i + j)
def RefCipherAt (w : World) (B : Nat) (p : Value) (key : Nat → UInt8) : Prop :=
  ∃ cb kv, p = .pointer (some ⟨cb, 0, none⟩) ∧ cb < B ∧ ArrB w cb 0 256 rTab ∧ ArrB w cb 256 256 rBck ∧ w.cell? ⟨cb, 512, none⟩ = some kv ∧ LBs w B kv (rKeys key)
theorem RefCipherAt.below {w w' : World} {B : Nat} {p : Value} {key : Nat → UInt8} (h : RefCipherAt w B p key) (hb : Below B w w') : RefCipherAt w' B p key := by
  obtain ⟨cb, kv, hp, h1, h2, h3, h4, h5⟩ := h
  exact ⟨cb, kv, hp, h1, h2.of_block (hb.block cb h1), h3.of_block (hb.block cb h1), (hb.cell (p := ⟨cb, 512, none⟩) h1).trans h4, h5.below hb⟩

set_option maxRecDepth 100000 in
set_option maxHeartbeats 1000000 in
theorem refReady_any (v : Value) (l : List UInt8) (hl : l.length = 16) (w : World) (hv : Bs w w.heap.size v l) :
    Calls Try.prog 35 #[v] w fun e w' => ∃ p, e = .returned p ∧ RefCipherAt w' w'.heap.size p (gb l) ∧ Below w.heap.size w w' := by
  obtain ⟨A, n, c, rfl⟩ := hv.form
  have Hv := Lib.hid hv; have Hl := Lib.hid hl
  clear hv hl
  go_enter Try.func35, Try.ntmps35
  go_wp2_with fail
  refine (table_any _).mono ?_
  rintro e w1 ⟨rfl, hb1⟩
  go_wp2_with (with_reducible refine wpList_build_eq rfl 69 #[(0, .tmp 5)] rfl [(0, .agg (bArr 256 rTab))] ?hl (rcArr rTab) (built_rc _) ?_)
  go_loopw [4] (fun i wr => ∃ k : Nat, k ≤ 256 ∧ i = .int .i64 k ∧ wr.rowIs w1.heap.size 69 513 (rcF rTab (rBack k) (.slice none 0 0)) ∧ Below w1.heap.size w1 wr) (fun i _ => 256 - (intOf i).toNat)
  case atStart => exact ⟨0, by omega, rfl, rcArr_row _ _ _, (Below.refl _ _).alloc (Nat.le_refl _) _⟩
  case round =>
    obtain ⟨k, hk, rfl, hr, hb⟩ := hrel
    by_cases hlt : k < 256
    · have hk1 : (k : Int) < 256 := by omega
      have hc1 : wr.cell? ⟨w1.heap.size, k, none⟩ = some (U8 (rTab k)) := by
        rw [hr.cell (i := k) (by omega)]
        unfold rcF
        rw [if_pos hlt]
      obtain ⟨x, hx⟩ : ∃ x, x = rTab k := ⟨_, rfl⟩
      rw [← hx] at hc1
      have Hx := Lib.hid hx; clear hx
      have hx0 := bv_nn x
      have hx1 := bv_lt x
      have hx2 := x.toNat_lt
      have hc2 := hr.cell (i := 256 + x.toNat) (by omega)
      have hf2 := hr.frozen (256 + x.toNat)
      go_wp2
      refine wp_region_still_tail 12 (by kernel_rfl) (by kernel_rfl) ?_
      simp only [List.take_succ_cons, List.take_zero, List.drop_succ_cons, List.drop_zero]
      repeat (refine wpStill_step (fun K hK => ?_); go_simp; (try go_bits); refine hK _ ?_; clear hK K)
      refine wpStill_nil ?_
      go_wp2
      have e8 : Value.int .u8 (k : Int) = U8 (ofI k) := by show Value.int .u8 _ = Value.int .u8 (bv (ofI k)); rw [bv_in (by omega) (by omega)]
      go_roundw
      case rel =>
        refine ⟨k + 1, by omega, by go_num, ((hr.set (256 + x.toNat) _).congr fun j hj => ?_).drew, (hb.setCell (by simp) _).drew⟩
        rw [e8]
        unfold rcF
        by_cases h1 : j < 256
        · rw [if_neg (by omega), if_pos h1, if_pos h1]
        · rw [if_neg h1, if_neg h1]
          by_cases h2 : j < 512
          · rw [if_pos h2, if_pos h2]
            show _ = U8 (if j - 256 = (rTab k).toNat then ofI k else rBack k (j - 256))
            rw [← Hx.out]
            by_cases h3 : j = 256 + x.toNat
            · rw [if_pos h3, if_pos (by omega)]
            · rw [if_neg h3, if_neg (by omega)]
          · rw [if_neg h2, if_neg h2, if_neg (by omega)]
      case measure => simp [intOf] <;> omega
    · have hk256 : k = 256 := by omega
      have HK := Lib.hid hk256
      have hT : ArrB wr w1.heap.size 0 256 rTab := fun j hj => by
        rw [Nat.zero_add, hr.cell (i := j) (by omega)]
        unfold rcF
        rw [if_pos hj]
      have hlt2 := hr.lt
      have Hr := Lib.hid hr; have Hb := Lib.hid hb; have HT := Lib.hid hT
      have hd : decide ((k : Int) < 256) = false := by simp; omega
      clear hr hb hT hk256
      have HV := Lib.hid ((Hv.out.below (hb1.trans (Hb.out.mono hb1.size))).mono (Nat.le_trans hb1.size Hb.out.size))
      go_wp2_with fail
      refine (refExpand_any w1.heap.size rTab (.slice A n c) l Hl.out wr HT.out hlt2 HV.out).mono ?_
      rintro e w3 ⟨v3, rfl, hv3, hb3⟩
      have hr3 := rowIs_below Hr.out hb3 hlt2
      have hb03 : Below w.heap.size w w3 := (hb1.trans (Hb.out.mono hb1.size)).trans (hb3.mono (Nat.le_trans hb1.size Hb.out.size))
      obtain ⟨a3, c3, xs3, hve, h31, h32, hE3, hc3⟩ := hv3
      obtain ⟨n3, hn3⟩ : ∃ n3, n3 = (rKeys (gb l)).length := ⟨_, rfl⟩
      have hv3 : LBsS w3 (New wr w3) (.slice a3 n3 c3) (rKeys (gb l)) := ⟨a3, c3, xs3, by rw [hn3], h31, h32, hE3, hc3⟩
      have hve' : v3 = .slice a3 n3 c3 := by rw [hve, hn3]; rfl
      subst hve'
      have cc := hr3.cell (i := 512) (by omega)
      have ff := hr3.frozen 512
      have Hv3 := Lib.hid hv3; have Hr3 := Lib.hid hr3; have Hb03 := Lib.hid hb03; have HN := Lib.hid hn3
      have Hlt := Lib.hid hlt2; have Hlt3 := Lib.hid (Nat.lt_of_lt_of_le hlt2 hb3.size)
      have Hle := Lib.hid (Nat.le_trans hb1.size Hb.out.size)
      clear hve hE3 hc3 h31 h32 hv3 hr3 hb03 hb3 hn3 hlt2
      go_wp2
      go_ret
      have hr4 := Hr3.out.set 512 (.slice a3 n3 c3)
      refine ⟨_, rfl, ⟨w1.heap.size, .slice a3 n3 c3, rfl, by have := Hlt3.out; simpa using this, ?_, ?_, ?_, ?_⟩, Hb03.out.setCell (by have := hb1.size; exact this) _⟩
      · intro j hj
        rw [Nat.zero_add, hr4.cell (i := j) (by omega), if_neg (by omega)]
        unfold rcF
        rw [if_pos hj]
      · intro j hj
        rw [hr4.cell (i := 256 + j) (by omega), if_neg (by omega)]
        unfold rcF
        rw [if_neg (by omega), if_pos (by omega), show 256 + j - 256 = j by omega, HK.out]
        rfl
      · rw [hr4.cell (i := 512) (by omega), if_pos rfl]
      · refine Hv3.out.keep fun b hs hlt => ⟨Below.heap_setCell _ _ _ _ (by have := hs.1; have := Hlt.out; simp; omega), by simp; exact hs.2⟩
end Go.Proofs.Ytmpcjaoemfnjcaa
