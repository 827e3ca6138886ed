/- The walk of the reference's table. -/
import Derived.Test.YtnogcnmoeekcpaaDoorRef5a
import Derived.Test.YtnogcnmoeekcpaaDoorSlice
import Derived.Deep.LoopGhost
namespace Go.Proofs.YtnogcnmoeekcpaaDoor
open Go.RowKit

def rP : Nat → UInt8
  | 0 => 1
  | n + 1 => tms (rP n) 3
def rQ : Nat → UInt8
  | 0 => 1
  | n + 1 => tms (rQ n) 246
def rT : Nat → Nat → UInt8
  | 0 => fun _ => 0
  | n + 1 => fun j => if j = (rP n).toNat then aff (rQ n) else rT n j
/-- The reference's table. -/
def rTab (j : Nat) : UInt8 := if j = 0 then 99 else rT 255 j
/-- How long the powers of 3 take to come back to 1. -/
theorem rP_one : (rP 255 == 1) = true := by decide +kernel
theorem rP_not (n : Nat) (h0 : 0 < n) (h : n < 255) : (rP n == 1) = false := by
  have : ∀ n, n < 255 → 0 < n → (rP n == 1) = false := by decide +kernel
  exact this n h h0
theorem zeroBox (w : World) : (zeroValue 88).run Tryd.prog w = .ok (.agg (bArr 256 fun _ => 0)) w := by kernel_rfl

set_option maxRecDepth 100000 in
set_option maxHeartbeats 1000000 in
theorem table_any (w : World) :
    Calls Tryd.prog 84 #[] w fun e w' => e = .returned (.agg (bArr 256 rTab)) ∧ Below w.heap.size w w' := by
  have hz := zeroBox
  have hr0 : ((w.alloc (.cells (bArr 256 fun _ => 0) 88)).alloc (.cells (bArr 256 fun _ => 0) 88)).rowIs w.heap.size 88 256 (fun _ => U8 0) := (rowIs_bArr _ _ _ _).alloc _
  have hr1 : ((w.alloc (.cells (bArr 256 fun _ => 0) 88)).alloc (.cells (bArr 256 fun _ => 0) 88)).rowIs (w.heap.size + 1) 88 256 (fun _ => U8 0) := by
    have := rowIs_bArr (w.alloc (.cells (bArr 256 fun _ => 0) 88)) 256 88 (fun _ => 0)
    simpa using this
  have hb0 : Below w.heap.size w ((w.alloc (.cells (bArr 256 fun _ => 0) 88)).alloc (.cells (bArr 256 fun _ => 0) 88)) := ((Below.refl _ _).alloc (Nat.le_refl _) _).alloc (by simp) _
  have Hr0 := Lib.hid hr0; have Hr1 := Lib.hid hr1; have Hb0 := Lib.hid hb0
  clear hr0 hr1 hb0
  go_enter Tryd.func84, Tryd.ntmps84
  go_wp2
  go_loopg [2, 3] 254 (fun k p q wr => ∃ n : Nat, n + k = 254 ∧ p = .int .i64 (bv (rP n)) ∧ q = .int .i64 (bv (rQ n)) ∧ wr.rowIs w.heap.size 88 256 (fun _ => U8 0) ∧ wr.rowIs (w.heap.size + 1) 88 256 (fun j => U8 (rT n j)) ∧ Below w.heap.size w wr)
  case atStart => exact ⟨0, by omega, rfl, rfl, Hr0.out, Hr1.out, Hb0.out⟩
  case round =>
    obtain ⟨n, hn, rfl, rfl, hr, ht, hb⟩ := hrel
    have Hn := Lib.hid hn; clear hn
    obtain ⟨q, hq⟩ : ∃ q, q = rQ n := ⟨_, rfl⟩
    rw [← hq]
    have Hq := Lib.hid hq; clear hq
    have q0 := bv_nn q
    have q1 := bv_lt q
    go_wp2
    go_loop [4, 5] (fun o i => ∃ (m : Nat), m ≤ 8 ∧ i = .int .i64 m ∧ o = .int .i64 (outZ (bv q) m)) (fun _ i => 8 - (intOf i).toNat)
    case atStart => exact ⟨0, by omega, rfl, rfl⟩
    case round =>
      obtain ⟨m, hm, rfl, rfl⟩ := hrel
      by_cases hlt : m < 8
      · go_wp2
        go_round
        case rel => exact ⟨m + 1, by omega, by go_num, rfl⟩
        case measure => simp [intOf] <;> omega
      · have hm8 : m = 8 := by omega
        subst hm8
        obtain ⟨p, hp⟩ : ∃ p, p = rP n := ⟨_, rfl⟩
        rw [← hp]
        have Hp := Lib.hid hp; clear hp
        have p0 := bv_nn p
        have p1 := bv_lt p
        have c1 := ht.cell (i := p.toNat) p.toNat_lt
        have f1 := ht.frozen p.toNat
        have ea := outZ_aff q
        have hr5 := hr.setOther (a := ⟨w.heap.size + 1, p.toNat, none⟩) (by simp) (U8 (aff q))
        have hb5 := hb.setCell (p := ⟨w.heap.size + 1, p.toNat, none⟩) (by simp) (U8 (aff q))
        have ht5 : (wr.setCell ⟨w.heap.size + 1, p.toNat, none⟩ (U8 (aff q))).rowIs (w.heap.size + 1) 88 256 (fun j => U8 (rT (n + 1) j)) :=
          (ht.set p.toNat _).congr fun j _ => by
            show _ = U8 (if j = (rP n).toNat then aff (rQ n) else rT n j)
            rw [← Hp.out, ← Hq.out]
            by_cases e : j = p.toNat
            · rw [if_pos e, if_pos e]
            · rw [if_neg e, if_neg e]
        have eP : rP (n + 1) = tms p 3 := by rw [Hp.out]; rfl
        have eQ : rQ (n + 1) = tms q 246 := by rw [Hq.out]; rfl
        have EP := Lib.hid eP; have EQ := Lib.hid eQ; have HR5 := Lib.hid hr5; have HT5 := Lib.hid ht5; have HB5 := Lib.hid hb5
        clear eP eQ hr5 ht5 hb5
        by_cases hend : n = 254
        · have hone : (tms p 3 == 1) = true := by rw [← EP.out, hend]; exact rP_one
          have Hone := Lib.hid hone; clear hone
          go_wp2_with fail
          refine (times_at p 3 _ _ rfl rfl _).mono ?_
          rintro e w' ⟨rfl, rfl⟩
          go_wp2_with fail
          refine (times_at q 246 _ _ rfl rfl _).mono ?_
          rintro e w' ⟨rfl, rfl⟩
          clear c1 f1 hr ht hb
          have hone := Hone.out
          obtain ⟨w6, hw6⟩ : ∃ w6, w6 = wr.setCell ⟨w.heap.size + 1, p.toNat, none⟩ (U8 (aff q)) := ⟨_, rfl⟩
          rw [← hw6] at HR5 HT5 HB5 ⊢
          clear hw6
          have c6 := HT5.out.cell (i := 0) (by omega)
          have f6 := HT5.out.frozen 0
          have hrow7 : ArrB (w6.setCell ⟨w.heap.size + 1, 0, none⟩ (.int .u8 99)) (w.heap.size + 1) 0 256 rTab := (ArrB.of_row (off := 0) (f := fun j => if j = 0 then 99 else rT (n + 1) j) ((HT5.out.set 0 (U8 99)).congr fun j _ => by
            by_cases e : j = 0
            · rw [if_pos e, if_pos e]
            · rw [if_neg e, if_neg e]) (m := 256) (by omega)).congr fun j _ => by
              rw [Nat.zero_add, hend]; rfl
          have hold7 : (w6.setCell ⟨w.heap.size + 1, 0, none⟩ (.int .u8 99)).rowIs w.heap.size 88 256 (fun j => U8 ((fun _ => 0) j)) := HR5.out.setOther (by simp) _
          have hb7 := HB5.out.setCell (p := ⟨w.heap.size + 1, 0, none⟩) (by simp) (.int .u8 99)
          have Hrow7 := Lib.hid hrow7; have Hold7 := Lib.hid hold7; have Hb7 := Lib.hid hb7
          clear hrow7 hold7 hb7
          go_wp2_with (first
            | (with_reducible refine wpList_load_arr rfl 88 (.tmp 1) rfl (w.heap.size + 1) 0 256 rTab rfl _ Hrow7.out Tryd.underlying88 rfl rfl ?_)
            | ((with_reducible refine wpList_store_arr rfl 88 (.tmp 0) (.tmp 65) rfl w.heap.size 256 rTab rfl rfl 88 (fun _ => 0) Hold7.out rfl ?_); intro w7 hr7 hg7))
          refine bodyPost_ret (results_cell_row rfl _ _ w.heap.size 88 (bArr 256 rTab) (0, 0) _ rfl (row_bArr hr7) Tryd.underlying88 rfl (by rw [bArr_size]; rfl)) rfl ⟨rfl, Hb7.out.trans (below_of_only hg7 Hb7.out.size (Nat.le_refl _))⟩
        · have hone : (tms p 3 == 1) = false := by rw [← EP.out]; exact rP_not (n + 1) (by omega) (by have := Hn.out; omega)
          have Hone := Lib.hid hone; clear hone
          go_wp2_with fail
          refine (times_at p 3 _ _ rfl rfl _).mono ?_
          rintro e w' ⟨rfl, rfl⟩
          go_wp2_with fail
          refine (times_at q 246 _ _ rfl rfl _).mono ?_
          rintro e w' ⟨rfl, rfl⟩
          have hone := Hone.out
          go_wp2
          obtain ⟨k, rfl⟩ : ∃ k, gk = k + 1 := ⟨gk - 1, by have := Hn.out; omega⟩
          go_roundg k
          case rel => exact ⟨n + 1, by have := Hn.out; omega, by rw [EP.out], by rw [EQ.out], HR5.out, HT5.out, HB5.out⟩
          case measure => omega
end Go.Proofs.YtnogcnmoeekcpaaDoor
