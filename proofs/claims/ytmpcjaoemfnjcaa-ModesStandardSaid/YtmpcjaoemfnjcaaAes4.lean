/- The walk of (*tables).expand. -/
import Derived.Test.YtmpcjaoemfnjcaaAes2
import Derived.Test.YtmpcjaoemfnjcaaSlice
import Derived.Deep.RegionHeld3
namespace Go.Proofs.Ytmpcjaoemfnjcaa
open Go.RowKit

def rconF : Nat → UInt8
  | 0 => 1
  | n + 1 => dbl (rconF n)
def kw0 (T old : Nat → UInt8) (c : UInt8) (r : Nat) : UInt8 := if r = 0 then T (old 13).toNat ^^^ c else if r = 1 then T (old 14).toNat else if r = 2 then T (old 15).toNat else T (old 12).toNat
/-- The four bytes w behind n rounds of the inner loop. -/
def kwF (T old : Nat → UInt8) (c : UInt8) : Nat → Nat → UInt8
  | 0 => kw0 T old c
  | n + 1 => fun r => if r = n % 4 then kwF T old c n r ^^^ old n else kwF T old c n r
theorem kwF_hit (T old : Nat → UInt8) (c : UInt8) (n r : Nat) (e : r = n % 4) : kwF T old c (n + 1) r = kwF T old c n r ^^^ old n := by show (if r = n % 4 then _ else _) = _; rw [if_pos e]
theorem kwF_miss (T old : Nat → UInt8) (c : UInt8) (n r : Nat) (e : ¬ r = n % 4) : kwF T old c (n + 1) r = kwF T old c n r := by show (if r = n % 4 then _ else _) = _; rw [if_neg e]
def nextK (T old : Nat → UInt8) (c : UInt8) (k : Nat) : UInt8 := kwF T old c (k + 1) (k % 4)
/-- The keys of the rounds: round i, byte k. -/
def keyF (T key : Nat → UInt8) : Nat → Nat → UInt8
  | 0 => key
  | i + 1 => nextK T (keyF T key i) (rconF i)
/-- All keys, one behind the other. -/
def keysF (T key : Nat → UInt8) (j : Nat) : UInt8 := keyF T key (j / 16) (j % 16)

theorem zeroKeys (w : World) : (zeroValue 52).run Try.prog w = .ok (.agg (bArr 176 fun _ => 0)) w := by kernel_rfl
set_option maxRecDepth 100000 in
set_option maxHeartbeats 1000000 in
theorem expand_any (tb off : Nat) (T : Nat → UInt8) (v : Value) (l : List UInt8) (hl : l.length = 16) (w : World) (hT : ArrB w tb off 256 T) (htb : tb < w.heap.size) (hv : Bs w w.heap.size v l) :
    Calls Try.prog 41 #[.pointer (some ⟨tb, off, none⟩), v] w fun e w' => e = .returned (.agg (bArr 176 (keysF T (gb l)))) ∧ Below w.heap.size w w' := by
  have hz := zeroKeys
  obtain ⟨a, c, rfl, hlc, hc, _, hcell⟩ := hv
  obtain ⟨kb, ko, rfl, hkb, hkey⟩ := hcell (by omega)
  rw [hl] at hlc hkey ⊢
  obtain ⟨key, hkey'⟩ : ∃ key : Nat → UInt8, key = gb l := ⟨_, rfl⟩
  rw [← hkey']
  have hkey : ∀ j, j < 16 → w.cell? ⟨kb, ko + j, none⟩ = some (U8 (key j)) := fun j hj => by rw [hkey']; exact hkey j hj
  clear hkey' hcell
  have hg0 : ((w.alloc (.cells (bArr 176 fun _ => 0) 52)).alloc (.cells (bArr 176 fun _ => 0) 52)).heap[w.heap.size + 1]? = some (.cells ((bArr 176 fun _ => 0).toList).toArray 52 (0, 0)) := by rw [heap_alloc2_new]
  have hr0 : ((w.alloc (.cells (bArr 176 fun _ => 0) 52)).alloc (.cells (bArr 176 fun _ => 0) 52)).rowIs w.heap.size 52 176 (fun _ => U8 0) := (rowIs_bArr _ _ _ _).alloc _
  have hk0 : ∀ (j : Nat) (u : Value), ((List.range 16).map fun j => U8 (key j))[j]? = some u → ((w.alloc (.cells (bArr 176 fun _ => 0) 52)).alloc (.cells (bArr 176 fun _ => 0) 52)).cell? ((⟨kb, ko, none⟩ : Addr).add j) = some u := by
    intro j u hu
    have hj : j < 16 := by
      rcases Nat.lt_or_ge j 16 with h | h
      · exact h
      · rw [List.getElem?_eq_none (by simp; omega)] at hu; cases hu
    have e : (⟨kb, ko, none⟩ : Addr).add j = ⟨kb, ko + j, none⟩ := by unfold Addr.add; split <;> simp_all
    rw [e, World.cell?_alloc_past _ _ _ (by simp; omega), World.cell?_alloc_past _ _ _ hkb, hkey j hj, ← hu]
    simp [hj]
  have Hg0 := Lib.hid hg0; clear hg0
  have Hr0 := Lib.hid hr0; clear hr0
  have Hk0 := Lib.hid hk0; clear hk0
  go_enter Try.func41, Try.ntmps41
  go_wp2_with (with_reducible refine wpList_copy_splice rfl (.tmp 12) (.tmp 13) 22 22 rfl 5 Try.underlying22 rfl _ _ 16 16 16 c rfl rfl (w.heap.size + 1) 0 (bArr 176 fun _ => 0).toList 52 Hg0.out ((List.range 16).map fun j => U8 (key j)) (by simp) (fun _ => ⟨rfl, _, rfl, Hk0.out⟩) (by simp [bArr]) (by simp [Value.oneCell']) (w.heap.size + 1) _ (Below.refl _ _) (Nat.le_refl _) ?_; intro w2 HG2 hB2)
  have hr2 : w2.rowIs (w.heap.size + 1) 52 176 (fun j => U8 (upto 16 (keysF T key) (fun _ => 0) j)) := by
    have h := HG2.out
    rw [splice_bArr 176 16 0 _ _ (by omega)] at h
    refine ⟨_, h, bArr_size _ _, fun i hi => ?_⟩
    rw [bArr_at _ _ _ hi]
    unfold upto keysF
    dsimp only
    by_cases e : i < 16
    · rw [if_pos (by omega), if_pos e, Nat.div_eq_of_lt e, Nat.mod_eq_of_lt e]; rfl
    · rw [if_neg (by omega), if_neg e]
  have hs2 : w2.rowIs w.heap.size 52 176 (fun _ => U8 0) := rowIs_below Hr0.out hB2 (by omega)
  have hb2 : Below w.heap.size w w2 := (((Below.refl _ _).alloc (Nat.le_refl _) _).alloc (by simp) _).trans (hB2.mono (by omega))
  clear hB2 HG2 Hg0 Hr0 Hk0 hkey
  go_loopw [6, 7] (fun c i wr => ∃ n : Nat, n ≤ 10 ∧ i = .int .i64 (n + 1 : Nat) ∧ c = U8 (rconF n) ∧ wr.rowIs (w.heap.size + 1) 52 176 (fun j => U8 (upto (16 * (n + 1)) (keysF T key) (fun _ => 0) j)) ∧ wr.rowIs w.heap.size 52 176 (fun _ => U8 0) ∧ Below w.heap.size w wr) (fun _ i _ => 11 - (intOf i).toNat)
  case atStart => exact ⟨0, by omega, rfl, rfl, hr2, hs2, hb2⟩
  case round =>
    clear hr2 hs2 hb2
    obtain ⟨n, hn, rfl, rfl, hr, hs, hb⟩ := hrel
    obtain ⟨wo, rfl⟩ : ∃ wo : World, wo = wr := ⟨_, rfl⟩
    have hsz := hr.lt
    by_cases hlt : n < 10
    · have hd : decide ((n : Int) + 1 ≤ 10) = true := by simp; omega
      go_wp2
      have hcl : ∀ k, k < 16 → wo.cell? ⟨w.heap.size + 1, n * 16 + k, none⟩ = some (U8 (keyF T key n k)) := fun k hk => by
        have h := hr.cell (i := n * 16 + k) (by omega)
        rw [h]
        unfold upto keysF
        rw [if_pos (by omega), show (n * 16 + k) / 16 = n by omega, show (n * 16 + k) % 16 = k by omega]
      have hTr : ArrB wo tb off 256 T := hT.of_block (hb.block tb htb)
      have c12 := hcl 12 (by omega)
      have c13 := hcl 13 (by omega)
      have c14 := hcl 14 (by omega)
      have c15 := hcl 15 (by omega)
      obtain ⟨x12, e12⟩ : ∃ x, x = keyF T key n 12 := ⟨_, rfl⟩
      rw [← e12] at c12
      have E12 := Lib.hid e12; clear e12
      obtain ⟨x13, e13⟩ : ∃ x, x = keyF T key n 13 := ⟨_, rfl⟩
      rw [← e13] at c13
      have E13 := Lib.hid e13; clear e13
      obtain ⟨x14, e14⟩ : ∃ x, x = keyF T key n 14 := ⟨_, rfl⟩
      rw [← e14] at c14
      have E14 := Lib.hid e14; clear e14
      obtain ⟨x15, e15⟩ : ∃ x, x = keyF T key n 15 := ⟨_, rfl⟩
      rw [← e15] at c15
      have E15 := Lib.hid e15; clear e15
      have t12 := hTr.at_ x12.toNat_lt
      have t13 := hTr.at_ x13.toNat_lt
      have t14 := hTr.at_ x14.toNat_lt
      have t15 := hTr.at_ x15.toNat_lt
      have b12 := bv_nn x12
      have b13 := bv_nn x13
      have b14 := bv_nn x14
      have b15 := bv_nn x15
      have d12 := bv_lt x12
      have d13 := bv_lt x13
      have d14 := bv_lt x14
      have d15 := bv_lt x15
      clear hTr hcl
      go_region_held3 (fun W => W.cell? ⟨w.heap.size + 1, n * 16 + 12, none⟩ = some (U8 x12) ∧ W.cell? ⟨w.heap.size + 1, n * 16 + 13, none⟩ = some (U8 x13) ∧ W.cell? ⟨w.heap.size + 1, n * 16 + 14, none⟩ = some (U8 x14) ∧ W.cell? ⟨w.heap.size + 1, n * 16 + 15, none⟩ = some (U8 x15) ∧
        W.cell? ⟨tb, off + x12.toNat, none⟩ = some (U8 (T x12.toNat)) ∧ W.cell? ⟨tb, off + x13.toNat, none⟩ = some (U8 (T x13.toNat)) ∧ W.cell? ⟨tb, off + x14.toNat, none⟩ = some (U8 (T x14.toNat)) ∧ W.cell? ⟨tb, off + x15.toNat, none⟩ = some (U8 (T x15.toNat)))
        (go_keep) (fail)
      clear c12 c13 c14 c15 t12 t13 t14 t15 b12 b13 b14 b15 d12 d13 d14 d15
      have hw0 : (wo.alloc (.cells #[U8 (T x13.toNat ^^^ rconF n), U8 (T x14.toNat), U8 (T x15.toNat), U8 (T x12.toNat)] 64)).rowIs wo.heap.size 64 4 (fun r => U8 (kwF T (keyF T key n) (rconF n) 0 r)) := by
        refine ⟨_, heap_alloc_new _ _, rfl, fun i hi => ?_⟩
        unfold kwF kw0
        rw [← E12.out, ← E13.out, ← E14.out, ← E15.out]
        rcases i with _ | _ | _ | _ | i
        · rfl
        · rfl
        · rfl
        · rfl
        · omega
      have hr0 := hr.alloc (.cells #[U8 (T x13.toNat ^^^ rconF n), U8 (T x14.toNat), U8 (T x15.toNat), U8 (T x12.toNat)] 64)
      have hs0 := hs.alloc (.cells #[U8 (T x13.toNat ^^^ rconF n), U8 (T x14.toNat), U8 (T x15.toNat), U8 (T x12.toNat)] 64)
      have hb0 := (hb.alloc hb.size (.cells #[U8 (T x13.toNat ^^^ rconF n), U8 (T x14.toNat), U8 (T x15.toNat), U8 (T x12.toNat)] 64))
      clear hr hs hb E12 E13 E14 E15
      go_wp2_with (go_at_call 52; refine (double_any _ _).mono ?_; rintro e w' ⟨rfl, rfl⟩)
      go_loopw [63] (fun v wi => ∃ k : Nat, k ≤ 16 ∧ v = .int .i64 k ∧ wi.rowIs (w.heap.size + 1) 52 176 (fun j => U8 (upto (16 * (n + 1) + k) (keysF T key) (fun _ => 0) j)) ∧ wi.rowIs wo.heap.size 64 4 (fun r => U8 (kwF T (keyF T key n) (rconF n) k r)) ∧ wi.rowIs w.heap.size 52 176 (fun _ => U8 0) ∧ Below w.heap.size w wi) (fun v _ => 16 - (intOf v).toNat)
      case atStart => exact ⟨0, by omega, rfl, hr0.drew, hw0.drew, hs0.drew, hb0.drew⟩
      case round =>
        clear hr0 hs0 hw0 hb0
        obtain ⟨k, hk, rfl, hr, hw, hs, hb⟩ := hrel
        by_cases hlt' : k < 16
        · have c1 := hr.cell (i := n * 16 + k) (by omega)
          have hu : upto (16 * (n + 1) + k) (keysF T key) (fun _ => 0) (n * 16 + k) = keyF T key n k := by
            unfold upto keysF
            rw [if_pos (by omega), show (n * 16 + k) / 16 = n by omega, show (n * 16 + k) % 16 = k by omega]
          rw [hu] at c1
          clear hu
          have c2 := hw.cell (i := k % 4) (by omega)
          have f2 := hw.frozen (k % 4)
          have i1 : (k : Int) % 4 < 4 := by omega
          have i0 : 0 ≤ (k : Int) % 4 := by omega
          have j0 : 0 ≤ (n : Int) + 1 := by omega
          have j1 : (n : Int) + 1 < 11 := by omega
          have k1 : (k : Int) < 16 := by omega
          go_wp2
          refine wp_region_still_tail 11 (by kernel_rfl) (by kernel_rfl) ?_
          simp only [List.take_succ_cons, List.take_zero, List.drop_succ_cons, List.drop_zero]
          repeat (refine wpStill_step (fun K hK => ?_); go_simp; (try go_bits); refine hK _ ?_; clear hK K)
          refine wpStill_nil ?_
          go_wp2
          have hw1 : ((wr.setCell ⟨wo.heap.size, k % 4, none⟩ (U8 (kwF T (keyF T key n) (rconF n) k (k % 4) ^^^ keyF T key n k))).drew).rowIs wo.heap.size 64 4 (fun r => U8 (kwF T (keyF T key n) (rconF n) (k + 1) r)) :=
            (hw.set (k % 4) _).drew.congr fun r _ => by
              by_cases e : r = k % 4
              · rw [if_pos e, kwF_hit _ _ _ _ _ e, e]
              · rw [if_neg e, kwF_miss _ _ _ _ _ e]
          have hr1 := (hr.setOther (a := ⟨wo.heap.size, k % 4, none⟩) (by simp; omega) (U8 (kwF T (keyF T key n) (rconF n) k (k % 4) ^^^ keyF T key n k))).drew
          have hs1 := (hs.setOther (a := ⟨wo.heap.size, k % 4, none⟩) (by simp; omega) (U8 (kwF T (keyF T key n) (rconF n) k (k % 4) ^^^ keyF T key n k))).drew
          have hb1 := (hb.setCell (p := ⟨wo.heap.size, k % 4, none⟩) (by simp; omega) (U8 (kwF T (keyF T key n) (rconF n) k (k % 4) ^^^ keyF T key n k))).drew
          have c3 := hw1.cell (i := k % 4) (by omega)
          have f4 := hr1.frozen ((n + 1) * 16 + k)
          have c4 := hr1.cell (i := (n + 1) * 16 + k) (by omega)
          have hnk : kwF T (keyF T key n) (rconF n) (k + 1) (k % 4) = keysF T key (16 * (n + 1) + k) := by
            unfold keysF
            rw [show (16 * (n + 1) + k) / 16 = n + 1 by omega, show (16 * (n + 1) + k) % 16 = k by omega]
            rfl
          rw [hnk] at c3
          clear hnk hr hw hs hb c1 c2 f2
          generalize (wr.setCell ⟨wo.heap.size, k % 4, none⟩ (U8 (kwF T (keyF T key n) (rconF n) k (k % 4) ^^^ keyF T key n k))).drew = w5 at *
          refine wp_region_still_tail 8 (by kernel_rfl) (by kernel_rfl) ?_
          simp only [List.take_succ_cons, List.take_zero, List.drop_succ_cons, List.drop_zero]
          repeat (refine wpStill_step (fun K hK => ?_); go_simp; (try go_bits); refine hK _ ?_; clear hK K)
          refine wpStill_nil ?_
          go_wp2
          go_roundw
          case rel =>
            refine ⟨k + 1, by omega, by go_num, ?_, (hw1.setOther (by simp; omega) _).drew, (hs1.setOther (by simp) _).drew, (hb1.setCell (by simp) _).drew⟩
            rw [show (n + 1) * 16 + k = 16 * (n + 1) + k by omega]
            exact (row_upto_set hr1 rfl).drew
          case measure => simp [intOf] <;> omega
        · go_wp2
          have hk16 : k = 16 := by omega
          subst hk16
          go_roundw
          case rel => exact ⟨n + 1, by omega, by go_num, rfl, hr, hs, hb⟩
          case measure => simp [intOf] <;> omega
    · have hn10 : n = 10 := by omega
      subst hn10
      go_wp2_with (first
        | (refine wpList_load_row rfl 52 (.tmp 5) rfl (w.heap.size + 1) rfl 52 (bArr 176 _) (0, 0) _ (row_bArr hr) Try.underlying52 rfl (by rw [bArr_size]; rfl) ?_)
        | (refine wpList_store_row rfl 52 (.tmp 4) (.tmp 86) rfl w.heap.size _ rfl rfl 52 (bArr 176 _) (row_bArr hs) (by rw [bArr_size]; rfl) (by rw [bArr_size, bArr_size]) (bArr_one _ _) ?_))
      have hb' := below_setRow hb (Nat.le_refl _) (bArr 176 (fun j => upto (16 * (10 + 1)) (keysF T key) (fun _ => 0) j))
      refine bodyPost_ret (results_cell_row rfl _ _ w.heap.size 52 (bArr 176 (keysF T key)) (0, 0) _ rfl ?_ Try.underlying52 rfl (by rw [bArr_size]; rfl)) rfl ⟨rfl, hb'⟩
      rw [setRow_heap _ _ _ _ _ _ (row_bArr hs)]
      rw [bArr_congr (g := keysF T key) fun j hj => by unfold upto; rw [if_pos (by omega)]]
end Go.Proofs.Ytmpcjaoemfnjcaa
