/- The walk of the reference's Decrypt. -/
import Derived.Test.YtmpcjaoemfnjcaaRef5f
namespace Go.Proofs.Ytmpcjaoemfnjcaa
open Go.RowKit

def rInv (g : Nat → UInt8) (j : Nat) : UInt8 := rBck (g ((j + 12 * (j % 4)) % 16)).toNat
/-- x behind q rounds of the inner loop. -/
def rInvP (g : Nat → UInt8) (q j : Nat) : UInt8 := if (j + 12 * (j % 4)) % 16 < q then rInv g j else 0
theorem rInvP_step (g : Nat → UInt8) (q j : Nat) (hq : q < 16) (hj : j < 16) (v : UInt8) (hv : v = rBck (g q).toNat) :
    (if j = (q + 4 * (q % 4)) % 16 then U8 v else U8 (rInvP g q j)) = U8 (rInvP g (q + 1) j) := by
  unfold rInvP
  by_cases h : j = (q + 4 * (q % 4)) % 16
  · rw [if_pos h, if_pos (by omega), hv]
    unfold rInv
    rw [show (j + 12 * (j % 4)) % 16 = q by omega]
  · rw [if_neg h]
    by_cases h2 : (j + 12 * (j % 4)) % 16 < q
    · rw [if_pos h2, if_pos (by omega)]
    · rw [if_neg h2, if_neg (by omega)]
/-- A state with a round's key, and mixed unless it is the last one. -/
def rDecG (key : Nat → UInt8) (i : Nat) (s : Nat → UInt8) (j : Nat) : UInt8 := if i < 10 then rmixF mixD (fun j => s j ^^^ rK key i j) j else s j ^^^ rK key i j
def rDecS (key f : Nat → UInt8) : Nat → Nat → UInt8
  | 0 => f
  | n + 1 => rInv (rDecG key (10 - n) (rDecS key f n))
def rDecF (key f : Nat → UInt8) (j : Nat) : UInt8 := rDecS key f 10 j ^^^ rK key 0 j

set_option maxRecDepth 100000 in
set_option maxHeartbeats 2000000 in
theorem refDecrypt_any (p v : Value) (key : Nat → UInt8) (l : List UInt8) (hl : l.length = 16) (w : World) (hp : RefCipherAt w w.heap.size p key) (hv : Bs w w.heap.size v l) :
    Calls Try.prog 38 #[p, v] w fun e w' => ∃ v', e = .returned v' ∧ BsS w' (New w w') v' (bList 16 (rDecF key (gb l))) ∧ Below w.heap.size w w' := by
  obtain ⟨cb, kv, rfl, hcb, hT, hB, hkc, hkv⟩ := hp
  obtain ⟨kb, ko, kc, ks, rfl, hkb, hks⟩ := keys_at hkv
  obtain ⟨a, c, hve, hlc, hc, _, hcell⟩ := hv
  obtain ⟨b, off, rfl, hb, hx⟩ := hcell (by omega)
  have hX : ArrB w b off 16 (gb l) := by rw [← hl]; exact hx
  rw [hl] at hve hlc
  subst hve
  clear hcell hx hl hT hkv
  have HX := Lib.hid hX; have HT := Lib.hid hB; have HKs := Lib.hid hks; have Hkc := Lib.hid hkc
  clear hX hB hks hkc
  have Hnew := Lib.hid (arrNew w)
  go_enter Try.func38, Try.ntmps38
  go_wp2
  go_loopw [6] (fun i wr => ∃ n : Nat, n ≤ 16 ∧ i = .int .i64 n ∧ wr.rowIs w.heap.size 47 16 (fun j => U8 (upto n (gb l) (fun _ => 0) j)) ∧ Below w.heap.size w wr) (fun i _ => 16 - (intOf i).toNat)
  case atStart => exact ⟨0, by omega, rfl, row_upto_zero Hnew.out _, (Below.refl _ _).alloc (Nat.le_refl _) _⟩
  case round =>
    obtain ⟨n, hn, rfl, hr, hbb⟩ := hrel
    by_cases hlt : n < 16
    · have hc1 := row_upto_cell hr hlt
      have hf1 := hr.frozen n
      have hc2 := (HX.out.of_block (hbb.block b hb)).at_ hlt
      have hn16 : (n : Int) < 16 := by omega
      go_wp2
      go_roundw
      case rel => exact ⟨n + 1, by omega, by go_num, row_upto_set hr rfl, hbb.setCell (by simp) _⟩
      case measure => simp [intOf] <;> omega
    · have hd : decide ((n : Int) < 16) = false := by simp; omega
      have hr0 := row_upto_full hr (by omega)
      clear hr
      go_wp2
      go_loopw [7] (fun i wr => ∃ m : Nat, m ≤ 10 ∧ i = .int .i64 m ∧ wr.rowIs w.heap.size 47 16 (fun j => U8 (rDecS key (gb l) (10 - m) j)) ∧ Below w.heap.size w wr) (fun i _ => (intOf i).toNat)
      case atStart => exact ⟨10, by omega, rfl, hr0, hbb⟩
      case round =>
        clear hr0 hbb
        obtain ⟨m, hm, rfl, hr, hbb⟩ := hrel
        have j0 : 0 ≤ (m : Int) := by omega
        by_cases hm1 : 1 ≤ m
        · have hd1 : decide (1 ≤ (m : Int)) = true := by simp; omega
          have j1 : (m : Int) < 11 := by omega
          obtain ⟨d, hdd⟩ : ∃ d, d = 10 - m := ⟨_, rfl⟩
          rw [← hdd] at hr
          have hde : 10 - (m - 1) = d + 1 := by omega
          have hdm : 10 - d = m := by omega
          have Hde := Lib.hid hde; have Hdm := Lib.hid hdm
          clear hdd hde hdm
          have hk0 := (hbb.cell (p := ⟨cb, 512, none⟩) hcb).trans Hkc.out
          have hkn := (hbb.cell (p := ⟨kb, ko + m, none⟩) hkb).trans (HKs.out m (by omega)).1
          have Hk7 := Lib.hid (BsS.keep (S' := (· ≠ w.heap.size)) (HKs.out m (by omega)).2 fun b' hs _ => ⟨hbb.block b' hs, Nat.ne_of_lt hs⟩)
          have Hr7 := Lib.hid hr; have Hb7 := Lib.hid hbb
          clear hr hbb
          go_wp2_with fail
          refine (add_key Hr7.out Hk7.out).mono ?_
          rintro e w9 ⟨rfl, hr9, hg9⟩
          have hb9 := Hb7.out.trans (below_of_only hg9 Hb7.out.size (Nat.le_refl _))
          clear hg9 hk0 hkn
          by_cases h10 : m < 10
          · have hd2 : decide ((m : Int) < 10) = true := by simp; omega
            go_wp2_with fail
            refine (refMix_any _ _ _ mixD _ (by rfl) _ hr9).mono ?_
            rintro e w8 ⟨rfl, hr8, hg8⟩
            have hb8 := hb9.trans (below_of_only hg8 hb9.size (Nat.le_refl _))
            have hg : w8.rowIs w.heap.size 47 16 (fun j => U8 (rDecG key m (rDecS key (gb l) d) j)) := hr8.congr fun j _ => by
              unfold rDecG; rw [if_pos h10]
            clear hr9 hg8 hb9 hr8
            obtain ⟨G, hG⟩ : ∃ G, G = rDecG key m (rDecS key (gb l) d) := ⟨_, rfl⟩
            rw [← hG] at hg
            have HG := Lib.hid hG; have Hr5 := Lib.hid hg; have Hbb5 := Lib.hid hb8
            have HT5 := Lib.hid (HT.out.of_block (hb8.block cb hcb))
            have Hx5 := Lib.hid (arrNew w8)
            have hlo := hb8.size
            have hll := hg.lt
            clear hG hg hb8
            go_wp2
            go_loopw [9] (fun i wi => ∃ q : Nat, q ≤ 16 ∧ i = .int .i64 q ∧ wi.rowIs w8.heap.size 47 16 (fun j => U8 (rInvP G q j)) ∧ wi.rowIs w.heap.size 47 16 (fun j => U8 (G j)) ∧ Below w8.heap.size w8 wi) (fun i _ => 16 - (intOf i).toNat)
            case atStart => exact ⟨0, by omega, rfl, Hx5.out.congr fun j _ => by unfold rInvP; rw [if_neg (by omega)], Hr5.out.alloc _, (Below.refl _ _).alloc (Nat.le_refl _) _⟩
            case round =>
              obtain ⟨q, hq, rfl, hxr, hbr, hbo⟩ := hrel
              by_cases hlt2 : q < 16
              · have hc1 := hxr.cell (i := (q + 4 * (q % 4)) % 16) (by omega)
                have hf1 := hxr.frozen ((q + 4 * (q % 4)) % 16)
                have hc2 := hbr.cell (i := q) hlt2
                obtain ⟨z, hz⟩ : ∃ z, z = G q := ⟨_, rfl⟩
                rw [← hz] at hc2
                have Hz := Lib.hid hz; clear hz
                have z0 := bv_nn z
                have z1 := bv_lt z
                have hc3 := (HT5.out.of_block (hbo.block cb (by omega))).at_ z.toNat_lt
                have i0 : 0 ≤ ((q : Int) + 4 * ((q : Int) % 4)) % 16 := by omega
                have i1 : ((q : Int) + 4 * ((q : Int) % 4)) % 16 < 16 := by omega
                have i2 : (q : Int) < 16 := by omega
                go_wp2
                refine wp_region_still_tail 15 (by kernel_rfl) (by kernel_rfl) ?_
                simp only [List.take_succ_cons, List.take_zero, List.drop_succ_cons, List.drop_zero]
                repeat (refine wpStill_step (fun K hK => ?_); go_simp; (try go_bits); refine hK _ ?_; clear hK K)
                refine wpStill_nil ?_
                go_wp2
                go_roundw
                case rel => exact ⟨q + 1, by omega, by go_num, ((hxr.set _ _).congr fun j hj => rInvP_step G q j hlt2 hj _ (by rw [Hz.out])).drew, (hbr.setOther (by simp; omega) _).drew, (hbo.setCell (by simp) _).drew⟩
                case measure => simp [intOf] <;> omega
              · have hdq : decide ((q : Int) < 16) = false := by simp; omega
                have hxa : ArrB wr w8.heap.size 0 16 (rInv G) := (ArrB.of_row (off := 0) (hxr.congr (g := fun j => U8 (rInv G j)) fun j hj => by unfold rInvP; rw [if_pos (by omega)]) (m := 16) (by omega)).congr fun j _ => by rw [Nat.zero_add]
                have Hxa := Lib.hid hxa; have Hbr := Lib.hid hbr
                have Hbb6 := Lib.hid (Hbb5.out.trans (hbo.mono Hbb5.out.size))
                clear hxa hbr hxr hbo
                go_wp2_with (first
                  | (with_reducible refine wpList_load_arr rfl 47 (.tmp 8) rfl w8.heap.size 0 16 (rInv G) rfl _ Hxa.out Try.underlying47 rfl rfl ?_)
                  | ((with_reducible refine wpList_store_arr rfl 47 (.tmp 5) (.tmp 55) rfl w.heap.size 16 (rInv G) rfl rfl 47 G Hbr.out rfl ?_)
                     intro w7 hr7 hg7
                     have Hb7 := Lib.hid (Hbb6.out.trans (below_of_only hg7 Hbb6.out.size (Nat.le_refl _)))
                     have Hr7 := Lib.hid hr7
                     clear hr7 hg7))
                go_roundw
                case rel =>
                  refine ⟨m - 1, by omega, by go_num, Hr7.out.congr fun j _ => ?_, Hb7.out⟩
                  rw [Hde.out]
                  show _ = U8 (rInv (rDecG key (10 - d) (rDecS key (gb l) d)) j)
                  rw [Hdm.out, HG.out]
                case measure => simp [intOf] <;> omega
          · have hd2 : decide ((m : Int) < 10) = false := by simp; omega
            obtain ⟨w8, hw8⟩ : ∃ w8, w8 = w9 := ⟨_, rfl⟩
            rw [← hw8] at hr9 hb9 ⊢
            clear hw8
            have hb8 := hb9
            have hg : w8.rowIs w.heap.size 47 16 (fun j => U8 (rDecG key m (rDecS key (gb l) d) j)) := hr9.congr fun j _ => by
              unfold rDecG; rw [if_neg h10]
            clear hr9 hb9
            obtain ⟨G, hG⟩ : ∃ G, G = rDecG key m (rDecS key (gb l) d) := ⟨_, rfl⟩
            rw [← hG] at hg
            have HG := Lib.hid hG; have Hr5 := Lib.hid hg; have Hbb5 := Lib.hid hb8
            have HT5 := Lib.hid (HT.out.of_block (hb8.block cb hcb))
            have Hx5 := Lib.hid (arrNew w8)
            have hlo := hb8.size
            have hll := hg.lt
            clear hG hg hb8
            go_wp2
            go_loopw [9] (fun i wi => ∃ q : Nat, q ≤ 16 ∧ i = .int .i64 q ∧ wi.rowIs w8.heap.size 47 16 (fun j => U8 (rInvP G q j)) ∧ wi.rowIs w.heap.size 47 16 (fun j => U8 (G j)) ∧ Below w8.heap.size w8 wi) (fun i _ => 16 - (intOf i).toNat)
            case atStart => exact ⟨0, by omega, rfl, Hx5.out.congr fun j _ => by unfold rInvP; rw [if_neg (by omega)], Hr5.out.alloc _, (Below.refl _ _).alloc (Nat.le_refl _) _⟩
            case round =>
              obtain ⟨q, hq, rfl, hxr, hbr, hbo⟩ := hrel
              by_cases hlt2 : q < 16
              · have hc1 := hxr.cell (i := (q + 4 * (q % 4)) % 16) (by omega)
                have hf1 := hxr.frozen ((q + 4 * (q % 4)) % 16)
                have hc2 := hbr.cell (i := q) hlt2
                obtain ⟨z, hz⟩ : ∃ z, z = G q := ⟨_, rfl⟩
                rw [← hz] at hc2
                have Hz := Lib.hid hz; clear hz
                have z0 := bv_nn z
                have z1 := bv_lt z
                have hc3 := (HT5.out.of_block (hbo.block cb (by omega))).at_ z.toNat_lt
                have i0 : 0 ≤ ((q : Int) + 4 * ((q : Int) % 4)) % 16 := by omega
                have i1 : ((q : Int) + 4 * ((q : Int) % 4)) % 16 < 16 := by omega
                have i2 : (q : Int) < 16 := by omega
                go_wp2
                refine wp_region_still_tail 15 (by kernel_rfl) (by kernel_rfl) ?_
                simp only [List.take_succ_cons, List.take_zero, List.drop_succ_cons, List.drop_zero]
                repeat (refine wpStill_step (fun K hK => ?_); go_simp; (try go_bits); refine hK _ ?_; clear hK K)
                refine wpStill_nil ?_
                go_wp2
                go_roundw
                case rel => exact ⟨q + 1, by omega, by go_num, ((hxr.set _ _).congr fun j hj => rInvP_step G q j hlt2 hj _ (by rw [Hz.out])).drew, (hbr.setOther (by simp; omega) _).drew, (hbo.setCell (by simp) _).drew⟩
                case measure => simp [intOf] <;> omega
              · have hdq : decide ((q : Int) < 16) = false := by simp; omega
                have hxa : ArrB wr w8.heap.size 0 16 (rInv G) := (ArrB.of_row (off := 0) (hxr.congr (g := fun j => U8 (rInv G j)) fun j hj => by unfold rInvP; rw [if_pos (by omega)]) (m := 16) (by omega)).congr fun j _ => by rw [Nat.zero_add]
                have Hxa := Lib.hid hxa; have Hbr := Lib.hid hbr
                have Hbb6 := Lib.hid (Hbb5.out.trans (hbo.mono Hbb5.out.size))
                clear hxa hbr hxr hbo
                go_wp2_with (first
                  | (with_reducible refine wpList_load_arr rfl 47 (.tmp 8) rfl w8.heap.size 0 16 (rInv G) rfl _ Hxa.out Try.underlying47 rfl rfl ?_)
                  | ((with_reducible refine wpList_store_arr rfl 47 (.tmp 5) (.tmp 55) rfl w.heap.size 16 (rInv G) rfl rfl 47 G Hbr.out rfl ?_)
                     intro w7 hr7 hg7
                     have Hb7 := Lib.hid (Hbb6.out.trans (below_of_only hg7 Hbb6.out.size (Nat.le_refl _)))
                     have Hr7 := Lib.hid hr7
                     clear hr7 hg7))
                go_roundw
                case rel =>
                  refine ⟨m - 1, by omega, by go_num, Hr7.out.congr fun j _ => ?_, Hb7.out⟩
                  rw [Hde.out]
                  show _ = U8 (rInv (rDecG key (10 - d) (rDecS key (gb l) d)) j)
                  rw [Hdm.out, HG.out]
                case measure => simp [intOf] <;> omega
        · have hm0 : m = 0 := by omega
          have hd1 : decide (1 ≤ (m : Int)) = false := by simp; omega
          have hk0 := (hbb.cell (p := ⟨cb, 512, none⟩) hcb).trans Hkc.out
          have hk1 := (hbb.cell (p := ⟨kb, ko + 0, none⟩) hkb).trans (HKs.out 0 (by omega)).1
          rw [Nat.add_zero] at hk1
          have Hk7 := Lib.hid (BsS.keep (S' := (· ≠ w.heap.size)) (HKs.out 0 (by omega)).2 fun b' hs _ => ⟨hbb.block b' hs, Nat.ne_of_lt hs⟩)
          rw [hm0] at hr
          have Hr7 := Lib.hid hr; have Hb7 := Lib.hid hbb
          clear hr hbb hm0
          go_wp2_with fail
          refine (add_key Hr7.out Hk7.out).mono ?_
          rintro e w9 ⟨rfl, hr9, hg9⟩
          have hb9 := Hb7.out.trans (below_of_only hg9 Hb7.out.size (Nat.le_refl _))
          have Hsrc := Lib.hid (show SrcAt w9 (some ⟨w.heap.size, 0, none⟩) 16 ((bList 16 (rDecF key (gb l))).map U8) from (BsS.of_row (S := fun _ => True) hr9 (by omega) trivial).src.2)
          have Hbb := Lib.hid hb9
          have h0 : w9.ownsRow w9.heap.size 5 1 (.slice none 0 0) 0 [] := World.ownsRow_nil _ _ _ _
          clear hg9 hk0 hk1 hr9 hb9
          go_wp2_with (at_builtin; (with_reducible refine wpList_append1 _ rfl (.const (.slice none 0 0)) (.tmp 63) 22 rfl w9.heap.size 5 (.int .u8 0) 1 Try.underlying22 infoU8 rfl (by omega) (.slice none 0 0) 0 [] rfl h0 (some ⟨w.heap.size, 0, none⟩) 16 16 ((bList 16 (rDecF key (gb l))).map U8) rfl Hsrc.out (by omega) (Nat.le_refl _) ?_); intro v9 w5 hown9 hg9 _ _)
          have hb9 := below_append h0 hg9 (Nat.le_refl _) (Nat.le_refl _)
          go_ret
          exact ⟨v9, rfl, (BsS.of_own hown9 (by rw [bList_len]; omega)).keep fun b' hs _ => ⟨rfl, Nat.le_trans Hbb.out.size hs.1, hs.2⟩, Hbb.out.trans (hb9.mono Hbb.out.size)⟩
end Go.Proofs.Ytmpcjaoemfnjcaa
