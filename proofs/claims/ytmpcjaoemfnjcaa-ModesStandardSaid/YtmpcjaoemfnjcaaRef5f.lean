/- The walk of the reference's Encrypt. -/
import Derived.Test.YtmpcjaoemfnjcaaRef5e
import Derived.Test.YtmpcjaoemfnjcaaAes5
namespace Go.Proofs.Ytmpcjaoemfnjcaa
open Go.RowKit

def rK (key : Nat → UInt8) (i j : Nat) : UInt8 := keysF rTab key (16 * i + j)
def rSub (f : Nat → UInt8) (j : Nat) : UInt8 := rTab (f ((j + 4 * (j % 4)) % 16)).toNat
def rEncS (key f : Nat → UInt8) : Nat → Nat → UInt8
  | 0 => fun j => f j ^^^ rK key 0 j
  | n + 1 => fun j => (if n + 1 < 10 then rmixF mixE (rSub (rEncS key f n)) j else rSub (rEncS key f n) j) ^^^ rK key (n + 1) j
def rEncF (key f : Nat → UInt8) (j : Nat) : UInt8 := rEncS key f 10 j

theorem gl_rKeys (key : Nat → UInt8) (i : Nat) (h : i < 11) : gl (rKeys key) i = bList 16 (rK key i) := by
  unfold gl rKeys
  rw [List.getD_eq_getElem?_getD, List.getElem?_map, List.getElem?_range h]
  rfl
/-- The keys that a cipher holds, one by one. -/
theorem keys_at {w : World} {B : Nat} {kv : Value} {key : Nat → UInt8} (h : LBs w B kv (rKeys key)) : ∃ (kb ko kc : Nat) (ks : Nat → Value), kv = .slice (some ⟨kb, ko, none⟩) 11 kc ∧ kb < B ∧
    ∀ i, i < 11 → w.cell? ⟨kb, ko + i, none⟩ = some (ks i) ∧ Bs w B (ks i) (bList 16 (rK key i)) := by
  obtain ⟨a, c, xs, hv, h1, h2, hE, h4⟩ := h
  have hlen : (rKeys key).length = 11 := by simp [rKeys]
  rw [hlen] at hv h4
  obtain ⟨kb, ko, rfl, hlt, hc⟩ := h4 (by omega)
  refine ⟨kb, ko, c, fun i => xs.getD i (.slice none 0 0), hv, hlt, fun i hi => ?_⟩
  have hx : xs[i]? = some (xs.getD i (.slice none 0 0)) := by
    have : i < xs.length := by rw [hE.1, hlen]; exact hi
    simp [this]
  refine ⟨hc i _ hx, ?_⟩
  have := hE.2 i _ hx
  rwa [gl_rKeys key i hi] at this
theorem add_key {g : Nat} {t : TypeId} {f : Nat → UInt8} {v : Value} {k : Nat → UInt8} {w : World} (hg : w.rowIs g t 16 (fun j => U8 (f j))) (hv : BsS w (· ≠ g) v (bList 16 k)) :
    Calls Try.prog 49 #[.pointer (some ⟨g, 0, none⟩), v] w fun e w' => e = .returned (.tuple #[]) ∧ w'.rowIs g t 16 (fun j => U8 (f j ^^^ k j)) ∧ w.grownBy w' (some g) :=
  (add_any g t f v _ (bList_len _ _) w hg hv).mono fun _ _ ⟨h1, h2, h3⟩ => ⟨h1, h2.congr fun j hj => by rw [bList_getD _ _ _ hj], h3⟩
theorem arrNew (w : World) : (w.alloc (.cells #[.int .u8 0, .int .u8 0, .int .u8 0, .int .u8 0, .int .u8 0, .int .u8 0, .int .u8 0, .int .u8 0, .int .u8 0, .int .u8 0, .int .u8 0, .int .u8 0, .int .u8 0, .int .u8 0, .int .u8 0, .int .u8 0] 47)).rowIs w.heap.size 47 16 (fun j => U8 ((fun _ => 0) j)) := by
  refine ⟨_, heap_alloc_new _ _, rfl, fun i hi => ?_⟩
  iterate 16 (rcases i with _ | i; · rfl)
  omega

set_option maxRecDepth 100000 in
set_option maxHeartbeats 2000000 in
theorem refEncrypt_any (p v : Value) (key : Nat → UInt8) (l : List UInt8) (hl : l.length = 16) (w : World) (hp : RefCipherAt w w.heap.size p key) (hv : Bs w w.heap.size v l) :
    Calls Try.prog 36 #[p, v] w fun e w' => ∃ v', e = .returned v' ∧ BsS w' (New w w') v' (bList 16 (rEncF key (gb l))) ∧ Below w.heap.size w w' := by
  obtain ⟨cb, kv, rfl, hcb, hT, hB, hkc, hkv⟩ := hp
  obtain ⟨kb, ko, kc, ks, rfl, hkb, hks⟩ := keys_at hkv
  obtain ⟨a, c, hve, hlc, hc, _, hcell⟩ := hv
  obtain ⟨b, off, rfl, hb, hx⟩ := hcell (by omega)
  have hX : ArrB w b off 16 (gb l) := by rw [← hl]; exact hx
  rw [hl] at hve hlc
  subst hve
  clear hcell hx hl hB hkv
  have HX := Lib.hid hX; have HT := Lib.hid hT; have HKs := Lib.hid hks; have Hkc := Lib.hid hkc
  clear hX hT hks hkc
  have Hnew := Lib.hid (arrNew w)
  go_enter Try.func36, Try.ntmps36
  go_wp2
  go_loopw [6] (fun i wr => ∃ n : Nat, n ≤ 16 ∧ i = .int .i64 n ∧ wr.rowIs w.heap.size 47 16 (fun j => U8 (upto n (gb l) (fun _ => 0) j)) ∧ Below w.heap.size w wr) (fun i _ => 16 - (intOf i).toNat)
  case atStart => exact ⟨0, by omega, rfl, row_upto_zero Hnew.out _, (Below.refl _ _).alloc (Nat.le_refl _) _⟩
  case round =>
    obtain ⟨n, hn, rfl, hr, hbb⟩ := hrel
    by_cases hlt : n < 16
    · have hc1 := row_upto_cell hr hlt
      have hf1 := hr.frozen n
      have hc2 := (HX.out.of_block (hbb.block b hb)).at_ hlt
      have hn16 : (n : Int) < 16 := by omega
      go_wp2
      go_roundw
      case rel => exact ⟨n + 1, by omega, by go_num, row_upto_set hr rfl, hbb.setCell (by simp) _⟩
      case measure => simp [intOf] <;> omega
    · have hd : decide ((n : Int) < 16) = false := by simp; omega
      have hr0 := row_upto_full hr (by omega)
      have hk0 := (hbb.cell (p := ⟨cb, 512, none⟩) hcb).trans Hkc.out
      have hk1 := (hbb.cell (p := ⟨kb, ko + 0, none⟩) hkb).trans (HKs.out 0 (by omega)).1
      rw [Nat.add_zero] at hk1
      have Hb1 := Lib.hid (BsS.keep (S' := (· ≠ w.heap.size)) (HKs.out 0 (by omega)).2 fun b' hs _ => ⟨hbb.block b' hs, Nat.ne_of_lt hs⟩)
      have Hr0 := Lib.hid hr0; have Hbb := Lib.hid hbb
      clear hr hr0 hbb
      go_wp2_with fail
      refine (add_key Hr0.out Hb1.out).mono ?_
      rintro e w1 ⟨rfl, hr1, hg1⟩
      have hb1 := Hbb.out.trans (below_of_only hg1 Hbb.out.size (Nat.le_refl _))
      clear hk0 hk1 hg1
      go_wp2
      go_loopw [7] (fun i wr => ∃ m : Nat, m ≤ 10 ∧ i = .int .i64 (m + 1 : Nat) ∧ wr.rowIs w.heap.size 47 16 (fun j => U8 (rEncS key (gb l) m j)) ∧ Below w.heap.size w wr) (fun i _ => 11 - (intOf i).toNat)
      case atStart => exact ⟨0, by omega, rfl, hr1, hb1⟩
      case round =>
        clear hr1 hb1 Hr0 Hbb Hb1
        obtain ⟨m, hm, rfl, hr, hbb⟩ := hrel
        have j0 : 0 ≤ (m : Int) + 1 := by omega
        by_cases hlt : m < 10
        · have hd1 : decide ((m : Int) + 1 ≤ 10) = true := by simp; omega
          have j1 : (m : Int) + 1 < 11 := by omega
          have hct := HT.out.of_block (hbb.block cb hcb)
          have HT5 := Lib.hid hct
          have hk0 := (hbb.cell (p := ⟨cb, 512, none⟩) hcb).trans Hkc.out
          have hkn := (hbb.cell (p := ⟨kb, ko + (m + 1), none⟩) hkb).trans (HKs.out (m + 1) (by omega)).1
          have Hk0 := Lib.hid hk0; have Hkn := Lib.hid hkn
          have Hr5 := Lib.hid hr; have Hbb5 := Lib.hid hbb
          clear hct hk0 hkn hr hbb
          obtain ⟨wo, rfl⟩ : ∃ wo : World, wo = wr := ⟨_, rfl⟩
          have Hx5 := Lib.hid (arrNew wo)
          have hlo := Hbb5.out.size
          have hll := Hr5.out.lt
          go_wp2
          go_loopw [9] (fun i wi => ∃ q : Nat, q ≤ 16 ∧ i = .int .i64 q ∧ wi.rowIs wo.heap.size 47 16 (fun j => U8 (upto q (rSub (rEncS key (gb l) m)) (fun _ => 0) j)) ∧ wi.rowIs w.heap.size 47 16 (fun j => U8 (rEncS key (gb l) m j)) ∧ Below wo.heap.size wo wi) (fun i _ => 16 - (intOf i).toNat)
          case atStart => exact ⟨0, by omega, rfl, row_upto_zero Hx5.out _, Hr5.out.alloc _, (Below.refl _ _).alloc (Nat.le_refl _) _⟩
          case round =>
            obtain ⟨q, hq, rfl, hxr, hbr, hbo⟩ := hrel
            by_cases hlt2 : q < 16
            · have hc1 := row_upto_cell hxr hlt2
              have hf1 := hxr.frozen q
              have hc2 := hbr.cell (i := (q + 4 * (q % 4)) % 16) (by omega)
              obtain ⟨z, hz⟩ : ∃ z, z = rEncS key (gb l) m ((q + 4 * (q % 4)) % 16) := ⟨_, rfl⟩
              rw [← hz] at hc2
              have Hz := Lib.hid hz; clear hz
              have z0 := bv_nn z
              have z1 := bv_lt z
              have hc3 := (HT5.out.of_block (hbo.block cb (by omega))).at_ z.toNat_lt
              rw [Nat.zero_add] at hc3
              have i0 : 0 ≤ ((q : Int) + 4 * ((q : Int) % 4)) % 16 := by omega
              have i1 : ((q : Int) + 4 * ((q : Int) % 4)) % 16 < 16 := by omega
              have i2 : (q : Int) < 16 := by omega
              go_wp2
              refine wp_region_still_tail 15 (by kernel_rfl) (by kernel_rfl) ?_
              simp only [List.take_succ_cons, List.take_zero, List.drop_succ_cons, List.drop_zero]
              repeat (refine wpStill_step (fun K hK => ?_); go_simp; (try go_bits); refine hK _ ?_; clear hK K)
              refine wpStill_nil ?_
              go_wp2
              go_roundw
              case rel => exact ⟨q + 1, by omega, by go_num, (row_upto_set hxr (by rw [Hz.out]; rfl)).drew, (hbr.setOther (by simp; omega) _).drew, (hbo.setCell (by simp) _).drew⟩
              case measure => simp [intOf] <;> omega
            · have hdq : decide ((q : Int) < 16) = false := by simp; omega
              have hxa : ArrB wr wo.heap.size 0 16 (rSub (rEncS key (gb l) m)) := (ArrB.of_row (off := 0) (row_upto_full hxr (by omega)) (m := 16) (by omega)).congr fun j _ => by rw [Nat.zero_add]
              have Hxa := Lib.hid hxa; have Hbr := Lib.hid hbr
              have Hbb6 := Lib.hid (Hbb5.out.trans (hbo.mono Hbb5.out.size))
              clear hxa hbr hxr hbo
              go_wp2_with (first
                | (with_reducible refine wpList_load_arr rfl 47 (.tmp 8) rfl wo.heap.size 0 16 (rSub (rEncS key (gb l) m)) rfl _ Hxa.out Try.underlying47 rfl rfl ?_)
                | ((with_reducible refine wpList_store_arr rfl 47 (.tmp 5) (.tmp 50) rfl w.heap.size 16 (rSub (rEncS key (gb l) m)) rfl rfl 47 (rEncS key (gb l) m) Hbr.out rfl ?_)
                   intro w7 hr7 hg7
                   have hb7 := Hbb6.out.trans (below_of_only hg7 Hbb6.out.size (Nat.le_refl _))
                   have hk07 := (hb7.cell (p := ⟨cb, 512, none⟩) hcb).trans Hkc.out
                   have hkn7 := (hb7.cell (p := ⟨kb, ko + (m + 1), none⟩) hkb).trans (HKs.out (m + 1) (by omega)).1
                   have Hk7 := Lib.hid (BsS.keep (S' := (· ≠ w.heap.size)) (HKs.out (m + 1) (by omega)).2 fun b' hs _ => ⟨hb7.block b' hs, Nat.ne_of_lt hs⟩)
                   have Hr7 := Lib.hid hr7; have Hb7 := Lib.hid hb7
                   clear hr7 hg7 hb7))
              · have h9 : m + 1 < 10 := by omega
                have H9 := Lib.hid h9; clear h9 hk07 hkn7
                refine (refMix_any _ _ _ mixE _ (by rfl) _ Hr7.out).mono ?_
                rintro e w8 ⟨rfl, hr8, hg8⟩
                have hb8 := Hb7.out.trans (below_of_only hg8 Hb7.out.size (Nat.le_refl _))
                have hk08 := (hb8.cell (p := ⟨cb, 512, none⟩) hcb).trans Hkc.out
                have hkn8 := (hb8.cell (p := ⟨kb, ko + (m + 1), none⟩) hkb).trans (HKs.out (m + 1) (by omega)).1
                have Hk8 := Lib.hid (BsS.keep (S' := (· ≠ w.heap.size)) (HKs.out (m + 1) (by omega)).2 fun b' hs _ => ⟨hb8.block b' hs, Nat.ne_of_lt hs⟩)
                have Hr8 := Lib.hid hr8; have Hb8 := Lib.hid hb8
                clear hr8 hg8 hb8
                go_wp2_with fail
                refine (add_key Hr8.out Hk8.out).mono ?_
                rintro e w9 ⟨rfl, hr9, hg9⟩
                have hb9 := Hb8.out.trans (below_of_only hg9 Hb8.out.size (Nat.le_refl _))
                clear hg9 hk08 hkn8
                go_wp2
                go_roundw
                case rel =>
                  refine ⟨m + 1, by omega, by go_num, hr9.congr fun j _ => ?_, hb9⟩
                  show _ = U8 ((if m + 1 < 10 then _ else _) ^^^ _)
                  rw [if_pos H9.out]
                case measure => simp [intOf] <;> omega
              · have h9 : ¬ m + 1 < 10 := by omega
                have H9 := Lib.hid h9; clear h9
                refine (add_key Hr7.out Hk7.out).mono ?_
                rintro e w9 ⟨rfl, hr9, hg9⟩
                have hb9 := Hb7.out.trans (below_of_only hg9 Hb7.out.size (Nat.le_refl _))
                clear hg9 hk07 hkn7
                go_wp2
                go_roundw
                case rel =>
                  refine ⟨m + 1, by omega, by go_num, hr9.congr fun j _ => ?_, hb9⟩
                  show _ = U8 ((if m + 1 < 10 then _ else _) ^^^ _)
                  rw [if_neg H9.out]
                case measure => simp [intOf] <;> omega
        · have hm10 : m = 10 := by omega
          have hd1 : decide ((m : Int) + 1 ≤ 10) = false := by simp; omega
          have hsrc : SrcAt wr (some ⟨w.heap.size, 0, none⟩) 16 ((bList 16 (rEncF key (gb l))).map U8) := by
            have := (BsS.of_row (S := fun _ => True) hr (by omega) trivial).src.2
            rw [hm10] at this
            exact this
          have Hsrc := Lib.hid hsrc; have Hbb := Lib.hid hbb
          have h0 : wr.ownsRow wr.heap.size 5 1 (.slice none 0 0) 0 [] := World.ownsRow_nil _ _ _ _
          clear hsrc hbb hr hm10
          go_wp2_with (at_builtin; (with_reducible refine wpList_append1 _ rfl (.const (.slice none 0 0)) (.tmp 63) 22 rfl wr.heap.size 5 (.int .u8 0) 1 Try.underlying22 infoU8 rfl (by omega) (.slice none 0 0) 0 [] rfl h0 (some ⟨w.heap.size, 0, none⟩) 16 16 ((bList 16 (rEncF key (gb l))).map U8) rfl Hsrc.out (by omega) (Nat.le_refl _) ?_); intro v9 w9 hown9 hg9 _ _)
          have hb9 := below_append h0 hg9 (Nat.le_refl _) (Nat.le_refl _)
          go_ret
          exact ⟨v9, rfl, (BsS.of_own hown9 (by rw [bList_len]; omega)).keep fun b' hs _ => ⟨rfl, Nat.le_trans Hbb.out.size hs.1, hs.2⟩, Hbb.out.trans (hb9.mono Hbb.out.size)⟩
end Go.Proofs.Ytmpcjaoemfnjcaa
