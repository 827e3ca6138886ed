/- The walks of Decrypt and of the package's own functions. -/
import Derived.Test.YtmpcjaoemfnjcaaAes5
namespace Go.Proofs.Ytmpcjaoemfnjcaa
open Go.RowKit

/-- The state of the decryption behind n rounds. -/
def decS (key f : Nat → UInt8) : Nat → Nat → UInt8
  | 0 => f
  | n + 1 => fun j => bck (rotF 3 (if 10 - n < 10 then mixF mixD (fun j => decS key f n j ^^^ keyF fwd key (10 - n) j) else fun j => decS key f n j ^^^ keyF fwd key (10 - n) j) j).toNat
def decF (key f : Nat → UInt8) (j : Nat) : UInt8 := decS key f 10 j ^^^ keyF fwd key 0 j

set_option maxRecDepth 100000 in
set_option maxHeartbeats 1000000 in
theorem decryptC_any (p v : Value) (key : Nat → UInt8) (l : List UInt8) (hl : l.length = 16) (w : World) (hp : CipherAt w w.heap.size p key) (hv : Bs w w.heap.size v l) :
    Calls Try.prog 37 #[p, v] w fun e w' => ∃ v', e = .returned v' ∧ BsS w' (New w w') v' (bList 16 (decF key (gb l))) ∧ Below w.heap.size w w' := by
  obtain ⟨tb, cb, rfl, htb, hcb, hct, hT, hK⟩ := hp
  obtain ⟨a, c, hve, hlc, hc, _, hcell⟩ := hv
  obtain ⟨b, off, rfl, hb, hx⟩ := hcell (by omega)
  have hX : ArrB w b off 16 (gb l) := by rw [← hl]; exact hx
  rw [hl] at hve hlc
  subst hve
  clear hcell hx hl
  have HX := Lib.hid hX; clear hX
  have hst := store_new (P := Try.prog) (T := 51) (n := 16) rfl (gb l)
  have ha := arrayAt_block b off c
  have hx0 : (w.alloc (.cells (bArr 16 (gb l)) 51)).rowIs w.heap.size 51 16 (fun j => U8 (gb l j)) := rowIs_bArr _ _ _ _
  have hb0 : Below w.heap.size w (w.alloc (.cells (bArr 16 (gb l)) 51)) := (Below.refl _ _).alloc (Nat.le_refl _) _
  have Hx0 := Lib.hid hx0; clear hx0
  have Hb0 := Lib.hid hb0; clear hb0
  have HK := Lib.hid hK; clear hK
  have HT := Lib.hid hT; clear hT
  go_enter Try.func37, Try.ntmps37
  go_wp2_with (with_reducible refine wpList_load_arr rfl 51 (.tmp 8) rfl b off 16 (gb l) rfl _ HX.out Try.underlying51 rfl rfl ?_)
  go_loopw [6] (fun i wr => ∃ m : Nat, m ≤ 10 ∧ i = .int .i64 m ∧ wr.rowIs w.heap.size 51 16 (fun j => U8 (decS key (gb l) (10 - m) j)) ∧ Below w.heap.size w wr) (fun i _ => (intOf i).toNat)
  case atStart => exact ⟨10, by omega, rfl, Hx0.out, Hb0.out⟩
  case round =>
    obtain ⟨m, hm, rfl, hr, hbb⟩ := hrel
    have hct' := (hbb.cell (p := ⟨cb, 0, none⟩) hcb).trans hct
    have hT' : ArrB wr tb 256 256 bck := fun j hj => by
      have := (HT.out.of_block (hbb.block tb htb)) (256 + j) (by omega)
      rw [Nat.zero_add] at this
      rw [this]; rfl
    have HT' := Lib.hid hT'; clear hT'
    have j0 : 0 ≤ (m : Int) := by omega
    by_cases h0 : 0 < m
    · have hd1 : decide (0 < (m : Int)) = true := by simp; omega
      have j1 : (m : Int) < 11 := by omega
      have hk4 := key_arr (HK.out.of_block (hbb.block cb hcb)) m (by omega)
      have HK4 := Lib.hid hk4; clear hk4
      obtain ⟨q, rfl⟩ : ∃ q, m = q + 1 := ⟨m - 1, by omega⟩
      have e1 : 10 - q = (10 - (q + 1)) + 1 := by omega
      have e2 : 10 - (10 - (q + 1)) = q + 1 := by omega
      have E1 := Lib.hid e1; clear e1
      have E2 := Lib.hid e2; clear e2
      obtain ⟨d, hdd⟩ : ∃ d, d = 10 - (q + 1) := ⟨_, rfl⟩
      rw [← hdd] at hr E1 E2
      have Hd := Lib.hid hdd; clear hdd
      by_cases h9 : q + 1 < 10
      · have hd2 : decide ((q : Int) + 1 < 10) = true := by simp; omega
        go_wp2_with (with_reducible refine wpList_load_arr rfl 51 (.tmp 18) rfl cb (1 + (q + 1) * 16) 16 (keyF fwd key (q + 1)) rfl _ HK4.out Try.underlying51 rfl rfl ?_)
        refine (combine_any _ _ _ (keyF fwd key (q + 1)) _ hr).mono ?_
        rintro e w1 ⟨rfl, hr1, hg1⟩
        have hbb1 := hbb.trans (below_of_only hg1 hbb.size (Nat.le_refl _))
        go_wp2_with fail
        refine (mix_any _ _ _ mixD _ (by rfl) _ hr1).mono ?_
        rintro e w2 ⟨rfl, hr2, hg2⟩
        have hbb2 := hbb1.trans (below_of_only hg2 hbb1.size (Nat.le_refl _))
        go_wp2_with fail
        refine (rotate3_any _ _ _ _ hr2).mono ?_
        rintro e w3 ⟨rfl, hr3, hg3⟩
        have hbb3 := hbb2.trans (below_of_only hg3 hbb2.size (Nat.le_refl _))
        have hct3 := (hbb3.cell (p := ⟨cb, 0, none⟩) hcb).trans hct
        have hT3 : ArrB w3 tb 256 256 bck := fun j hj => by
          have := (HT.out.of_block (hbb3.block tb htb)) (256 + j) (by omega)
          rw [Nat.zero_add] at this
          rw [this]; rfl
        have HT3 := Lib.hid hT3; clear hT3
        clear hr hg1 hbb hr1 hg2 hbb1 hr2 hg3 hbb2
        go_wp2_with fail
        refine (substitute_any _ tb 256 _ _ bck _ hr3 HT3.out (by omega)).mono ?_
        rintro e w4 ⟨rfl, hr4, hg4⟩
        have hbb4 := hbb3.trans (below_of_only hg4 hbb3.size (Nat.le_refl _))
        clear hr3 hg4 hbb3
        go_wp2
        go_roundw
        case rel =>
          refine ⟨q, by omega, by go_num, hr4.congr fun j _ => ?_, hbb4⟩
          rw [E1.out]
          show _ = U8 (bck (rotF 3 (if 10 - d < 10 then _ else _) j).toNat)
          rw [E2.out, if_pos (by omega)]
        case measure => simp [intOf] <;> omega
      · have hd2 : decide ((q : Int) + 1 < 10) = false := by simp; omega
        go_wp2_with (with_reducible refine wpList_load_arr rfl 51 (.tmp 18) rfl cb (1 + (q + 1) * 16) 16 (keyF fwd key (q + 1)) rfl _ HK4.out Try.underlying51 rfl rfl ?_)
        refine (combine_any _ _ _ (keyF fwd key (q + 1)) _ hr).mono ?_
        rintro e w1 ⟨rfl, hr1, hg1⟩
        have hbb1 := hbb.trans (below_of_only hg1 hbb.size (Nat.le_refl _))
        go_wp2_with fail
        refine (rotate3_any _ _ _ _ hr1).mono ?_
        rintro e w3 ⟨rfl, hr3, hg3⟩
        have hbb3 := hbb1.trans (below_of_only hg3 hbb1.size (Nat.le_refl _))
        have hct3 := (hbb3.cell (p := ⟨cb, 0, none⟩) hcb).trans hct
        have hT3 : ArrB w3 tb 256 256 bck := fun j hj => by
          have := (HT.out.of_block (hbb3.block tb htb)) (256 + j) (by omega)
          rw [Nat.zero_add] at this
          rw [this]; rfl
        have HT3 := Lib.hid hT3; clear hT3
        clear hr hg1 hbb hr1 hbb1 hg3
        go_wp2_with fail
        refine (substitute_any _ tb 256 _ _ bck _ hr3 HT3.out (by omega)).mono ?_
        rintro e w4 ⟨rfl, hr4, hg4⟩
        have hbb4 := hbb3.trans (below_of_only hg4 hbb3.size (Nat.le_refl _))
        clear hr3 hg4 hbb3
        go_wp2
        go_roundw
        case rel =>
          refine ⟨q, by omega, by go_num, hr4.congr fun j _ => ?_, hbb4⟩
          rw [E1.out]
          show _ = U8 (bck (rotF 3 (if 10 - d < 10 then _ else _) j).toNat)
          rw [E2.out, if_neg (by omega)]
        case measure => simp [intOf] <;> omega
    · have hm0 : m = 0 := by omega
      subst hm0
      have hk4 := key_arr (HK.out.of_block (hbb.block cb hcb)) 0 (by omega)
      have HK4 := Lib.hid hk4; clear hk4
      go_wp2_with (with_reducible refine wpList_load_arr rfl 51 (.tmp 36) rfl cb 1 16 (keyF fwd key 0) rfl _ HK4.out Try.underlying51 rfl rfl ?_)
      refine (combine_any _ _ _ (keyF fwd key 0) _ hr).mono ?_
      rintro e w1 ⟨rfl, hr1, hg1⟩
      have hbb1 := hbb.trans (below_of_only hg1 hbb.size (Nat.le_refl _))
      clear hr hg1 hbb
      go_wp2
      go_ret
      exact ⟨_, rfl, BsS.of_row hr1 (by omega) ⟨Nat.le_refl _, hr1.lt⟩, hbb1⟩

set_option maxHeartbeats 400000 in
theorem encrypt_bad (vk v : Value) (k l : List UInt8) (h : ¬ (k.length = 16 ∧ l.length = 16)) (w : World) (hk : Bs w w.heap.size vk k) (hv : Bs w w.heap.size v l) :
    Calls Try.prog 27 #[vk, v] w fun e w' => e = .returned (.tuple #[.slice none 0 0, .int .i64 2]) ∧ w' = w := by
  obtain ⟨ak, ck, rfl, hlck, hck, hk3, hcellk⟩ := hk
  obtain ⟨a, c, rfl, hlc, hc, h3, hcell⟩ := hv
  clear hcellk hcell
  by_cases h1 : k.length = 16
  · have h2 : ¬ l.length = 16 := fun e => h ⟨h1, e⟩
    have e1 : ((k.length : Int) != 16) = false := by simp [h1]
    have e2 : ((l.length : Int) != 16) = true := by simp; omega
    clear h h1 h2
    go_enter Try.func27, Try.ntmps27
    go_wp2
    go_ret2
    exact ⟨rfl, rfl⟩
  · have e1 : ((k.length : Int) != 16) = true := by simp; omega
    clear h h1
    go_enter Try.func27, Try.ntmps27
    go_wp2
    go_ret2
    exact ⟨rfl, rfl⟩

set_option maxHeartbeats 400000 in
theorem encrypt_good (vk v : Value) (k l : List UInt8) (h1 : k.length = 16) (h2 : l.length = 16) (w : World) (hk : Bs w w.heap.size vk k) (hv : Bs w w.heap.size v l) :
    Calls Try.prog 27 #[vk, v] w fun e w' => ∃ v', e = .returned (.tuple #[v', .int .i64 0]) ∧ Bs w' w'.heap.size v' (bList 16 (encF (gb k) (gb l))) ∧ Below w.heap.size w w' := by
  have hk0 := hk
  have hv0 := hv
  obtain ⟨ak, ck, hke, hlck, hck, hk3, hcellk⟩ := hk
  obtain ⟨a, c, hve, hlc, hc, h3, hcell⟩ := hv
  rw [h1] at hke
  rw [h2] at hve
  subst hke hve
  have H1 := Lib.hid h1; have H2 := Lib.hid h2; have HK := Lib.hid hk0; have HV := Lib.hid hv0
  clear hcellk hcell h1 h2 hk0 hv0 hlck hlc hk3 h3
  go_enter Try.func27, Try.ntmps27
  go_wp2_with fail
  refine (ready_any _ k H1.out _ HK.out).mono ?_
  rintro e w1 ⟨p, rfl, hp, hb1⟩
  go_wp2_with fail
  refine (encrypt_any _ _ _ l H2.out _ hp ((HV.out.below hb1).mono hb1.size)).mono ?_
  rintro e w2 ⟨v', rfl, hv', hb2⟩
  go_wp2
  go_ret2
  exact ⟨v', rfl, hv'.bs, hb1.trans (hb2.mono hb1.size)⟩

theorem tabs_fwd {w : World} {b : Nat} {t : TypeId} (h : w.rowIs b t 512 (fun j => U8 (tabs j))) : ArrB w b 0 256 fwd := (ArrB.of_row (off := 0) h (m := 256) (by omega)).congr fun j _ => by rw [Nat.zero_add]; rfl
/-- What Substitute returns. -/
def subF (x : Int) : Int := if 0 ≤ x ∧ x ≤ 255 then bv (fwd x.toNat) else 0
end Go.Proofs.Ytmpcjaoemfnjcaa
