/- The walk of awake, the sanity check of the statements of layer 5. -/
import Derived.Test.YtiedfobnpcenkaaLaw5a
import Derived.Test.YtiedfobnpcenkaaSame
import Derived.Test.YtiedfobnpcenkaaLit
import Derived.Deep.RegionWith
import Derived.Deep.CutRange
namespace Go.Proofs.Ytiedfobnpcenkaa
open Go.RowKit

/-- The world behind make([]byte, 16). -/
def wz (w : World) : World := w.alloc (.cells (bArr 16 fun _ => 0) 5)
theorem make16 (w : World) : (Instr.makeSlice 22 (.int .i64 16) (.int .i64 16)).run Try.prog w = .ok (.slice (some ⟨w.heap.size, 0, none⟩) 16 16) (wz w) := by kernel_rfl
theorem zero16 (w : World) : BsS (wz w) (New w (wz w)) (.slice (some ⟨w.heap.size, 0, none⟩) 16 16) (List.replicate 16 0) := by
  have hr : (w.alloc (.cells (bArr 16 fun _ => 0) 5)).rowIs w.heap.size 5 16 (fun j => U8 ((fun _ => 0) j)) := rowIs_bArr _ _ _ _
  exact BsS.of_row (S := New w (wz w)) hr (by omega) ⟨Nat.le_refl _, by unfold wz; simp⟩
theorem zero16b (w : World) : Below w.heap.size w (wz w) := (Below.refl _ _).alloc (Nat.le_refl _) _
theorem BsS.lift {w w0 w' : World} {v : Value} {l : List UInt8} (h : BsS w (New w0 w) v l) (hb : Below w.heap.size w w') : Bs w' w'.heap.size v l :=
  h.keep fun b hs _ => ⟨hb.block b hs.2, Nat.lt_of_lt_of_le hs.2 hb.size⟩
theorem Bs.lift {w w' : World} {v : Value} {l : List UInt8} (h : Bs w w.heap.size v l) (hb : Below w.heap.size w w') : Bs w' w'.heap.size v l :=
  BsS.keep h fun b hs _ => ⟨hb.block b hs, Nat.lt_of_lt_of_le hs hb.size⟩
theorem Below.undrew {B : Nat} {w w' : World} (h : Below B w.drew w') : Below B w w' := ⟨h.os, h.tape, h.output, h.size, h.block⟩
def K16 : List UInt8 := bList 16 UInt8.ofNat
def Z16 : List UInt8 := List.replicate 16 0
def B16 : List UInt8 := bList 16 (encF (gb K16) (gb Z16))
theorem K16_len : K16.length = 16 := bList_len _ _
theorem Z16_len : Z16.length = 16 := rfl
theorem key_k (w : World) : Calls Try.prog 19 #[] w fun e w' => ∃ v', e = .returned v' ∧ BsS w' (New w w') v' K16 ∧ Below w.heap.size w w' := key_any w
theorem enc_kz (v z : Value) (w : World) (hk : Bs w w.heap.size v K16) (hz : Bs w w.heap.size z Z16) :
    Calls Try.prog 9 #[v, z] w fun e w' => ∃ v', e = .returned (.tuple #[v', .int .i64 0]) ∧ Bs w' w'.heap.size v' B16 ∧ Below w.heap.size w w' :=
  encrypt_good v z K16 Z16 K16_len Z16_len w hk hz
theorem zero_z (w : World) : BsS (wz w) (New w (wz w)) (.slice (some ⟨w.heap.size, 0, none⟩) 16 16) Z16 := zero16 w
def C16 : List UInt8 := bList 16 (decF (gb K16) (gb B16))
theorem B16_len : B16.length = 16 := bList_len _ _
theorem dec_kb (v z : Value) (w : World) (hk : Bs w w.heap.size v K16) (hz : Bs w w.heap.size z B16) :
    Calls Try.prog 14 #[v, z] w fun e w' => ∃ v', e = .returned (.tuple #[v', .int .i64 0]) ∧ Bs w' w'.heap.size v' C16 ∧ Below w.heap.size w w' :=
  decrypt_good v z K16 B16 K16_len B16_len w hk hz
theorem form16 {w : World} {S : Nat → Prop} {v : Value} (h : BsS w S v B16) : ∃ A c, v = .slice A 16 c := by
  obtain ⟨a, c, h1, _⟩ := h
  exact ⟨a, c, by rw [h1, B16_len]⟩
theorem c_eq_z : C16 = Z16 := dec_enc_list K16 Z16 Z16_len
theorem K16_lk : K16 = lk0 := by decide +kernel
theorem Z16_lz : Z16 = lz := by decide +kernel
theorem B16_lz : B16 = lz10 := by
  show bList 16 (encS (gb K16) (gb Z16) 10) = lz10
  rw [encS_eIter K16 Z16 K16_len 10, K16_lk, Z16_lz, lzi10]
theorem c_is_z : decide (C16 = Z16) = true := decide_eq_true c_eq_z
theorem b_not_c : decide (B16 = C16) = false := by
  refine decide_eq_false ?_
  rw [c_eq_z, B16_lz, Z16_lz]
  decide
attribute [irreducible] K16 Z16 B16 C16
theorem enc1 {w0 w1 : World} {k : Value} (hk : BsS w1 (New w0 w1) k K16) (hb1 : Below w0.heap.size w0 w1) :
    Calls Try.prog 9 #[k, .slice (some ⟨w1.heap.size, 0, none⟩) 16 16] (wz w1) fun e w' => ∃ v', e = .returned (.tuple #[v', .int .i64 0]) ∧ Bs w' w'.heap.size v' B16 ∧ Below w0.heap.size w0 w' :=
  (enc_kz k _ _ (hk.lift (zero16b w1)) (zero_z w1).bs).mono fun _ _ ⟨v, h1, h2, h3⟩ => ⟨v, h1, h2, (hb1.trans ((zero16b w1).mono hb1.size)).trans (h3.mono (Nat.le_trans hb1.size (zero16b w1).size))⟩
theorem enc2 {w0 w1 : World} {k : Value} {g : Nat} (hg : g = w0.heap.size) (hk : BsS w1 (New (wz w0) w1) k K16) (hb1 : Below (wz w0).heap.size (wz w0) w1) :
    Calls Try.prog 9 #[k, .slice (some ⟨g, 0, none⟩) 16 16] w1 fun e w' => ∃ v', e = .returned (.tuple #[v', .int .i64 0]) ∧ Bs w' w'.heap.size v' B16 ∧ Below w0.heap.size w0 w' :=
  by
  subst hg
  exact (enc_kz k _ _ hk.bs ((zero_z w0).lift hb1)).mono fun _ _ ⟨v, h1, h2, h3⟩ => ⟨v, h1, h2, ((zero16b w0).trans (hb1.mono (zero16b w0).size)).trans (h3.mono (Nat.le_trans (zero16b w0).size hb1.size))⟩
theorem same_cz (c : Value) (w : World) (hc : Bs w w.heap.size c C16) :
    Calls Try.prog 13 #[c, .slice (some ⟨w.heap.size, 0, none⟩) 16 16] (wz w) fun e w' => e = .returned (.bool true) ∧ ∃ n, w' = (wz w).drewN n := by
  have h := same_any c _ C16 Z16 _ _ (wz w) (hc.lift (zero16b w)) (zero_z w)
  rwa [c_is_z] at h
theorem same_bc (b c : Value) (w : World) (hb : Bs w w.heap.size b B16) (hc : Bs w w.heap.size c C16) :
    Calls Try.prog 13 #[b, c] w fun e w' => e = .returned (.bool false) ∧ ∃ n, w' = w.drewN n := by
  have h := same_any b c B16 C16 _ _ w hb hc
  rwa [b_not_c] at h
attribute [irreducible] wz
set_option maxRecDepth 100000 in
set_option maxHeartbeats 400000 in
theorem awake_any (w : World) : Calls Try.prog 12 #[] w fun e w' => e = .returned (.bool true) ∧ Below w.heap.size w w' := by
  have Hm := make16
  go_enter Try.func12, Try.ntmps12
  go_upto_region 1 with (fail)
  go_cut [1, 2] from 5 to 10 (fun b e wx => e = .int .i64 0 ∧ Bs wx wx.heap.size b B16 ∧ Below w.heap.size w wx)
  case first =>
    go_region_with (first
      | (go_at_call 19
         refine (key_k _).mono ?_
         rintro e w1 ⟨k, rfl, hk, hb1⟩)
      | (go_at_call 9
         first
         | (with_reducible refine Calls.mono (enc1 hk hb1) ?_
            rintro e w2 ⟨c, rfl, hc, hB⟩)
         | (have H2 := enc2 (w0 := w.drew) (g := w.heap.size) rfl hk hb1
            with_reducible refine Calls.mono H2 ?_
            rintro e w2 ⟨c, rfl, hc, hB⟩)))
    all_goals (go_wp2_with fail; go_meet; exact ⟨rfl, hc, Below.undrew hB⟩)
  case rest =>
    obtain ⟨rfl, hb, hB⟩ := hcut
    obtain ⟨A, cb, rfl⟩ := form16 hb
    go_wp2_with (first
      | (go_at_call 19
         refine (key_k _).mono ?_
         rintro e w1 ⟨k, rfl, hk, hb1⟩)
      | (go_at_call 14
         refine (dec_kb _ _ _ hk.bs (hb.lift hb1)).mono ?_
         rintro e w2 ⟨c, rfl, hc, hb2⟩))
    refine (same_cz c w2 hc).mono ?_
    rintro e w3 ⟨rfl, n3, rfl⟩
    go_wp2_with fail
    refine (same_bc (.slice A 16 cb) c _ ?hbl ?hcl).mono ?_
    case hbl => exact ((hb.lift hb1).lift hb2).lift (below_drewN (zero16b w2) n3)
    case hcl => exact hc.lift (below_drewN (zero16b w2) n3)
    rintro e w4 ⟨rfl, n4, rfl⟩
    go_wp2
    go_ret
    exact ⟨rfl, below_drewN (((hB.trans (hb1.mono hB.size)).trans (hb2.mono (Nat.le_trans hB.size hb1.size))).trans ((zero16b w2).mono (Nat.le_trans hB.size (Nat.le_trans hb1.size hb2.size)))) _⟩
end Go.Proofs.Ytiedfobnpcenkaa
