/- The walk of the reference's Seal. -/
import Derived.Test.YtnogcnmoeekcpaaDoorSeal1
import Derived.Test.YtnogcnmoeekcpaaDoorQInv
import Derived.StillTailTactics
import Derived.Deep.RegionHeld3
import Derived.Test.YtnogcnmoeekcpaaDoorShare
import Derived.Test.YtnogcnmoeekcpaaDoorQOpen2
import Derived.Test.YtnogcnmoeekcpaaDoorQDouble
import Derived.Test.YtnogcnmoeekcpaaDoorModes2
import Derived.Test.YtnogcnmoeekcpaaDoorQAes6
import Derived.Test.YtnogcnmoeekcpaaDoorCut
import Derived.Laws.CopyOwn
import Derived.Deep.RegionLaw
import Derived.Deep.CutRange
namespace Go.Proofs.YtnogcnmoeekcpaaDoor
open Go.RowKit

theorem rencC (p v : Value) (k l : List UInt8) (hl : l.length = 16) (w : World) (hp : RefCipherAt w w.heap.size p (gb k)) (hv : Bs w w.heap.size v l) :
    Calls Tryd.prog 77 #[p, v] w fun e w' => ∃ v', e = .returned v' ∧ BsS w' (New w w') v' (encL k l) ∧ Below w.heap.size w w' := by
  have h := refEncrypt_any p v (gb k) l hl w hp hv
  rw [← encF_eq] at h
  unfold encL
  exact h
theorem RefCipherAt.mono {w : World} {B B' : Nat} {p : Value} {key : Nat → UInt8} (h : RefCipherAt w B p key) (hB : B ≤ B') : RefCipherAt w B' p key := by
  obtain ⟨cb, kv, hp, h1, h2, h3, h4, h5⟩ := h
  exact ⟨cb, kv, hp, by omega, h2, h3, h4, h5.mono hB⟩
theorem Away1 {w : World} {S : Nat → Prop} {v : Value} {l : List UInt8} (h : BsS w S v l) (hS : ∀ b, S b → b < w.heap.size → b < w.heap.size) : Bs w w.heap.size v l := h.keep fun b hs hlt => ⟨rfl, hS b hs hlt⟩
set_option maxRecDepth 100000 in
set_option maxHeartbeats 2000000 in
theorem refSeal_good (vk vi vb : Value) (k iv b : List UInt8) (m : Nat) (hk : k.length = 16) (hi : iv.length = 16) (hb : b.length = 16 * m) (w : World) (hvk : Bs w w.heap.size vk k) (hvi : Bs w w.heap.size vi iv) (hvb : Bs w w.heap.size vb b) :
    Calls Tryd.prog 79 #[vk, vi, vb] w fun e w' => ∃ v', e = .returned (.tuple #[v', .int .i64 0]) ∧ BsS w' (New w w') v' (sealO k iv b) ∧ Below w.heap.size w w' := by
  obtain ⟨A1, n1, c1, rfl⟩ := hvk.form
  obtain ⟨A2, n2, c2, rfl⟩ := hvi.form
  have e1 := Bs.lenEq hvk; have e2 := Bs.lenEq hvi
  rw [hk] at e1; rw [hi] at e2
  subst e1 e2
  obtain ⟨A3, c3, hvb3, hcb3, hcm3, hle3, hcell3⟩ := hvb
  rw [hb] at hvb3 hcb3 hle3
  subst hvb3
  have t1 : ((16 * (m : Int)) % 16 != 0) = false := by simp
  obtain ⟨bb, bo, hab, hbb, hcellb⟩ : ∃ bb bo, (0 < m → A3 = some ⟨bb, bo, none⟩) ∧ (0 < m → bb < w.heap.size) ∧ (0 < m → ∀ j, j < 16 * m → w.cell? ⟨bb, bo + j, none⟩ = some (U8 (gb b j))) := by
    rcases Nat.eq_zero_or_pos m with h0 | h0
    · exact ⟨0, 0, fun h => by omega, fun h => by omega, fun h => by omega⟩
    · obtain ⟨bb, bo, h1, h2, h3⟩ := hcell3 (by rw [hb]; omega)
      exact ⟨bb, bo, fun _ => h1, fun _ => h2, fun _ j hj => h3 j (by rw [hb]; exact hj)⟩
  have Hk := Lib.hid hvk; have Hi := Lib.hid hvi; have Lk := Lib.hid hk; have Li := Lib.hid hi; have Lb := Lib.hid hb; have HCB := Lib.hid hcellb; have HBB := Lib.hid hbb; have HAB := Lib.hid hab
  clear hvk hvi hk hi hb hcellb hbb hab hcell3
  go_enter Tryd.func79, Tryd.ntmps79
  go_wp2_with fail
  refine (refReady_any _ k Lk.out _ Hk.out).mono ?_
  rintro e w1 ⟨p, rfl, hp, hB1⟩
  have HP := Lib.hid hp; have HB1 := Lib.hid hB1; clear hp hB1
  have hsz1 := HB1.out.size
  go_wp2_with fail
  go_loopw [9, 10, 11] (fun lv ov i wr => ∃ kk q : Nat, kk ≤ m ∧ Hid (q = 16 * kk) ∧ i = .int .i64 q ∧ BsS wr (fun g => g < wr.heap.size ∧ ov.ownBlock ≠ some g) lv (sealS k iv b (List.range kk)).1 ∧ wr.ownsRow w1.heap.size 5 1 ov (sealS k iv b (List.range kk)).2.length ((sealS k iv b (List.range kk)).2.map U8) ∧ Below w1.heap.size w1 wr) (fun _ _ i _ => 16 * m - (intOf i).toNat)
  case atStart => exact ⟨0, 0, Nat.zero_le _, rfl, rfl, BsS.keep Hi.out fun g hg _ => ⟨HB1.out.block g hg, by omega, by simp [Value.ownBlock]⟩, World.ownsRow_nil _ _ _ _, Below.refl _ _⟩
  case round =>
    obtain ⟨kk, q, hkk, hq, rfl, hlv, hown, hB⟩ := hrel
    obtain ⟨wo, rfl⟩ : ∃ wo : World, wo = wr := ⟨_, rfl⟩
    obtain ⟨l1, l2⟩ := seal_one (k := k) (b := b) Li.out (List.range kk)
    obtain ⟨s, hs⟩ : ∃ s, s = sealS k iv b (List.range kk) := ⟨_, rfl⟩
    rw [← hs] at hlv hown l1 l2
    rw [List.length_range] at l2
    by_cases hlt : kk < m
    · have hq0 : (q : Int) + 16 ≤ 16 * m := by have := hq.out; omega
      have hd : decide ((q : Int) < 16 * m) = true := by simp; omega
      obtain ⟨Al, nl, cl, rfl⟩ := hlv.form
      have hnl := Bs.lenEq hlv
      rw [l1] at hnl
      subst hnl
      obtain ⟨al, _, hvl, _, _, _, hcl⟩ := hlv
      injection hvl with hal h2 h3
      subst hal
      clear h2 h3
      obtain ⟨lb, lo, rfl, hlb, hcl⟩ := hcl (by omega)
      rw [l1] at hcl
      have hm : 0 < m := by omega
      have hbb := HBB.out hm
      obtain rfl := HAB.out hm
      have hcx : ∀ j, j < 16 → wo.cell? ⟨bb, bo + (q + j), none⟩ = some (U8 (gb (blk b kk) j)) := fun j hj => by
        have h1 := HCB.out hm (16 * kk + j) (by omega)
        rw [blk_get _ _ _ hj, hq.out]
        exact ((hB.cell (p := ⟨bb, bo + (16 * kk + j), none⟩) (by simp; omega)).trans (HB1.out.cell (p := ⟨bb, bo + (16 * kk + j), none⟩) (by simpa using hbb))).trans h1
      have HX := Lib.hid hcx; have HL := Lib.hid hcl; have Hown := Lib.hid hown; have HB := Lib.hid hB; have L1 := Lib.hid l1; have L2 := Lib.hid l2; have HS := Lib.hid hs; have Hnew := Lib.hid (arrNew wo); have HLB := Lib.hid hlb
      clear hcx hcl hown hB l1 l2 hs hlb
      go_wp2_with fail
      go_loopw [13] (fun v wi => ∃ n : Nat, n ≤ 16 ∧ v = .int .i64 n ∧ wi.rowIs wo.heap.size 94 16 (fun j => U8 (upto n (fun j => gb (blk b kk) j ^^^ gb s.1 j) (fun _ => 0) j)) ∧ Below wo.heap.size wo wi) (fun v _ => 16 - (intOf v).toNat)
      case atStart => exact ⟨0, by omega, rfl, row_upto_zero Hnew.out _, (Below.refl _ _).alloc (Nat.le_refl _) _⟩
      case round =>
        obtain ⟨n, hn, rfl, hr, hb⟩ := hrel
        by_cases hlt2 : n < 16
        · have c1 := row_upto_cell hr hlt2
          have f1 := hr.frozen n
          have c2 : wr.cell? ⟨bb, bo + (q + n), none⟩ = some (U8 (gb (blk b kk) n)) := (hb.cell (p := ⟨bb, bo + (q + n), none⟩) (by have := HB.out.size; simp; omega)).trans (HX.out n hlt2)
          have c3 : wr.cell? ⟨lb, lo + n, none⟩ = some (U8 (gb s.1 n)) := (hb.cell (p := ⟨lb, lo + n, none⟩) (HLB.out.1)).trans (HL.out n hlt2)
          have HR := Lib.hid hr; have Hb := Lib.hid hb; clear hr hb
          have n1 : (n : Int) < 16 := by omega
          have n2 : (0 : Int) ≤ q + n := by omega
          have n3 : (q : Int) + n < 16 * m := by omega
          have n4 : ((q : Int) + n).toNat = q + n := by omega
          have hd2 : decide ((n : Int) < 16) = true := by simp; omega
          have s0 : Value.int .i64 (IntKind.i64.wrap ((q : Int) + n)) = .int .i64 (q + n) := by rw [IntWalk.i64_in _ (by omega)]
          go_wp2
          refine wp_region_still_tail 13 (by kernel_rfl) (by kernel_rfl) ?_
          simp only [List.take_succ_cons, List.take_zero, List.drop_succ_cons, List.drop_zero]
          repeat (refine wpStill_step (fun K hK => ?_); go_simp; (try go_bits); refine hK _ ?_; clear hK K)
          refine wpStill_nil ?_
          go_wp2
          go_roundw
          case rel => exact ⟨n + 1, by omega, by go_num, (row_upto_set HR.out rfl).drew, (Hb.out.setCell (by simp) _).drew⟩
          case measure => simp [intOf] <;> omega
        · have hn16 : n = 16 := by omega
          subst hn16
          have hr2 := row_upto_full hr (Nat.le_refl _)
          have hT := HB.out.trans (hb.mono HB.out.size)
          have hcip := (HP.out.below hT).mono hT.size
          have hvx : Bs wr wr.heap.size (.slice (some ⟨wo.heap.size, 0, none⟩) 16 16) (xorL (blk b kk) s.1) := Bs.of_row hr2 (by omega)
          have HT := Lib.hid hT; have Hcip := Lib.hid hcip; have Hvx := Lib.hid hvx; have Hb := Lib.hid hb
          clear hr hr2 hT hcip hvx hb
          go_wp2_with fail
          refine (rencC p _ k (xorL (blk b kk) s.1) (xorL_len _ _) _ Hcip.out Hvx.out).mono ?_
          rintro e W2 ⟨v2, rfl, hv2, hB2⟩
          obtain ⟨Aj, nj, cj, rfl⟩ := hv2.form
          have hnj : nj = 16 := by have := Bs.lenEq hv2; rw [encL_len] at this; exact this
          subst hnj
          have hbo2 : Below wo.heap.size wo W2 := Hb.out.trans (hB2.mono Hb.out.size)
          have hown2 := own_below Hown.out hbo2
          have hsrc2 := hv2.src.2
          have l3 : s.2.length + 16 ≤ 140737488355328 := by have := L2.out; omega
          have hbase2 : w1.heap.size ≤ W2.heap.size := Nat.le_trans HT.out.size hB2.size
          have hdis : BsS W2 (fun g => wo.heap.size ≤ g ∧ g < W2.heap.size) (.slice Aj 16 cj) (encL k (xorL (blk b kk) s.1)) := hv2.keep fun g hg _ => ⟨rfl, Nat.le_trans Hb.out.size hg.1, hg.2⟩
          have Hown2 := Lib.hid hown2; have Hsrc2 := Lib.hid hsrc2; have Hdis := Lib.hid hdis; have HT2 := Lib.hid (HT.out.trans (hB2.mono HT.out.size)); have Hbase2 := Lib.hid hbase2
          clear hown2 hsrc2 hdis hv2 hB2 hbo2 hbase2
          go_wp2_with (at_builtin; (with_reducible refine wpList_append1 _ rfl (.tmp 55) (.tmp 56) 22 rfl w1.heap.size 5 (.int .u8 0) 1 Tryd.underlying22 infoU8 rfl (by omega) u10 s.2.length (s.2.map U8) rfl Hown2.out Aj 16 cj ((encL k (xorL (blk b kk) s.1)).map U8) rfl Hsrc2.out (by omega) Hbase2.out ?_); intro v4 W4 hown4 hg4 hat4 _)
          have hlast : BsS W4 (fun g => g < W4.heap.size ∧ v4.ownBlock ≠ some g) (.slice Aj 16 cj) (encL k (xorL (blk b kk) s.1)) := BsS.keep Hdis.out fun g hg hlt => by
            have hne : u10.ownBlock ≠ some g := fun e => by have := (Hown.out.lt g e).2; have := hg.1; omega
            refine ⟨hg4.block g hlt (fun e => hne e.symm), by have := hg4.size; omega, ?_⟩
            rcases hat4 with e | e
            · rw [e]; exact hne
            · rw [e]; intro h; injection h with h; omega
          have hbw := below_append Hown2.out hg4 (Nat.le_refl _) Hbase2.out
          go_roundw
          case rel =>
            refine ⟨kk + 1, q + 16, by omega, by have := hq.out; unfold Hid; omega, by go_num, ?_, ?_, HT2.out.trans hbw⟩
            · rw [List.range_succ, sealS_snoc, ← HS.out]; exact hlast
            · rw [List.range_succ, sealS_snoc, ← HS.out]
              show World.ownsRow _ _ _ _ _ (s.2 ++ encL k (xorL (blk b kk) s.1)).length ((s.2 ++ encL k (xorL (blk b kk) s.1)).map U8)
              rw [List.length_append, encL_len, List.map_append]
              exact hown4
          case measure => simp [intOf] <;> omega
    · have hkm : kk = m := by omega
      subst hkm
      have hd : decide ((q : Int) < 16 * kk) = false := by have := hq.out; simp; omega
      have hge : ¬ (q : Int) < 16 * kk := by have := hq.out; omega
      have e : s.2 = sealO k iv b := by
        unfold sealO
        rw [Lb.out, Nat.mul_div_cancel_left _ (by omega), ← hs]
      have l3 : s.2.length ≤ 140737488355328 := by omega
      rw [e] at hown l3
      have Hown := Lib.hid hown; have HB := Lib.hid hB
      clear hown hB e hs l2 l1 hlv
      go_wp2
      go_ret2
      exact ⟨_, rfl, (BsS.of_own Hown.out l3).keep fun g hg _ => ⟨rfl, by have := hg.1; omega, hg.2⟩, HB1.out.trans (HB.out.mono hsz1)⟩
end Go.Proofs.YtnogcnmoeekcpaaDoor
/- The walk of the reference's Open. -/
namespace Go.Proofs.YtnogcnmoeekcpaaDoor
open Go.RowKit

end Go.Proofs.YtnogcnmoeekcpaaDoor
/- Seal and Open of both sides, whole. -/
namespace Go.Proofs.YtnogcnmoeekcpaaDoor
open Go.RowKit

def sealR (k iv b : List UInt8) : List UInt8 := if argE k iv b = 0 then sealO k iv b else []
def openR (k iv b : List UInt8) : List UInt8 := if argE k iv b = 0 then openO k iv b else []
theorem argE_parts {k iv b : List UInt8} (h : argE k iv b = 0) : k.length = 16 ∧ iv.length = 16 ∧ b.length = 16 * (b.length / 16) := by
  unfold argE at h
  by_cases h1 : k.length = 16 ∧ iv.length = 16
  · rw [if_pos h1] at h
    by_cases h2 : b.length % 16 = 0
    · exact ⟨h1.1, h1.2, by omega⟩
    · rw [if_neg h2] at h; cases h
  · rw [if_neg h1] at h; cases h
set_option maxRecDepth 100000 in
set_option maxHeartbeats 400000 in
theorem seal_bad (vk vi vb : Value) (k iv b : List UInt8) (h : ¬ argE k iv b = 0) (w : World) (hvk : Bs w w.heap.size vk k) (hvi : Bs w w.heap.size vi iv) (hvb : Bs w w.heap.size vb b) :
    Calls Tryd.prog 74 #[vk, vi, vb] w fun e w' => e = .returned (.tuple #[.slice none 0 0, .int .i64 (argE k iv b)]) ∧ Below w.heap.size w w' := by
  obtain ⟨A1, n1, c1, rfl⟩ := hvk.form
  obtain ⟨A2, n2, c2, rfl⟩ := hvi.form
  obtain ⟨A3, n3, c3, rfl⟩ := hvb.form
  have HA := fun w => arguments_any A1 A2 A3 n1 n2 n3 c1 c2 c3 k iv b (Bs.lenEq hvk) (Bs.lenEq hvi) (Bs.lenEq hvb) w
  have HA := Lib.hid HA
  have t1 : (argE k iv b != 0) = true := by simpa using h
  clear h hvk hvi hvb
  go_enter Tryd.func74, Tryd.ntmps74
  go_wp2_with fail
  refine (HA.out _).mono ?_
  rintro e w1 ⟨rfl, rfl⟩
  go_wp2
  go_ret2
  exact ⟨rfl, (Below.refl _ _).alloc (Nat.le_refl _) _⟩
set_option maxRecDepth 100000 in
set_option maxHeartbeats 400000 in
theorem rseal_bad (vk vi vb : Value) (k iv b : List UInt8) (h : ¬ argE k iv b = 0) (w : World) (hvk : Bs w w.heap.size vk k) (hvi : Bs w w.heap.size vi iv) (hvb : Bs w w.heap.size vb b) :
    Calls Tryd.prog 79 #[vk, vi, vb] w fun e w' => e = .returned (.tuple #[.slice none 0 0, .int .i64 (argE k iv b)]) ∧ Below w.heap.size w w' := by
  obtain ⟨A1, n1, c1, rfl⟩ := hvk.form
  obtain ⟨A2, n2, c2, rfl⟩ := hvi.form
  obtain ⟨A3, n3, c3, rfl⟩ := hvb.form
  have E : Hid (argE k iv b = if n1 = 16 ∧ n2 = 16 then (if n3 % 16 = 0 then 0 else 2) else 14) := by rw [Bs.lenEq hvk, Bs.lenEq hvi, Bs.lenEq hvb]; rfl
  clear hvk hvi hvb
  by_cases a : n1 = 16
  · have a' : ((n1 : Int) != 16) = false := by simp; omega
    by_cases b' : n2 = 16
    · have b'' : ((n2 : Int) != 16) = false := by simp; omega
      by_cases d : n3 % 16 = 0
      · exact absurd (by have := E.out; rwa [if_pos ⟨a, b'⟩, if_pos d] at this) h
      · have d' : ((n3 : Int) % 16 != 0) = true := by simp; omega
        have E2 : Hid (argE k iv b = 2) := by have := E.out; rwa [if_pos ⟨a, b'⟩, if_neg d] at this
        clear a b' d E h
        go_enter Tryd.func79, Tryd.ntmps79
        go_wp2
        go_ret2
        exact ⟨by rw [E2.out]; rfl, Below.refl _ _⟩
    · have b'' : ((n2 : Int) != 16) = true := by simp; omega
      have E2 : Hid (argE k iv b = 14) := by have := E.out; rwa [if_neg (fun h => b' h.2)] at this
      clear a b' E h
      go_enter Tryd.func79, Tryd.ntmps79
      go_wp2
      go_ret2
      exact ⟨by rw [E2.out]; rfl, Below.refl _ _⟩
  · have a' : ((n1 : Int) != 16) = true := by simp; omega
    have E2 : Hid (argE k iv b = 14) := by have := E.out; rwa [if_neg (fun h => a h.1)] at this
    clear a E h
    go_enter Tryd.func79, Tryd.ntmps79
    go_wp2
    go_ret2
    exact ⟨by rw [E2.out]; rfl, Below.refl _ _⟩
theorem sealX (vk vi vb : Value) (k iv b : List UInt8) (w : World) (hvk : Bs w w.heap.size vk k) (hvi : Bs w w.heap.size vi iv) (hvb : Bs w w.heap.size vb b) :
    Calls Tryd.prog 74 #[vk, vi, vb] w (BytesErr w (sealR k iv b) (argE k iv b)) := by
  unfold sealR
  by_cases h : argE k iv b = 0
  · obtain ⟨h1, h2, h3⟩ := argE_parts h
    rw [if_pos h, h]
    exact (seal_good vk vi vb k iv b _ h1 h2 h3 w hvk hvi hvb).mono fun _ _ ⟨v, e1, e2, e3⟩ => ⟨v, e1, e2.bs, e3⟩
  · rw [if_neg h]
    refine (seal_bad vk vi vb k iv b h w hvk hvi hvb).mono ?_
    rintro e w' ⟨rfl, hb⟩
    exact ⟨_, rfl, Bs.nil _ _, hb⟩
theorem rsealX (vk vi vb : Value) (k iv b : List UInt8) (w : World) (hvk : Bs w w.heap.size vk k) (hvi : Bs w w.heap.size vi iv) (hvb : Bs w w.heap.size vb b) :
    Calls Tryd.prog 79 #[vk, vi, vb] w (BytesErr w (sealR k iv b) (argE k iv b)) := by
  unfold sealR
  by_cases h : argE k iv b = 0
  · obtain ⟨h1, h2, h3⟩ := argE_parts h
    rw [if_pos h, h]
    exact (refSeal_good vk vi vb k iv b _ h1 h2 h3 w hvk hvi hvb).mono fun _ _ ⟨v, e1, e2, e3⟩ => ⟨v, e1, e2.bs, e3⟩
  · rw [if_neg h]
    refine (rseal_bad vk vi vb k iv b h w hvk hvi hvb).mono ?_
    rintro e w' ⟨rfl, hb⟩
    exact ⟨_, rfl, Bs.nil _ _, hb⟩
end Go.Proofs.YtnogcnmoeekcpaaDoor
/- Plain law of chained blocks: Open undoes Seal, Seal undoes Open; what a change of one block changes. -/
namespace Go.Proofs.YtnogcnmoeekcpaaDoor

theorem decL_encL (k l : List UInt8) (hl : l.length = 16) : decL k (encL k l) = l := by
  unfold decL encL; exact dec_enc_list k l hl
theorem encL_decL (k l : List UInt8) (hl : l.length = 16) : encL k (decL k l) = l := by
  unfold decL encL; exact enc_dec_list k l hl
theorem xorL_xorL (a c : List UInt8) (ha : a.length = 16) : xorL (xorL a c) c = a := by
  rw [← bList_of a 16 ha]
  unfold xorL
  refine bList_congr fun j hj => ?_
  rw [bList_getD 16 _ j hj, bList_of a 16 ha, xor_back]

theorem take_blk (b : List UInt8) (n : Nat) : b.take (16 * (n + 1)) = b.take (16 * n) ++ blk b n := by
  unfold blk
  rw [show 16 * (n + 1) = 16 * n + 16 by omega, List.take_add]
theorem blk_append {a c r : List UInt8} {n : Nat} (ha : a.length = 16 * n) (hc : c.length = 16) : blk (a ++ c ++ r) n = c := by
  unfold blk
  rw [List.append_assoc, ← ha, List.drop_left, List.take_left' hc]
/-- A list that grows by blocks keeps what it has. -/
theorem grow_prefix {P : Nat → List UInt8} {c : Nat → List UInt8} (hP : ∀ n, P (n + 1) = P n ++ c n) (n d : Nat) : ∃ r, P (n + d) = P n ++ r := by
  induction d with
  | zero => exact ⟨[], by simp⟩
  | succ d ih =>
    obtain ⟨r, h⟩ := ih
    exact ⟨r ++ c (n + d), by rw [← Nat.add_assoc, hP, h, List.append_assoc]⟩
theorem grow_len {P : Nat → List UInt8} {c : Nat → List UInt8} (h0 : P 0 = []) (hP : ∀ n, P (n + 1) = P n ++ c n) {m : Nat} (hc : ∀ n, n < m → (c n).length = 16) (n : Nat) (hn : n ≤ m) : (P n).length = 16 * n := by
  induction n with
  | zero => rw [h0]; rfl
  | succ n ih => rw [hP, List.length_append, ih (by omega), hc n (by omega)]; omega
theorem grow_blk {P : Nat → List UInt8} {c : Nat → List UInt8} (h0 : P 0 = []) (hP : ∀ n, P (n + 1) = P n ++ c n) {m : Nat} (hc : ∀ n, n < m → (c n).length = 16) (n : Nat) (hn : n < m) : blk (P m) n = c n := by
  obtain ⟨r, hr⟩ := grow_prefix hP (n + 1) (m - (n + 1))
  rw [show n + 1 + (m - (n + 1)) = m by omega, hP] at hr
  rw [hr]
  exact blk_append (grow_len h0 hP hc n (by omega)) (hc n hn)
theorem grow_take {P : Nat → List UInt8} {c : Nat → List UInt8} (h0 : P 0 = []) (hP : ∀ n, P (n + 1) = P n ++ c n) {m : Nat} (hc : ∀ n, n < m → (c n).length = 16) (n : Nat) (hn : n ≤ m) : (P m).take (16 * n) = P n := by
  obtain ⟨r, hr⟩ := grow_prefix hP n (m - n)
  rw [show n + (m - n) = m by omega] at hr
  rw [hr, ← grow_len h0 hP hc n hn]
  exact List.take_left' rfl
/-- Two lists of blocks that agree from a block on. -/
theorem grow_drop {P Q : Nat → List UInt8} {c d : Nat → List UInt8} (h0 : P 0 = []) (hP : ∀ n, P (n + 1) = P n ++ c n) (g0 : Q 0 = []) (hQ : ∀ n, Q (n + 1) = Q n ++ d n) {m : Nat} (hc : ∀ n, n < m → (c n).length = 16) (hd : ∀ n, n < m → (d n).length = 16)
    (s : Nat) (h : ∀ n, s ≤ n → c n = d n) (n : Nat) (hs : s ≤ n) (hn : n ≤ m) : (P n).drop (16 * s) = (Q n).drop (16 * s) := by
  induction n with
  | zero => rw [h0, g0]
  | succ n ih =>
    by_cases e : s = n + 1
    · have l1 := grow_len h0 hP hc (n + 1) hn
      have l2 := grow_len g0 hQ hd (n + 1) hn
      rw [e, List.drop_of_length_le (by omega), List.drop_of_length_le (by omega)]
    · have l1 := grow_len h0 hP hc n (by omega)
      have l2 := grow_len g0 hQ hd n (by omega)
      rw [hP, hQ, List.drop_append_of_le_length (by omega), List.drop_append_of_le_length (by omega), ih (by omega) (by omega), h n (by omega)]

theorem oC_zero' (k iv b : List UInt8) : (openS k iv b (List.range 0)).1 = iv := rfl
theorem sC_zero' (k iv b : List UInt8) : (sealS k iv b (List.range 0)).1 = iv := rfl
section
variable (k iv b : List UInt8)
/-- The chained value, and what has been made, behind n blocks. -/
def sC (n : Nat) : List UInt8 := (sealS k iv b (List.range n)).1
def sP (n : Nat) : List UInt8 := (sealS k iv b (List.range n)).2
def oC (n : Nat) : List UInt8 := (openS k iv b (List.range n)).1
def oP (n : Nat) : List UInt8 := (openS k iv b (List.range n)).2
theorem sC_zero : sC k iv b 0 = iv := sC_zero' k iv b
theorem oC_zero : oC k iv b 0 = iv := oC_zero' k iv b
theorem sP_zero : sP k iv b 0 = [] := rfl
theorem oP_zero : oP k iv b 0 = [] := rfl
theorem sC_succ (n : Nat) : sC k iv b (n + 1) = encL k (xorL (blk b n) (sC k iv b n)) := by unfold sC; rw [List.range_succ, sealS_snoc]; rfl
theorem sP_succ (n : Nat) : sP k iv b (n + 1) = sP k iv b n ++ sC k iv b (n + 1) := by rw [sC_succ]; unfold sP sC; rw [List.range_succ, sealS_snoc]; rfl
theorem oC_succ (n : Nat) : oC k iv b (n + 1) = blk b n := by unfold oC; rw [List.range_succ, openS_snoc]; rfl
theorem oP_succ (n : Nat) : oP k iv b (n + 1) = oP k iv b n ++ xorL (decL k (blk b n)) (oC k iv b n) := by unfold oP oC; rw [List.range_succ, openS_snoc]; rfl
theorem sealO_sP {m : Nat} (hb : b.length = 16 * m) : sealO k iv b = sP k iv b m := by unfold sealO sP; rw [hb, Nat.mul_div_cancel_left _ (by omega)]
theorem openO_oP {m : Nat} (hb : b.length = 16 * m) : openO k iv b = oP k iv b m := by unfold openO oP; rw [hb, Nat.mul_div_cancel_left _ (by omega)]
theorem sP_len (m : Nat) : (sP k iv b m).length = 16 * m := grow_len (P := sP k iv b) (c := fun n => sC k iv b (n + 1)) rfl (sP_succ k iv b) (m := m) (fun _ _ => by rw [sC_succ]; exact encL_len _ _) m (Nat.le_refl _)
theorem oP_len (m : Nat) : (oP k iv b m).length = 16 * m := grow_len (P := oP k iv b) (c := fun n => xorL (decL k (blk b n)) (oC k iv b n)) rfl (oP_succ k iv b) (m := m) (fun _ _ => xorL_len _ _) m (Nat.le_refl _)
theorem sP_blk (m n : Nat) (hn : n < m) : blk (sP k iv b m) n = sC k iv b (n + 1) := grow_blk (P := sP k iv b) (c := fun n => sC k iv b (n + 1)) rfl (sP_succ k iv b) (fun n _ => by rw [sC_succ]; exact encL_len _ _) n hn
theorem oP_blk (m n : Nat) (hn : n < m) : blk (oP k iv b m) n = xorL (decL k (blk b n)) (oC k iv b n) := grow_blk (P := oP k iv b) (c := fun n => xorL (decL k (blk b n)) (oC k iv b n)) rfl (oP_succ k iv b) (fun n _ => xorL_len _ _) n hn
end

theorem open_seal (k iv b : List UInt8) (m : Nat) (hb : b.length = 16 * m) : openO k iv (sealO k iv b) = b := by
  rw [sealO_sP k iv b hb, openO_oP k iv _ (sP_len k iv b m)]
  have hc : ∀ n, n ≤ m → oC k iv (sP k iv b m) n = sC k iv b n := fun n hn => by
    cases n with
    | zero => rw [oC_zero, sC_zero]
    | succ n => rw [oC_succ, sP_blk k iv b m n (by omega)]
  have hp : ∀ n, n ≤ m → oP k iv (sP k iv b m) n = b.take (16 * n) := fun n => by
    induction n with
    | zero => intro _; rfl
    | succ n ih =>
      intro hn
      rw [oP_succ, ih (by omega), hc n (by omega), sP_blk k iv b m n (by omega), take_blk, sC_succ, decL_encL _ _ (xorL_len _ _), xorL_xorL _ _ (blk_len hb (by omega))]
  rw [hp m (Nat.le_refl _), ← hb, List.take_length]
theorem seal_open (k iv b : List UInt8) (m : Nat) (hb : b.length = 16 * m) : sealO k iv (openO k iv b) = b := by
  rw [openO_oP k iv b hb, sealO_sP k iv _ (oP_len k iv b m)]
  have hc : ∀ n, n ≤ m → sC k iv (oP k iv b m) n = oC k iv b n := fun n => by
    induction n with
    | zero => intro _; rw [oC_zero, sC_zero]
    | succ n ih =>
      intro hn
      rw [sC_succ, oP_blk k iv b m n (by omega), ih (by omega), oC_succ, xorL_xorL _ _ (decL_len _ _), encL_decL _ _ (blk_len hb (by omega))]
  have hp : ∀ n, n ≤ m → sP k iv (oP k iv b m) n = b.take (16 * n) := fun n => by
    induction n with
    | zero => intro _; rfl
    | succ n ih =>
      intro hn
      rw [sP_succ, ih (by omega), hc (n + 1) hn, oC_succ, take_blk]
  rw [hp m (Nat.le_refl _), ← hb, List.take_length]

/-! A change of one block. -/
theorem seal_change (k iv p c : List UInt8) (m : Nat) (hp : p.length = 16 * m) (hc : c.length = 16 * m) (n : Nat) (hn : n ≤ m) (h : ∀ j, j < n → blk p j = blk c j) : (sealO k iv p).take (16 * n) = (sealO k iv c).take (16 * n) := by
  have g : ∀ q : List UInt8, (sP k iv q m).take (16 * n) = sP k iv q n := fun q => grow_take (P := sP k iv q) (c := fun n => sC k iv q (n + 1)) rfl (sP_succ k iv q) (fun n _ => by rw [sC_succ]; exact encL_len _ _) n hn
  rw [sealO_sP k iv p hp, sealO_sP k iv c hc, g p, g c]
  have e : ∀ j, j ≤ n → sC k iv p j = sC k iv c j := fun j => by
    induction j with
    | zero => intro _; rw [sC_zero, sC_zero]
    | succ j ih => intro hj; rw [sC_succ, sC_succ, ih (by omega), h j (by omega)]
  have e2 : ∀ j, j ≤ n → sP k iv p j = sP k iv c j := fun j => by
    induction j with
    | zero => intro _; rw [sP_zero, sP_zero]
    | succ j ih => intro hj; rw [sP_succ, sP_succ, ih (by omega), e (j + 1) hj]
  exact e2 n (Nat.le_refl _)
theorem open_change (k iv p c : List UInt8) (m : Nat) (hp : p.length = 16 * m) (hc : c.length = 16 * m) (n : Nat) (hn : n ≤ m) (h : ∀ j, j < n → blk p j = blk c j) : (openO k iv p).take (16 * n) = (openO k iv c).take (16 * n) := by
  have g : ∀ q : List UInt8, (oP k iv q m).take (16 * n) = oP k iv q n := fun q => grow_take (P := oP k iv q) (c := fun n => xorL (decL k (blk q n)) (oC k iv q n)) rfl (oP_succ k iv q) (fun n _ => xorL_len _ _) n hn
  rw [openO_oP k iv p hp, openO_oP k iv c hc, g p, g c]
  have e : ∀ j, j ≤ n → oC k iv p j = oC k iv c j := fun j hj => by
    cases j with
    | zero => rw [oC_zero, oC_zero]
    | succ j => rw [oC_succ, oC_succ, h j (by omega)]
  have e2 : ∀ j, j ≤ n → oP k iv p j = oP k iv c j := fun j => by
    induction j with
    | zero => intro _; rw [oP_zero, oP_zero]
    | succ j ih => intro hj; rw [oP_succ, oP_succ, ih (by omega), e j (by omega), h j (by omega)]
  exact e2 n (Nat.le_refl _)
theorem open_behind (k iv p c : List UInt8) (m : Nat) (hp : p.length = 16 * m) (hc : c.length = 16 * m) (n : Nat) (hn : n + 2 ≤ m) (h : ∀ j, ¬ j = n → blk p j = blk c j) : (openO k iv p).drop (16 * (n + 2)) = (openO k iv c).drop (16 * (n + 2)) := by
  rw [openO_oP k iv p hp, openO_oP k iv c hc]
  refine grow_drop (P := oP k iv p) (Q := oP k iv c) (c := fun n => xorL (decL k (blk p n)) (oC k iv p n)) (d := fun n => xorL (decL k (blk c n)) (oC k iv c n)) rfl (oP_succ k iv p) rfl (oP_succ k iv c) (fun n _ => xorL_len _ _) (fun n _ => xorL_len _ _) (n + 2) (fun j hj => ?_) m hn (Nat.le_refl _)
  obtain ⟨q, rfl⟩ : ∃ q, j = q + 1 := ⟨j - 1, by omega⟩
  show xorL (decL k (blk p (q + 1))) (oC k iv p (q + 1)) = xorL (decL k (blk c (q + 1))) (oC k iv c (q + 1))
  rw [oC_succ, oC_succ, h (q + 1) (by omega), h q (by omega)]
end Go.Proofs.YtnogcnmoeekcpaaDoor
/- The walk of Code. -/
namespace Go.Proofs.YtnogcnmoeekcpaaDoor
open Go.RowKit

def codeOdd (b : List UInt8) : Prop := b.length = 0 ∨ ¬ b.length % 16 = 0
instance (b : List UInt8) : Decidable (codeOdd b) := by unfold codeOdd; infer_instance
/-- The key of the last block, for whole blocks. -/
def subK (k : List UInt8) : List UInt8 := dblL (encL k Z16)
def codeK (k b : List UInt8) : List UInt8 := if codeOdd b then dblL (subK k) else subK k
def codeX (b : List UInt8) : List UInt8 := if codeOdd b then padL b else b
/-- Bytes with the last block combined. -/
def lastX (x kk : List UInt8) : List UInt8 := x.take (x.length - 16) ++ xorL (x.drop (x.length - 16)) kk
def codeO (k b : List UInt8) : List UInt8 := if k.length = 16 then (sealO k Z16 (lastX (codeX b) (codeK k b))).drop ((codeX b).length - 16) else []
def codeE (k : List UInt8) : Int := if k.length = 16 then 0 else 14
theorem subK_len (k : List UInt8) : (subK k).length = 16 := dblL_len _
theorem codeK_len (k b : List UInt8) : (codeK k b).length = 16 := by unfold codeK; split; exact dblL_len _; exact subK_len _
theorem codeX_len (b : List UInt8) : ∃ m, (codeX b).length = 16 * m + 16 := by
  unfold codeX
  split
  · have h1 := padL_mod b
    have h2 : 0 < (padL b).length := by rw [padL_len]; omega
    exact ⟨(b.length + 1 + padN b.length) / 16 - 1, by omega⟩
  · rename_i h
    unfold codeOdd at h
    exact ⟨b.length / 16 - 1, by omega⟩
theorem lastX_len {x : List UInt8} (kk : List UInt8) (h : 16 ≤ x.length) : (lastX x kk).length = x.length := by
  unfold lastX; rw [List.length_append, xorL_len, List.length_take]; omega
theorem own_splice {w' : World} {base g M cap : Nat} {cur : List Value} {x kk : List UInt8} (hx : x.length = M + 16) (hg : base ≤ g) (hcur : cur.length = cap) (hc : M + 16 ≤ cap) (hm : cap ≤ maxLen) (ht : cur.take (M + 16) = x.map U8)
    (h : w'.heap[g]? = some (.cells (splice cur M ((xorL (x.drop M) kk).map U8)).toArray 5 (0, 0))) : w'.ownsRow base 5 1 (.slice (some ⟨g, 0, none⟩) (M + 16) cap) (lastX x kk).length ((lastX x kk).map U8) := by
  have hl : (lastX x kk).length = M + 16 := by rw [lastX_len _ (by omega), hx]
  have hxl : ((xorL (x.drop M) kk).map U8).length = 16 := by rw [List.length_map, xorL_len]
  refine ⟨by rw [List.length_map]; omega, .inr ⟨g, cap, _, by rw [hl], hg, h, by omega, hm, ?_, ?_⟩⟩
  · rw [List.size_toArray, length_splice _ _ _ (by omega)]; omega
  · rw [hl, Nat.mul_one]
    show (splice cur M _).take (M + 16) = _
    unfold splice lastX
    rw [← List.append_assoc, List.take_append_of_le_length (by rw [List.length_append, List.length_take, hxl]; omega), List.take_of_length_le (by rw [List.length_append, List.length_take, hxl]; omega),
      List.map_append, show x.length - 16 = M by omega, List.map_take, ← ht, List.take_take, Nat.min_eq_left (by omega)]

theorem own_wide {w : World} {base base' : Nat} {e : TypeId} {v : Value} {n size : Nat} {xs : List Value} (h : w.ownsRow base e size v n xs) (hb : base' ≤ base) : w.ownsRow base' e size v n xs := by
  refine ⟨h.1, ?_⟩
  rcases h.2 with h2 | ⟨g, cap, cur, hv, hg, r⟩
  · exact .inl h2
  · exact .inr ⟨g, cap, cur, hv, Nat.le_trans hb hg, r⟩

set_option maxRecDepth 100000 in
set_option maxHeartbeats 400000 in
theorem code_bad (vk vb : Value) (k : List UInt8) (h : ¬ k.length = 16) (w : World) (hvk : Bs w w.heap.size vk k) :
    Calls Tryd.prog 58 #[vk, vb] w fun e w' => e = .returned (.tuple #[.slice none 0 0, .int .i64 14]) ∧ Below w.heap.size w w' := by
  have Hk := Lib.hid hvk; have H := Lib.hid h; have Hm := make16; clear hvk h
  go_enter Tryd.func58, Tryd.ntmps58
  go_wp2_with fail
  refine (encrypt_bad vk _ k Z16 (fun e => H.out e.1) (wz w) (Hk.out.lift (zero16b w)) (zero_z w).bs).mono ?_
  rintro e w1 ⟨rfl, rfl⟩
  go_wp2_with fail
  go_ret2
  exact ⟨rfl, zero16b w⟩

set_option maxRecDepth 100000 in
set_option maxHeartbeats 1000000 in
theorem code_good (vk vb : Value) (k b : List UInt8) (hk : k.length = 16) (hl : b.length ≤ 140737488351232) (w : World) (hvk : Bs w w.heap.size vk k) (hvb : Bs w w.heap.size vb b) :
    Calls Tryd.prog 58 #[vk, vb] w fun e w' => ∃ v', e = .returned (.tuple #[v', .int .i64 0]) ∧ BsS w' (New w w') v' (codeO k b) ∧ Below w.heap.size w w' := by
  obtain ⟨A0, n0, c0, rfl⟩ := hvb.form
  have hn := Bs.lenEq hvb
  subst hn
  have Hk := Lib.hid hvk; have Hb := Lib.hid hvb; have Lk := Lib.hid hk; have Lb := Lib.hid hl; have Hm := make16; clear hvk hvb hk hl
  go_enter Tryd.func58, Tryd.ntmps58
  go_upto_if 34 with (fail)
  refine (encrypt_good vk _ k Z16 Lk.out Z16_len (wz w) (Hk.out.lift (zero16b w)) (zero_z w).bs).mono ?_
  rintro e w1 ⟨v1, rfl, hv1, hB1⟩
  have hv1 : Bs w1 w1.heap.size v1 (encL k Z16) := by unfold encL; exact hv1
  have HB1 := Lib.hid hB1; have HV1 := Lib.hid hv1; clear hB1 hv1; clear hv1
  go_upto_if 34 with (fail)
  refine (double_any2 v1 (encL k Z16) (encL_len _ _) w1 HV1.out).mono ?_
  rintro e w2 ⟨v2, rfl, hv2, hB2⟩
  have HB2 := Lib.hid (HB1.out.trans (hB2.mono HB1.out.size)); have HV2 := Lib.hid hv2.bs; clear hB2 hv2
  go_upto_if 34 with (fail)
  refine (clone_any _ b _ ((Hb.out.lift (zero16b w)).lift HB2.out)).mono ?_
  rintro e w3 ⟨v3, rfl, hown, hB3⟩
  have HB3 := Lib.hid (HB2.out.trans (hB3.mono HB2.out.size)); have HV3 := Lib.hid (HV2.out.lift hB3); have Hown := Lib.hid hown; clear hB3 hown
  go_upto_region 7 with (fail)
  obtain ⟨o, Ho⟩ : ∃ o : Bool, Hid (o = decide (codeOdd b)) := ⟨_, Lib.hid rfl⟩
  go_cut [34] from 26 to 34 (fun c wc => c = .bool o ∧ wc = w3)
  case first =>
    by_cases h0 : b.length = 0
    · have t1 : ((b.length : Int) == 0) = true := by rw [beq_iff_eq]; omega
      have ho : decide (codeOdd b) = true := decide_eq_true (Or.inl h0)
      have HO := Lib.hid ho; clear h0 ho
      go_wp2_with fail
      go_meet
      exact ⟨by rw [Ho.out, HO.out], rfl⟩
    · have t1 : ((b.length : Int) == 0) = false := by rw [beq_eq_false_iff_ne]; omega
      by_cases h1 : b.length % 16 = 0
      · have t2 : ((b.length : Int) % 16 != 0) = false := by rw [bne_eq_false_iff_eq]; omega
        have ho : decide (codeOdd b) = false := decide_eq_false (fun e => e.elim h0 (fun e => e h1))
        have HO := Lib.hid ho; clear h0 h1 ho
        go_wp2_with fail
        go_meet
        exact ⟨by rw [Ho.out, HO.out], rfl⟩
      · have t2 : ((b.length : Int) % 16 != 0) = true := by rw [bne_iff_ne]; omega
        have ho : decide (codeOdd b) = true := decide_eq_true (Or.inr h1)
        have HO := Lib.hid ho; clear h0 h1 ho
        go_wp2_with fail
        go_meet
        exact ⟨by rw [Ho.out, HO.out], rfl⟩
  case rest =>
  obtain ⟨rfl, rfl⟩ := hcut
  go_upto_if 34 with (fail)
  go_cut [7, 9] from 13 to 41 (fun vk vx wc => Bs wc wc.heap.size vk (codeK k b) ∧ OwnB wc (wz w).heap.size vx (codeX b) ∧ Below (wz w).heap.size (wz w) wc)
  case first =>
    cases o with
    | true =>
      have ho : codeOdd b := of_decide_eq_true Ho.out.symm
      have eK : codeK k b = dblL (subK k) := if_pos ho
      have eX : codeX b = padL b := if_pos ho
      have Rest : ∀ w4, Below wc.heap.size wc w4 → Calls Tryd.prog 72 #[.slice A0 b.length c0] w4 (fun e w5 => ∃ v5, e = .returned v5 ∧ OwnB w5 w4.heap.size v5 (padL b) ∧ Below w4.heap.size w4 w5) :=
        fun w4 h4 => pad_own _ b Lb.out w4 (((Hb.out.lift (zero16b w)).lift HB3.out).lift h4)
      have Fin : ∀ w4 v4 w5 v5, BsS w4 (New wc w4) v4 (dblL (subK k)) → Below wc.heap.size wc w4 → OwnB w5 w4.heap.size v5 (padL b) → Below w4.heap.size w4 w5 → Bs w5 w5.heap.size v4 (codeK k b) ∧ OwnB w5 (wz w).heap.size v5 (codeX b) ∧ Below (wz w).heap.size (wz w) w5 := by
        intro w4 v4 w5 v5 h1 h2 h3 h4
        rw [eK, eX]
        refine ⟨h1.bs.lift h4, own_wide h3 (Nat.le_trans HB3.out.size h2.size), (HB3.out.trans (h2.mono HB3.out.size)).trans (h4.mono (Nat.le_trans HB3.out.size h2.size))⟩
      have REST := Lib.hid Rest; have FIN := Lib.hid Fin
      clear Rest Fin eK eX ho
      go_wp2_with fail
      refine (double_any2 v2 (subK k) (subK_len k) _ HV3.out).mono ?_
      rintro e w4 ⟨v4, rfl, h1, h2⟩
      have H1 := Lib.hid h1; have H2 := Lib.hid h2; clear h1 h2
      go_wp2_with fail
      refine (REST.out w4 H2.out).mono ?_
      rintro e w5 ⟨v5, rfl, h3, h4⟩
      have H5 := Lib.hid (FIN.out _ _ _ _ H1.out H2.out h3 h4)
      clear h3 h4
      go_wp2_with fail
      go_meet
      exact H5.out
    | false =>
      have ho : ¬ codeOdd b := of_decide_eq_false Ho.out.symm
      have eK : codeK k b = subK k := if_neg ho
      have eX : codeX b = b := if_neg ho
      have H5 : Hid (Bs wc wc.heap.size v2 (codeK k b) ∧ OwnB wc (wz w).heap.size v3 (codeX b) ∧ Below (wz w).heap.size (wz w) wc) := by
        rw [eK, eX]
        exact ⟨HV3.out, own_wide Hown.out HB2.out.size, HB3.out⟩
      clear eK eX ho
      go_wp2_with fail
      go_meet
      exact H5.out
  case rest =>
  obtain ⟨hk7, hx9, hB⟩ := hcut
  obtain ⟨m, hm⟩ := codeX_len b
  obtain ⟨x, hX⟩ : ∃ x, x = codeX b := ⟨_, rfl⟩
  obtain ⟨kk, hKK⟩ : ∃ kk, kk = codeK k b := ⟨_, rfl⟩
  have hkl : kk.length = 16 := by rw [hKK, codeK_len]
  rw [← hX] at hx9 hm
  rw [← hKK] at hk7
  have hbs := (BsS.of_own hx9 (by have := Lb.out; rw [hX]; unfold codeX; split; (rw [padL_len]; have := padN_le b.length; omega); omega)).keep (w' := wc) (S' := fun b => b < wc.heap.size) fun g hg _ => ⟨rfl, hg.2⟩
  obtain ⟨M, hM⟩ : ∃ M, M = 16 * m := ⟨_, rfl⟩
  rw [← hM] at hm
  obtain ⟨hl9, hx9⟩ := hx9
  rw [hm] at hx9
  rcases hx9 with ⟨_, h0⟩ | ⟨g, cap, cur, rfl, hg, hh, hc, hcm, hsz, htk⟩
  · exact absurd h0 (by omega)
  rw [Nat.mul_one] at hsz htk
  have HH := Lib.hid hh; have HG := Lib.hid hg; have HC := Lib.hid hcm; have HS := Lib.hid hsz; have HT := Lib.hid htk; have HX := Lib.hid hX; have HKK := Lib.hid hKK; have HKL := Lib.hid hkl; have HM := Lib.hid hm; have HB := Lib.hid hB; have HK := Lib.hid hk7; have HBS := Lib.hid hbs; have HMM := Lib.hid hM
  clear hh hg hcm hsz htk hX hKK hkl hm hB hk7 hbs hM hl9 HB1 HV1 HB2 HV2 HB3 HV3 Hown Hm
  have hM2 : M + 16 ≤ 140737488355328 := by have := HBS.out.len; rw [HM.out] at this; omega
  have hcM : M + 16 ≤ cap := hc
  have hw : wrap64 (M : Int) = M := IntWalk.wrap64_in _ (by omega)
  have n1 : ¬ cap = M := by omega
  have n2 : (M : Int) ≤ (M : Int) + 16 := by omega
  have hsl : Bs wc wc.heap.size (.slice (some ⟨g, M, none⟩) 16 (cap - M)) (x.drop M) := by
    have h := cutOn HBS.out M (by rw [HM.out]; omega)
    rwa [Nat.zero_add, Nat.add_sub_cancel_left] at h
  have HSL := Lib.hid hsl; clear hsl
  have hcur : cur.toList.toArray = cur := by simp
  have HCUR := Lib.hid hcur
  clear hcur
  have c5 : Calls Tryd.prog 73 #[.slice (some ⟨g, M, none⟩) 16 (cap - M), u7] wc.drew fun e w5 => ∃ A5 c5, e = .returned (.slice A5 16 c5) ∧ Hid (SrcAt w5 A5 16 ((xorL (x.drop M) kk).map U8)) ∧ Hid (w5.heap[g]? = some (.cells cur.toList.toArray 5 (0, 0))) ∧ Hid (Below (wz w).heap.size (wz w) w5) := by
    refine (combineX _ _ (x.drop M) kk (by rw [List.length_drop, HM.out]; omega) HKL.out wc.drew HSL.out HK.out).mono ?_
    rintro e w5 ⟨v5, rfl, hv5, hb5⟩
    obtain ⟨A5, n5, c5, rfl⟩ := hv5.form
    obtain ⟨hn5, hsrc⟩ := hv5.src
    obtain rfl : n5 = 16 := by rw [hn5, xorL_len]
    refine ⟨A5, c5, rfl, Lib.hid hsrc, ?_, Lib.hid (HB.out.drew.trans (hb5.mono HB.out.size))⟩
    rw [HCUR.out]
    exact Lib.hid ((hb5.block g (Array.getElem?_eq_some_iff.1 HH.out).1).trans HH.out)
  have C5 := Lib.hid c5; clear c5
  go_upto_region 10 with (fail)
  go_region_law (first
      | (refine step_copy_splice rfl (.tmp 44) (.tmp 49) 22 22 rfl 5 Tryd.underlying22 (by kernel_rfl) (some ⟨g, M, none⟩) A5 16 (cap - M) 16 c5 (by simp [Act.eval]) (by simp [Act.eval]) g M cur.toList 5 HH5.out ((xorL (x.drop M) kk).map U8) (by rw [List.length_map, xorL_len]; rfl) (fun _ => ⟨rfl, HSRC.out.2.1 (by omega)⟩) (by rw [List.length_map, xorL_len, Array.length_toList]; have := HS.out; omega) HSRC.out.2.2 (wz w).heap.size (wz w) HB5.out HG.out ?_
         intro w6 h6 hb6)
      | (go_simp
         go_at_call 73
         refine C5.out.mono ?_
         rintro e w5 ⟨A5, c5, rfl, HSRC, HH5, HB5⟩))
  have hown6 := own_splice (kk := kk) HM.out HG.out (by rw [Array.length_toList]; exact HS.out) hcM HC.out HT.out h6.out
  have hL : (lastX x kk).length = 16 * (m + 1) := by rw [lastX_len _ (by rw [HM.out]; omega), HM.out, HMM.out]; omega
  have hbs6 : Bs w6 w6.heap.size (.slice (some ⟨g, 0, none⟩) (M + 16) cap) (lastX x kk) := (BsS.of_own hown6 (by rw [hL]; have := HMM.out; omega)).keep fun _ hg _ => ⟨rfl, hg.2⟩
  have C6 := Lib.hid (seal_good vk (.slice (some ⟨w.heap.size, 0, none⟩) 16 16) (.slice (some ⟨g, 0, none⟩) (M + 16) cap) k Z16 (lastX x kk) (m + 1) Lk.out Z16_len hL w6 ((Hk.out.lift (zero16b w)).lift hb6) ((zero_z w).bs.lift hb6) hbs6)
  have HL := Lib.hid hL; have HB6 := Lib.hid hb6
  clear hown6 hL hbs6 hb6 h6
  go_wp2_with fail
  refine C6.out.mono ?_
  rintro e w7 ⟨v7, rfl, hv7, hb7⟩
  have hl7 : (sealO k Z16 (lastX x kk)).length = M + 16 := by rw [sealO_sP k Z16 (lastX x kk) HL.out, sP_len, HMM.out]; omega
  obtain ⟨A7, n7, c7, rfl⟩ := hv7.form
  obtain rfl : n7 = M + 16 := by have := Bs.lenEq hv7; omega
  have hc7 : M + 16 ≤ c7 := by obtain ⟨_, _, e, h, _⟩ := hv7; injection e with _ _ e3; omega
  obtain ⟨zb, zo, rfl⟩ := addrOf hv7 (by omega)
  have c8 := cutOn2 hv7.bs M (by omega) 16 (c7 - M) (by omega) rfl
  have C8 := Lib.hid (clone_any _ _ w7 c8)
  have HB7 := Lib.hid (HB6.out.trans (hb7.mono HB6.out.size))
  have n3 : ¬ c7 = M := by omega
  clear c8 hv7 hb7 hl7
  go_wp2_with fail
  refine C8.out.mono ?_
  rintro e w8 ⟨v8, rfl, hown, hb8⟩
  have hfin : BsS w8 (New w w8) v8 (codeO k b) ∧ Below w.heap.size w w8 := by
    have hb := HB7.out.trans (hb8.mono HB7.out.size)
    have e : codeO k b = (sealO k Z16 (lastX x kk)).drop M := by unfold codeO; rw [if_pos Lk.out, ← HX.out, ← HKK.out, HM.out, Nat.add_sub_cancel]
    rw [e]
    refine ⟨(BsS.of_own hown ?_).keep fun _ hg _ => ⟨rfl, Nat.le_trans (Nat.le_trans (zero16b w).size HB7.out.size) hg.1, hg.2⟩, (zero16b w).trans (hb.mono (zero16b w).size)⟩
    rw [List.length_drop, sealO_sP k Z16 (lastX x kk) HL.out, sP_len]; have := HMM.out; omega
  have Hfin := Lib.hid hfin; clear hfin hown hb8
  go_wp2_with fail
  go_ret2
  exact ⟨v8, rfl, Hfin.out⟩
end Go.Proofs.YtnogcnmoeekcpaaDoor
/- The walk of the reference's Code. -/
namespace Go.Proofs.YtnogcnmoeekcpaaDoor
open Go.RowKit

theorem gb_left (a b : List UInt8) (j : Nat) (h : j < a.length) : gb (a ++ b) j = gb a j := by unfold gb; rw [List.getD_eq_getElem?_getD, List.getD_eq_getElem?_getD, List.getElem?_append_left h]
theorem gb_right (a b : List UInt8) (j : Nat) (h : a.length ≤ j) : gb (a ++ b) j = gb b (j - a.length) := by unfold gb; rw [List.getD_eq_getElem?_getD, List.getD_eq_getElem?_getD, List.getElem?_append_right h]
theorem gb_bList (n : Nat) (f : Nat → UInt8) (j : Nat) (h : j < n) : gb (bList n f) j = f j := by unfold gb bList; rw [List.getD_eq_getElem?_getD]; simp [h]
theorem lastX_get {x kk : List UInt8} {M j : Nat} (hx : x.length = M + 16) (hj : j < M + 16) : gb (lastX x kk) j = if M ≤ j then gb x j ^^^ gb kk (j - M) else gb x j := by
  unfold lastX
  rw [show x.length - 16 = M by omega]
  by_cases h : M ≤ j
  · rw [if_pos h, gb_right _ _ _ (by rw [List.length_take]; omega), List.length_take, show min M x.length = M by omega]
    unfold xorL
    rw [gb_bList _ _ _ (by omega)]
    congr 1
    unfold gb
    rw [List.getD_eq_getElem?_getD, List.getD_eq_getElem?_getD, List.getElem?_drop, show M + (j - M) = j by omega]
  · rw [if_neg h, gb_left _ _ _ (by rw [List.length_take]; omega)]
    unfold gb
    rw [List.getD_eq_getElem?_getD, List.getD_eq_getElem?_getD, List.getElem?_take, if_pos (by omega)]
/-- The bytes of the last block up to a place. -/
def lastF (x kk : List UInt8) (M n : Nat) (j : Nat) : UInt8 := if M ≤ j ∧ j < M + n then gb x j ^^^ gb kk (j - M) else gb x j
theorem lastF_zero (x kk : List UInt8) (M : Nat) : lastF x kk M 0 = gb x := by funext j; unfold lastF; rw [if_neg (by omega)]
theorem lastF_at (x kk : List UInt8) (M n : Nat) : lastF x kk M n (M + n) = gb x (M + n) := by unfold lastF; rw [if_neg (by omega)]
theorem lastF_set (x kk : List UInt8) (M n N : Nat) : (vals N (lastF x kk M n)).set (M + n) (U8 (gb x (M + n) ^^^ gb kk n)) = vals N (lastF x kk M (n + 1)) := by
  rw [vals_set]
  refine vals_congr fun j _ => ?_
  unfold lastF
  by_cases e : j = M + n
  · subst e; rw [if_pos rfl, if_pos (by omega), Nat.add_sub_cancel_left]
  · rw [if_neg e]
    by_cases e2 : M ≤ j ∧ j < M + n
    · rw [if_pos e2, if_pos (by omega)]
    · rw [if_neg e2, if_neg (by omega)]
theorem lastF_full {x kk : List UInt8} {M : Nat} (hx : x.length = M + 16) : vals (M + 16) (lastF x kk M 16) = (lastX x kk).map U8 := by
  rw [vals_of (lastX x kk) (M + 16) (by rw [lastX_len _ (by omega), hx])]
  refine vals_congr fun j hj => ?_
  rw [lastX_get hx hj]
  unfold lastF
  by_cases h : M ≤ j
  · rw [if_pos ⟨h, by omega⟩, if_pos h]
  · rw [if_neg (fun e => h e.1), if_neg h]

set_option maxRecDepth 100000 in
set_option maxHeartbeats 400000 in
theorem rcode_bad (vk vb : Value) (k : List UInt8) (h : ¬ k.length = 16) (w : World) (hvk : Bs w w.heap.size vk k) :
    Calls Tryd.prog 60 #[vk, vb] w fun e w' => e = .returned (.tuple #[.slice none 0 0, .int .i64 14]) ∧ w' = w := by
  obtain ⟨A0, n0, c0, rfl⟩ := hvk.form
  have hn := Bs.lenEq hvk
  have t1 : ((n0 : Int) != 16) = true := by rw [bne_iff_ne]; omega
  clear hn h hvk
  go_enter Tryd.func60, Tryd.ntmps60
  go_wp2_with fail
  go_ret2
  exact ⟨rfl, rfl⟩

set_option maxRecDepth 100000 in
set_option maxHeartbeats 1000000 in
theorem rcode_good (vk vb : Value) (k b : List UInt8) (hk : k.length = 16) (hl : b.length ≤ 140737488351232) (w : World) (hvk : Bs w w.heap.size vk k) (hvb : Bs w w.heap.size vb b) :
    Calls Tryd.prog 60 #[vk, vb] w fun e w' => ∃ v', e = .returned (.tuple #[v', .int .i64 0]) ∧ Bs w' w'.heap.size v' (codeO k b) ∧ Below w.heap.size w w' := by
  obtain ⟨A1, n1, c1, rfl⟩ := hvk.form
  have hn1 := Bs.lenEq hvk
  rw [hk] at hn1
  subst hn1
  obtain ⟨A0, n0, c0, rfl⟩ := hvb.form
  have hn := Bs.lenEq hvb
  subst hn
  have Hk := Lib.hid hvk; have Hb := Lib.hid hvb; have Lk := Lib.hid hk; have Lb := Lib.hid hl; have Hm := make16; clear hvk hvb hk hl
  go_enter Tryd.func60, Tryd.ntmps60
  go_upto_region 3 with (fail)
  go_cut [6] from 14 to 18 (fun v wx => Bs wx wx.heap.size v (subK k) ∧ Below w.heap.size w wx)
  case first =>
    go_region_with (first
      | (go_at_call 76
         first
         | (refine (refReady_any _ k Lk.out w.drew (show Bs w.drew w.drew.heap.size _ k from Hk.out)).mono ?_
            rintro e w1 ⟨p, rfl, hp, hb1⟩
            have hz := Lib.hid (zero_z w1).bs; have hP2 := Lib.hid ((hp.below (zero16b w1)).mono (zero16b w1).size); have hB1 := Lib.hid (hb1.trans ((zero16b w1).mono hb1.size))
            clear hp hb1)
         | (refine (refReady_any _ k Lk.out (wz w.drew) ((show Bs w.drew w.drew.heap.size _ k from Hk.out).lift (zero16b w.drew))).mono ?_
            rintro e w1 ⟨p, rfl, hp, hb1⟩
            have hP2 := Lib.hid hp; have hz := Lib.hid ((zero_z w.drew).bs.lift hb1); have hB1 := Lib.hid ((zero16b w.drew).trans (hb1.mono (zero16b w.drew).size))
            clear hp hb1))
      | (go_at_call 77
         refine (rencC _ _ k Z16 Z16_len _ hP2.out hz.out).mono ?_
         rintro e w2 ⟨v2, rfl, hv2, hb2⟩
         have hV2 := Lib.hid hv2.bs; have hB2 := Lib.hid (hB1.out.trans (hb2.mono hB1.out.size)); clear hv2 hb2)
      | (go_at_call 75
         refine (rdouble_any _ (encL k Z16) (encL_len _ _) _ hV2.out).mono ?_
         rintro e w3 ⟨v3, rfl, hv3, hb3⟩
         have hV3 := Lib.hid hv3.bs; have hB3 := Lib.hid (hB2.out.trans (hb3.mono hB2.out.size)); clear hv3 hb3))
    all_goals (go_wp2_with fail; go_meet; exact ⟨hV3.out, Below.undrew hB3.out⟩)
  case rest =>
  obtain ⟨hk6, hB⟩ := hcut
  obtain ⟨w1, rfl⟩ : ∃ w1, w1 = wc := ⟨_, rfl⟩
  obtain ⟨v1, rfl⟩ : ∃ v1, v1 = u6 := ⟨_, rfl⟩
  have HK6 := Lib.hid hk6; have HB := Lib.hid hB
  have Hsrc := Lib.hid ((Hb.out.lift hB).src).2
  have h0 : w1.ownsRow w1.heap.size 5 1 (.slice none 0 0) 0 [] := World.ownsRow_nil _ _ _ _
  have H0 := Lib.hid h0
  clear hk6 hB h0
  go_upto_region 5 with (first
    | (at_builtin
       (with_reducible refine wpList_append1 _ rfl (.const (.slice none 0 0)) (.tmp 19) 22 rfl w1.heap.size 5 (.int .u8 0) 1 Tryd.underlying22 infoU8 rfl (by omega) (.slice none 0 0) 0 [] rfl H0.out A0 b.length c0 (b.map U8) rfl Hsrc.out (by have := Lb.out; omega) (Nat.le_refl _) ?_)
       intro v2 w2 hown2 hg2 _ _
       have hb2 := below_append H0.out hg2 (Nat.le_refl _) (Nat.le_refl _)
       have hown2 : w2.ownsRow w1.heap.size 5 1 v2 b.length (b.map U8) := by simpa using hown2
       have Hown2 := Lib.hid hown2; have HB2 := Lib.hid hb2
       clear hown2 hg2 hb2))
  obtain ⟨o, Ho⟩ : ∃ o : Bool, Hid (o = decide (codeOdd b)) := ⟨_, Lib.hid rfl⟩
  go_cut [29] from 21 to 29 (fun c wx => c = .bool o ∧ wx = w2)
  case first =>
    by_cases h0 : b.length = 0
    · have t1 : ((b.length : Int) == 0) = true := by rw [beq_iff_eq]; omega
      have ho : decide (codeOdd b) = true := decide_eq_true (Or.inl h0)
      have HO := Lib.hid ho; clear h0 ho
      go_wp2_with fail
      go_meet
      exact ⟨by rw [Ho.out, HO.out], rfl⟩
    · have t1 : ((b.length : Int) == 0) = false := by rw [beq_eq_false_iff_ne]; omega
      by_cases h1 : b.length % 16 = 0
      · have t2 : ((b.length : Int) % 16 != 0) = false := by rw [bne_eq_false_iff_eq]; omega
        have ho : decide (codeOdd b) = false := decide_eq_false (fun e => e.elim h0 (fun e => e h1))
        have HO := Lib.hid ho; clear h0 h1 ho
        go_wp2_with fail
        go_meet
        exact ⟨by rw [Ho.out, HO.out], rfl⟩
      · have t2 : ((b.length : Int) % 16 != 0) = true := by rw [bne_iff_ne]; omega
        have ho : decide (codeOdd b) = true := decide_eq_true (Or.inr h1)
        have HO := Lib.hid ho; clear h0 h1 ho
        go_wp2_with fail
        go_meet
        exact ⟨by rw [Ho.out, HO.out], rfl⟩
  case rest =>
  obtain ⟨rfl, hw2⟩ := hcut
  subst hw2
  go_upto_if 29 with (fail)
  go_cut [6, 7] from 14 to 33 (fun vk vx wx => ∃ B, Bs wx B vk (codeK k b) ∧ wx.ownsRow B 5 1 vx (codeX b).length ((codeX b).map U8) ∧ w.heap.size ≤ B ∧ Below w.heap.size w wx ∧ B ≤ wx.heap.size)
  case first =>
    cases o with
    | true =>
      have ho : codeOdd b := of_decide_eq_true Ho.out.symm
      have eK : codeK k b = dblL (subK k) := if_pos ho
      have eX : codeX b = padL b := if_pos ho
      clear ho
      go_wp2_with fail
      refine (rdouble_any v1 (subK k) (subK_len k) _ (HK6.out.lift HB2.out)).mono ?_
      rintro e w4 ⟨v4, rfl, h1, h2⟩
      have hb4 := HB.out.trans ((HB2.out.trans (h2.mono HB2.out.size)).mono HB.out.size)
      have H1 := Lib.hid h1.bs; have H4 := Lib.hid hb4; clear h1 h2 hb4
      go_wp2_with fail
      refine (rpad_own _ b Lb.out w4 (Hb.out.lift H4.out)).mono ?_
      rintro e w5 ⟨v5, rfl, h3, h4⟩
      have H5 : Hid (∃ B, Bs w5 B v4 (codeK k b) ∧ w5.ownsRow B 5 1 v5 (codeX b).length ((codeX b).map U8) ∧ w.heap.size ≤ B ∧ Below w.heap.size w w5 ∧ B ≤ w5.heap.size) := by
        rw [eK, eX]
        exact ⟨w4.heap.size, H1.out.below h4, h3, H4.out.size, H4.out.trans (h4.mono H4.out.size), h4.size⟩
      clear h3 h4 eK eX
      go_wp2_with fail
      go_meet
      exact H5.out
    | false =>
      have ho : ¬ codeOdd b := of_decide_eq_false Ho.out.symm
      have eK : codeK k b = subK k := if_neg ho
      have eX : codeX b = b := if_neg ho
      have H5 : Hid (∃ B, Bs wc B v1 (codeK k b) ∧ wc.ownsRow B 5 1 v2 (codeX b).length ((codeX b).map U8) ∧ w.heap.size ≤ B ∧ Below w.heap.size w wc ∧ B ≤ wc.heap.size) := by
        rw [eK, eX]
        exact ⟨w1.heap.size, HK6.out.below HB2.out, Hown2.out, HB.out.size, HB.out.trans (HB2.out.mono HB.out.size), HB2.out.size⟩
      clear eK eX ho
      go_wp2_with fail
      go_meet
      exact H5.out
  case rest =>
  obtain ⟨B, hk7, hx9, hwB, hBw, hBs⟩ := hcut
  obtain ⟨m, hm⟩ := codeX_len b
  obtain ⟨x, hX⟩ : ∃ x, x = codeX b := ⟨_, rfl⟩
  obtain ⟨kk, hKK⟩ : ∃ kk, kk = codeK k b := ⟨_, rfl⟩
  have hkl : kk.length = 16 := by rw [hKK, codeK_len]
  rw [← hX] at hx9 hm
  rw [← hKK] at hk7
  obtain ⟨M, hM⟩ : ∃ M, M = 16 * m := ⟨_, rfl⟩
  rw [← hM] at hm
  have hM2 : M + 16 ≤ 140737488355328 := by
    rw [← hm, hX]; have := Lb.out; unfold codeX; split
    · rw [padL_len]; have := padN_le b.length; omega
    · omega
  rw [hm, vals_of x (M + 16) hm] at hx9
  obtain ⟨g, cap, rfl, hg1, hg2, hcap⟩ := own_form16 hx9 (by omega)
  obtain ⟨ak, ck, rfl, hck, _, _, hcell⟩ := hk7
  obtain ⟨kb, ko, rfl, hkb, hkx⟩ := hcell (by omega)
  rw [hkl] at hkx hck
  rw [hkl]
  have HX := Lib.hid hX; have HKK := Lib.hid hKK; have HM := Lib.hid hm; have HMM := Lib.hid hM; have HBW := Lib.hid hBw; have HX9 := Lib.hid hx9; have HKX := Lib.hid hkx; have HWB := Lib.hid hwB; have HBS := Lib.hid hBs
  obtain ⟨w3, hw3⟩ : ∃ w3, w3 = wc := ⟨_, rfl⟩
  rw [← hw3] at HBW HX9 HKX HBS hg2 ⊢
  clear hX hKK hkl hm hM hBw hx9 hkx hcell hwB hBs hw3 HK6 HB Hsrc H0 Hown2 HB2
  go_wp2_with fail
  go_loopw [8] (fun i wr => ∃ n : Nat, n ≤ 16 ∧ i = .int .i64 n ∧ wr.ownsRow B 5 1 (.slice (some ⟨g, 0, none⟩) (M + 16) cap) (M + 16) (vals (M + 16) (lastF x kk M n)) ∧ Below B w3 wr) (fun i _ => 16 - (intOf i).toNat)
  case atStart => exact ⟨0, by omega, rfl, by rw [lastF_zero]; exact HX9.out, Below.refl _ _⟩
  case round =>
    obtain ⟨n, hn, rfl, hown, hB⟩ := hrel
    have Hown2 := Lib.hid hown; have HB2 := Lib.hid hB; clear hown hB
    by_cases hlt : n < 16
    · have hd : decide ((n : Int) < 16) = true := by simp; omega
      have c1 : wr.cell? ⟨g, M + n, none⟩ = some (U8 (gb x (M + n))) := by rw [Hown2.out.cellAt (M + n) (by omega), vals_get _ _ _ (by omega), lastF_at]
      have f1 := Hown2.out.frozenAt (M + n)
      have c2 : wr.cell? ⟨kb, ko + n, none⟩ = some (U8 (gb kk n)) := (HB2.out.cell (p := ⟨kb, ko + n, none⟩) hkb).trans (HKX.out n hlt)
      have n1 : (n : Int) < 16 := by omega
      have n2 : (0 : Int) ≤ M + n := by omega
      have n3 : (M : Int) + n < M + 16 := by omega
      have n4 : ((M : Int) + n).toNat = M + n := by omega
      have hw2 : IntKind.i64.wrap ((M : Int) + n) = M + n := IntWalk.i64_in _ ⟨by omega, by omega⟩
      have s0 : Value.int .i64 (IntKind.i64.wrap ((M : Int) + n)) = .int .i64 (M + n) := congrArg _ hw2
      clear hw2
      have hw1 : IntKind.i64.wrap ((M : Int) + n) = M + n := IntWalk.i64_in _ (by omega)
      have HW1 := Lib.hid hw1; clear hw1
      have hw0 : IntKind.i64.wrap (M : Int) = M := IntWalk.i64_in _ (by omega)
      have HW0 := Lib.hid hw0; clear hw0
      go_wp2
      refine wp_region_still_tail 14 (by kernel_rfl) (by kernel_rfl) ?_
      simp only [List.take_succ_cons, List.take_zero, List.drop_succ_cons, List.drop_zero]
      have hw0 := HW0.out
      iterate 4 (refine wpStill_step (fun K hK => ?_); go_simp; (try go_bits); refine hK _ ?_; clear hK K)
      clear hw0
      have hw1 := HW1.out
      iterate 2 (refine wpStill_step (fun K hK => ?_); go_simp; (try go_bits); refine hK _ ?_; clear hK K)
      clear hw1
      repeat (refine wpStill_step (fun K hK => ?_); go_simp; (try go_bits); refine hK _ ?_; clear hK K)
      refine wpStill_nil ?_
      go_wp2
      go_roundw
      case rel =>
        obtain ⟨h1, h2⟩ := Hown2.out.stored (M + n) (U8 (gb x (M + n) ^^^ gb kk n))
        rw [lastF_set] at h1
        exact ⟨n + 1, by omega, by go_num, h1, HB2.out.drew.setCell (by simpa using hg1) _⟩
      case measure => simp [intOf] <;> omega
    · have hn16 : n = 16 := by omega
      subst hn16
      have h1 := Hown2.out
      rw [lastF_full HM.out] at h1
      have hL : (lastX x kk).length = 16 * (m + 1) := by rw [lastX_len _ (by rw [HM.out]; omega), HM.out, HMM.out]; omega
      have hbs : Bs wr wr.heap.size (.slice (some ⟨g, 0, none⟩) (M + 16) cap) (lastX x kk) := (BsS.of_own h1 (by rw [hL]; have := HMM.out; omega)).keep fun _ hg _ => ⟨rfl, hg.2⟩
      have hbw := HBW.out.trans (HB2.out.mono HWB.out)
      have C6 := Lib.hid (refSeal_good (.slice A1 16 c1) (.slice (some ⟨wr.heap.size, 0, none⟩) 16 16) (.slice (some ⟨g, 0, none⟩) (M + 16) cap) k Z16 (lastX x kk) (m + 1) Lk.out Z16_len hL (wz wr) ((Hk.out.lift hbw).lift (zero16b wr)) (zero_z wr).bs (hbs.lift (zero16b wr)))
      have HL := Lib.hid hL; have HBw := Lib.hid (hbw.trans ((zero16b wr).mono hbw.size))
      clear h1 hL hbs hbw
      go_wp2_with fail
      refine C6.out.mono ?_
      rintro e w7 ⟨v7, rfl, hv7, hb7⟩
      have hl7 : (sealO k Z16 (lastX x kk)).length = M + 16 := by rw [sealO_sP k Z16 (lastX x kk) HL.out, sP_len, HMM.out]; omega
      obtain ⟨A7, n7, c7, rfl⟩ := hv7.form
      obtain rfl : n7 = M + 16 := by have := Bs.lenEq hv7; omega
      have hc7 : M + 16 ≤ c7 := by obtain ⟨_, _, e, h, _⟩ := hv7; injection e with _ _ e3; omega
      obtain ⟨zb, zo, rfl⟩ := addrOf hv7 (by omega)
      have c8 := cutOn2 hv7.bs M (by omega) 16 (c7 - M) (by omega) rfl
      have e8 : codeO k b = (sealO k Z16 (lastX x kk)).drop M := by unfold codeO; rw [if_pos Lk.out, ← HX.out, ← HKK.out, HM.out, Nat.add_sub_cancel]
      rw [← e8] at c8
      have Hfin := Lib.hid (show Bs w7 w7.heap.size (.slice (some ⟨zb, zo + M, none⟩) 16 (c7 - M)) (codeO k b) ∧ Below w.heap.size w w7 from ⟨c8, HBw.out.trans (hb7.mono HBw.out.size)⟩)
      have n3 : ¬ c7 = M := by omega
      have n2 : (M : Int) ≤ (M : Int) + 16 := by omega
      clear c8 e8 hv7 hb7 hl7
      have hw : wrap64 (M : Int) = M := IntWalk.wrap64_in _ (by omega)
      go_wp2_with fail
      go_ret2
      exact ⟨_, rfl, Hfin.out⟩
end Go.Proofs.YtnogcnmoeekcpaaDoor
/- modes.Check, both sides. -/
namespace Go.Proofs.YtnogcnmoeekcpaaDoor
open Go.RowKit

theorem codeO_len {k : List UInt8} (hk : k.length = 16) (b : List UInt8) : (codeO k b).length = 16 := by
  obtain ⟨m, hm⟩ := codeX_len b
  have h : (lastX (codeX b) (codeK k b)).length = 16 * (m + 1) := by rw [lastX_len _ (by omega), hm]; omega
  unfold codeO
  rw [if_pos hk, sealO_sP k Z16 _ h, List.length_drop, sP_len, hm]
  omega
theorem Bs.cutCap {w : World} {S : Nat → Prop} {A : Option Addr} {n c : Nat} {l : List UInt8} (h : BsS w S (.slice A n c) l) (k : Nat) (hk : k ≤ l.length) : BsS w S (.slice A k k) (l.take k) := by
  obtain ⟨a, c1, e, h1, h2, h3, h4⟩ := Bs.cutTo h k hk
  have hl : (l.take k).length = k := by rw [List.length_take]; omega
  injection e with e1 e2 e3
  rw [hl] at h3
  refine ⟨a, k, by rw [hl, e1], by omega, by omega, by omega, h4⟩
def checkO (k b : List UInt8) : List UInt8 := if k.length = 16 then (codeO k b).take 8 else []
theorem check_bad (vk vb : Value) (k : List UInt8) (h : ¬ k.length = 16) (w : World) (hvk : Bs w w.heap.size vk k) :
    Calls Tryd.prog 39 #[vk, vb] w fun e w' => e = .returned (.tuple #[.slice none 0 0, .int .i64 14]) ∧ Below w.heap.size w w' := by
  have C := code_bad vk vb k h w hvk
  go_enter Tryd.func39, Tryd.ntmps39
  go_wp2_with fail
  refine C.mono ?_
  rintro e w1 ⟨rfl, hB⟩
  
  go_wp2_with fail
  go_ret2
  exact ⟨rfl, hB⟩
set_option maxRecDepth 100000 in
set_option maxHeartbeats 1000000 in
theorem check_good (vk vb : Value) (k b : List UInt8) (hk : k.length = 16) (hl : b.length ≤ 140737488351232) (w : World) (hvk : Bs w w.heap.size vk k) (hvb : Bs w w.heap.size vb b) :
    Calls Tryd.prog 39 #[vk, vb] w fun e w' => ∃ v', e = .returned (.tuple #[v', .int .i64 0]) ∧ Bs w' w'.heap.size v' ((codeO k b).take 8) ∧ Below w.heap.size w w' := by
  have C := Lib.hid (code_good vk vb k b hk hl w hvk hvb)
  have L := Lib.hid (codeO_len hk b)
  clear hvk hvb hk hl
  go_enter Tryd.func39, Tryd.ntmps39
  go_wp2_with fail
  refine C.out.mono ?_
  rintro e w1 ⟨v1, rfl, hv0, hB⟩
  have hv1 : Bs w1 w1.heap.size v1 (codeO k b) := hv0.bs
  clear hv0
  obtain ⟨A1, n1, c1, rfl⟩ := hv1.form
  obtain rfl : n1 = 16 := by rw [Bs.lenEq hv1]; exact L.out
  have hc1 : 16 ≤ c1 := by obtain ⟨_, _, e, h, _⟩ := hv1; rw [L.out] at h; injection e with _ _ e3; omega
  have Hfin := Lib.hid (show Bs w1 w1.heap.size (.slice A1 8 8) ((codeO k b).take 8) ∧ Below w.heap.size w w1 from ⟨Bs.cutCap hv1 8 (by rw [L.out]; omega), hB⟩)
  clear hv1 hB
  have n1 : (8 : Int) ≤ c1 := by omega
  have n2 : 8 ≤ c1 := by omega
  go_wp2_with fail
  go_ret2
  exact ⟨_, rfl, Hfin.out⟩
theorem rcheck_bad (vk vb : Value) (k : List UInt8) (h : ¬ k.length = 16) (w : World) (hvk : Bs w w.heap.size vk k) :
    Calls Tryd.prog 44 #[vk, vb] w fun e w' => e = .returned (.tuple #[.slice none 0 0, .int .i64 14]) ∧ Below w.heap.size w w' := by
  have C := rcode_bad vk vb k h w hvk
  go_enter Tryd.func44, Tryd.ntmps44
  go_wp2_with fail
  refine C.mono ?_
  rintro e w1 ⟨rfl, hB⟩
  subst hB
  go_wp2_with fail
  go_ret2
  exact ⟨rfl, Below.refl _ _⟩
set_option maxRecDepth 100000 in
set_option maxHeartbeats 1000000 in
theorem rcheck_good (vk vb : Value) (k b : List UInt8) (hk : k.length = 16) (hl : b.length ≤ 140737488351232) (w : World) (hvk : Bs w w.heap.size vk k) (hvb : Bs w w.heap.size vb b) :
    Calls Tryd.prog 44 #[vk, vb] w fun e w' => ∃ v', e = .returned (.tuple #[v', .int .i64 0]) ∧ Bs w' w'.heap.size v' ((codeO k b).take 8) ∧ Below w.heap.size w w' := by
  have C := Lib.hid (rcode_good vk vb k b hk hl w hvk hvb)
  have L := Lib.hid (codeO_len hk b)
  clear hvk hvb hk hl
  go_enter Tryd.func44, Tryd.ntmps44
  go_wp2_with fail
  refine C.out.mono ?_
  rintro e w1 ⟨v1, rfl, hv0, hB⟩
  have hv1 : Bs w1 w1.heap.size v1 (codeO k b) := hv0
  clear hv0
  obtain ⟨A1, n1, c1, rfl⟩ := hv1.form
  obtain rfl : n1 = 16 := by rw [Bs.lenEq hv1]; exact L.out
  have hc1 : 16 ≤ c1 := by obtain ⟨_, _, e, h, _⟩ := hv1; rw [L.out] at h; injection e with _ _ e3; omega
  have Hfin := Lib.hid (show Bs w1 w1.heap.size (.slice A1 8 c1) ((codeO k b).take 8) ∧ Below w.heap.size w w1 from ⟨Bs.cutTo hv1 8 (by rw [L.out]; omega), hB⟩)
  clear hv1 hB
  have n1 : (8 : Int) ≤ c1 := by omega
  have n2 : 8 ≤ c1 := by omega
  go_wp2_with fail
  go_ret2
  exact ⟨_, rfl, Hfin.out⟩

end Go.Proofs.YtnogcnmoeekcpaaDoor
