/- The walk of the reference's Seal. -/
import Derived.Test.YtmpcjaoemfnjcaaSeal1
import Derived.Test.YtmpcjaoemfnjcaaEqual
import Derived.StillTailTactics
namespace Go.Proofs.Ytmpcjaoemfnjcaa
open Go.RowKit

theorem rencC (p v : Value) (k l : List UInt8) (hl : l.length = 16) (w : World) (hp : RefCipherAt w w.heap.size p (gb k)) (hv : Bs w w.heap.size v l) :
    Calls Try.prog 36 #[p, v] w fun e w' => ∃ v', e = .returned v' ∧ BsS w' (New w w') v' (encL k l) ∧ Below w.heap.size w w' := by
  have h := refEncrypt_any p v (gb k) l hl w hp hv
  rw [← encF_eq] at h
  unfold encL
  exact h
theorem rdecC (p v : Value) (k l : List UInt8) (hl : l.length = 16) (w : World) (hp : RefCipherAt w w.heap.size p (gb k)) (hv : Bs w w.heap.size v l) :
    Calls Try.prog 38 #[p, v] w fun e w' => ∃ v', e = .returned v' ∧ BsS w' (New w w') v' (decL k l) ∧ Below w.heap.size w w' := by
  have h := refDecrypt_any p v (gb k) l hl w hp hv
  rw [← decF_eq] at h
  unfold decL
  exact h
theorem RefCipherAt.mono {w : World} {B B' : Nat} {p : Value} {key : Nat → UInt8} (h : RefCipherAt w B p key) (hB : B ≤ B') : RefCipherAt w B' p key := by
  obtain ⟨cb, kv, hp, h1, h2, h3, h4, h5⟩ := h
  exact ⟨cb, kv, hp, by omega, h2, h3, h4, h5.mono hB⟩
theorem Away1 {w : World} {S : Nat → Prop} {v : Value} {l : List UInt8} (h : BsS w S v l) (hS : ∀ b, S b → b < w.heap.size → b < w.heap.size) : Bs w w.heap.size v l := h.keep fun b hs hlt => ⟨rfl, hS b hs hlt⟩
set_option maxRecDepth 100000 in
set_option maxHeartbeats 2000000 in
theorem refSeal_good (vk vi vb : Value) (k iv b : List UInt8) (m : Nat) (hk : k.length = 16) (hi : iv.length = 16) (hb : b.length = 16 * m) (w : World) (hvk : Bs w w.heap.size vk k) (hvi : Bs w w.heap.size vi iv) (hvb : Bs w w.heap.size vb b) :
    Calls Try.prog 19 #[vk, vi, vb] w fun e w' => ∃ v', e = .returned (.tuple #[v', .int .i64 0]) ∧ BsS w' (New w w') v' (sealO k iv b) ∧ Below w.heap.size w w' := by
  obtain ⟨A1, n1, c1, rfl⟩ := hvk.form
  obtain ⟨A2, n2, c2, rfl⟩ := hvi.form
  have e1 := Bs.lenEq hvk; have e2 := Bs.lenEq hvi
  rw [hk] at e1; rw [hi] at e2
  subst e1 e2
  obtain ⟨A3, c3, hvb3, hcb3, hcm3, hle3, hcell3⟩ := hvb
  rw [hb] at hvb3 hcb3 hle3
  subst hvb3
  have t1 : ((16 * (m : Int)) % 16 != 0) = false := by simp
  obtain ⟨bb, bo, hab, hbb, hcellb⟩ : ∃ bb bo, (0 < m → A3 = some ⟨bb, bo, none⟩) ∧ (0 < m → bb < w.heap.size) ∧ (0 < m → ∀ j, j < 16 * m → w.cell? ⟨bb, bo + j, none⟩ = some (U8 (gb b j))) := by
    rcases Nat.eq_zero_or_pos m with h0 | h0
    · exact ⟨0, 0, fun h => by omega, fun h => by omega, fun h => by omega⟩
    · obtain ⟨bb, bo, h1, h2, h3⟩ := hcell3 (by rw [hb]; omega)
      exact ⟨bb, bo, fun _ => h1, fun _ => h2, fun _ j hj => h3 j (by rw [hb]; exact hj)⟩
  have Hk := Lib.hid hvk; have Hi := Lib.hid hvi; have Lk := Lib.hid hk; have Li := Lib.hid hi; have Lb := Lib.hid hb; have HCB := Lib.hid hcellb; have HBB := Lib.hid hbb; have HAB := Lib.hid hab
  clear hvk hvi hk hi hb hcellb hbb hab hcell3
  go_enter Try.func19, Try.ntmps19
  go_wp2_with fail
  refine (refReady_any _ k Lk.out _ Hk.out).mono ?_
  rintro e w1 ⟨p, rfl, hp, hB1⟩
  have HP := Lib.hid hp; have HB1 := Lib.hid hB1; clear hp hB1
  have hsz1 := HB1.out.size
  go_wp2_with fail
  go_loopw [9, 10, 11] (fun lv ov i wr => ∃ kk q : Nat, kk ≤ m ∧ Hid (q = 16 * kk) ∧ i = .int .i64 q ∧ BsS wr (fun g => g < wr.heap.size ∧ ov.ownBlock ≠ some g) lv (sealS k iv b (List.range kk)).1 ∧ wr.ownsRow w1.heap.size 5 1 ov (sealS k iv b (List.range kk)).2.length ((sealS k iv b (List.range kk)).2.map U8) ∧ Below w1.heap.size w1 wr) (fun _ _ i _ => 16 * m - (intOf i).toNat)
  case atStart => exact ⟨0, 0, Nat.zero_le _, rfl, rfl, BsS.keep Hi.out fun g hg _ => ⟨HB1.out.block g hg, by omega, by simp [Value.ownBlock]⟩, World.ownsRow_nil _ _ _ _, Below.refl _ _⟩
  case round =>
    obtain ⟨kk, q, hkk, hq, rfl, hlv, hown, hB⟩ := hrel
    obtain ⟨wo, rfl⟩ : ∃ wo : World, wo = wr := ⟨_, rfl⟩
    obtain ⟨l1, l2⟩ := seal_one (k := k) (b := b) Li.out (List.range kk)
    obtain ⟨s, hs⟩ : ∃ s, s = sealS k iv b (List.range kk) := ⟨_, rfl⟩
    rw [← hs] at hlv hown l1 l2
    rw [List.length_range] at l2
    by_cases hlt : kk < m
    · have hq0 : (q : Int) + 16 ≤ 16 * m := by have := hq.out; omega
      have hd : decide ((q : Int) < 16 * m) = true := by simp; omega
      obtain ⟨Al, nl, cl, rfl⟩ := hlv.form
      have hnl := Bs.lenEq hlv
      rw [l1] at hnl
      subst hnl
      obtain ⟨al, _, hvl, _, _, _, hcl⟩ := hlv
      injection hvl with hal h2 h3
      subst hal
      clear h2 h3
      obtain ⟨lb, lo, rfl, hlb, hcl⟩ := hcl (by omega)
      rw [l1] at hcl
      have hm : 0 < m := by omega
      have hbb := HBB.out hm
      obtain rfl := HAB.out hm
      have hcx : ∀ j, j < 16 → wo.cell? ⟨bb, bo + (q + j), none⟩ = some (U8 (gb (blk b kk) j)) := fun j hj => by
        have h1 := HCB.out hm (16 * kk + j) (by omega)
        rw [blk_get _ _ _ hj, hq.out]
        exact ((hB.cell (p := ⟨bb, bo + (16 * kk + j), none⟩) (by simp; omega)).trans (HB1.out.cell (p := ⟨bb, bo + (16 * kk + j), none⟩) (by simpa using hbb))).trans h1
      have HX := Lib.hid hcx; have HL := Lib.hid hcl; have Hown := Lib.hid hown; have HB := Lib.hid hB; have L1 := Lib.hid l1; have L2 := Lib.hid l2; have HS := Lib.hid hs; have Hnew := Lib.hid (arrNew wo); have HLB := Lib.hid hlb
      clear hcx hcl hown hB l1 l2 hs hlb
      go_wp2_with fail
      go_loopw [13] (fun v wi => ∃ n : Nat, n ≤ 16 ∧ v = .int .i64 n ∧ wi.rowIs wo.heap.size 47 16 (fun j => U8 (upto n (fun j => gb (blk b kk) j ^^^ gb s.1 j) (fun _ => 0) j)) ∧ Below wo.heap.size wo wi) (fun v _ => 16 - (intOf v).toNat)
      case atStart => exact ⟨0, by omega, rfl, row_upto_zero Hnew.out _, (Below.refl _ _).alloc (Nat.le_refl _) _⟩
      case round =>
        obtain ⟨n, hn, rfl, hr, hb⟩ := hrel
        by_cases hlt2 : n < 16
        · have c1 := row_upto_cell hr hlt2
          have f1 := hr.frozen n
          have c2 : wr.cell? ⟨bb, bo + (q + n), none⟩ = some (U8 (gb (blk b kk) n)) := (hb.cell (p := ⟨bb, bo + (q + n), none⟩) (by have := HB.out.size; simp; omega)).trans (HX.out n hlt2)
          have c3 : wr.cell? ⟨lb, lo + n, none⟩ = some (U8 (gb s.1 n)) := (hb.cell (p := ⟨lb, lo + n, none⟩) (HLB.out.1)).trans (HL.out n hlt2)
          have HR := Lib.hid hr; have Hb := Lib.hid hb; clear hr hb
          have n1 : (n : Int) < 16 := by omega
          have n2 : (0 : Int) ≤ q + n := by omega
          have n3 : (q : Int) + n < 16 * m := by omega
          have n4 : ((q : Int) + n).toNat = q + n := by omega
          have hd2 : decide ((n : Int) < 16) = true := by simp; omega
          have s0 : Value.int .i64 (IntKind.i64.wrap ((q : Int) + n)) = .int .i64 (q + n) := by rw [IntWalk.i64_in _ (by omega)]
          go_wp2
          refine wp_region_still_tail 13 (by kernel_rfl) (by kernel_rfl) ?_
          simp only [List.take_succ_cons, List.take_zero, List.drop_succ_cons, List.drop_zero]
          repeat (refine wpStill_step (fun K hK => ?_); go_simp; (try go_bits); refine hK _ ?_; clear hK K)
          refine wpStill_nil ?_
          go_wp2
          go_roundw
          case rel => exact ⟨n + 1, by omega, by go_num, (row_upto_set HR.out rfl).drew, (Hb.out.setCell (by simp) _).drew⟩
          case measure => simp [intOf] <;> omega
        · have hn16 : n = 16 := by omega
          subst hn16
          have hr2 := row_upto_full hr (Nat.le_refl _)
          have hT := HB.out.trans (hb.mono HB.out.size)
          have hcip := (HP.out.below hT).mono hT.size
          have hvx : Bs wr wr.heap.size (.slice (some ⟨wo.heap.size, 0, none⟩) 16 16) (xorL (blk b kk) s.1) := Bs.of_row hr2 (by omega)
          have HT := Lib.hid hT; have Hcip := Lib.hid hcip; have Hvx := Lib.hid hvx; have Hb := Lib.hid hb
          clear hr hr2 hT hcip hvx hb
          go_wp2_with fail
          refine (rencC p _ k (xorL (blk b kk) s.1) (xorL_len _ _) _ Hcip.out Hvx.out).mono ?_
          rintro e W2 ⟨v2, rfl, hv2, hB2⟩
          obtain ⟨Aj, nj, cj, rfl⟩ := hv2.form
          have hnj : nj = 16 := by have := Bs.lenEq hv2; rw [encL_len] at this; exact this
          subst hnj
          have hbo2 : Below wo.heap.size wo W2 := Hb.out.trans (hB2.mono Hb.out.size)
          have hown2 := own_below Hown.out hbo2
          have hsrc2 := hv2.src.2
          have l3 : s.2.length + 16 ≤ 140737488355328 := by have := L2.out; omega
          have hbase2 : w1.heap.size ≤ W2.heap.size := Nat.le_trans HT.out.size hB2.size
          have hdis : BsS W2 (fun g => wo.heap.size ≤ g ∧ g < W2.heap.size) (.slice Aj 16 cj) (encL k (xorL (blk b kk) s.1)) := hv2.keep fun g hg _ => ⟨rfl, Nat.le_trans Hb.out.size hg.1, hg.2⟩
          have Hown2 := Lib.hid hown2; have Hsrc2 := Lib.hid hsrc2; have Hdis := Lib.hid hdis; have HT2 := Lib.hid (HT.out.trans (hB2.mono HT.out.size)); have Hbase2 := Lib.hid hbase2
          clear hown2 hsrc2 hdis hv2 hB2 hbo2 hbase2
          go_wp2_with (at_builtin; (with_reducible refine wpList_append1 _ rfl (.tmp 55) (.tmp 56) 22 rfl w1.heap.size 5 (.int .u8 0) 1 Try.underlying22 infoU8 rfl (by omega) u10 s.2.length (s.2.map U8) rfl Hown2.out Aj 16 cj ((encL k (xorL (blk b kk) s.1)).map U8) rfl Hsrc2.out (by omega) Hbase2.out ?_); intro v4 W4 hown4 hg4 hat4 _)
          have hlast : BsS W4 (fun g => g < W4.heap.size ∧ v4.ownBlock ≠ some g) (.slice Aj 16 cj) (encL k (xorL (blk b kk) s.1)) := BsS.keep Hdis.out fun g hg hlt => by
            have hne : u10.ownBlock ≠ some g := fun e => by have := (Hown.out.lt g e).2; have := hg.1; omega
            refine ⟨hg4.block g hlt (fun e => hne e.symm), by have := hg4.size; omega, ?_⟩
            rcases hat4 with e | e
            · rw [e]; exact hne
            · rw [e]; intro h; injection h with h; omega
          have hbw := below_append Hown2.out hg4 (Nat.le_refl _) Hbase2.out
          go_roundw
          case rel =>
            refine ⟨kk + 1, q + 16, by omega, by have := hq.out; unfold Hid; omega, by go_num, ?_, ?_, HT2.out.trans hbw⟩
            · rw [List.range_succ, sealS_snoc, ← HS.out]; exact hlast
            · rw [List.range_succ, sealS_snoc, ← HS.out]
              show World.ownsRow _ _ _ _ _ (s.2 ++ encL k (xorL (blk b kk) s.1)).length ((s.2 ++ encL k (xorL (blk b kk) s.1)).map U8)
              rw [List.length_append, encL_len, List.map_append]
              exact hown4
          case measure => simp [intOf] <;> omega
    · have hkm : kk = m := by omega
      subst hkm
      have hd : decide ((q : Int) < 16 * kk) = false := by have := hq.out; simp; omega
      have hge : ¬ (q : Int) < 16 * kk := by have := hq.out; omega
      have e : s.2 = sealO k iv b := by
        unfold sealO
        rw [Lb.out, Nat.mul_div_cancel_left _ (by omega), ← hs]
      have l3 : s.2.length ≤ 140737488355328 := by omega
      rw [e] at hown l3
      have Hown := Lib.hid hown; have HB := Lib.hid hB
      clear hown hB e hs l2 l1 hlv
      go_wp2
      go_ret2
      exact ⟨_, rfl, (BsS.of_own Hown.out l3).keep fun g hg _ => ⟨rfl, by have := hg.1; omega, hg.2⟩, HB1.out.trans (HB.out.mono hsz1)⟩
end Go.Proofs.Ytmpcjaoemfnjcaa
