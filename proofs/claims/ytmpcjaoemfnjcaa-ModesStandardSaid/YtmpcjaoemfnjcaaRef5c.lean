/- The walk of the reference's expand. -/
import Derived.Test.YtmpcjaoemfnjcaaRef5b
import Derived.Test.YtmpcjaoemfnjcaaAes4
import Derived.Test.YtmpcjaoemfnjcaaLists
import Derived.Deep.RegionHeld3
import Derived.Deep.DeepMust
namespace Go.Proofs.Ytmpcjaoemfnjcaa
open Go.RowKit

/-! The keys, byte by byte. -/
theorem tms_two (a : UInt8) : tms a 2 = dbl a := by
  refine forall_u8 (p := fun a => tms a 2 = dbl a) ?_ a
  decide +kernel
theorem kwF_skip (T old : Nat → UInt8) (c : UInt8) (k r n : Nat) (h : ∀ j, j < n → ¬ r = (k + j) % 4) : kwF T old c (k + n) r = kwF T old c k r := by
  induction n with
  | zero => rfl
  | succ n ih =>
    rw [← Nat.add_assoc, kwF_miss _ _ _ _ _ (h n (by omega)), ih fun j hj => h j (by omega)]
theorem nextK_lo (T old : Nat → UInt8) (c : UInt8) (k : Nat) (hk : k < 4) : nextK T old c k = kw0 T old c k ^^^ old k := by
  unfold nextK
  rw [kwF_hit _ _ _ _ _ rfl, Nat.mod_eq_of_lt hk]
  have := kwF_skip T old c 0 k k fun j hj => by omega
  rw [Nat.zero_add] at this
  rw [this]; rfl
theorem nextK_hi (T old : Nat → UInt8) (c : UInt8) (k : Nat) : nextK T old c (k + 4) = nextK T old c k ^^^ old (k + 4) := by
  unfold nextK
  rw [kwF_hit _ _ _ _ _ rfl, show (k + 4) % 4 = k % 4 by omega]
  have := kwF_skip T old c (k + 1) (k % 4) 3 fun j hj => by omega
  rw [← this]
theorem keysF_first (T key : Nat → UInt8) (j : Nat) (h : j < 16) : keysF T key j = key j := by
  unfold keysF
  rw [Nat.div_eq_of_lt h, Nat.mod_eq_of_lt h]; rfl
theorem keysF_hi (T key : Nat → UInt8) (n k : Nat) (h4 : 4 ≤ n) (hn : ¬ n % 4 = 0) (hk : k < 4) : keysF T key (4 * n + k) = keysF T key (4 * n - 16 + k) ^^^ keysF T key (4 * n - 4 + k) := by
  obtain ⟨i, hi⟩ : ∃ i, (4 * n + k) / 16 = i + 1 := ⟨(4 * n + k) / 16 - 1, by omega⟩
  unfold keysF
  rw [hi, show (4 * n - 16 + k) / 16 = i by omega, show (4 * n - 4 + k) / 16 = i + 1 by omega, show (4 * n - 16 + k) % 16 = (4 * n - 4 + k) % 16 + 4 by omega, show (4 * n + k) % 16 = (4 * n - 4 + k) % 16 + 4 by omega]
  show nextK _ _ _ _ = _
  rw [nextK_hi, UInt8.xor_comm]
  rfl
theorem keysF_lo (T key : Nat → UInt8) (n k : Nat) (h4 : 4 ≤ n) (hn : n % 4 = 0) (hk : k < 4) : keysF T key (4 * n + k) = keysF T key (4 * n - 16 + k) ^^^ kw0 T (fun j => keysF T key (4 * n - 16 + j)) (rconF ((n - 1) / 4)) k := by
  obtain ⟨i, hi⟩ : ∃ i, n / 4 = i + 1 := ⟨n / 4 - 1, by omega⟩
  have e : ∀ j, j < 16 → keysF T key (4 * n - 16 + j) = keyF T key i j := fun j hj => by
    unfold keysF
    rw [show (4 * n - 16 + j) / 16 = i by omega, show (4 * n - 16 + j) % 16 = j by omega]
  have e2 : keysF T key (4 * n + k) = nextK T (keyF T key i) (rconF i) k := by
    unfold keysF
    rw [show (4 * n + k) / 16 = i + 1 by omega, show (4 * n + k) % 16 = k by omega]
    rfl
  rw [e2, nextK_lo _ _ _ _ hk, e k (by omega), UInt8.xor_comm, show (n - 1) / 4 = i by omega]
  unfold kw0
  dsimp only
  rw [e 13 (by omega), e 14 (by omega), e 15 (by omega), e 12 (by omega)]
theorem own_other {w : World} {base : Nat} {e : TypeId} {g n cap : Nat} {xs : List Value} (h : w.ownsRow base e 1 (.slice (some ⟨g, 0, none⟩) n cap) n xs) {p : Addr} (hne : g ≠ p.block) (u : Value) : (w.setCell p u).ownsRow base e 1 (.slice (some ⟨g, 0, none⟩) n cap) n xs :=
  h.kept (row := some p.block) ⟨rfl, rfl, rfl, by simp [World.setCell], fun k _ hk => Below.heap_setCell _ _ _ _ (by rintro rfl; exact hk rfl)⟩ (.inr (by intro e; exact hne (by simpa [Value.ownBlock] using e)))
theorem own_row_ne {w : World} {base : Nat} {e t : TypeId} {g n cap b k : Nat} {xs : List Value} {f : Nat → Value} (h : w.ownsRow base e 1 (.slice (some ⟨g, 0, none⟩) n cap) n xs) (hr : w.rowIs b t k f) (hne : e ≠ t) : g ≠ b := by
  rintro rfl
  obtain ⟨c, hb, _⟩ := hr
  rcases h.2 with ⟨h2, _⟩ | ⟨g', cap', cur, hv, _, hh, _⟩
  · cases h2
  · injection hv with hv
    injection hv with hv
    injection hv with hv
    subst hv
    rw [hb] at hh
    injection hh with hh
    injection hh with _ ht
    exact hne ht.symm
theorem bList_congr {n : Nat} {f g : Nat → UInt8} (h : ∀ j, j < n → f j = g j) : bList n f = bList n g := by
  unfold bList
  exact List.map_congr_left fun j hj => h j (by simpa using hj)
theorem bList_succ (n : Nat) (f : Nat → UInt8) : bList (n + 1) f = bList n f ++ [f n] := by unfold bList; rw [List.range_succ, List.map_append]; rfl

set_option maxRecDepth 100000 in
set_option maxHeartbeats 2000000 in
theorem refExpand_any (tb : Nat) (T : Nat → UInt8) (v : Value) (l : List UInt8) (hl : l.length = 16) (w : World) (hT : ArrB w tb 0 256 T) (htb : tb < w.heap.size) (hv : Bs w w.heap.size v l) :
    Calls Try.prog 48 #[v, .pointer (some ⟨tb, 0, none⟩)] w fun e w' => ∃ v', e = .returned v' ∧ LBsS w' (New w w') v' ((List.range 11).map fun i => bList 16 fun j => keysF T (gb l) (16 * i + j)) ∧ Below w.heap.size w w' := by
  have hlen := hv.len
  obtain ⟨a, c, hve, hlc, hc, _, hcell⟩ := hv
  rw [hl] at hve
  subst hve
  have hv0 : Bs w w.heap.size (.slice a 16 c) l := ⟨a, c, by rw [hl], hlc, hc, hlen, hcell⟩
  have hsrc := hv0.src.2
  have hl0 : (l.map U8) = (bList 16 (keysF T (gb l))).map U8 := by
    congr 1
    exact ((bList_congr fun j hj => keysF_first _ _ _ hj).trans (bList_of l 16 hl)).symm
  rw [hl0] at hsrc
  obtain ⟨K, hK⟩ : ∃ K, K = keysF T (gb l) := ⟨_, rfl⟩
  rw [← hK] at hsrc ⊢
  have HK := Lib.hid hK; have Hsrc := Lib.hid hsrc; have HT := Lib.hid hT
  clear hK hsrc hT hcell hv0 hl0 hlen hlc hl
  have h0 : w.ownsRow w.heap.size 5 1 (.slice none 0 0) 0 [] := World.ownsRow_nil _ _ _ _
  go_enter Try.func48, Try.ntmps48
  go_wp2_with (at_builtin; (with_reducible refine wpList_append1 _ rfl (.const (.slice none 0 0)) (.tmp 12) 22 rfl w.heap.size 5 (.int .u8 0) 1 Try.underlying22 infoU8 rfl (by omega) (.slice none 0 0) 0 [] rfl h0 a 16 c ((bList 16 K).map U8) rfl Hsrc.out (by omega) (Nat.le_refl _) ?_); intro v1 w1 hown1 hg1 _ _)
  have hb1 := below_append h0 hg1 (Nat.le_refl _) (Nat.le_refl _)
  clear h0
  go_loopw [5, 6, 7] (fun o rc i wr => ∃ n : Nat, 4 ≤ n ∧ n ≤ 44 ∧ i = .int .i64 n ∧ rc = .int .i64 (bv (rconF ((n - 1) / 4))) ∧ wr.ownsRow w.heap.size 5 1 o (4 * n) ((bList (4 * n) K).map U8) ∧ Below w.heap.size w wr) (fun _ _ i _ => 44 - (intOf i).toNat)
  case atStart => exact ⟨4, by omega, by omega, rfl, rfl, by simpa using hown1, hb1⟩
  case round =>
    clear hown1 hb1
    obtain ⟨n, h4, hn, rfl, rfl, hown, hb⟩ := hrel
    by_cases hlt : n < 44
    · obtain ⟨wo, rfl⟩ : ∃ wo : World, wo = wr := ⟨_, rfl⟩
      obtain ⟨g, cap, rfl, hg, hgl⟩ := hown.form (by omega)
      have hcl : ∀ j, j < 4 * n → wo.cell? ⟨g, j, none⟩ = some (U8 (K j)) := fun j hj => by
        rw [hown.cellAt j (by omega), mapU8_get _ _ (by rw [bList_len]; exact hj), bList_getD _ _ _ hj]
      have c0 := hcl (4 * n - 4) (by omega)
      have c1 := hcl (4 * n - 3) (by omega)
      have c2 := hcl (4 * n - 2) (by omega)
      have c3 := hcl (4 * n - 1) (by omega)
      have i0 : (4 : Int) * n - 4 < 4 * n := by omega
      have i1 : (4 : Int) * n - 3 < 4 * n := by omega
      have i2 : (4 : Int) * n - 2 < 4 * n := by omega
      have i3 : (4 : Int) * n - 1 < 4 * n := by omega
      have q0 : (4 : Int) ≤ 4 * n := by omega
      have q1 : (3 : Int) ≤ 4 * n := by omega
      have q2 : (2 : Int) ≤ 4 * n := by omega
      have q3 : (1 : Int) ≤ 4 * n := by omega
      have m0 : (0 : Int) ≤ 4 * n - 4 := by omega
      have m1 : (0 : Int) ≤ 4 * n - 3 := by omega
      have m2 : (0 : Int) ≤ 4 * n - 2 := by omega
      have m3 : (0 : Int) ≤ 4 * n - 1 := by omega
      obtain ⟨x0, e0⟩ : ∃ x, x = K (4 * n - 4) := ⟨_, rfl⟩
      obtain ⟨x1, e1⟩ : ∃ x, x = K (4 * n - 3) := ⟨_, rfl⟩
      obtain ⟨x2, e2⟩ : ∃ x, x = K (4 * n - 2) := ⟨_, rfl⟩
      obtain ⟨x3, e3⟩ : ∃ x, x = K (4 * n - 1) := ⟨_, rfl⟩
      rw [← e0] at c0
      rw [← e1] at c1
      rw [← e2] at c2
      rw [← e3] at c3
      have E0 := Lib.hid e0; have E1 := Lib.hid e1; have E2 := Lib.hid e2; have E3 := Lib.hid e3
      have Hown := Lib.hid hown; have Hb := Lib.hid hb; have Hcl := Lib.hid hcl
      clear e0 e1 e2 e3 hown hb hcl
      go_wp2
      have s0 : Value.int .i64 (IntKind.i64.wrap (4 * (n : Int))) = .int .i64 (4 * n) := by rw [IntWalk.i64_in _ (by omega)]
      have s1 : Value.int .i64 (IntKind.i64.wrap (4 * (n : Int) - 4)) = .int .i64 (4 * n - 4) := by rw [IntWalk.i64_in _ (by omega)]
      have s2 : Value.int .i64 (IntKind.i64.wrap (4 * (n : Int) - 3)) = .int .i64 (4 * n - 3) := by rw [IntWalk.i64_in _ (by omega)]
      have s3 : Value.int .i64 (IntKind.i64.wrap (4 * (n : Int) - 2)) = .int .i64 (4 * n - 2) := by rw [IntWalk.i64_in _ (by omega)]
      have s4 : Value.int .i64 (IntKind.i64.wrap (4 * (n : Int) - 1)) = .int .i64 (4 * n - 1) := by rw [IntWalk.i64_in _ (by omega)]
      have t1 : (4 * (n : Int) - 4).toNat = 4 * n - 4 := by omega
      have t2 : (4 * (n : Int) - 3).toNat = 4 * n - 3 := by omega
      have t3 : (4 * (n : Int) - 2).toNat = 4 * n - 2 := by omega
      have t4 : (4 * (n : Int) - 1).toNat = 4 * n - 1 := by omega
      go_region_held3 (fun W => W.cell? ⟨g, 4 * n - 4, none⟩ = some (U8 x0) ∧ W.cell? ⟨g, 4 * n - 3, none⟩ = some (U8 x1) ∧ W.cell? ⟨g, 4 * n - 2, none⟩ = some (U8 x2) ∧ W.cell? ⟨g, 4 * n - 1, none⟩ = some (U8 x3)) (go_keep) (fail)
      clear s0 s1 s2 s3 s4 t1 t2 t3 t4 i0 i1 i2 i3 q0 q1 q2 q3 m0 m1 m2 m3 c0 c1 c2 c3
      have hblk : wo.heap.size < (wo.alloc (.cells #[U8 x0, U8 x1, U8 x2, U8 x3] 64)).heap.size := by simp
      have hrow : (wo.alloc (.cells #[U8 x0, U8 x1, U8 x2, U8 x3] 64)).rowIs wo.heap.size 64 4 (fun r => U8 (K (4 * n - 4 + r))) := by
        refine ⟨_, heap_alloc_new _ _, rfl, fun i hi => ?_⟩
        dsimp only
        rcases i with _ | _ | _ | _ | i
        · rw [Nat.add_zero, ← E0.out]; rfl
        · rw [show 4 * n - 4 + (0 + 1) = 4 * n - 3 by omega, ← E1.out]; rfl
        · rw [show 4 * n - 4 + (0 + 1 + 1) = 4 * n - 2 by omega, ← E2.out]; rfl
        · rw [show 4 * n - 4 + (0 + 1 + 1 + 1) = 4 * n - 1 by omega, ← E3.out]; rfl
        · omega
      have hown1 := Hown.out.alloc (.cells #[U8 x0, U8 x1, U8 x2, U8 x3] 64)
      have hb1 := Hb.out.alloc Hb.out.size (.cells #[U8 x0, U8 x1, U8 x2, U8 x3] 64)
      have hsz := Hb.out.size
      have hgne : g ≠ wo.heap.size := by omega
      have hrow := hrow.drew
      have hown1 := hown1.drew
      have hb1 := hb1.drew
      obtain ⟨w5, hw5⟩ : ∃ w5, w5 = (wo.alloc (.cells #[U8 x0, U8 x1, U8 x2, U8 x3] 64)).drew := ⟨_, rfl⟩
      have hTr : ArrB w5 tb 0 256 T := by rw [hw5]; exact ArrB.of_block ((HT.out.of_block (Hb.out.block tb htb)).alloc _) rfl
      rw [← hw5] at hrow hown1 hb1 ⊢
      have htg : tb ≠ wo.heap.size := by omega
      clear hw5 hblk
      have Hcl' := Hcl
      by_cases hm : n % 4 = 0
      · have hd : ((n : Int) % 4 == 0) = true := by simp; omega
        have t0 := hTr.at_ x0.toNat_lt
        have t1 := hTr.at_ x1.toNat_lt
        have t2 := hTr.at_ x2.toNat_lt
        have t3 := hTr.at_ x3.toNat_lt
        rw [Nat.zero_add] at t0 t1 t2 t3
        have b0 := bv_nn x0
        have b1 := bv_nn x1
        have b2 := bv_nn x2
        have b3 := bv_nn x3
        have d0 := bv_lt x0
        have d1 := bv_lt x1
        have d2 := bv_lt x2
        have d3 := bv_lt x3
        have c0 := hrow.cell (i := 0) (by omega)
        have c1 := hrow.cell (i := 1) (by omega)
        have c2 := hrow.cell (i := 2) (by omega)
        have c3 := hrow.cell (i := 3) (by omega)
        rw [Nat.add_zero, ← E0.out] at c0
        rw [show 4 * n - 4 + 1 = 4 * n - 3 by omega, ← E1.out] at c1
        rw [show 4 * n - 4 + 2 = 4 * n - 2 by omega, ← E2.out] at c2
        rw [show 4 * n - 4 + 3 = 4 * n - 1 by omega, ← E3.out] at c3
        have f0 := hrow.frozen 0
        have f1 := hrow.frozen 1
        have f2 := hrow.frozen 2
        have f3 := hrow.frozen 3
        go_wp2
        refine wp_region_still_tail 28 (by kernel_rfl) (by kernel_rfl) ?_
        simp only [List.take_succ_cons, List.take_zero, List.drop_succ_cons, List.drop_zero]
        repeat (refine wpStill_step (fun K hK => ?_); go_simp; (try go_bits); refine hK _ ?_; clear hK K)
        refine wpStill_nil ?_
        go_wp2_with fail
        have hrow6 : (((((w5.setCell ⟨wo.heap.size, 0, none⟩ (U8 (T x1.toNat ^^^ rconF ((n - 1) / 4)))).setCell ⟨wo.heap.size, 1, none⟩ (U8 (T x2.toNat))).setCell ⟨wo.heap.size, 2, none⟩ (U8 (T x3.toNat))).setCell ⟨wo.heap.size, 3, none⟩ (U8 (T x0.toNat))).drew).rowIs wo.heap.size 64 4
            (fun r => U8 (kw0 T (fun j => K (4 * n - 16 + j)) (rconF ((n - 1) / 4)) r)) :=
          ((((hrow.set 0 _).set 1 _).set 2 _).set 3 _).drew.congr fun r hr => by
            unfold kw0
            dsimp only
            rw [show 4 * n - 16 + 13 = 4 * n - 3 by omega, show 4 * n - 16 + 14 = 4 * n - 2 by omega, show 4 * n - 16 + 15 = 4 * n - 1 by omega, show 4 * n - 16 + 12 = 4 * n - 4 by omega, ← E0.out, ← E1.out, ← E2.out, ← E3.out]
            rcases r with _ | _ | _ | _ | r
            · rfl
            · rfl
            · rfl
            · rfl
            · omega
        have hown6 := ((((own_other hown1 (p := ⟨wo.heap.size, 0, none⟩) hgne (U8 (T x1.toNat ^^^ rconF ((n - 1) / 4)))) |> fun h => own_other h (p := ⟨wo.heap.size, 1, none⟩) hgne (U8 (T x2.toNat))) |> fun h => own_other h (p := ⟨wo.heap.size, 2, none⟩) hgne (U8 (T x3.toNat))) |> fun h => own_other h (p := ⟨wo.heap.size, 3, none⟩) hgne (U8 (T x0.toNat))).drew
        have hb6 := ((((hb1.setCell (p := ⟨wo.heap.size, 0, none⟩) hsz (U8 (T x1.toNat ^^^ rconF ((n - 1) / 4)))).setCell (p := ⟨wo.heap.size, 1, none⟩) hsz (U8 (T x2.toNat))).setCell (p := ⟨wo.heap.size, 2, none⟩) hsz (U8 (T x3.toNat))).setCell (p := ⟨wo.heap.size, 3, none⟩) hsz (U8 (T x0.toNat))).drew
        have Hrow6 := Lib.hid hrow6; have Hown6 := Lib.hid hown6; have Hb6 := Lib.hid hb6
        clear hrow6 hown6 hb6 hrow hown1 hb1 t0 t1 t2 t3 c0 c1 c2 c3 f0 f1 f2 f3 b0 b1 b2 b3 d0 d1 d2 d3 hTr
        refine (times_at _ 2 _ _ rfl rfl _).mono ?_
        rintro e w' ⟨rfl, rfl⟩
        go_wp2
        go_loopw [5, 9] (fun o k wi => ∃ m : Nat, m ≤ 4 ∧ k = .int .i64 m ∧ wi.ownsRow w.heap.size 5 1 o (4 * n + m) ((bList (4 * n + m) K).map U8) ∧ wi.rowIs wo.heap.size 64 4 (fun r => U8 (kw0 T (fun j => K (4 * n - 16 + j)) (rconF ((n - 1) / 4)) r)) ∧ Below w.heap.size w wi) (fun _ k _ => 4 - (intOf k).toNat)
        case atStart => exact ⟨0, by omega, rfl, Hown6.out, Hrow6.out, Hb6.out⟩
        case round =>
          obtain ⟨m, hm4, rfl, hown, hrow, hb⟩ := hrel
          by_cases hlt' : m < 4
          · obtain ⟨g2, cap2, rfl, hg2, hgl2⟩ := hown.form (by omega)
            have hx := hrow.cell (i := m) hlt'
            have hy : wr.cell? ⟨g2, 4 * n - 16 + m, none⟩ = some (U8 (K (4 * n - 16 + m))) := by
              rw [hown.cellAt _ (by omega), mapU8_get _ _ (by rw [bList_len]; omega), bList_getD _ _ _ (by omega)]
            have hne := own_row_ne hown hrow (by decide)
            have z0 : (0 : Int) ≤ 4 * n - 16 + m := by omega
            have z1 : (4 : Int) * n - 16 + m < 4 * n + m := by omega
            have z2 : (m : Int) < 4 := by omega
            have Hown := Lib.hid ((hown.alloc (.cells #[U8 (K (4 * n - 16 + m) ^^^ kw0 T (fun j => K (4 * n - 16 + j)) (rconF ((n - 1) / 4)) m)] 5)).drew)
            have Hrow := Lib.hid hrow; have Hb := Lib.hid hb; have Hne := Lib.hid hne
            have Hsrc := Lib.hid (show SrcAt ((wr.alloc (.cells #[U8 (K (4 * n - 16 + m) ^^^ kw0 T (fun j => K (4 * n - 16 + j)) (rconF ((n - 1) / 4)) m)] 5)).drew) (some ⟨wr.heap.size, 0, none⟩) 1 [U8 (K (4 * n - 16 + m) ^^^ kw0 T (fun j => K (4 * n - 16 + j)) (rconF ((n - 1) / 4)) m)] from SrcAt.one _ _ rfl)
            clear hown hrow hb hne
            go_wp2
            have s0 : Value.int .i64 (IntKind.i64.wrap (4 * (n : Int))) = .int .i64 (4 * n) := by rw [IntWalk.i64_in _ (by omega)]
            have s1 : Value.int .i64 (IntKind.i64.wrap (4 * (n : Int) - 16)) = .int .i64 (4 * n - 16) := by rw [IntWalk.i64_in _ (by omega)]
            have s2 : Value.int .i64 (IntKind.i64.wrap (4 * (n : Int) - 16 + m)) = .int .i64 (4 * n - 16 + m) := by rw [IntWalk.i64_in _ (by omega)]
            have t1 : (4 * (n : Int) - 16 + m).toNat = 4 * n - 16 + m := by omega
            go_region_held3 (fun W => W.cell? ⟨g2, 4 * n - 16 + m, none⟩ = some (U8 (K (4 * n - 16 + m))) ∧ W.cell? ⟨wo.heap.size, m, none⟩ = some (U8 (kw0 T (fun j => K (4 * n - 16 + j)) (rconF ((n - 1) / 4)) m)))
              (first
                | go_keep
                | (refine ⟨?_, ?_⟩
                   · rw [hold7.cellAt _ (by omega), mapU8_get _ _ (by rw [bList_len]; omega), bList_getD _ _ _ (by omega)]
                   · exact (hg7.cell_far _ (by have := Hrow.out.lt; simp; omega) (by intro e; exact Hne.out (by simpa [Value.ownBlock] using e.symm))).trans ((Hrow.out.alloc _).drew.cell (i := m) hlt')))
              (((with_reducible refine step_append1 _ rfl (.tmp 80) (.tmp 93) 22 rfl w.heap.size 5 (.int .u8 0) 1 Try.underlying22 infoU8 rfl (by omega) (.slice (some ⟨g2, 0, none⟩) (4 * n + m) cap2) (4 * n + m) ((bList (4 * n + m) K).map U8) rfl Hown.out (some ⟨wr.heap.size, 0, none⟩) 1 1 [U8 (K (4 * n - 16 + m) ^^^ kw0 T (fun j => K (4 * n - 16 + j)) (rconF ((n - 1) / 4)) m)] rfl Hsrc.out (by omega) (by have := Hb.out.size; simp; omega) ?_); intro v7 w7 hown7 hg7 hat7 hold7))
            clear s0 s1 s2 t1
            have hb7 := below_append Hown.out hg7 (Nat.le_refl _) (by have := Hb.out.size; simp; omega)
            have hrow7 := ((Hrow.out.alloc (.cells #[U8 (K (4 * n - 16 + m) ^^^ kw0 T (fun j => K (4 * n - 16 + j)) (rconF ((n - 1) / 4)) m)] 5)).drew).of_block (hg7.block wo.heap.size (by have := Hrow.out.lt; simp; omega) (by intro e; exact Hne.out (by simpa [Value.ownBlock] using e.symm)))
            have hK7 : K (4 * n - 16 + m) ^^^ kw0 T (fun j => K (4 * n - 16 + j)) (rconF ((n - 1) / 4)) m = K (4 * n + m) := by rw [HK.out]; exact (keysF_lo T (gb l) n m h4 hm hlt').symm
            rw [hK7] at hown7 hb7
            clear hg7 hat7 hold7
            go_wp2
            go_roundw
            case rel => exact ⟨m + 1, by omega, by go_num, by rw [← Nat.add_assoc, bList_succ, List.map_append]; exact hown7, hrow7, (Hb.out.alloc Hb.out.size _).drew.trans hb7⟩
            case measure => simp [intOf] <;> omega
          · have hm44 : m = 4 := by omega
            subst hm44
            go_wp2
            go_roundw
            case rel => exact ⟨n + 1, by omega, by omega, by go_num, by rw [tms_two, show (n + 1 - 1) / 4 = (n - 1) / 4 + 1 by omega]; rfl, hown, hb⟩
            case measure => simp [intOf] <;> omega
      · have hd : ((n : Int) % 4 == 0) = false := by simp; omega
        have Hrow6 := Lib.hid hrow; have Hown6 := Lib.hid hown1; have Hb6 := Lib.hid hb1
        clear hrow hown1 hb1 hTr
        go_wp2
        go_loopw [5, 9] (fun o k wi => ∃ m : Nat, m ≤ 4 ∧ k = .int .i64 m ∧ wi.ownsRow w.heap.size 5 1 o (4 * n + m) ((bList (4 * n + m) K).map U8) ∧ wi.rowIs wo.heap.size 64 4 (fun r => U8 ((fun r => K (4 * n - 4 + r)) r)) ∧ Below w.heap.size w wi) (fun _ k _ => 4 - (intOf k).toNat)
        case atStart => exact ⟨0, by omega, rfl, Hown6.out, Hrow6.out, Hb6.out⟩
        case round =>
          obtain ⟨m, hm4, rfl, hown, hrow, hb⟩ := hrel
          by_cases hlt' : m < 4
          · obtain ⟨g2, cap2, rfl, hg2, hgl2⟩ := hown.form (by omega)
            have hx := hrow.cell (i := m) hlt'
            have hy : wr.cell? ⟨g2, 4 * n - 16 + m, none⟩ = some (U8 (K (4 * n - 16 + m))) := by
              rw [hown.cellAt _ (by omega), mapU8_get _ _ (by rw [bList_len]; omega), bList_getD _ _ _ (by omega)]
            have hne := own_row_ne hown hrow (by decide)
            have z0 : (0 : Int) ≤ 4 * n - 16 + m := by omega
            have z1 : (4 : Int) * n - 16 + m < 4 * n + m := by omega
            have z2 : (m : Int) < 4 := by omega
            have Hown := Lib.hid ((hown.alloc (.cells #[U8 (K (4 * n - 16 + m) ^^^ (fun r => K (4 * n - 4 + r)) m)] 5)).drew)
            have Hrow := Lib.hid hrow; have Hb := Lib.hid hb; have Hne := Lib.hid hne
            have Hsrc := Lib.hid (show SrcAt ((wr.alloc (.cells #[U8 (K (4 * n - 16 + m) ^^^ (fun r => K (4 * n - 4 + r)) m)] 5)).drew) (some ⟨wr.heap.size, 0, none⟩) 1 [U8 (K (4 * n - 16 + m) ^^^ (fun r => K (4 * n - 4 + r)) m)] from SrcAt.one _ _ rfl)
            clear hown hrow hb hne
            go_wp2
            have s0 : Value.int .i64 (IntKind.i64.wrap (4 * (n : Int))) = .int .i64 (4 * n) := by rw [IntWalk.i64_in _ (by omega)]
            have s1 : Value.int .i64 (IntKind.i64.wrap (4 * (n : Int) - 16)) = .int .i64 (4 * n - 16) := by rw [IntWalk.i64_in _ (by omega)]
            have s2 : Value.int .i64 (IntKind.i64.wrap (4 * (n : Int) - 16 + m)) = .int .i64 (4 * n - 16 + m) := by rw [IntWalk.i64_in _ (by omega)]
            have t1 : (4 * (n : Int) - 16 + m).toNat = 4 * n - 16 + m := by omega
            go_region_held3 (fun W => W.cell? ⟨g2, 4 * n - 16 + m, none⟩ = some (U8 (K (4 * n - 16 + m))) ∧ W.cell? ⟨wo.heap.size, m, none⟩ = some (U8 ((fun r => K (4 * n - 4 + r)) m)))
              (first
                | go_keep
                | (refine ⟨?_, ?_⟩
                   · rw [hold7.cellAt _ (by omega), mapU8_get _ _ (by rw [bList_len]; omega), bList_getD _ _ _ (by omega)]
                   · exact (hg7.cell_far _ (by have := Hrow.out.lt; simp; omega) (by intro e; exact Hne.out (by simpa [Value.ownBlock] using e.symm))).trans ((Hrow.out.alloc _).drew.cell (i := m) hlt')))
              (((with_reducible refine step_append1 _ rfl (.tmp 80) (.tmp 93) 22 rfl w.heap.size 5 (.int .u8 0) 1 Try.underlying22 infoU8 rfl (by omega) (.slice (some ⟨g2, 0, none⟩) (4 * n + m) cap2) (4 * n + m) ((bList (4 * n + m) K).map U8) rfl Hown.out (some ⟨wr.heap.size, 0, none⟩) 1 1 [U8 (K (4 * n - 16 + m) ^^^ (fun r => K (4 * n - 4 + r)) m)] rfl Hsrc.out (by omega) (by have := Hb.out.size; simp; omega) ?_); intro v7 w7 hown7 hg7 hat7 hold7))
            clear s0 s1 s2 t1
            have hb7 := below_append Hown.out hg7 (Nat.le_refl _) (by have := Hb.out.size; simp; omega)
            have hrow7 := ((Hrow.out.alloc (.cells #[U8 (K (4 * n - 16 + m) ^^^ (fun r => K (4 * n - 4 + r)) m)] 5)).drew).of_block (hg7.block wo.heap.size (by have := Hrow.out.lt; simp; omega) (by intro e; exact Hne.out (by simpa [Value.ownBlock] using e.symm)))
            have hK7 : K (4 * n - 16 + m) ^^^ (fun r => K (4 * n - 4 + r)) m = K (4 * n + m) := by rw [HK.out]; exact (keysF_hi T (gb l) n m h4 hm hlt').symm
            rw [hK7] at hown7 hb7
            clear hg7 hat7 hold7
            go_wp2
            go_roundw
            case rel => exact ⟨m + 1, by omega, by go_num, by rw [← Nat.add_assoc, bList_succ, List.map_append]; exact hown7, hrow7, (Hb.out.alloc Hb.out.size _).drew.trans hb7⟩
            case measure => simp [intOf] <;> omega
          · have hm44 : m = 4 := by omega
            subst hm44
            go_wp2
            go_roundw
            case rel => exact ⟨n + 1, by omega, by omega, by go_num, by rw [show (n + 1 - 1) / 4 = (n - 1) / 4 by omega], hown, hb⟩
            case measure => simp [intOf] <;> omega
    · have hd44 : decide ((n : Int) < 44) = false := by simp; omega
      obtain ⟨wo, rfl⟩ : ∃ wo : World, wo = wr := ⟨_, rfl⟩
      obtain ⟨g, cap, rfl, hg, hgl⟩ := hown.form (by omega)
      have hcap : 4 * n ≤ cap ∧ cap ≤ 9223372036854775807 := by
        rcases hown.2 with ⟨h, _⟩ | ⟨g', cap', cur, h, _, _, h1, h2, _⟩
        · cases h
        · injection h with _ _ h3
          subst h3
          exact ⟨h1, by unfold maxLen at h2; exact h2⟩
      obtain ⟨hc1, hc2⟩ := hcap
      have Hown := Lib.hid hown; have Hb := Lib.hid hb
      clear hown hb
      go_wp2
      go_loopw [10, 11] (fun o i wi => ∃ (q : Nat) (xs : List Value), q ≤ 11 ∧ i = .int .i64 q ∧ wi.ownsRow wo.heap.size 22 1 o q xs ∧ Each wi (Off wo.heap.size wi o) xs ((List.range q).map fun i => bList 16 fun j => K (16 * i + j)) ∧ Below wo.heap.size wo wi) (fun _ i _ => 11 - (intOf i).toNat)
      case atStart => exact ⟨0, [], by omega, rfl, World.ownsRow_nil _ _ _ _, Each.nil _ _, Below.refl _ _⟩
      case round =>
        obtain ⟨q, xs, hq, rfl, hown, hE, hbo⟩ := hrel
        by_cases hlt' : q < 11
        · have z0 : (0 : Int) ≤ 16 * q := by omega
          have z1 : (16 : Int) * q + 16 ≤ cap := by omega
          have z2 : (16 : Int) * q ≤ 16 * q + 16 := by omega
          have z3 : ¬ cap = 16 * q := by omega
          have z4 : (q : Int) < 11 := by omega
          have Hown2 := Lib.hid hown; have HE := Lib.hid hE; have Hbo := Lib.hid hbo
          clear hown hE hbo
          have hs8 : SrcAt wr (some ⟨g, 16 * q, none⟩) 16 ((bList 16 fun j => K (16 * q + j)).map U8) := by
            refine ⟨by simp [bList], fun _ => ⟨_, rfl, fun j u hu => ?_⟩, fun u hu => ?_⟩
            · have hj : j < 16 := by
                rcases Nat.lt_or_ge j 16 with h | h
                · exact h
                · rw [List.getElem?_eq_none (by simpa [bList] using h)] at hu; cases hu
              rw [addr_add]
              refine ((Hbo.out.cell (p := ⟨g, 16 * q + j, none⟩) hgl).trans ?_)
              rw [Hown.out.cellAt _ (by omega), mapU8_get _ _ (by rw [bList_len]; omega), bList_getD _ _ _ (by omega), ← hu, mapU8_get _ _ (by rw [bList_len]; omega), bList_getD _ _ _ (by omega)]
            · obtain ⟨b, _, rfl⟩ := List.mem_map.1 hu
              rfl
          have e16 : 16 * q + 16 - 16 * q = 16 := by omega
          have hs9 : SrcAt wr (some ⟨g, 16 * q, none⟩) (16 * q + 16 - 16 * q) ((bList 16 fun j => K (16 * q + j)).map U8) := by rw [e16]; exact hs8
          clear hs8
          have Hs8 := Lib.hid hs9; have E16 := Lib.hid e16; clear hs9 e16
          have h0 : wr.ownsRow wr.heap.size 5 1 (.slice none 0 0) 0 [] := World.ownsRow_nil _ _ _ _
          go_wp2_with (first
            | (at_builtin
               (with_reducible refine wpList_append1 _ rfl (.const (.slice none 0 0)) (.tmp 106) 22 rfl wr.heap.size 5 (.int .u8 0) 1 Try.underlying22 infoU8 rfl (by omega) (.slice none 0 0) 0 [] rfl h0 (some ⟨g, 16 * q, none⟩) (16 * q + 16 - 16 * q) (cap - 16 * q) ((bList 16 fun j => K (16 * q + j)).map U8) rfl Hs8.out (by omega) (Nat.le_refl _) ?_)
               intro v8 w8 hown8 hg8 _ _
               rw [E16.out, Nat.zero_add] at hown8
               obtain ⟨g8, cap8, rfl, hg8a, hg8b⟩ := hown8.form (by omega)
               have hb8 := below_append h0 hg8 (Nat.le_refl _) (Nat.le_refl _)
               have HV8 := Lib.hid ((BsS.of_own hown8 (by rw [bList_len]; omega)).keep (S' := Off wo.heap.size w8 u10) fun b hs _ => ⟨rfl, hs.2, fun e => by
                 have := Hown2.out.lt b e
                 have := hs.1
                 omega, by have := hs.1; have := Hbo.out.size; omega⟩)
               have HE8 := Lib.hid (HE.out.keep (w' := w8) (S' := Off wo.heap.size w8 u10) fun b hs hlt => ⟨hb8.block b hlt, by have := hb8.size; omega, hs.2⟩)
               have Hown8 := Lib.hid ((own_below Hown2.out hb8).alloc (.cells #[.slice (some ⟨g8, 0, none⟩) 16 cap8] 22))
               have Hbo8 := Lib.hid (Hbo.out.trans (hb8.mono Hbo.out.size))
               have Hsrc8 := Lib.hid (SrcAt.one (w := w8) (.slice (some ⟨g8, 0, none⟩) 16 cap8) 22 rfl)
               clear hown8 hg8 hb8)
            | (at_builtin
               (with_reducible refine wpList_append1 _ rfl (.tmp 99) (.tmp 108) 67 rfl wo.heap.size 22 (.slice none 0 0) 24 Try.underlying67 infoBytes rfl (by omega) u10 q xs rfl Hown8.out (some ⟨w8.heap.size, 0, none⟩) 1 1 [.slice (some ⟨g8, 0, none⟩) 16 cap8] rfl Hsrc8.out (by omega) (by have := Hbo8.out.size; simp; omega) ?_)
               intro v9 w9 hown9 hg9 hat9 _))
          have hE9 := ((HE8.out.snoc HV8.out).keep (w' := w8.alloc (.cells #[.slice (some ⟨g8, 0, none⟩) 16 cap8] 22)) (S' := Off wo.heap.size (w8.alloc (.cells #[.slice (some ⟨g8, 0, none⟩) 16 cap8] 22)) u10) fun b hs hlt => ⟨Below.heap_alloc _ _ _ hlt, by simp; omega, hs.2⟩).grown hg9 hat9
          have hb9 := below_append Hown8.out hg9 (Nat.le_refl _) (by have := Hbo8.out.size; simp; omega)
          go_wp2
          go_roundw
          case rel => exact ⟨q + 1, _, by omega, by go_num, hown9, by rw [List.range_succ, List.map_append]; exact hE9, (Hbo8.out.alloc Hbo8.out.size _).trans hb9⟩
          case measure => simp [intOf] <;> omega
        · have hq11 : q = 11 := by omega
          subst hq11
          go_wp2
          go_ret
          exact ⟨_, rfl, LBsS.of_own (B := w.heap.size) hown hE (fun b hs => ⟨by have := hs.2.2; have := Hb.out.size; omega, hs.1⟩) Hb.out.size, Hb.out.trans (hbo.mono Hb.out.size)⟩
end Go.Proofs.Ytmpcjaoemfnjcaa
