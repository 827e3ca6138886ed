/- The walk of the reference's expand. -/
import Derived.Test.YtnogcnmoeekcpaaDoorRef5b
import Derived.Test.YtnogcnmoeekcpaaDoorQAes6
import Derived.Test.YtnogcnmoeekcpaaDoorQSame
import Derived.Deep.RegionHeld3
import Derived.Deep.DeepMust
import Derived.Test.YtnogcnmoeekcpaaDoorRef5d
namespace Go.Proofs.YtnogcnmoeekcpaaDoor
open Go.RowKit

/-! The keys, byte by byte. -/
theorem tms_two (a : UInt8) : tms a 2 = dbl a := by
  refine forall_u8 (p := fun a => tms a 2 = dbl a) ?_ a
  decide +kernel
theorem kwF_skip (T old : Nat → UInt8) (c : UInt8) (k r n : Nat) (h : ∀ j, j < n → ¬ r = (k + j) % 4) : kwF T old c (k + n) r = kwF T old c k r := by
  induction n with
  | zero => rfl
  | succ n ih =>
    rw [← Nat.add_assoc, kwF_miss _ _ _ _ _ (h n (by omega)), ih fun j hj => h j (by omega)]
theorem nextK_lo (T old : Nat → UInt8) (c : UInt8) (k : Nat) (hk : k < 4) : nextK T old c k = kw0 T old c k ^^^ old k := by
  unfold nextK
  rw [kwF_hit _ _ _ _ _ rfl, Nat.mod_eq_of_lt hk]
  have := kwF_skip T old c 0 k k fun j hj => by omega
  rw [Nat.zero_add] at this
  rw [this]; rfl
theorem nextK_hi (T old : Nat → UInt8) (c : UInt8) (k : Nat) : nextK T old c (k + 4) = nextK T old c k ^^^ old (k + 4) := by
  unfold nextK
  rw [kwF_hit _ _ _ _ _ rfl, show (k + 4) % 4 = k % 4 by omega]
  have := kwF_skip T old c (k + 1) (k % 4) 3 fun j hj => by omega
  rw [← this]
theorem keysF_first (T key : Nat → UInt8) (j : Nat) (h : j < 16) : keysF T key j = key j := by
  unfold keysF
  rw [Nat.div_eq_of_lt h, Nat.mod_eq_of_lt h]; rfl
theorem keysF_hi (T key : Nat → UInt8) (n k : Nat) (h4 : 4 ≤ n) (hn : ¬ n % 4 = 0) (hk : k < 4) : keysF T key (4 * n + k) = keysF T key (4 * n - 16 + k) ^^^ keysF T key (4 * n - 4 + k) := by
  obtain ⟨i, hi⟩ : ∃ i, (4 * n + k) / 16 = i + 1 := ⟨(4 * n + k) / 16 - 1, by omega⟩
  unfold keysF
  rw [hi, show (4 * n - 16 + k) / 16 = i by omega, show (4 * n - 4 + k) / 16 = i + 1 by omega, show (4 * n - 16 + k) % 16 = (4 * n - 4 + k) % 16 + 4 by omega, show (4 * n + k) % 16 = (4 * n - 4 + k) % 16 + 4 by omega]
  show nextK _ _ _ _ = _
  rw [nextK_hi, UInt8.xor_comm]
  rfl
theorem keysF_lo (T key : Nat → UInt8) (n k : Nat) (h4 : 4 ≤ n) (hn : n % 4 = 0) (hk : k < 4) : keysF T key (4 * n + k) = keysF T key (4 * n - 16 + k) ^^^ kw0 T (fun j => keysF T key (4 * n - 16 + j)) (rconF ((n - 1) / 4)) k := by
  obtain ⟨i, hi⟩ : ∃ i, n / 4 = i + 1 := ⟨n / 4 - 1, by omega⟩
  have e : ∀ j, j < 16 → keysF T key (4 * n - 16 + j) = keyF T key i j := fun j hj => by
    unfold keysF
    rw [show (4 * n - 16 + j) / 16 = i by omega, show (4 * n - 16 + j) % 16 = j by omega]
  have e2 : keysF T key (4 * n + k) = nextK T (keyF T key i) (rconF i) k := by
    unfold keysF
    rw [show (4 * n + k) / 16 = i + 1 by omega, show (4 * n + k) % 16 = k by omega]
    rfl
  rw [e2, nextK_lo _ _ _ _ hk, e k (by omega), UInt8.xor_comm, show (n - 1) / 4 = i by omega]
  unfold kw0
  dsimp only
  rw [e 13 (by omega), e 14 (by omega), e 15 (by omega), e 12 (by omega)]
theorem own_other {w : World} {base : Nat} {e : TypeId} {g n cap : Nat} {xs : List Value} (h : w.ownsRow base e 1 (.slice (some ⟨g, 0, none⟩) n cap) n xs) {p : Addr} (hne : g ≠ p.block) (u : Value) : (w.setCell p u).ownsRow base e 1 (.slice (some ⟨g, 0, none⟩) n cap) n xs :=
  h.kept (row := some p.block) ⟨rfl, rfl, rfl, by simp [World.setCell], fun k _ hk => Below.heap_setCell _ _ _ _ (by rintro rfl; exact hk rfl)⟩ (.inr (by intro e; exact hne (by simpa [Value.ownBlock] using e)))
theorem own_row_ne {w : World} {base : Nat} {e t : TypeId} {g n cap b k : Nat} {xs : List Value} {f : Nat → Value} (h : w.ownsRow base e 1 (.slice (some ⟨g, 0, none⟩) n cap) n xs) (hr : w.rowIs b t k f) (hne : e ≠ t) : g ≠ b := by
  rintro rfl
  obtain ⟨c, hb, _⟩ := hr
  rcases h.2 with ⟨h2, _⟩ | ⟨g', cap', cur, hv, _, hh, _⟩
  · cases h2
  · injection hv with hv
    injection hv with hv
    injection hv with hv
    subst hv
    rw [hb] at hh
    injection hh with hh
    injection hh with _ ht
    exact hne ht.symm
theorem bList_congr {n : Nat} {f g : Nat → UInt8} (h : ∀ j, j < n → f j = g j) : bList n f = bList n g := by
  unfold bList
  exact List.map_congr_left fun j hj => h j (by simpa using hj)
theorem bList_succ (n : Nat) (f : Nat → UInt8) : bList (n + 1) f = bList n f ++ [f n] := by unfold bList; rw [List.range_succ, List.map_append]; rfl

set_option maxRecDepth 100000 in
set_option maxHeartbeats 2000000 in
theorem refExpand_any (tb : Nat) (T : Nat → UInt8) (v : Value) (l : List UInt8) (hl : l.length = 16) (w : World) (hT : ArrB w tb 0 256 T) (htb : tb < w.heap.size) (hv : Bs w w.heap.size v l) :
    Calls Tryd.prog 85 #[v, .pointer (some ⟨tb, 0, none⟩)] w fun e w' => ∃ v', e = .returned v' ∧ LBsS w' (New w w') v' ((List.range 11).map fun i => bList 16 fun j => keysF T (gb l) (16 * i + j)) ∧ Below w.heap.size w w' := by
  have hlen := hv.len
  obtain ⟨a, c, hve, hlc, hc, _, hcell⟩ := hv
  rw [hl] at hve
  subst hve
  have hv0 : Bs w w.heap.size (.slice a 16 c) l := ⟨a, c, by rw [hl], hlc, hc, hlen, hcell⟩
  have hsrc := hv0.src.2
  have hl0 : (l.map U8) = (bList 16 (keysF T (gb l))).map U8 := by
    congr 1
    exact ((bList_congr fun j hj => keysF_first _ _ _ hj).trans (bList_of l 16 hl)).symm
  rw [hl0] at hsrc
  obtain ⟨K, hK⟩ : ∃ K, K = keysF T (gb l) := ⟨_, rfl⟩
  rw [← hK] at hsrc ⊢
  have HK := Lib.hid hK; have Hsrc := Lib.hid hsrc; have HT := Lib.hid hT
  clear hK hsrc hT hcell hv0 hl0 hlen hlc hl
  have h0 : w.ownsRow w.heap.size 5 1 (.slice none 0 0) 0 [] := World.ownsRow_nil _ _ _ _
  go_enter Tryd.func85, Tryd.ntmps85
  go_wp2_with (at_builtin; (with_reducible refine wpList_append1 _ rfl (.const (.slice none 0 0)) (.tmp 12) 22 rfl w.heap.size 5 (.int .u8 0) 1 Tryd.underlying22 infoU8 rfl (by omega) (.slice none 0 0) 0 [] rfl h0 a 16 c ((bList 16 K).map U8) rfl Hsrc.out (by omega) (Nat.le_refl _) ?_); intro v1 w1 hown1 hg1 _ _)
  have hb1 := below_append h0 hg1 (Nat.le_refl _) (Nat.le_refl _)
  clear h0
  go_loopw [5, 6, 7] (fun o rc i wr => ∃ n : Nat, 4 ≤ n ∧ n ≤ 44 ∧ i = .int .i64 n ∧ rc = .int .i64 (bv (rconF ((n - 1) / 4))) ∧ wr.ownsRow w.heap.size 5 1 o (4 * n) ((bList (4 * n) K).map U8) ∧ Below w.heap.size w wr) (fun _ _ i _ => 44 - (intOf i).toNat)
  case atStart => exact ⟨4, by omega, by omega, rfl, rfl, by simpa using hown1, hb1⟩
  case round =>
    clear hown1 hb1
    obtain ⟨n, h4, hn, rfl, rfl, hown, hb⟩ := hrel
    by_cases hlt : n < 44
    · obtain ⟨wo, rfl⟩ : ∃ wo : World, wo = wr := ⟨_, rfl⟩
      obtain ⟨g, cap, rfl, hg, hgl⟩ := hown.form (by omega)
      have hcl : ∀ j, j < 4 * n → wo.cell? ⟨g, j, none⟩ = some (U8 (K j)) := fun j hj => by
        rw [hown.cellAt j (by omega), mapU8_get _ _ (by rw [bList_len]; exact hj), bList_getD _ _ _ hj]
      have c0 := hcl (4 * n - 4) (by omega)
      have c1 := hcl (4 * n - 3) (by omega)
      have c2 := hcl (4 * n - 2) (by omega)
      have c3 := hcl (4 * n - 1) (by omega)
      have i0 : (4 : Int) * n - 4 < 4 * n := by omega
      have i1 : (4 : Int) * n - 3 < 4 * n := by omega
      have i2 : (4 : Int) * n - 2 < 4 * n := by omega
      have i3 : (4 : Int) * n - 1 < 4 * n := by omega
      have q0 : (4 : Int) ≤ 4 * n := by omega
      have q1 : (3 : Int) ≤ 4 * n := by omega
      have q2 : (2 : Int) ≤ 4 * n := by omega
      have q3 : (1 : Int) ≤ 4 * n := by omega
      have m0 : (0 : Int) ≤ 4 * n - 4 := by omega
      have m1 : (0 : Int) ≤ 4 * n - 3 := by omega
      have m2 : (0 : Int) ≤ 4 * n - 2 := by omega
      have m3 : (0 : Int) ≤ 4 * n - 1 := by omega
      obtain ⟨x0, e0⟩ : ∃ x, x = K (4 * n - 4) := ⟨_, rfl⟩
      obtain ⟨x1, e1⟩ : ∃ x, x = K (4 * n - 3) := ⟨_, rfl⟩
      obtain ⟨x2, e2⟩ : ∃ x, x = K (4 * n - 2) := ⟨_, rfl⟩
      obtain ⟨x3, e3⟩ : ∃ x, x = K (4 * n - 1) := ⟨_, rfl⟩
      rw [← e0] at c0
      rw [← e1] at c1
      rw [← e2] at c2
      rw [← e3] at c3
      have E0 := Lib.hid e0; have E1 := Lib.hid e1; have E2 := Lib.hid e2; have E3 := Lib.hid e3
      have Hown := Lib.hid hown; have Hb := Lib.hid hb; have Hcl := Lib.hid hcl
      clear e0 e1 e2 e3 hown hb hcl
      go_wp2
      have s0 : Value.int .i64 (IntKind.i64.wrap (4 * (n : Int))) = .int .i64 (4 * n) := by rw [IntWalk.i64_in _ (by omega)]
      have s1 : Value.int .i64 (IntKind.i64.wrap (4 * (n : Int) - 4)) = .int .i64 (4 * n - 4) := by rw [IntWalk.i64_in _ (by omega)]
      have s2 : Value.int .i64 (IntKind.i64.wrap (4 * (n : Int) - 3)) = .int .i64 (4 * n - 3) := by rw [IntWalk.i64_in _ (by omega)]
      have s3 : Value.int .i64 (IntKind.i64.wrap (4 * (n : Int) - 2)) = .int .i64 (4 * n - 2) := by rw [IntWalk.i64_in _ (by omega)]
      have s4 : Value.int .i64 (IntKind.i64.wrap (4 * (n : Int) - 1)) = .int .i64 (4 * n - 1) := by rw [IntWalk.i64_in _ (by omega)]
      have t1 : (4 * (n : Int) - 4).toNat = 4 * n - 4 := by omega
      have t2 : (4 * (n : Int) - 3).toNat = 4 * n - 3 := by omega
      have t3 : (4 * (n : Int) - 2).toNat = 4 * n - 2 := by omega
      have t4 : (4 * (n : Int) - 1).toNat = 4 * n - 1 := by omega
      go_region_held3 (fun W => W.cell? ⟨g, 4 * n - 4, none⟩ = some (U8 x0) ∧ W.cell? ⟨g, 4 * n - 3, none⟩ = some (U8 x1) ∧ W.cell? ⟨g, 4 * n - 2, none⟩ = some (U8 x2) ∧ W.cell? ⟨g, 4 * n - 1, none⟩ = some (U8 x3)) (go_keep) (fail)
      clear s0 s1 s2 s3 s4 t1 t2 t3 t4 i0 i1 i2 i3 q0 q1 q2 q3 m0 m1 m2 m3 c0 c1 c2 c3
      have hblk : wo.heap.size < (wo.alloc (.cells #[U8 x0, U8 x1, U8 x2, U8 x3] 113)).heap.size := by simp
      have hrow : (wo.alloc (.cells #[U8 x0, U8 x1, U8 x2, U8 x3] 113)).rowIs wo.heap.size 113 4 (fun r => U8 (K (4 * n - 4 + r))) := by
        refine ⟨_, heap_alloc_new _ _, rfl, fun i hi => ?_⟩
        dsimp only
        rcases i with _ | _ | _ | _ | i
        · rw [Nat.add_zero, ← E0.out]; rfl
        · rw [show 4 * n - 4 + (0 + 1) = 4 * n - 3 by omega, ← E1.out]; rfl
        · rw [show 4 * n - 4 + (0 + 1 + 1) = 4 * n - 2 by omega, ← E2.out]; rfl
        · rw [show 4 * n - 4 + (0 + 1 + 1 + 1) = 4 * n - 1 by omega, ← E3.out]; rfl
        · omega
      have hown1 := Hown.out.alloc (.cells #[U8 x0, U8 x1, U8 x2, U8 x3] 113)
      have hb1 := Hb.out.alloc Hb.out.size (.cells #[U8 x0, U8 x1, U8 x2, U8 x3] 113)
      have hsz := Hb.out.size
      have hgne : g ≠ wo.heap.size := by omega
      have hrow := hrow.drew
      have hown1 := hown1.drew
      have hb1 := hb1.drew
      obtain ⟨w5, hw5⟩ : ∃ w5, w5 = (wo.alloc (.cells #[U8 x0, U8 x1, U8 x2, U8 x3] 113)).drew := ⟨_, rfl⟩
      have hTr : ArrB w5 tb 0 256 T := by rw [hw5]; exact ArrB.of_block ((HT.out.of_block (Hb.out.block tb htb)).alloc _) rfl
      rw [← hw5] at hrow hown1 hb1 ⊢
      have htg : tb ≠ wo.heap.size := by omega
      clear hw5 hblk
      have Hcl' := Hcl
      by_cases hm : n % 4 = 0
      · have hd : ((n : Int) % 4 == 0) = true := by simp; omega
        have t0 := hTr.at_ x0.toNat_lt
        have t1 := hTr.at_ x1.toNat_lt
        have t2 := hTr.at_ x2.toNat_lt
        have t3 := hTr.at_ x3.toNat_lt
        rw [Nat.zero_add] at t0 t1 t2 t3
        have b0 := bv_nn x0
        have b1 := bv_nn x1
        have b2 := bv_nn x2
        have b3 := bv_nn x3
        have d0 := bv_lt x0
        have d1 := bv_lt x1
        have d2 := bv_lt x2
        have d3 := bv_lt x3
        have c0 := hrow.cell (i := 0) (by omega)
        have c1 := hrow.cell (i := 1) (by omega)
        have c2 := hrow.cell (i := 2) (by omega)
        have c3 := hrow.cell (i := 3) (by omega)
        rw [Nat.add_zero, ← E0.out] at c0
        rw [show 4 * n - 4 + 1 = 4 * n - 3 by omega, ← E1.out] at c1
        rw [show 4 * n - 4 + 2 = 4 * n - 2 by omega, ← E2.out] at c2
        rw [show 4 * n - 4 + 3 = 4 * n - 1 by omega, ← E3.out] at c3
        have f0 := hrow.frozen 0
        have f1 := hrow.frozen 1
        have f2 := hrow.frozen 2
        have f3 := hrow.frozen 3
        go_wp2
        refine wp_region_still_tail 28 (by kernel_rfl) (by kernel_rfl) ?_
        simp only [List.take_succ_cons, List.take_zero, List.drop_succ_cons, List.drop_zero]
        repeat (refine wpStill_step (fun K hK => ?_); go_simp; (try go_bits); refine hK _ ?_; clear hK K)
        refine wpStill_nil ?_
        go_wp2_with fail
        have hrow6 : (((((w5.setCell ⟨wo.heap.size, 0, none⟩ (U8 (T x1.toNat ^^^ rconF ((n - 1) / 4)))).setCell ⟨wo.heap.size, 1, none⟩ (U8 (T x2.toNat))).setCell ⟨wo.heap.size, 2, none⟩ (U8 (T x3.toNat))).setCell ⟨wo.heap.size, 3, none⟩ (U8 (T x0.toNat))).drew).rowIs wo.heap.size 113 4
            (fun r => U8 (kw0 T (fun j => K (4 * n - 16 + j)) (rconF ((n - 1) / 4)) r)) :=
          ((((hrow.set 0 _).set 1 _).set 2 _).set 3 _).drew.congr fun r hr => by
            unfold kw0
            dsimp only
            rw [show 4 * n - 16 + 13 = 4 * n - 3 by omega, show 4 * n - 16 + 14 = 4 * n - 2 by omega, show 4 * n - 16 + 15 = 4 * n - 1 by omega, show 4 * n - 16 + 12 = 4 * n - 4 by omega, ← E0.out, ← E1.out, ← E2.out, ← E3.out]
            rcases r with _ | _ | _ | _ | r
            · rfl
            · rfl
            · rfl
            · rfl
            · omega
        have hown6 := ((((own_other hown1 (p := ⟨wo.heap.size, 0, none⟩) hgne (U8 (T x1.toNat ^^^ rconF ((n - 1) / 4)))) |> fun h => own_other h (p := ⟨wo.heap.size, 1, none⟩) hgne (U8 (T x2.toNat))) |> fun h => own_other h (p := ⟨wo.heap.size, 2, none⟩) hgne (U8 (T x3.toNat))) |> fun h => own_other h (p := ⟨wo.heap.size, 3, none⟩) hgne (U8 (T x0.toNat))).drew
        have hb6 := ((((hb1.setCell (p := ⟨wo.heap.size, 0, none⟩) hsz (U8 (T x1.toNat ^^^ rconF ((n - 1) / 4)))).setCell (p := ⟨wo.heap.size, 1, none⟩) hsz (U8 (T x2.toNat))).setCell (p := ⟨wo.heap.size, 2, none⟩) hsz (U8 (T x3.toNat))).setCell (p := ⟨wo.heap.size, 3, none⟩) hsz (U8 (T x0.toNat))).drew
        have Hrow6 := Lib.hid hrow6; have Hown6 := Lib.hid hown6; have Hb6 := Lib.hid hb6
        clear hrow6 hown6 hb6 hrow hown1 hb1 t0 t1 t2 t3 c0 c1 c2 c3 f0 f1 f2 f3 b0 b1 b2 b3 d0 d1 d2 d3 hTr
        refine (times_at _ 2 _ _ rfl rfl _).mono ?_
        rintro e w' ⟨rfl, rfl⟩
        go_wp2
        go_loopw [5, 9] (fun o k wi => ∃ m : Nat, m ≤ 4 ∧ k = .int .i64 m ∧ wi.ownsRow w.heap.size 5 1 o (4 * n + m) ((bList (4 * n + m) K).map U8) ∧ wi.rowIs wo.heap.size 113 4 (fun r => U8 (kw0 T (fun j => K (4 * n - 16 + j)) (rconF ((n - 1) / 4)) r)) ∧ Below w.heap.size w wi) (fun _ k _ => 4 - (intOf k).toNat)
        case atStart => exact ⟨0, by omega, rfl, Hown6.out, Hrow6.out, Hb6.out⟩
        case round =>
          obtain ⟨m, hm4, rfl, hown, hrow, hb⟩ := hrel
          by_cases hlt' : m < 4
          · obtain ⟨g2, cap2, rfl, hg2, hgl2⟩ := hown.form (by omega)
            have hx := hrow.cell (i := m) hlt'
            have hy : wr.cell? ⟨g2, 4 * n - 16 + m, none⟩ = some (U8 (K (4 * n - 16 + m))) := by
              rw [hown.cellAt _ (by omega), mapU8_get _ _ (by rw [bList_len]; omega), bList_getD _ _ _ (by omega)]
            have hne := own_row_ne hown hrow (by decide)
            have z0 : (0 : Int) ≤ 4 * n - 16 + m := by omega
            have z1 : (4 : Int) * n - 16 + m < 4 * n + m := by omega
            have z2 : (m : Int) < 4 := by omega
            have Hown := Lib.hid ((hown.alloc (.cells #[U8 (K (4 * n - 16 + m) ^^^ kw0 T (fun j => K (4 * n - 16 + j)) (rconF ((n - 1) / 4)) m)] 5)).drew)
            have Hrow := Lib.hid hrow; have Hb := Lib.hid hb; have Hne := Lib.hid hne
            have Hsrc := Lib.hid (show SrcAt ((wr.alloc (.cells #[U8 (K (4 * n - 16 + m) ^^^ kw0 T (fun j => K (4 * n - 16 + j)) (rconF ((n - 1) / 4)) m)] 5)).drew) (some ⟨wr.heap.size, 0, none⟩) 1 [U8 (K (4 * n - 16 + m) ^^^ kw0 T (fun j => K (4 * n - 16 + j)) (rconF ((n - 1) / 4)) m)] from SrcAt.one _ _ rfl)
            clear hown hrow hb hne
            go_wp2
            have s0 : Value.int .i64 (IntKind.i64.wrap (4 * (n : Int))) = .int .i64 (4 * n) := by rw [IntWalk.i64_in _ (by omega)]
            have s1 : Value.int .i64 (IntKind.i64.wrap (4 * (n : Int) - 16)) = .int .i64 (4 * n - 16) := by rw [IntWalk.i64_in _ (by omega)]
            have s2 : Value.int .i64 (IntKind.i64.wrap (4 * (n : Int) - 16 + m)) = .int .i64 (4 * n - 16 + m) := by rw [IntWalk.i64_in _ (by omega)]
            have t1 : (4 * (n : Int) - 16 + m).toNat = 4 * n - 16 + m := by omega
            go_region_held3 (fun W => W.cell? ⟨g2, 4 * n - 16 + m, none⟩ = some (U8 (K (4 * n - 16 + m))) ∧ W.cell? ⟨wo.heap.size, m, none⟩ = some (U8 (kw0 T (fun j => K (4 * n - 16 + j)) (rconF ((n - 1) / 4)) m)))
              (first
                | go_keep
                | (refine ⟨?_, ?_⟩
                   · rw [hold7.cellAt _ (by omega), mapU8_get _ _ (by rw [bList_len]; omega), bList_getD _ _ _ (by omega)]
                   · exact (hg7.cell_far _ (by have := Hrow.out.lt; simp; omega) (by intro e; exact Hne.out (by simpa [Value.ownBlock] using e.symm))).trans ((Hrow.out.alloc _).drew.cell (i := m) hlt')))
              (((with_reducible refine step_append1 _ rfl (.tmp 80) (.tmp 93) 22 rfl w.heap.size 5 (.int .u8 0) 1 Tryd.underlying22 infoU8 rfl (by omega) (.slice (some ⟨g2, 0, none⟩) (4 * n + m) cap2) (4 * n + m) ((bList (4 * n + m) K).map U8) rfl Hown.out (some ⟨wr.heap.size, 0, none⟩) 1 1 [U8 (K (4 * n - 16 + m) ^^^ kw0 T (fun j => K (4 * n - 16 + j)) (rconF ((n - 1) / 4)) m)] rfl Hsrc.out (by omega) (by have := Hb.out.size; simp; omega) ?_); intro v7 w7 hown7 hg7 hat7 hold7))
            clear s0 s1 s2 t1
            have hb7 := below_append Hown.out hg7 (Nat.le_refl _) (by have := Hb.out.size; simp; omega)
            have hrow7 := ((Hrow.out.alloc (.cells #[U8 (K (4 * n - 16 + m) ^^^ kw0 T (fun j => K (4 * n - 16 + j)) (rconF ((n - 1) / 4)) m)] 5)).drew).of_block (hg7.block wo.heap.size (by have := Hrow.out.lt; simp; omega) (by intro e; exact Hne.out (by simpa [Value.ownBlock] using e.symm)))
            have hK7 : K (4 * n - 16 + m) ^^^ kw0 T (fun j => K (4 * n - 16 + j)) (rconF ((n - 1) / 4)) m = K (4 * n + m) := by rw [HK.out]; exact (keysF_lo T (gb l) n m h4 hm hlt').symm
            rw [hK7] at hown7 hb7
            clear hg7 hat7 hold7
            go_wp2
            go_roundw
            case rel => exact ⟨m + 1, by omega, by go_num, by rw [← Nat.add_assoc, bList_succ, List.map_append]; exact hown7, hrow7, (Hb.out.alloc Hb.out.size _).drew.trans hb7⟩
            case measure => simp [intOf] <;> omega
          · have hm44 : m = 4 := by omega
            subst hm44
            go_wp2
            go_roundw
            case rel => exact ⟨n + 1, by omega, by omega, by go_num, by rw [tms_two, show (n + 1 - 1) / 4 = (n - 1) / 4 + 1 by omega]; rfl, hown, hb⟩
            case measure => simp [intOf] <;> omega
      · have hd : ((n : Int) % 4 == 0) = false := by simp; omega
        have Hrow6 := Lib.hid hrow; have Hown6 := Lib.hid hown1; have Hb6 := Lib.hid hb1
        clear hrow hown1 hb1 hTr
        go_wp2
        go_loopw [5, 9] (fun o k wi => ∃ m : Nat, m ≤ 4 ∧ k = .int .i64 m ∧ wi.ownsRow w.heap.size 5 1 o (4 * n + m) ((bList (4 * n + m) K).map U8) ∧ wi.rowIs wo.heap.size 113 4 (fun r => U8 ((fun r => K (4 * n - 4 + r)) r)) ∧ Below w.heap.size w wi) (fun _ k _ => 4 - (intOf k).toNat)
        case atStart => exact ⟨0, by omega, rfl, Hown6.out, Hrow6.out, Hb6.out⟩
        case round =>
          obtain ⟨m, hm4, rfl, hown, hrow, hb⟩ := hrel
          by_cases hlt' : m < 4
          · obtain ⟨g2, cap2, rfl, hg2, hgl2⟩ := hown.form (by omega)
            have hx := hrow.cell (i := m) hlt'
            have hy : wr.cell? ⟨g2, 4 * n - 16 + m, none⟩ = some (U8 (K (4 * n - 16 + m))) := by
              rw [hown.cellAt _ (by omega), mapU8_get _ _ (by rw [bList_len]; omega), bList_getD _ _ _ (by omega)]
            have hne := own_row_ne hown hrow (by decide)
            have z0 : (0 : Int) ≤ 4 * n - 16 + m := by omega
            have z1 : (4 : Int) * n - 16 + m < 4 * n + m := by omega
            have z2 : (m : Int) < 4 := by omega
            have Hown := Lib.hid ((hown.alloc (.cells #[U8 (K (4 * n - 16 + m) ^^^ (fun r => K (4 * n - 4 + r)) m)] 5)).drew)
            have Hrow := Lib.hid hrow; have Hb := Lib.hid hb; have Hne := Lib.hid hne
            have Hsrc := Lib.hid (show SrcAt ((wr.alloc (.cells #[U8 (K (4 * n - 16 + m) ^^^ (fun r => K (4 * n - 4 + r)) m)] 5)).drew) (some ⟨wr.heap.size, 0, none⟩) 1 [U8 (K (4 * n - 16 + m) ^^^ (fun r => K (4 * n - 4 + r)) m)] from SrcAt.one _ _ rfl)
            clear hown hrow hb hne
            go_wp2
            have s0 : Value.int .i64 (IntKind.i64.wrap (4 * (n : Int))) = .int .i64 (4 * n) := by rw [IntWalk.i64_in _ (by omega)]
            have s1 : Value.int .i64 (IntKind.i64.wrap (4 * (n : Int) - 16)) = .int .i64 (4 * n - 16) := by rw [IntWalk.i64_in _ (by omega)]
            have s2 : Value.int .i64 (IntKind.i64.wrap (4 * (n : Int) - 16 + m)) = .int .i64 (4 * n - 16 + m) := by rw [IntWalk.i64_in _ (by omega)]
            have t1 : (4 * (n : Int) - 16 + m).toNat = 4 * n - 16 + m := by omega
            go_region_held3 (fun W => W.cell? ⟨g2, 4 * n - 16 + m, none⟩ = some (U8 (K (4 * n - 16 + m))) ∧ W.cell? ⟨wo.heap.size, m, none⟩ = some (U8 ((fun r => K (4 * n - 4 + r)) m)))
              (first
                | go_keep
                | (refine ⟨?_, ?_⟩
                   · rw [hold7.cellAt _ (by omega), mapU8_get _ _ (by rw [bList_len]; omega), bList_getD _ _ _ (by omega)]
                   · exact (hg7.cell_far _ (by have := Hrow.out.lt; simp; omega) (by intro e; exact Hne.out (by simpa [Value.ownBlock] using e.symm))).trans ((Hrow.out.alloc _).drew.cell (i := m) hlt')))
              (((with_reducible refine step_append1 _ rfl (.tmp 80) (.tmp 93) 22 rfl w.heap.size 5 (.int .u8 0) 1 Tryd.underlying22 infoU8 rfl (by omega) (.slice (some ⟨g2, 0, none⟩) (4 * n + m) cap2) (4 * n + m) ((bList (4 * n + m) K).map U8) rfl Hown.out (some ⟨wr.heap.size, 0, none⟩) 1 1 [U8 (K (4 * n - 16 + m) ^^^ (fun r => K (4 * n - 4 + r)) m)] rfl Hsrc.out (by omega) (by have := Hb.out.size; simp; omega) ?_); intro v7 w7 hown7 hg7 hat7 hold7))
            clear s0 s1 s2 t1
            have hb7 := below_append Hown.out hg7 (Nat.le_refl _) (by have := Hb.out.size; simp; omega)
            have hrow7 := ((Hrow.out.alloc (.cells #[U8 (K (4 * n - 16 + m) ^^^ (fun r => K (4 * n - 4 + r)) m)] 5)).drew).of_block (hg7.block wo.heap.size (by have := Hrow.out.lt; simp; omega) (by intro e; exact Hne.out (by simpa [Value.ownBlock] using e.symm)))
            have hK7 : K (4 * n - 16 + m) ^^^ (fun r => K (4 * n - 4 + r)) m = K (4 * n + m) := by rw [HK.out]; exact (keysF_hi T (gb l) n m h4 hm hlt').symm
            rw [hK7] at hown7 hb7
            clear hg7 hat7 hold7
            go_wp2
            go_roundw
            case rel => exact ⟨m + 1, by omega, by go_num, by rw [← Nat.add_assoc, bList_succ, List.map_append]; exact hown7, hrow7, (Hb.out.alloc Hb.out.size _).drew.trans hb7⟩
            case measure => simp [intOf] <;> omega
          · have hm44 : m = 4 := by omega
            subst hm44
            go_wp2
            go_roundw
            case rel => exact ⟨n + 1, by omega, by omega, by go_num, by rw [show (n + 1 - 1) / 4 = (n - 1) / 4 by omega], hown, hb⟩
            case measure => simp [intOf] <;> omega
    · have hd44 : decide ((n : Int) < 44) = false := by simp; omega
      obtain ⟨wo, rfl⟩ : ∃ wo : World, wo = wr := ⟨_, rfl⟩
      obtain ⟨g, cap, rfl, hg, hgl⟩ := hown.form (by omega)
      have hcap : 4 * n ≤ cap ∧ cap ≤ 9223372036854775807 := by
        rcases hown.2 with ⟨h, _⟩ | ⟨g', cap', cur, h, _, _, h1, h2, _⟩
        · cases h
        · injection h with _ _ h3
          subst h3
          exact ⟨h1, by unfold maxLen at h2; exact h2⟩
      obtain ⟨hc1, hc2⟩ := hcap
      have Hown := Lib.hid hown; have Hb := Lib.hid hb
      clear hown hb
      go_wp2
      go_loopw [10, 11] (fun o i wi => ∃ (q : Nat) (xs : List Value), q ≤ 11 ∧ i = .int .i64 q ∧ wi.ownsRow wo.heap.size 22 1 o q xs ∧ Each wi (Off wo.heap.size wi o) xs ((List.range q).map fun i => bList 16 fun j => K (16 * i + j)) ∧ Below wo.heap.size wo wi) (fun _ i _ => 11 - (intOf i).toNat)
      case atStart => exact ⟨0, [], by omega, rfl, World.ownsRow_nil _ _ _ _, Each.nil _ _, Below.refl _ _⟩
      case round =>
        obtain ⟨q, xs, hq, rfl, hown, hE, hbo⟩ := hrel
        by_cases hlt' : q < 11
        · have z0 : (0 : Int) ≤ 16 * q := by omega
          have z1 : (16 : Int) * q + 16 ≤ cap := by omega
          have z2 : (16 : Int) * q ≤ 16 * q + 16 := by omega
          have z3 : ¬ cap = 16 * q := by omega
          have z4 : (q : Int) < 11 := by omega
          have Hown2 := Lib.hid hown; have HE := Lib.hid hE; have Hbo := Lib.hid hbo
          clear hown hE hbo
          have hs8 : SrcAt wr (some ⟨g, 16 * q, none⟩) 16 ((bList 16 fun j => K (16 * q + j)).map U8) := by
            refine ⟨by simp [bList], fun _ => ⟨_, rfl, fun j u hu => ?_⟩, fun u hu => ?_⟩
            · have hj : j < 16 := by
                rcases Nat.lt_or_ge j 16 with h | h
                · exact h
                · rw [List.getElem?_eq_none (by simpa [bList] using h)] at hu; cases hu
              rw [addr_add]
              refine ((Hbo.out.cell (p := ⟨g, 16 * q + j, none⟩) hgl).trans ?_)
              rw [Hown.out.cellAt _ (by omega), mapU8_get _ _ (by rw [bList_len]; omega), bList_getD _ _ _ (by omega), ← hu, mapU8_get _ _ (by rw [bList_len]; omega), bList_getD _ _ _ (by omega)]
            · obtain ⟨b, _, rfl⟩ := List.mem_map.1 hu
              rfl
          have e16 : 16 * q + 16 - 16 * q = 16 := by omega
          have hs9 : SrcAt wr (some ⟨g, 16 * q, none⟩) (16 * q + 16 - 16 * q) ((bList 16 fun j => K (16 * q + j)).map U8) := by rw [e16]; exact hs8
          clear hs8
          have Hs8 := Lib.hid hs9; have E16 := Lib.hid e16; clear hs9 e16
          have h0 : wr.ownsRow wr.heap.size 5 1 (.slice none 0 0) 0 [] := World.ownsRow_nil _ _ _ _
          go_wp2_with (first
            | (at_builtin
               (with_reducible refine wpList_append1 _ rfl (.const (.slice none 0 0)) (.tmp 106) 22 rfl wr.heap.size 5 (.int .u8 0) 1 Tryd.underlying22 infoU8 rfl (by omega) (.slice none 0 0) 0 [] rfl h0 (some ⟨g, 16 * q, none⟩) (16 * q + 16 - 16 * q) (cap - 16 * q) ((bList 16 fun j => K (16 * q + j)).map U8) rfl Hs8.out (by omega) (Nat.le_refl _) ?_)
               intro v8 w8 hown8 hg8 _ _
               rw [E16.out, Nat.zero_add] at hown8
               obtain ⟨g8, cap8, rfl, hg8a, hg8b⟩ := hown8.form (by omega)
               have hb8 := below_append h0 hg8 (Nat.le_refl _) (Nat.le_refl _)
               have HV8 := Lib.hid ((BsS.of_own hown8 (by rw [bList_len]; omega)).keep (S' := Off wo.heap.size w8 u10) fun b hs _ => ⟨rfl, hs.2, fun e => by
                 have := Hown2.out.lt b e
                 have := hs.1
                 omega, by have := hs.1; have := Hbo.out.size; omega⟩)
               have HE8 := Lib.hid (HE.out.keep (w' := w8) (S' := Off wo.heap.size w8 u10) fun b hs hlt => ⟨hb8.block b hlt, by have := hb8.size; omega, hs.2⟩)
               have Hown8 := Lib.hid ((own_below Hown2.out hb8).alloc (.cells #[.slice (some ⟨g8, 0, none⟩) 16 cap8] 22))
               have Hbo8 := Lib.hid (Hbo.out.trans (hb8.mono Hbo.out.size))
               have Hsrc8 := Lib.hid (SrcAt.one (w := w8) (.slice (some ⟨g8, 0, none⟩) 16 cap8) 22 rfl)
               clear hown8 hg8 hb8)
            | (at_builtin
               (with_reducible refine wpList_append1 _ rfl (.tmp 99) (.tmp 108) 82 rfl wo.heap.size 22 (.slice none 0 0) 24 Tryd.underlying82 infoBytes rfl (by omega) u10 q xs rfl Hown8.out (some ⟨w8.heap.size, 0, none⟩) 1 1 [.slice (some ⟨g8, 0, none⟩) 16 cap8] rfl Hsrc8.out (by omega) (by have := Hbo8.out.size; simp; omega) ?_)
               intro v9 w9 hown9 hg9 hat9 _))
          have hE9 := ((HE8.out.snoc HV8.out).keep (w' := w8.alloc (.cells #[.slice (some ⟨g8, 0, none⟩) 16 cap8] 22)) (S' := Off wo.heap.size (w8.alloc (.cells #[.slice (some ⟨g8, 0, none⟩) 16 cap8] 22)) u10) fun b hs hlt => ⟨Below.heap_alloc _ _ _ hlt, by simp; omega, hs.2⟩).grown hg9 hat9
          have hb9 := below_append Hown8.out hg9 (Nat.le_refl _) (by have := Hbo8.out.size; simp; omega)
          go_wp2
          go_roundw
          case rel => exact ⟨q + 1, _, by omega, by go_num, hown9, by rw [List.range_succ, List.map_append]; exact hE9, (Hbo8.out.alloc Hbo8.out.size _).trans hb9⟩
          case measure => simp [intOf] <;> omega
        · have hq11 : q = 11 := by omega
          subst hq11
          go_wp2
          go_ret
          exact ⟨_, rfl, LBsS.of_own (B := w.heap.size) hown hE (fun b hs => ⟨by have := hs.2.2; have := Hb.out.size; omega, hs.1⟩) Hb.out.size, Hb.out.trans (hbo.mono Hb.out.size)⟩
end Go.Proofs.YtnogcnmoeekcpaaDoor
/- The walk of the reference's Ready. -/
namespace Go.Proofs.YtnogcnmoeekcpaaDoor
open Go.RowKit

/-- A cipher's cells: the table, the one back, the keys. -/
def rcF (T back : Nat → UInt8) (kv : Value) (j : Nat) : Value := if j < 256 then U8 (T j) else if j < 512 then U8 (back (j - 256)) else kv
def rcArr (T : Nat → UInt8) : Array Value := ((List.range 513).map (rcF T (fun _ => 0) (.slice none 0 0))).toArray
theorem built_rc (T : Nat → UInt8) : Tryd.prog.built 91 [(0, .agg (bArr 256 T))] = some (rcArr T) := by kernel_rfl
theorem rcArr_row (w : World) (T : Nat → UInt8) (t : TypeId) : (w.alloc (.cells (rcArr T) t)).rowIs w.heap.size t 513 (rcF T (fun _ => 0) (.slice none 0 0)) :=
  ⟨_, heap_alloc_new _ _, by simp [rcArr], fun i hi => by simp [rcArr, hi]⟩
def rBack : Nat → Nat → UInt8
  | 0 => fun _ => 0
  | n + 1 => fun j => if j = (rTab n).toNat then ofI n else rBack n j
def rBck (j : Nat) : UInt8 := rBack 256 j
def rKeys (key : Nat → UInt8) : List (List UInt8) := (List.range 11).map fun i => bList 16 fun j => keysF rTab key (16 * i + j)
def RefCipherAt (w : World) (B : Nat) (p : Value) (key : Nat → UInt8) : Prop :=
  ∃ cb kv, p = .pointer (some ⟨cb, 0, none⟩) ∧ cb < B ∧ ArrB w cb 0 256 rTab ∧ ArrB w cb 256 256 rBck ∧ w.cell? ⟨cb, 512, none⟩ = some kv ∧ LBs w B kv (rKeys key)
theorem RefCipherAt.below {w w' : World} {B : Nat} {p : Value} {key : Nat → UInt8} (h : RefCipherAt w B p key) (hb : Below B w w') : RefCipherAt w' B p key := by
  obtain ⟨cb, kv, hp, h1, h2, h3, h4, h5⟩ := h
  exact ⟨cb, kv, hp, h1, h2.of_block (hb.block cb h1), h3.of_block (hb.block cb h1), (hb.cell (p := ⟨cb, 512, none⟩) h1).trans h4, h5.below hb⟩

set_option maxRecDepth 100000 in
set_option maxHeartbeats 1000000 in
theorem refReady_any (v : Value) (l : List UInt8) (hl : l.length = 16) (w : World) (hv : Bs w w.heap.size v l) :
    Calls Tryd.prog 76 #[v] w fun e w' => ∃ p, e = .returned p ∧ RefCipherAt w' w'.heap.size p (gb l) ∧ Below w.heap.size w w' := by
  obtain ⟨A, n, c, rfl⟩ := hv.form
  have Hv := Lib.hid hv; have Hl := Lib.hid hl
  clear hv hl
  go_enter Tryd.func76, Tryd.ntmps76
  go_wp2_with fail
  refine (table_any _).mono ?_
  rintro e w1 ⟨rfl, hb1⟩
  go_wp2_with (with_reducible refine wpList_build_eq rfl 91 #[(0, .tmp 5)] rfl [(0, .agg (bArr 256 rTab))] ?hl (rcArr rTab) (built_rc _) ?_)
  go_loopw [4] (fun i wr => ∃ k : Nat, k ≤ 256 ∧ i = .int .i64 k ∧ wr.rowIs w1.heap.size 91 513 (rcF rTab (rBack k) (.slice none 0 0)) ∧ Below w1.heap.size w1 wr) (fun i _ => 256 - (intOf i).toNat)
  case atStart => exact ⟨0, by omega, rfl, rcArr_row _ _ _, (Below.refl _ _).alloc (Nat.le_refl _) _⟩
  case round =>
    obtain ⟨k, hk, rfl, hr, hb⟩ := hrel
    by_cases hlt : k < 256
    · have hk1 : (k : Int) < 256 := by omega
      have hc1 : wr.cell? ⟨w1.heap.size, k, none⟩ = some (U8 (rTab k)) := by
        rw [hr.cell (i := k) (by omega)]
        unfold rcF
        rw [if_pos hlt]
      obtain ⟨x, hx⟩ : ∃ x, x = rTab k := ⟨_, rfl⟩
      rw [← hx] at hc1
      have Hx := Lib.hid hx; clear hx
      have hx0 := bv_nn x
      have hx1 := bv_lt x
      have hx2 := x.toNat_lt
      have hc2 := hr.cell (i := 256 + x.toNat) (by omega)
      have hf2 := hr.frozen (256 + x.toNat)
      go_wp2
      refine wp_region_still_tail 12 (by kernel_rfl) (by kernel_rfl) ?_
      simp only [List.take_succ_cons, List.take_zero, List.drop_succ_cons, List.drop_zero]
      repeat (refine wpStill_step (fun K hK => ?_); go_simp; (try go_bits); refine hK _ ?_; clear hK K)
      refine wpStill_nil ?_
      go_wp2
      have e8 : Value.int .u8 (k : Int) = U8 (ofI k) := by show Value.int .u8 _ = Value.int .u8 (bv (ofI k)); rw [bv_in (by omega) (by omega)]
      go_roundw
      case rel =>
        refine ⟨k + 1, by omega, by go_num, ((hr.set (256 + x.toNat) _).congr fun j hj => ?_).drew, (hb.setCell (by simp) _).drew⟩
        rw [e8]
        unfold rcF
        by_cases h1 : j < 256
        · rw [if_neg (by omega), if_pos h1, if_pos h1]
        · rw [if_neg h1, if_neg h1]
          by_cases h2 : j < 512
          · rw [if_pos h2, if_pos h2]
            show _ = U8 (if j - 256 = (rTab k).toNat then ofI k else rBack k (j - 256))
            rw [← Hx.out]
            by_cases h3 : j = 256 + x.toNat
            · rw [if_pos h3, if_pos (by omega)]
            · rw [if_neg h3, if_neg (by omega)]
          · rw [if_neg h2, if_neg h2, if_neg (by omega)]
      case measure => simp [intOf] <;> omega
    · have hk256 : k = 256 := by omega
      have HK := Lib.hid hk256
      have hT : ArrB wr w1.heap.size 0 256 rTab := fun j hj => by
        rw [Nat.zero_add, hr.cell (i := j) (by omega)]
        unfold rcF
        rw [if_pos hj]
      have hlt2 := hr.lt
      have Hr := Lib.hid hr; have Hb := Lib.hid hb; have HT := Lib.hid hT
      have hd : decide ((k : Int) < 256) = false := by simp; omega
      clear hr hb hT hk256
      have HV := Lib.hid ((Hv.out.below (hb1.trans (Hb.out.mono hb1.size))).mono (Nat.le_trans hb1.size Hb.out.size))
      go_wp2_with fail
      refine (refExpand_any w1.heap.size rTab (.slice A n c) l Hl.out wr HT.out hlt2 HV.out).mono ?_
      rintro e w3 ⟨v3, rfl, hv3, hb3⟩
      have hr3 := rowIs_below Hr.out hb3 hlt2
      have hb03 : Below w.heap.size w w3 := (hb1.trans (Hb.out.mono hb1.size)).trans (hb3.mono (Nat.le_trans hb1.size Hb.out.size))
      obtain ⟨a3, c3, xs3, hve, h31, h32, hE3, hc3⟩ := hv3
      obtain ⟨n3, hn3⟩ : ∃ n3, n3 = (rKeys (gb l)).length := ⟨_, rfl⟩
      have hv3 : LBsS w3 (New wr w3) (.slice a3 n3 c3) (rKeys (gb l)) := ⟨a3, c3, xs3, by rw [hn3], h31, h32, hE3, hc3⟩
      have hve' : v3 = .slice a3 n3 c3 := by rw [hve, hn3]; rfl
      subst hve'
      have cc := hr3.cell (i := 512) (by omega)
      have ff := hr3.frozen 512
      have Hv3 := Lib.hid hv3; have Hr3 := Lib.hid hr3; have Hb03 := Lib.hid hb03; have HN := Lib.hid hn3
      have Hlt := Lib.hid hlt2; have Hlt3 := Lib.hid (Nat.lt_of_lt_of_le hlt2 hb3.size)
      have Hle := Lib.hid (Nat.le_trans hb1.size Hb.out.size)
      clear hve hE3 hc3 h31 h32 hv3 hr3 hb03 hb3 hn3 hlt2
      go_wp2
      go_ret
      have hr4 := Hr3.out.set 512 (.slice a3 n3 c3)
      refine ⟨_, rfl, ⟨w1.heap.size, .slice a3 n3 c3, rfl, by have := Hlt3.out; simpa using this, ?_, ?_, ?_, ?_⟩, Hb03.out.setCell (by have := hb1.size; exact this) _⟩
      · intro j hj
        rw [Nat.zero_add, hr4.cell (i := j) (by omega), if_neg (by omega)]
        unfold rcF
        rw [if_pos hj]
      · intro j hj
        rw [hr4.cell (i := 256 + j) (by omega), if_neg (by omega)]
        unfold rcF
        rw [if_neg (by omega), if_pos (by omega), show 256 + j - 256 = j by omega, HK.out]
        rfl
      · rw [hr4.cell (i := 512) (by omega), if_pos rfl]
      · refine Hv3.out.keep fun b hs hlt => ⟨Below.heap_setCell _ _ _ _ (by have := hs.1; have := Hlt.out; simp; omega), by simp; exact hs.2⟩
end Go.Proofs.YtnogcnmoeekcpaaDoor
/- The walk of the reference's Encrypt. -/
namespace Go.Proofs.YtnogcnmoeekcpaaDoor
open Go.RowKit

def rK (key : Nat → UInt8) (i j : Nat) : UInt8 := keysF rTab key (16 * i + j)
def rSub (f : Nat → UInt8) (j : Nat) : UInt8 := rTab (f ((j + 4 * (j % 4)) % 16)).toNat
def rEncS (key f : Nat → UInt8) : Nat → Nat → UInt8
  | 0 => fun j => f j ^^^ rK key 0 j
  | n + 1 => fun j => (if n + 1 < 10 then rmixF mixE (rSub (rEncS key f n)) j else rSub (rEncS key f n) j) ^^^ rK key (n + 1) j
def rEncF (key f : Nat → UInt8) (j : Nat) : UInt8 := rEncS key f 10 j

theorem gl_rKeys (key : Nat → UInt8) (i : Nat) (h : i < 11) : gl (rKeys key) i = bList 16 (rK key i) := by
  unfold gl rKeys
  rw [List.getD_eq_getElem?_getD, List.getElem?_map, List.getElem?_range h]
  rfl
/-- The keys that a cipher holds, one by one. -/
theorem keys_at {w : World} {B : Nat} {kv : Value} {key : Nat → UInt8} (h : LBs w B kv (rKeys key)) : ∃ (kb ko kc : Nat) (ks : Nat → Value), kv = .slice (some ⟨kb, ko, none⟩) 11 kc ∧ kb < B ∧
    ∀ i, i < 11 → w.cell? ⟨kb, ko + i, none⟩ = some (ks i) ∧ Bs w B (ks i) (bList 16 (rK key i)) := by
  obtain ⟨a, c, xs, hv, h1, h2, hE, h4⟩ := h
  have hlen : (rKeys key).length = 11 := by simp [rKeys]
  rw [hlen] at hv h4
  obtain ⟨kb, ko, rfl, hlt, hc⟩ := h4 (by omega)
  refine ⟨kb, ko, c, fun i => xs.getD i (.slice none 0 0), hv, hlt, fun i hi => ?_⟩
  have hx : xs[i]? = some (xs.getD i (.slice none 0 0)) := by
    have : i < xs.length := by rw [hE.1, hlen]; exact hi
    simp [this]
  refine ⟨hc i _ hx, ?_⟩
  have := hE.2 i _ hx
  rwa [gl_rKeys key i hi] at this
theorem add_key {g : Nat} {t : TypeId} {f : Nat → UInt8} {v : Value} {k : Nat → UInt8} {w : World} (hg : w.rowIs g t 16 (fun j => U8 (f j))) (hv : BsS w (· ≠ g) v (bList 16 k)) :
    Calls Tryd.prog 86 #[.pointer (some ⟨g, 0, none⟩), v] w fun e w' => e = .returned (.tuple #[]) ∧ w'.rowIs g t 16 (fun j => U8 (f j ^^^ k j)) ∧ w.grownBy w' (some g) :=
  (add_any g t f v _ (bList_len _ _) w hg hv).mono fun _ _ ⟨h1, h2, h3⟩ => ⟨h1, h2.congr fun j hj => by rw [bList_getD _ _ _ hj], h3⟩
theorem arrNew (w : World) : (w.alloc (.cells #[.int .u8 0, .int .u8 0, .int .u8 0, .int .u8 0, .int .u8 0, .int .u8 0, .int .u8 0, .int .u8 0, .int .u8 0, .int .u8 0, .int .u8 0, .int .u8 0, .int .u8 0, .int .u8 0, .int .u8 0, .int .u8 0] 94)).rowIs w.heap.size 94 16 (fun j => U8 ((fun _ => 0) j)) := by
  refine ⟨_, heap_alloc_new _ _, rfl, fun i hi => ?_⟩
  iterate 16 (rcases i with _ | i; · rfl)
  omega

set_option maxRecDepth 100000 in
set_option maxHeartbeats 2000000 in
theorem refEncrypt_any (p v : Value) (key : Nat → UInt8) (l : List UInt8) (hl : l.length = 16) (w : World) (hp : RefCipherAt w w.heap.size p key) (hv : Bs w w.heap.size v l) :
    Calls Tryd.prog 77 #[p, v] w fun e w' => ∃ v', e = .returned v' ∧ BsS w' (New w w') v' (bList 16 (rEncF key (gb l))) ∧ Below w.heap.size w w' := by
  obtain ⟨cb, kv, rfl, hcb, hT, hB, hkc, hkv⟩ := hp
  obtain ⟨kb, ko, kc, ks, rfl, hkb, hks⟩ := keys_at hkv
  obtain ⟨a, c, hve, hlc, hc, _, hcell⟩ := hv
  obtain ⟨b, off, rfl, hb, hx⟩ := hcell (by omega)
  have hX : ArrB w b off 16 (gb l) := by rw [← hl]; exact hx
  rw [hl] at hve hlc
  subst hve
  clear hcell hx hl hB hkv
  have HX := Lib.hid hX; have HT := Lib.hid hT; have HKs := Lib.hid hks; have Hkc := Lib.hid hkc
  clear hX hT hks hkc
  have Hnew := Lib.hid (arrNew w)
  go_enter Tryd.func77, Tryd.ntmps77
  go_wp2
  go_loopw [6] (fun i wr => ∃ n : Nat, n ≤ 16 ∧ i = .int .i64 n ∧ wr.rowIs w.heap.size 94 16 (fun j => U8 (upto n (gb l) (fun _ => 0) j)) ∧ Below w.heap.size w wr) (fun i _ => 16 - (intOf i).toNat)
  case atStart => exact ⟨0, by omega, rfl, row_upto_zero Hnew.out _, (Below.refl _ _).alloc (Nat.le_refl _) _⟩
  case round =>
    obtain ⟨n, hn, rfl, hr, hbb⟩ := hrel
    by_cases hlt : n < 16
    · have hc1 := row_upto_cell hr hlt
      have hf1 := hr.frozen n
      have hc2 := (HX.out.of_block (hbb.block b hb)).at_ hlt
      have hn16 : (n : Int) < 16 := by omega
      go_wp2
      go_roundw
      case rel => exact ⟨n + 1, by omega, by go_num, row_upto_set hr rfl, hbb.setCell (by simp) _⟩
      case measure => simp [intOf] <;> omega
    · have hd : decide ((n : Int) < 16) = false := by simp; omega
      have hr0 := row_upto_full hr (by omega)
      have hk0 := (hbb.cell (p := ⟨cb, 512, none⟩) hcb).trans Hkc.out
      have hk1 := (hbb.cell (p := ⟨kb, ko + 0, none⟩) hkb).trans (HKs.out 0 (by omega)).1
      rw [Nat.add_zero] at hk1
      have Hb1 := Lib.hid (BsS.keep (S' := (· ≠ w.heap.size)) (HKs.out 0 (by omega)).2 fun b' hs _ => ⟨hbb.block b' hs, Nat.ne_of_lt hs⟩)
      have Hr0 := Lib.hid hr0; have Hbb := Lib.hid hbb
      clear hr hr0 hbb
      go_wp2_with fail
      refine (add_key Hr0.out Hb1.out).mono ?_
      rintro e w1 ⟨rfl, hr1, hg1⟩
      have hb1 := Hbb.out.trans (below_of_only hg1 Hbb.out.size (Nat.le_refl _))
      clear hk0 hk1 hg1
      go_wp2
      go_loopw [7] (fun i wr => ∃ m : Nat, m ≤ 10 ∧ i = .int .i64 (m + 1 : Nat) ∧ wr.rowIs w.heap.size 94 16 (fun j => U8 (rEncS key (gb l) m j)) ∧ Below w.heap.size w wr) (fun i _ => 11 - (intOf i).toNat)
      case atStart => exact ⟨0, by omega, rfl, hr1, hb1⟩
      case round =>
        clear hr1 hb1 Hr0 Hbb Hb1
        obtain ⟨m, hm, rfl, hr, hbb⟩ := hrel
        have j0 : 0 ≤ (m : Int) + 1 := by omega
        by_cases hlt : m < 10
        · have hd1 : decide ((m : Int) + 1 ≤ 10) = true := by simp; omega
          have j1 : (m : Int) + 1 < 11 := by omega
          have hct := HT.out.of_block (hbb.block cb hcb)
          have HT5 := Lib.hid hct
          have hk0 := (hbb.cell (p := ⟨cb, 512, none⟩) hcb).trans Hkc.out
          have hkn := (hbb.cell (p := ⟨kb, ko + (m + 1), none⟩) hkb).trans (HKs.out (m + 1) (by omega)).1
          have Hk0 := Lib.hid hk0; have Hkn := Lib.hid hkn
          have Hr5 := Lib.hid hr; have Hbb5 := Lib.hid hbb
          clear hct hk0 hkn hr hbb
          obtain ⟨wo, rfl⟩ : ∃ wo : World, wo = wr := ⟨_, rfl⟩
          have Hx5 := Lib.hid (arrNew wo)
          have hlo := Hbb5.out.size
          have hll := Hr5.out.lt
          go_wp2
          go_loopw [9] (fun i wi => ∃ q : Nat, q ≤ 16 ∧ i = .int .i64 q ∧ wi.rowIs wo.heap.size 94 16 (fun j => U8 (upto q (rSub (rEncS key (gb l) m)) (fun _ => 0) j)) ∧ wi.rowIs w.heap.size 94 16 (fun j => U8 (rEncS key (gb l) m j)) ∧ Below wo.heap.size wo wi) (fun i _ => 16 - (intOf i).toNat)
          case atStart => exact ⟨0, by omega, rfl, row_upto_zero Hx5.out _, Hr5.out.alloc _, (Below.refl _ _).alloc (Nat.le_refl _) _⟩
          case round =>
            obtain ⟨q, hq, rfl, hxr, hbr, hbo⟩ := hrel
            by_cases hlt2 : q < 16
            · have hc1 := row_upto_cell hxr hlt2
              have hf1 := hxr.frozen q
              have hc2 := hbr.cell (i := (q + 4 * (q % 4)) % 16) (by omega)
              obtain ⟨z, hz⟩ : ∃ z, z = rEncS key (gb l) m ((q + 4 * (q % 4)) % 16) := ⟨_, rfl⟩
              rw [← hz] at hc2
              have Hz := Lib.hid hz; clear hz
              have z0 := bv_nn z
              have z1 := bv_lt z
              have hc3 := (HT5.out.of_block (hbo.block cb (by omega))).at_ z.toNat_lt
              rw [Nat.zero_add] at hc3
              have i0 : 0 ≤ ((q : Int) + 4 * ((q : Int) % 4)) % 16 := by omega
              have i1 : ((q : Int) + 4 * ((q : Int) % 4)) % 16 < 16 := by omega
              have i2 : (q : Int) < 16 := by omega
              go_wp2
              refine wp_region_still_tail 15 (by kernel_rfl) (by kernel_rfl) ?_
              simp only [List.take_succ_cons, List.take_zero, List.drop_succ_cons, List.drop_zero]
              repeat (refine wpStill_step (fun K hK => ?_); go_simp; (try go_bits); refine hK _ ?_; clear hK K)
              refine wpStill_nil ?_
              go_wp2
              go_roundw
              case rel => exact ⟨q + 1, by omega, by go_num, (row_upto_set hxr (by rw [Hz.out]; rfl)).drew, (hbr.setOther (by simp; omega) _).drew, (hbo.setCell (by simp) _).drew⟩
              case measure => simp [intOf] <;> omega
            · have hdq : decide ((q : Int) < 16) = false := by simp; omega
              have hxa : ArrB wr wo.heap.size 0 16 (rSub (rEncS key (gb l) m)) := (ArrB.of_row (off := 0) (row_upto_full hxr (by omega)) (m := 16) (by omega)).congr fun j _ => by rw [Nat.zero_add]
              have Hxa := Lib.hid hxa; have Hbr := Lib.hid hbr
              have Hbb6 := Lib.hid (Hbb5.out.trans (hbo.mono Hbb5.out.size))
              clear hxa hbr hxr hbo
              go_wp2_with (first
                | (with_reducible refine wpList_load_arr rfl 94 (.tmp 8) rfl wo.heap.size 0 16 (rSub (rEncS key (gb l) m)) rfl _ Hxa.out Tryd.underlying94 rfl rfl ?_)
                | ((with_reducible refine wpList_store_arr rfl 94 (.tmp 5) (.tmp 50) rfl w.heap.size 16 (rSub (rEncS key (gb l) m)) rfl rfl 94 (rEncS key (gb l) m) Hbr.out rfl ?_)
                   intro w7 hr7 hg7
                   have hb7 := Hbb6.out.trans (below_of_only hg7 Hbb6.out.size (Nat.le_refl _))
                   have hk07 := (hb7.cell (p := ⟨cb, 512, none⟩) hcb).trans Hkc.out
                   have hkn7 := (hb7.cell (p := ⟨kb, ko + (m + 1), none⟩) hkb).trans (HKs.out (m + 1) (by omega)).1
                   have Hk7 := Lib.hid (BsS.keep (S' := (· ≠ w.heap.size)) (HKs.out (m + 1) (by omega)).2 fun b' hs _ => ⟨hb7.block b' hs, Nat.ne_of_lt hs⟩)
                   have Hr7 := Lib.hid hr7; have Hb7 := Lib.hid hb7
                   clear hr7 hg7 hb7))
              · have h9 : m + 1 < 10 := by omega
                have H9 := Lib.hid h9; clear h9 hk07 hkn7
                refine (refMix_any _ _ _ mixE _ (by rfl) _ Hr7.out).mono ?_
                rintro e w8 ⟨rfl, hr8, hg8⟩
                have hb8 := Hb7.out.trans (below_of_only hg8 Hb7.out.size (Nat.le_refl _))
                have hk08 := (hb8.cell (p := ⟨cb, 512, none⟩) hcb).trans Hkc.out
                have hkn8 := (hb8.cell (p := ⟨kb, ko + (m + 1), none⟩) hkb).trans (HKs.out (m + 1) (by omega)).1
                have Hk8 := Lib.hid (BsS.keep (S' := (· ≠ w.heap.size)) (HKs.out (m + 1) (by omega)).2 fun b' hs _ => ⟨hb8.block b' hs, Nat.ne_of_lt hs⟩)
                have Hr8 := Lib.hid hr8; have Hb8 := Lib.hid hb8
                clear hr8 hg8 hb8
                go_wp2_with fail
                refine (add_key Hr8.out Hk8.out).mono ?_
                rintro e w9 ⟨rfl, hr9, hg9⟩
                have hb9 := Hb8.out.trans (below_of_only hg9 Hb8.out.size (Nat.le_refl _))
                clear hg9 hk08 hkn8
                go_wp2
                go_roundw
                case rel =>
                  refine ⟨m + 1, by omega, by go_num, hr9.congr fun j _ => ?_, hb9⟩
                  show _ = U8 ((if m + 1 < 10 then _ else _) ^^^ _)
                  rw [if_pos H9.out]
                case measure => simp [intOf] <;> omega
              · have h9 : ¬ m + 1 < 10 := by omega
                have H9 := Lib.hid h9; clear h9
                refine (add_key Hr7.out Hk7.out).mono ?_
                rintro e w9 ⟨rfl, hr9, hg9⟩
                have hb9 := Hb7.out.trans (below_of_only hg9 Hb7.out.size (Nat.le_refl _))
                clear hg9 hk07 hkn7
                go_wp2
                go_roundw
                case rel =>
                  refine ⟨m + 1, by omega, by go_num, hr9.congr fun j _ => ?_, hb9⟩
                  show _ = U8 ((if m + 1 < 10 then _ else _) ^^^ _)
                  rw [if_neg H9.out]
                case measure => simp [intOf] <;> omega
        · have hm10 : m = 10 := by omega
          have hd1 : decide ((m : Int) + 1 ≤ 10) = false := by simp; omega
          have hsrc : SrcAt wr (some ⟨w.heap.size, 0, none⟩) 16 ((bList 16 (rEncF key (gb l))).map U8) := by
            have := (BsS.of_row (S := fun _ => True) hr (by omega) trivial).src.2
            rw [hm10] at this
            exact this
          have Hsrc := Lib.hid hsrc; have Hbb := Lib.hid hbb
          have h0 : wr.ownsRow wr.heap.size 5 1 (.slice none 0 0) 0 [] := World.ownsRow_nil _ _ _ _
          clear hsrc hbb hr hm10
          go_wp2_with (at_builtin; (with_reducible refine wpList_append1 _ rfl (.const (.slice none 0 0)) (.tmp 63) 22 rfl wr.heap.size 5 (.int .u8 0) 1 Tryd.underlying22 infoU8 rfl (by omega) (.slice none 0 0) 0 [] rfl h0 (some ⟨w.heap.size, 0, none⟩) 16 16 ((bList 16 (rEncF key (gb l))).map U8) rfl Hsrc.out (by omega) (Nat.le_refl _) ?_); intro v9 w9 hown9 hg9 _ _)
          have hb9 := below_append h0 hg9 (Nat.le_refl _) (Nat.le_refl _)
          go_ret
          exact ⟨v9, rfl, (BsS.of_own hown9 (by rw [bList_len]; omega)).keep fun b' hs _ => ⟨rfl, Nat.le_trans Hbb.out.size hs.1, hs.2⟩, Hbb.out.trans (hb9.mono Hbb.out.size)⟩
end Go.Proofs.YtnogcnmoeekcpaaDoor
/- Plain law: the tables of both sides are one table. -/
namespace Go.Proofs.YtnogcnmoeekcpaaDoor

/-- The table of the substitutes. -/
def sbList : List UInt8 := [99, 124, 119, 123, 242, 107, 111, 197, 48, 1, 103, 43, 254, 215, 171, 118, 202, 130, 201, 125, 250, 89, 71, 240, 173, 212, 162, 175, 156, 164, 114, 192, 183, 253, 147, 38, 54, 63, 247, 204, 52, 165, 229, 241, 113, 216, 49, 21, 4, 199, 35, 195, 24, 150, 5, 154, 7, 18, 128, 226, 235, 39, 178, 117, 9, 131, 44, 26, 27, 110, 90, 160, 82, 59, 214, 179, 41, 227, 47, 132, 83, 209, 0, 237, 32, 252, 177, 91, 106, 203, 190, 57, 74, 76, 88, 207, 208, 239, 170, 251, 67, 77, 51, 133, 69, 249, 2, 127, 80, 60, 159, 168, 81, 163, 64, 143, 146, 157, 56, 245, 188, 182, 218, 33, 16, 255, 243, 210, 205, 12, 19, 236, 95, 151, 68, 23, 196, 167, 126, 61, 100, 93, 25, 115, 96, 129, 79, 220, 34, 42, 144, 136, 70, 238, 184, 20, 222, 94, 11, 219, 224, 50, 58, 10, 73, 6, 36, 92, 194, 211, 172, 98, 145, 149, 228, 121, 231, 200, 55, 109, 141, 213, 78, 169, 108, 86, 244, 234, 101, 122, 174, 8, 186, 120, 37, 46, 28, 166, 180, 198, 232, 221, 116, 31, 75, 189, 139, 138, 112, 62, 181, 102, 72, 3, 246, 14, 97, 53, 87, 185, 134, 193, 29, 158, 225, 248, 152, 17, 105, 217, 142, 148, 155, 30, 135, 233, 206, 85, 40, 223, 140, 161, 137, 13, 191, 230, 66, 104, 65, 153, 45, 15, 176, 84, 187, 22]
def SB (x : UInt8) : UInt8 := sbList.getD x.toNat 0
/-- The table back. -/
def bsF (y : UInt8) : UInt8 := UInt8.ofNat (sbList.idxOf y)
theorem SB_back (x : UInt8) : bsF (SB x) = x := by
  refine forall_u8 (p := fun x => bsF (SB x) = x) ?_ x
  decide +kernel
theorem back_SB (x : UInt8) : SB (bsF x) = x := by
  refine forall_u8 (p := fun x => SB (bsF x) = x) ?_ x
  decide +kernel
theorem SB_inj {x y : UInt8} (h : SB x = SB y) : x = y := by rw [← SB_back x, h, SB_back]

/-! The program's tables. -/
/-- The powers meet the table, from x, y on. -/
def chkP : Nat → UInt8 → UInt8 → Bool
  | 0, _, _ => true
  | n + 1, x, y => (sbx y == SB x) && chkP n (x ^^^ dbl x) (gmul y 246)
theorem chkP_all (m : Nat) : ∀ (n k : Nat), chkP n (powX k) (powY k) = true → m < n → sbx (powY (k + m)) = SB (powX (k + m)) := by
  induction m with
  | zero =>
    intro n k h hn
    obtain ⟨q, rfl⟩ : ∃ q, n = q + 1 := ⟨n - 1, by omega⟩
    unfold chkP at h
    simp only [Bool.and_eq_true, beq_iff_eq] at h
    exact h.1
  | succ m ih =>
    intro n k h hn
    obtain ⟨q, rfl⟩ : ∃ q, n = q + 1 := ⟨n - 1, by omega⟩
    unfold chkP at h
    simp only [Bool.and_eq_true, beq_iff_eq] at h
    have := ih q (k + 1) h.2 (by omega)
    rwa [show k + 1 + m = k + (m + 1) by omega] at this
theorem powers_meet (n : Nat) (hn : n < 255) : sbx (powY n) = SB (powX n) := by
  have := chkP_all n 255 0 (by decide +kernel) hn
  rwa [Nat.zero_add] at this
/-- The powers of 3 reach every byte but 0. -/
def powList : Nat → UInt8 → List UInt8
  | 0, _ => []
  | n + 1, x => x :: powList n (x ^^^ dbl x)
theorem powList_mem (n : Nat) : ∀ (k : Nat) (b : UInt8), b ∈ powList n (powX k) → ∃ m, m < n ∧ powX (k + m) = b := by
  induction n with
  | zero => intro k b h; simp [powList] at h
  | succ n ih =>
    intro k b h
    rw [powList, List.mem_cons] at h
    rcases h with h | h
    · exact ⟨0, by omega, h.symm⟩
    · obtain ⟨m, hm, e⟩ := ih (k + 1) b h
      exact ⟨m + 1, by omega, by rw [← e]; congr 1; omega⟩
theorem powers_reach (b : UInt8) (hb : b ≠ 0) : ∃ m, m < 255 ∧ powX m = b := by
  have h : b ∈ powList 255 (powX 0) := by
    revert hb
    refine forall_u8 (p := fun b => b ≠ 0 → b ∈ powList 255 (powX 0)) ?_ b
    decide +kernel
  obtain ⟨m, hm, e⟩ := powList_mem 255 0 b h
  exact ⟨m, hm, by rwa [Nat.zero_add] at e⟩
theorem powX_ne (n : Nat) (hn : n < 255) : powX n ≠ 0 := by
  have : ∀ m, m < 255 → (powList 255 (powX 0)).getD m 0 ≠ 0 := by decide +kernel
  have hl : ∀ (n k m : Nat), m < n → (powList n (powX k)).getD m 0 = powX (k + m) := by
    intro n
    induction n with
    | zero => intro k m h; omega
    | succ n ih =>
      intro k m h
      rcases m with _ | m
      · rfl
      · have := ih (k + 1) m (by omega)
        rw [powList, List.getD_cons_succ]
        show (powList n (powX (k + 1))).getD m 0 = _
        rw [this]
        congr 1; omega
  have h := hl 255 0 n hn
  rw [Nat.zero_add] at h
  rw [← h]
  exact this n hn
/-- What n steps have entered: the substitutes of the powers that were met. -/
theorem tabF_fwd (n : Nat) (hn : n ≤ 255) (b : UInt8) : (∃ m, m < n ∧ powX m = b) → tabF n b.toNat = SB b := by
  induction n with
  | zero => rintro ⟨m, h, _⟩; omega
  | succ n ih =>
    rintro ⟨m, hm, e⟩
    show setT (tabF n) (powX n) (powY n) b.toNat = _
    unfold setT
    have hlt := b.toNat_lt
    rw [if_neg (by omega)]
    by_cases h : b.toNat = (powX n).toNat
    · rw [if_pos h, powers_meet n (by omega), UInt8.toNat_inj.1 h]
    · rw [if_neg h]
      refine ih (by omega) ⟨m, ?_, e⟩
      rcases Nat.lt_or_ge m n with h1 | h1
      · exact h1
      · have : m = n := by omega
        subst this
        exact absurd (by rw [e]) h
theorem tabF_bck (n : Nat) (hn : n ≤ 255) (b : UInt8) : (∃ m, m < n ∧ powX m = b) → tabF n (256 + (SB b).toNat) = b := by
  induction n with
  | zero => rintro ⟨m, h, _⟩; omega
  | succ n ih =>
    rintro ⟨m, hm, e⟩
    show setT (tabF n) (powX n) (powY n) _ = _
    unfold setT
    rw [powers_meet n (by omega)]
    have hlt := (powX n).toNat_lt
    by_cases h : SB b = SB (powX n)
    · rw [if_pos (by rw [h]), SB_inj h]
    · rw [if_neg (by intro e2; exact h (UInt8.toNat_inj.1 (by omega))), if_neg (by omega)]
      refine ih (by omega) ⟨m, ?_, e⟩
      rcases Nat.lt_or_ge m n with h1 | h1
      · exact h1
      · have : m = n := by omega
        subst this
        exact absurd (by rw [e]) h
theorem sbx_zero : sbx 0 = SB 0 := by decide +kernel
theorem fwd_SB (b : UInt8) : fwd b.toNat = SB b := by
  unfold fwd tabs setT
  have hlt := b.toNat_lt
  rw [if_neg (by omega), sbx_zero]
  by_cases h : b = 0
  · subst h; rw [if_pos rfl]
  · rw [if_neg (by intro e; exact h (UInt8.toNat_inj.1 e))]
    exact tabF_fwd 255 (by omega) b (powers_reach b h)
theorem bck_SB (b : UInt8) : bck (SB b).toNat = b := by
  unfold bck tabs setT
  rw [sbx_zero]
  by_cases h : b = 0
  · subst h; rw [if_pos rfl]
  · rw [if_neg (by intro e; exact h (SB_inj (UInt8.toNat_inj.1 (by omega)))), if_neg (by simp)]
    exact tabF_bck 255 (by omega) b (powers_reach b h)

/-! The reference's table. -/
def chkR : Nat → UInt8 → UInt8 → Bool
  | 0, _, _ => true
  | n + 1, x, y => (aff y == SB x) && chkR n (tms x 3) (tms y 246)
theorem chkR_all (m : Nat) : ∀ (n k : Nat), chkR n (rP k) (rQ k) = true → m < n → aff (rQ (k + m)) = SB (rP (k + m)) := by
  induction m with
  | zero =>
    intro n k h hn
    obtain ⟨q, rfl⟩ : ∃ q, n = q + 1 := ⟨n - 1, by omega⟩
    unfold chkR at h
    simp only [Bool.and_eq_true, beq_iff_eq] at h
    exact h.1
  | succ m ih =>
    intro n k h hn
    obtain ⟨q, rfl⟩ : ∃ q, n = q + 1 := ⟨n - 1, by omega⟩
    unfold chkR at h
    simp only [Bool.and_eq_true, beq_iff_eq] at h
    have := ih q (k + 1) h.2 (by omega)
    rwa [show k + 1 + m = k + (m + 1) by omega] at this
theorem refPowers_meet (n : Nat) (hn : n < 255) : aff (rQ n) = SB (rP n) := by
  have := chkR_all n 255 0 (by decide +kernel) hn
  rwa [Nat.zero_add] at this
theorem tms_three (a : UInt8) : tms a 3 = a ^^^ dbl a := by
  refine forall_u8 (p := fun a => tms a 3 = a ^^^ dbl a) ?_ a
  decide +kernel
theorem rP_powX (n : Nat) : rP n = powX n := by
  induction n with
  | zero => rfl
  | succ n ih => show tms (rP n) 3 = powX n ^^^ dbl (powX n); rw [tms_three, ih]
theorem rT_SB (n : Nat) (hn : n ≤ 255) (b : UInt8) : (∃ m, m < n ∧ powX m = b) → rT n b.toNat = SB b := by
  induction n with
  | zero => rintro ⟨m, h, _⟩; omega
  | succ n ih =>
    rintro ⟨m, hm, e⟩
    show (if b.toNat = (rP n).toNat then aff (rQ n) else rT n b.toNat) = _
    by_cases h : b.toNat = (rP n).toNat
    · rw [if_pos h, refPowers_meet n (by omega), UInt8.toNat_inj.1 h]
    · rw [if_neg h]
      refine ih (by omega) ⟨m, ?_, e⟩
      rcases Nat.lt_or_ge m n with h1 | h1
      · exact h1
      · have : m = n := by omega
        subst this
        exact absurd (by rw [rP_powX, e]) h
theorem rTab_SB (b : UInt8) : rTab b.toNat = SB b := by
  unfold rTab
  by_cases h : b = 0
  · subst h; rw [if_pos (by decide)]; decide +kernel
  · rw [if_neg (by intro e; exact h (UInt8.toNat_inj.1 e))]
    exact rT_SB 255 (by omega) b (powers_reach b h)
theorem rBack_SB (n : Nat) (hn : n ≤ 256) (b : UInt8) (hb : b.toNat < n) : rBack n (SB b).toNat = b := by
  induction n with
  | zero => omega
  | succ n ih =>
    show (if (SB b).toNat = (rTab n).toNat then ofI n else rBack n (SB b).toNat) = _
    have en : n = (UInt8.ofNat n).toNat := by simp; omega
    have et : rTab n = SB (UInt8.ofNat n) := by rw [← rTab_SB, ← en]
    rw [et]
    by_cases h : SB b = SB (UInt8.ofNat n)
    · rw [if_pos (by rw [h]), SB_inj h]
      apply bv_inj
      rw [bv_ofI]
      unfold bv
      rw [← en]
      omega
    · rw [if_neg (by intro e; exact h (UInt8.toNat_inj.1 e))]
      refine ih (by omega) ?_
      rcases Nat.lt_or_ge b.toNat n with h1 | h1
      · exact h1
      · exact absurd (by rw [show b = UInt8.ofNat n from UInt8.toNat_inj.1 (by omega)]) h
theorem rBck_SB (b : UInt8) : rBck (SB b).toNat = b := rBack_SB 256 (by omega) b b.toNat_lt
theorem fwd_rTab (b : UInt8) : fwd b.toNat = rTab b.toNat := by rw [fwd_SB, rTab_SB]
theorem bck_rBck (b : UInt8) : bck b.toNat = rBck b.toNat := by
  rw [← back_SB b, bck_SB, rBck_SB]
end Go.Proofs.YtnogcnmoeekcpaaDoor
/- The walk of the reference's Decrypt. -/
namespace Go.Proofs.YtnogcnmoeekcpaaDoor
open Go.RowKit

def rInv (g : Nat → UInt8) (j : Nat) : UInt8 := rBck (g ((j + 12 * (j % 4)) % 16)).toNat
/-- x behind q rounds of the inner loop. -/
def rInvP (g : Nat → UInt8) (q j : Nat) : UInt8 := if (j + 12 * (j % 4)) % 16 < q then rInv g j else 0
theorem rInvP_step (g : Nat → UInt8) (q j : Nat) (hq : q < 16) (hj : j < 16) (v : UInt8) (hv : v = rBck (g q).toNat) :
    (if j = (q + 4 * (q % 4)) % 16 then U8 v else U8 (rInvP g q j)) = U8 (rInvP g (q + 1) j) := by
  unfold rInvP
  by_cases h : j = (q + 4 * (q % 4)) % 16
  · rw [if_pos h, if_pos (by omega), hv]
    unfold rInv
    rw [show (j + 12 * (j % 4)) % 16 = q by omega]
  · rw [if_neg h]
    by_cases h2 : (j + 12 * (j % 4)) % 16 < q
    · rw [if_pos h2, if_pos (by omega)]
    · rw [if_neg h2, if_neg (by omega)]
/-- A state with a round's key, and mixed unless it is the last one. -/
def rDecG (key : Nat → UInt8) (i : Nat) (s : Nat → UInt8) (j : Nat) : UInt8 := if i < 10 then rmixF mixD (fun j => s j ^^^ rK key i j) j else s j ^^^ rK key i j
def rDecS (key f : Nat → UInt8) : Nat → Nat → UInt8
  | 0 => f
  | n + 1 => rInv (rDecG key (10 - n) (rDecS key f n))
def rDecF (key f : Nat → UInt8) (j : Nat) : UInt8 := rDecS key f 10 j ^^^ rK key 0 j

end Go.Proofs.YtnogcnmoeekcpaaDoor
/- The walk of Expand. -/
namespace Go.Proofs.YtnogcnmoeekcpaaDoor
open Go.RowKit

/-- The first n keys of the rounds. -/
def keyL (key : Nat → UInt8) (n : Nat) : List (List UInt8) := (List.range n).map fun i => bList 16 (keyF fwd key i)
theorem keyL_succ (key : Nat → UInt8) (n : Nat) : keyL key (n + 1) = keyL key n ++ [bList 16 (keyF fwd key n)] := by
  unfold keyL; rw [List.range_succ, List.map_append]; rfl
theorem keyL_len (key : Nat → UInt8) (n : Nat) : (keyL key n).length = n := by simp [keyL]

theorem index_keys (K : Nat → UInt8) (n : Nat) (hn : n < 11) (w : World) :
    (Instr.index 102 (.agg (bArr 176 K)) (.int .i64 n)).run Tryd.prog w = .ok (.agg (bArr 16 fun j => K (n * 16 + j))) w := by
  iterate 11 (rcases n with _ | n; · kernel_rfl)
  omega
theorem clone_lit (A : Option Addr) (n c : Nat) (l : List UInt8) (w : World) (hv : Bs w w.heap.size (.slice A n c) l) :
    Calls Tryd.prog 62 #[.slice A n c] w fun e w' => ∃ v', e = .returned v' ∧ OwnB w' w.heap.size v' l ∧ Below w.heap.size w w' := clone_any _ l w hv
end Go.Proofs.YtnogcnmoeekcpaaDoor
/- Plain law: both sides expand, encrypt and decrypt alike. -/
namespace Go.Proofs.YtnogcnmoeekcpaaDoor

theorem kw0_congr {T T' : Nat → UInt8} (hT : ∀ x : UInt8, T x.toNat = T' x.toNat) (old : Nat → UInt8) (c : UInt8) : kw0 T old c = kw0 T' old c := by
  funext r
  unfold kw0
  rw [hT, hT, hT, hT]
theorem kwF_congr {T T' : Nat → UInt8} (hT : ∀ x : UInt8, T x.toNat = T' x.toNat) (old : Nat → UInt8) (c : UInt8) (n : Nat) : kwF T old c n = kwF T' old c n := by
  induction n with
  | zero => exact kw0_congr hT old c
  | succ n ih => unfold kwF; rw [ih]
theorem keyF_congr {T T' : Nat → UInt8} (hT : ∀ x : UInt8, T x.toNat = T' x.toNat) (key : Nat → UInt8) (i : Nat) : keyF T key i = keyF T' key i := by
  induction i with
  | zero => rfl
  | succ i ih =>
    show nextK T (keyF T key i) (rconF i) = nextK T' (keyF T' key i) (rconF i)
    rw [ih]
    funext k
    unfold nextK
    rw [kwF_congr hT]
theorem keyF_rK (key : Nat → UInt8) (i j : Nat) (hj : j < 16) : keyF fwd key i j = rK key i j := by
  unfold rK keysF
  rw [show (16 * i + j) / 16 = i by omega, show (16 * i + j) % 16 = j by omega, keyF_congr fwd_rTab]
theorem keyL_rKeys (key : Nat → UInt8) : keyL key 11 = rKeys key := by
  unfold keyL rKeys
  exact List.map_congr_left fun i _ => bList_congr fun j hj => keyF_rK key i j hj

theorem odd_u8 (b : UInt8) : (b &&& 1 == 1) = (bv b % 2 == 1) := by
  refine forall_u8 (p := fun b => (b &&& 1 == 1) = (bv b % 2 == 1)) ?_ b
  decide +kernel
theorem tmsZ_zero (n : Nat) (a out : UInt8) : tmsZ n a 0 out = out := by
  induction n generalizing a with
  | zero => rfl
  | succ n ih => rw [tmsZ_even _ _ _ _ (by decide)]; exact ih _
theorem gmulF_tmsZ (n : Nat) : ∀ (a b out : UInt8), bv b < 2 ^ n → gmulF n a b out = tmsZ n a (bv b) out := by
  induction n with
  | zero => intro a b out h; rfl
  | succ n ih =>
    intro a b out h
    by_cases hb : (b != 0) = true
    · have hd : bv (b / 2) = bv b / 2 := by
        have := bv_div b 2 (by omega) (by omega)
        rw [ofI_2] at this
        exact this.symm
      have h2 := shr_lt b n h
      by_cases h1 : (b &&& 1 == 1) = true
      · rw [gmulF_odd _ _ _ _ hb h1, tmsZ_odd _ _ _ _ (by rw [← odd_u8]; exact h1), ih _ _ _ h2, hd]
      · have h1 : (b &&& 1 == 1) = false := by simpa using h1
        rw [gmulF_even _ _ _ _ hb h1, tmsZ_even _ _ _ _ (by rw [← odd_u8]; exact h1), ih _ _ _ h2, hd]
    · have hb : (b != 0) = false := by simpa using hb
      have e : b = 0 := by simpa using hb
      rw [gmulF_end _ _ _ _ hb, e]
      exact (tmsZ_zero _ _ _).symm
theorem gmul_tms (a b : UInt8) : gmul a b = tms a b := gmulF_tmsZ 8 a b 0 (bv_lt b)

theorem mixS_rmixS (row f : Nat → UInt8) (i n : Nat) : mixS row f i n = rmixS row f (i / 4) (i % 4) n := by
  induction n with
  | zero => rfl
  | succ n ih => rw [mixS_succ, rmixS_succ, ih, gmul_tms, Nat.mul_comm]
theorem rmixS_congr (row : Nat → UInt8) {f g : Nat → UInt8} (h : ∀ j, j < 16 → f j = g j) (c r n : Nat) (hc : c < 4) (hn : n ≤ 4) : rmixS row f c r n = rmixS row g c r n := by
  induction n with
  | zero => rfl
  | succ n ih => rw [rmixS_succ, rmixS_succ, ih (by omega), h _ (by omega)]
theorem mix_eq (row : Nat → UInt8) {f g : Nat → UInt8} (h : ∀ j, j < 16 → f j = g j) (i : Nat) (hi : i < 16) : mixF row f i = rmixF row g i := by
  unfold mixF rmixF
  rw [mixS_rmixS, rmixS_congr row h _ _ _ (by omega) (Nat.le_refl _)]

theorem encS_eq (key f : Nat → UInt8) (n : Nat) : ∀ j, j < 16 → encS key f n j = rEncS key f n j := by
  induction n with
  | zero => intro j hj; show f j ^^^ _ = f j ^^^ _; rw [keyF_rK key 0 j hj]
  | succ n ih =>
    have hs : ∀ j, j < 16 → rotF 1 (fun j => fwd (encS key f n j).toNat) j = rSub (rEncS key f n) j := fun j hj => by
      unfold rotF rSub
      dsimp only
      rw [show 4 * ((j / 4 + 1 * (j % 4)) % 4) + j % 4 = (j + 4 * (j % 4)) % 16 by omega, ih _ (by omega), fwd_rTab]
    intro j hj
    show (if n + 1 < 10 then _ else _) ^^^ _ = (if n + 1 < 10 then _ else _) ^^^ _
    rw [keyF_rK key (n + 1) j hj]
    by_cases h : n + 1 < 10
    · rw [if_pos h, if_pos h, mix_eq mixE hs j hj]
    · rw [if_neg h, if_neg h, hs j hj]
theorem encF_eq (key f : Nat → UInt8) : bList 16 (encF key f) = bList 16 (rEncF key f) := bList_congr fun j hj => encS_eq key f 10 j hj
theorem decS_eq (key f : Nat → UInt8) (n : Nat) : ∀ j, j < 16 → decS key f n j = rDecS key f n j := by
  induction n with
  | zero => intro j _; rfl
  | succ n ih =>
    have hk : ∀ j, j < 16 → decS key f n j ^^^ keyF fwd key (10 - n) j = rDecS key f n j ^^^ rK key (10 - n) j := fun j hj => by rw [ih j hj, keyF_rK key _ j hj]
    intro j hj
    show bck (rotF 3 _ j).toNat = rBck (rDecG key (10 - n) (rDecS key f n) ((j + 12 * (j % 4)) % 16)).toNat
    rw [← bck_rBck]
    congr 2
    unfold rotF rDecG
    rw [show 4 * ((j / 4 + 3 * (j % 4)) % 4) + j % 4 = (j + 12 * (j % 4)) % 16 by omega]
    by_cases h : 10 - n < 10
    · rw [if_pos h, if_pos h, mix_eq mixD hk _ (by omega)]
    · rw [if_neg h, if_neg h]
      exact hk _ (by omega)
theorem decF_eq (key f : Nat → UInt8) : bList 16 (decF key f) = bList 16 (rDecF key f) := bList_congr fun j hj => by
  unfold decF rDecF
  rw [decS_eq key f 10 j hj, keyF_rK key 0 j hj]
end Go.Proofs.YtnogcnmoeekcpaaDoor
/- Plain law: Decrypt and Encrypt lead back to the block, in both orders. -/
namespace Go.Proofs.YtnogcnmoeekcpaaDoor

/-! Doubling, and multiplying by a constant, keep sums. -/
theorem dbl_sh (a : UInt8) : dbl a = a <<< 1 ^^^ (a >>> 7) * 27 := by
  refine forall_u8 (p := fun a => dbl a = a <<< 1 ^^^ (a >>> 7) * 27) ?_ a
  decide +kernel
theorem top_bit (a : UInt8) : a >>> 7 = 0 ∨ a >>> 7 = 1 := by
  refine forall_u8 (p := fun a => a >>> 7 = 0 ∨ a >>> 7 = 1) ?_ a
  decide +kernel
theorem xor4 (a b c d : UInt8) : (a ^^^ b) ^^^ (c ^^^ d) = (a ^^^ c) ^^^ (b ^^^ d) := by ac_rfl
theorem dbl_xor (a b : UInt8) : dbl (a ^^^ b) = dbl a ^^^ dbl b := by
  rw [dbl_sh, dbl_sh, dbl_sh, UInt8.shiftLeft_xor, UInt8.shiftRight_xor, xor4]
  congr 1
  rcases top_bit a with e | e <;> rcases top_bit b with e2 | e2 <;> rw [e, e2] <;> decide
theorem gmulF_xor (n : Nat) : ∀ (a a' b o o' : UInt8), gmulF n (a ^^^ a') b (o ^^^ o') = gmulF n a b o ^^^ gmulF n a' b o' := by
  induction n with
  | zero => intro a a' b o o'; rfl
  | succ n ih =>
    intro a a' b o o'
    by_cases hb : (b != 0) = true
    · by_cases h1 : (b &&& 1 == 1) = true
      · rw [gmulF_odd _ _ _ _ hb h1, gmulF_odd _ _ _ _ hb h1, gmulF_odd _ _ _ _ hb h1, dbl_xor, xor4, ih]
      · have h1 : (b &&& 1 == 1) = false := by simpa using h1
        rw [gmulF_even _ _ _ _ hb h1, gmulF_even _ _ _ _ hb h1, gmulF_even _ _ _ _ hb h1, dbl_xor, ih]
    · have hb : (b != 0) = false := by simpa using hb
      rw [gmulF_end _ _ _ _ hb, gmulF_end _ _ _ _ hb, gmulF_end _ _ _ _ hb]
theorem gmul_xor (a a' b : UInt8) : gmul (a ^^^ a') b = gmul a b ^^^ gmul a' b := by
  have := gmulF_xor 8 a a' b 0 0
  rwa [show (0 : UInt8) ^^^ 0 = 0 from rfl] at this
theorem gmul_xor4 (a b c d e : UInt8) : gmul (a ^^^ b ^^^ c ^^^ d) e = gmul a e ^^^ gmul b e ^^^ gmul c e ^^^ gmul d e := by
  rw [gmul_xor, gmul_xor, gmul_xor]

/-- One byte of the product of a column and a matrix row. -/
theorem mixF_four (row f : Nat → UInt8) (c r : Nat) (hr : r < 4) :
    mixF row f (4 * c + r) = gmul (f (4 * c)) (row ((0 + 4 - r) % 4)) ^^^ gmul (f (4 * c + 1)) (row ((1 + 4 - r) % 4)) ^^^ gmul (f (4 * c + 2)) (row ((2 + 4 - r) % 4)) ^^^ gmul (f (4 * c + 3)) (row ((3 + 4 - r) % 4)) := by
  unfold mixF
  rw [mixS_succ, mixS_succ, mixS_succ, mixS_succ]
  rw [show (4 * c + r) / 4 * 4 = 4 * c by omega, show (4 * c + r) % 4 = r by omega]
  show 0 ^^^ _ ^^^ _ ^^^ _ ^^^ _ = _
  rw [UInt8.zero_xor, Nat.add_zero]
/-- What a byte of the column gives to a byte of it, through both matrices. -/
def through (D E : Nat → UInt8) (m r : Nat) (x : UInt8) : UInt8 :=
  gmul (gmul x (E ((m + 4 - 0) % 4))) (D ((0 + 4 - r) % 4)) ^^^ gmul (gmul x (E ((m + 4 - 1) % 4))) (D ((1 + 4 - r) % 4)) ^^^ gmul (gmul x (E ((m + 4 - 2) % 4))) (D ((2 + 4 - r) % 4)) ^^^ gmul (gmul x (E ((m + 4 - 3) % 4))) (D ((3 + 4 - r) % 4))
theorem mix_mix (D E f : Nat → UInt8) (c r : Nat) (hr : r < 4) :
    mixF D (mixF E f) (4 * c + r) = through D E 0 r (f (4 * c)) ^^^ through D E 1 r (f (4 * c + 1)) ^^^ through D E 2 r (f (4 * c + 2)) ^^^ through D E 3 r (f (4 * c + 3)) := by
  rw [mixF_four D (mixF E f) c r hr]
  have h0 := mixF_four E f c 0 (by omega)
  have h1 := mixF_four E f c 1 (by omega)
  have h2 := mixF_four E f c 2 (by omega)
  have h3 := mixF_four E f c 3 (by omega)
  rw [Nat.add_zero] at h0
  rw [h0, h1, h2, h3, gmul_xor4, gmul_xor4, gmul_xor4, gmul_xor4]
  unfold through
  simp only [Nat.zero_add, Nat.sub_zero]
  generalize D (_ % 4) = d0
  ac_rfl
def idC (m r : Nat) (x : UInt8) : UInt8 := if m = r then x else 0
theorem thru_DE_all : ∀ m, m < 4 → ∀ r, r < 4 → ∀ n, n < 256 → through mixD mixE m r (UInt8.ofNat n) = idC m r (UInt8.ofNat n) := by
  decide +kernel
theorem thru_DE (m r : Nat) (hm : m < 4) (hr : r < 4) (x : UInt8) : through mixD mixE m r x = idC m r x :=
  forall_u8 (p := fun x => through mixD mixE m r x = idC m r x) (fun n hn => thru_DE_all m hm r hr n hn) x
theorem thru_ED_all : ∀ m, m < 4 → ∀ r, r < 4 → ∀ n, n < 256 → through mixE mixD m r (UInt8.ofNat n) = idC m r (UInt8.ofNat n) := by
  decide +kernel
theorem thru_ED (m r : Nat) (hm : m < 4) (hr : r < 4) (x : UInt8) : through mixE mixD m r x = idC m r x :=
  forall_u8 (p := fun x => through mixE mixD m r x = idC m r x) (fun n hn => thru_ED_all m hm r hr n hn) x
theorem mix_back (D E f : Nat → UInt8) (h : ∀ m r, m < 4 → r < 4 → ∀ x, through D E m r x = idC m r x) (i : Nat) : mixF D (mixF E f) i = f i := by
  obtain ⟨c, r, hr, rfl⟩ : ∃ c r, r < 4 ∧ i = 4 * c + r := ⟨i / 4, i % 4, by omega, by omega⟩
  rw [mix_mix D E f c r hr, h 0 r (by omega) hr, h 1 r (by omega) hr, h 2 r (by omega) hr, h 3 r (by omega) hr]
  unfold idC
  rcases r with _ | _ | _ | _ | r
  · simp
  · simp
  · simp
  · simp
  · omega
theorem mixD_mixE (f : Nat → UInt8) : mixF mixD (mixF mixE f) = f := by
  funext i
  exact mix_back mixD mixE f (fun m r hm hr x => thru_DE m r hm hr x) i
theorem mixE_mixD (f : Nat → UInt8) : mixF mixE (mixF mixD f) = f := by
  funext i
  exact mix_back mixE mixD f (fun m r hm hr x => thru_ED m r hm hr x) i
theorem mixF_congr (row : Nat → UInt8) {f g : Nat → UInt8} (h : ∀ j, j < 16 → f j = g j) (j : Nat) (hj : j < 16) : mixF row f j = mixF row g j := by
  obtain ⟨c, r, hr, rfl⟩ : ∃ c r, r < 4 ∧ j = 4 * c + r := ⟨j / 4, j % 4, by omega, by omega⟩
  rw [mixF_four row f c r hr, mixF_four row g c r hr, h _ (by omega), h _ (by omega), h _ (by omega), h _ (by omega)]

theorem rot31 (f : Nat → UInt8) (i : Nat) (hi : i < 16) : rotF 3 (rotF 1 f) i = f i := by
  unfold rotF; congr 1; omega
theorem rot13 (f : Nat → UInt8) (i : Nat) (hi : i < 16) : rotF 1 (rotF 3 f) i = f i := by
  unfold rotF; congr 1; omega
theorem rotF_congr (s : Nat) {f g : Nat → UInt8} (h : ∀ j, j < 16 → f j = g j) (i : Nat) : rotF s f i = rotF s g i := by
  unfold rotF; exact h _ (by omega)
theorem bck_fwd (b : UInt8) : bck (fwd b.toNat).toNat = b := by rw [fwd_SB, bck_SB]
theorem fwd_bck (b : UInt8) : fwd (bck b.toNat).toNat = b := by
  obtain ⟨a, rfl⟩ : ∃ a, b = SB a := ⟨bsF b, (back_SB b).symm⟩
  rw [bck_SB, fwd_SB]
theorem xor_back (a b : UInt8) : a ^^^ b ^^^ b = a := by rw [UInt8.xor_assoc, UInt8.xor_self, UInt8.xor_zero]

/-- The states of the decryption of an encrypted block are those of the encryption, backwards. -/
theorem dec_enc (key f g : Nat → UInt8) (hg : ∀ j, j < 16 → g j = encF key f j) (n : Nat) (hn : n ≤ 10) : ∀ j, j < 16 → decS key g n j = encS key f (10 - n) j := by
  induction n with
  | zero => intro j hj; exact hg j hj
  | succ n ih =>
    have ih := ih (by omega)
    obtain ⟨m, hm⟩ : ∃ m, 10 - n = m + 1 := ⟨9 - n, by omega⟩
    have hm2 : 10 - (n + 1) = m := by omega
    intro j hj
    rw [hm2]
    show bck (rotF 3 _ j).toNat = _
    have hstep : ∀ i, i < 16 → (if 10 - n < 10 then mixF mixD (fun j => decS key g n j ^^^ keyF fwd key (10 - n) j) else fun j => decS key g n j ^^^ keyF fwd key (10 - n) j) i = rotF 1 (fun j => fwd (encS key f m j).toNat) i := by
      rw [hm] at ih ⊢
      have hs : ∀ i, i < 16 → decS key g n i ^^^ keyF fwd key (m + 1) i = (if m + 1 < 10 then mixF mixE (rotF 1 fun j => fwd (encS key f m j).toNat) i else rotF 1 (fun j => fwd (encS key f m j).toNat) i) := fun i hi => by
        rw [ih i hi]
        exact xor_back _ _
      intro i hi
      by_cases h : m + 1 < 10
      · rw [if_pos h]
        rw [mixF_congr mixD hs i hi]
        simp only [if_pos h]
        exact congrFun (mixD_mixE _) i
      · rw [if_neg h]
        rw [hs i hi, if_neg h]
    rw [rotF_congr 3 hstep, rot31 _ _ hj]
    exact bck_fwd _
theorem decF_encF (key f g : Nat → UInt8) (hg : ∀ j, j < 16 → g j = encF key f j) (j : Nat) (hj : j < 16) : decF key g j = f j := by
  unfold decF
  rw [dec_enc key f g hg 10 (by omega) j hj]
  exact xor_back _ _
/-- .. and the other way about. -/
theorem enc_dec (key f g : Nat → UInt8) (hf : ∀ j, j < 16 → f j = decF key g j) (n : Nat) (hn : n ≤ 10) : ∀ j, j < 16 → encS key f n j = decS key g (10 - n) j := by
  induction n with
  | zero =>
    intro j hj
    show f j ^^^ keyF fwd key 0 j = _
    rw [hf j hj]
    exact xor_back _ _
  | succ n ih =>
    have ih := ih (by omega)
    obtain ⟨m, hm⟩ : ∃ m, 10 - n = m + 1 := ⟨9 - n, by omega⟩
    have hm2 : 10 - (n + 1) = m := by omega
    rw [hm] at ih
    rw [hm2]
    have hnm : 10 - m = n + 1 := by omega
    intro j hj
    show (if n + 1 < 10 then mixF mixE (rotF 1 fun j => fwd (encS key f n j).toNat) j else rotF 1 (fun j => fwd (encS key f n j).toNat) j) ^^^ keyF fwd key (n + 1) j = _
    have hr : ∀ i, i < 16 → rotF 1 (fun j => fwd (encS key f n j).toNat) i = (if 10 - m < 10 then mixF mixD (fun j => decS key g m j ^^^ keyF fwd key (10 - m) j) else fun j => decS key g m j ^^^ keyF fwd key (10 - m) j) i := fun i hi => by
      rw [rotF_congr 1 (g := rotF 3 (if 10 - m < 10 then mixF mixD (fun j => decS key g m j ^^^ keyF fwd key (10 - m) j) else fun j => decS key g m j ^^^ keyF fwd key (10 - m) j)) (fun i hi => by rw [ih i hi]; exact fwd_bck _) i, rot13 _ _ hi]
    rw [hnm] at hr
    by_cases h : n + 1 < 10
    · rw [if_pos h] at hr ⊢
      rw [mixF_congr mixE hr j hj, mixE_mixD]
      exact xor_back _ _
    · rw [if_neg h] at hr ⊢
      rw [hr j hj]
      exact xor_back _ _
theorem encF_decF (key f g : Nat → UInt8) (hf : ∀ j, j < 16 → f j = decF key g j) (j : Nat) (hj : j < 16) : encF key f j = g j := by
  unfold encF
  rw [enc_dec key f g hf 10 (by omega) j hj]
  rfl
theorem dec_enc_list (k l : List UInt8) (hl : l.length = 16) : bList 16 (decF (gb k) (gb (bList 16 (encF (gb k) (gb l))))) = l := by
  rw [← bList_of l 16 hl]
  exact bList_congr fun j hj => by
    rw [bList_of l 16 hl]
    exact decF_encF (gb k) (gb l) _ (fun j hj => bList_getD _ _ _ hj) j hj
theorem enc_dec_list (k l : List UInt8) (hl : l.length = 16) : bList 16 (encF (gb k) (gb (bList 16 (decF (gb k) (gb l))))) = l := by
  rw [← bList_of l 16 hl]
  exact bList_congr fun j hj => by
    rw [bList_of l 16 hl]
    exact encF_decF (gb k) _ (gb l) (fun j hj => bList_getD _ _ _ hj) j hj
end Go.Proofs.YtnogcnmoeekcpaaDoor
