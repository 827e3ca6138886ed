/- Layer 2: the walk of the reader's length. -/
import Derived.Test.YtljalnfjneeieaaTlv7
namespace Go.Proofs.Ytljalnfjneeieaa
open Go.RowKit Go.Deep

theorem beV_nn (l : List UInt8) (k : Nat) : 0 ≤ beV l k := by
  induction k with
  | zero => exact Int.le_refl _
  | succ k ih => rw [beV]; have := bv_nn (gb l (k + 1)); omega
theorem beV_lt (l : List UInt8) (k : Nat) : beV l k < 256 ^ k := by
  induction k with
  | zero => show (0 : Int) < 256 ^ 0; decide
  | succ k ih => rw [beV, Int.pow_succ]; have := bv_lt (gb l (k + 1)); omega
theorem sizeP_at (l : List UInt8) (f : UInt8) (x : Nat) (o st : Bool) (h : ¬ l.length = 0) (h0 : gb l 0 = f) (hx : x = f.toNat) : sizeP l o st = if (x : Int) < 128 then .ok (x, 1) else if 132 < (x : Int) then .error 5 else if (x : Int) = 128 then (if o = true then .ok (-1, 1) else .error 5)
    else if l.length < 1 + (x - 128) then .error 6 else if st = true ∧ (beV l (x - 128) < 128 ∨ (1 < x - 128 ∧ gb l 1 = 0)) then .error 5 else .ok (beV l (x - 128), 1 + (x - 128)) := by
  subst hx h0
  unfold sizeP
  rw [if_neg h]
  rfl
theorem top_byte2 (l : List UInt8) (z : Nat) (h : beV l 2 = z) : (z : Int) / 256 = 0 ↔ gb l 1 = 0 := by
  have b1 := bv_lt (gb l 1); have b2 := bv_lt (gb l 2); have b3 := bv_lt (gb l 3); have b4 := bv_lt (gb l 4)
  have n1 := bv_nn (gb l 1); have n2 := bv_nn (gb l 2); have n3 := bv_nn (gb l 3); have n4 := bv_nn (gb l 4)
  have e : (z : Int) / 256 = bv (gb l 1) := by
    rw [← h]; simp only [beV]; simp only [Nat.reduceAdd]; omega
  rw [e]
  exact ⟨fun h => bv_inj h, fun h => by rw [h]; rfl⟩
theorem top_byte3 (l : List UInt8) (z : Nat) (h : beV l 3 = z) : (z : Int) / 65536 = 0 ↔ gb l 1 = 0 := by
  have b1 := bv_lt (gb l 1); have b2 := bv_lt (gb l 2); have b3 := bv_lt (gb l 3); have b4 := bv_lt (gb l 4)
  have n1 := bv_nn (gb l 1); have n2 := bv_nn (gb l 2); have n3 := bv_nn (gb l 3); have n4 := bv_nn (gb l 4)
  have e : (z : Int) / 65536 = bv (gb l 1) := by
    rw [← h]; simp only [beV]; simp only [Nat.reduceAdd]; omega
  rw [e]
  exact ⟨fun h => bv_inj h, fun h => by rw [h]; rfl⟩
theorem top_byte4 (l : List UInt8) (z : Nat) (h : beV l 4 = z) : (z : Int) / 16777216 = 0 ↔ gb l 1 = 0 := by
  have b1 := bv_lt (gb l 1); have b2 := bv_lt (gb l 2); have b3 := bv_lt (gb l 3); have b4 := bv_lt (gb l 4)
  have n1 := bv_nn (gb l 1); have n2 := bv_nn (gb l 2); have n3 := bv_nn (gb l 3); have n4 := bv_nn (gb l 4)
  have e : (z : Int) / 16777216 = bv (gb l 1) := by
    rw [← h]; simp only [beV]; simp only [Nat.reduceAdd]; omega
  rw [e]
  exact ⟨fun h => bv_inj h, fun h => by rw [h]; rfl⟩
theorem BsS.ne {w : World} {S : Nat → Prop} {bb bo n c : Nat} {l : List UInt8} (h : BsS w S (.slice (some ⟨bb, bo, none⟩) n c) l) (hl : 0 < l.length) : S bb := by
  obtain ⟨_, _, hv, _, _, _, h4⟩ := h
  obtain ⟨_, _, e1, e2, _⟩ := h4 hl
  injection hv with e3 _ _
  rw [← e3] at e1
  injection e1 with e1
  injection e1 with e1 _ _
  rw [e1]; exact e2
set_option maxRecDepth 100000 in
set_option maxHeartbeats 1000000 in
theorem rlen_any (B : List UInt8) (bb bo bc p a e cnt : Nat) (st opn : Bool) (w : World) (hB : BsS w (· ≠ p) (.slice (some ⟨bb, bo, none⟩) B.length bc) B) (he : e ≤ B.length) (hr : Rd w p (.slice (some ⟨bb, bo, none⟩) B.length bc) a st cnt) (ha : a ≤ e) :
    Calls Try.prog 45 #[.pointer (some ⟨p, 0, none⟩), .int .i64 e, .bool opn] w (NumOut (sizeP (rst B a e) opn st) w p (.slice (some ⟨bb, bo, none⟩) B.length bc) a st cnt) := by
  have c0 := hr.c0; have c1 := hr.c1
  have hfz := hr.fr 1
  have hlen := hB.len
  have HR := Lib.hid hr; have HB := Lib.hid hB
  clear hr hB
  by_cases h0 : a = e
  · subst h0
    have E : Hid (sizeP (rst B a a) opn st = .error 6) := by unfold sizeP; rw [if_pos (by rw [rst_len he]; omega)]; rfl
    go_enter Try.func45, Try.ntmps45
    go_wp2_with fail
    go_ret2
    exact NumOut.no E.out _ HR.out (World.grownBy.refl w _)
  · have hlt : a < e := by omega
    have hl : a < B.length := by omega
    have q1 := HB.out.cellAt rfl hl
    have hbp : bb ≠ p := HB.out.ne (by omega)
    have b1 : (0 : Int) ≤ a := by omega
    have b2 : (a : Int) < B.length := by omega
    have g0 : gb (rst B a e) 0 = gb B a := gb_rst he (by omega)
    have hne : ¬ (rst B a e).length = 0 := by rw [rst_len he]; omega
    obtain ⟨x, hx⟩ : ∃ x : Nat, x = (gb B a).toNat := ⟨_, rfl⟩
    have ex : bv (gb B a) = x := by rw [hx]; rfl
    have hxl : x < 256 := by rw [hx]; exact UInt8.toNat_lt _
    change w.cell? _ = some (.int .u8 (bv (gb B a))) at q1
    rw [ex] at q1
    have E0 := Lib.hid (sizeP_at (rst B a e) (gb B a) x opn st hne g0 hx)
    have HX := Lib.hid hx
    clear g0 hne h0 hx ex
    by_cases h1 : x < 128
    · have E : Hid (sizeP (rst B a e) opn st = .ok ((x : Int), 1)) := by rw [E0.out, if_pos (by omega)]; rfl
      go_enter Try.func45, Try.ntmps45
      go_wp2_with fail
      go_quiet (fail)
      go_wp2_with fail
      go_ret2
      exact NumOut.yes E.out ((HR.out.drewN nq).at_ (a + 1) _ (by omega)) (only_setCell (only_drewN (World.grownBy.refl w _) nq) (.inl rfl) _)
    · by_cases h2 : 132 < x
      · have E : Hid (sizeP (rst B a e) opn st = .error 5) := by rw [E0.out, if_neg (by omega), if_pos (by omega)]; rfl
        go_enter Try.func45, Try.ntmps45
        go_wp2_with fail
        go_quiet (fail)
        go_wp2_with fail
        go_ret2
        exact NumOut.no E.out _ ((HR.out.drewN nq).at_ (a + 1) _ (by omega)) (only_setCell (only_drewN (World.grownBy.refl w _) nq) (.inl rfl) _)
      · by_cases h3 : x = 128
        · subst h3
          cases opn with
          | true =>
            have E : Hid (sizeP (rst B a e) true st = .ok (-1, 1)) := by rw [E0.out, if_neg (by omega), if_neg (by omega), if_pos (by omega), if_pos rfl]; rfl
            clear HX
            go_enter Try.func45, Try.ntmps45
            go_wp2_with fail
            go_quiet (fail)
            go_wp2_with fail
            go_ret2
            exact NumOut.yes E.out ((HR.out.drewN nq).at_ (a + 1) _ (by omega)) (only_setCell (only_drewN (World.grownBy.refl w _) nq) (.inl rfl) _)
          | false =>
            have E : Hid (sizeP (rst B a e) false st = .error 5) := by rw [E0.out, if_neg (by omega), if_neg (by omega), if_pos (by omega), if_neg (by decide)]; rfl
            clear HX
            go_enter Try.func45, Try.ntmps45
            go_wp2_with fail
            go_quiet (fail)
            go_wp2_with fail
            go_ret2
            exact NumOut.no E.out _ ((HR.out.drewN nq).at_ (a + 1) _ (by omega)) (only_setCell (only_drewN (World.grownBy.refl w _) nq) (.inl rfl) _)
        · obtain ⟨s, rfl, hs1, hs4⟩ : ∃ s : Nat, x = 128 + s ∧ 1 ≤ s ∧ s ≤ 4 := ⟨x - 128, by omega, by omega, by omega⟩
          have hand : bits .and .i64 (128 + (s : Int)) 15 = s := by
            have := bits_mask .i64 63 (by decide) (fun n a b => IntWalk.i64_in n ⟨by omega, by omega⟩) 4 (by decide) (128 + (s : Int)) (by omega) (by omega)
            rw [show (15 : Int) = 2 ^ 4 - 1 by decide, this]; omega
          have e15 : (15 : Int) = 2 ^ 4 - 1 := by decide
          have E1 := E0.out
          rw [if_neg (by omega), if_neg (by omega), if_neg (by omega), show 128 + s - 128 = s by omega] at E1
          clear E0 HX h1 h2 h3 e15
          by_cases h4 : e < a + 1 + s
          · have E : Hid (sizeP (rst B a e) opn st = .error 6) := by rw [E1, if_pos (by rw [rst_len he]; omega)]; rfl
            clear E1
            go_enter Try.func45, Try.ntmps45
            go_wp2_with fail
            go_quiet (fail)
            go_wp2_with fail
            go_ret2
            exact NumOut.no E.out _ ((HR.out.drewN nq).at_ (a + 1) _ (by omega)) (only_setCell (only_drewN (World.grownBy.refl w _) nq) (.inl rfl) _)
          · rw [if_neg (by rw [rst_len he]; omega)] at E1
            have E1 := Lib.hid E1
            have hg1 : gb (rst B a e) 1 = gb B (a + 1) := gb_rst he (by omega)
            obtain ⟨l, hL⟩ : ∃ l, l = rst B a e := ⟨_, rfl⟩
            have hgl : Hid (∀ j, a + j < e → gb l j = gb B (a + j)) := fun j hj => by rw [hL]; exact gb_rst he hj
            rw [← hL] at E1 ⊢
            clear hL
            have h5 : a + 1 + s ≤ e := by omega
            clear h4
            go_enter Try.func45, Try.ntmps45
            go_wp2_with fail
            go_quiet (fail)
            go_wp2_with fail
            go_loopg [10, 62] s (fun m n i wr => ∃ k : Nat, k + m = s ∧ i = .int .i64 k ∧ n = .int .i64 (beV l k) ∧ Rd wr p (.slice (some ⟨bb, bo, none⟩) B.length bc) (a + 1 + k) st cnt ∧ w.grownBy wr (some p))
            case atStart => exact ⟨0, by omega, rfl, rfl, (HR.out.drewN nq).at_ (a + 1) _ (by omega), only_setCell (only_drewN (World.grownBy.refl w _) nq) (.inl rfl) _⟩
            case round =>
              obtain ⟨k, hk, rfl, rfl, hr, hg⟩ := hrel
              by_cases hlt : k < s
              · obtain ⟨q, hq⟩ : ∃ q, q = a + 1 + k := ⟨_, rfl⟩
                have hql : q < B.length := by omega
                have hy0 := hgl.out (k + 1) (by omega)
                rw [show a + (k + 1) = q by omega] at hy0
                rw [← hq] at hr
                have q2 := (World.cell?_of_block (hg.block bb (block_lt_of_cell (HB.out.cellAt rfl hql)) (by intro e; injection e; exact hbp (by assumption)))).trans (HB.out.cellAt rfl hql)
                obtain ⟨x, hx⟩ := Int.eq_ofNat_of_zero_le (beV_nn l k)
                obtain ⟨y, hy⟩ : ∃ y : Nat, y = (gb B q).toNat := ⟨_, rfl⟩
                have ey : bv (gb B q) = y := by rw [hy]; rfl
                have hyl : y < 256 := by rw [hy]; exact UInt8.toNat_lt _
                have hxl : x < 16777216 := by
                  have h := beV_lt l k
                  have : (256 : Int) ^ k ≤ 256 ^ 3 := by
                    obtain h | h | h | h : k = 0 ∨ k = 1 ∨ k = 2 ∨ k = 3 := by omega
                    all_goals subst h; decide
                  omega
                have o1 := or_byte x y (by omega) hyl
                have E2 : Hid (beV l (k + 1) = (x : Int) * 256 + y) := by rw [beV, hy0, ey, hx, Int.mul_comm]; rfl
                change wr.cell? _ = some (.int .u8 (bv (gb B q))) at q2
                rw [ey] at q2
                rw [hx]
                have c0 := hr.c0; have c1 := hr.c1; have hfz := hr.fr 1
                have HR2 := Lib.hid hr; have HG := Lib.hid hg
                have b3 : (0 : Int) ≤ q := by omega
                have b4 : (q : Int) < B.length := by omega
                have hq1 : q + 1 = a + 1 + (k + 1) := by omega
                have HQ := Lib.hid hq1
                clear hr hg hy0 hy ey hx hq hq1 q1
                go_wp2_with fail
                go_quiet (fail)
                go_wp2_with fail
                go_roundg (s - (k + 1))
                case measure => omega
                case rel => exact ⟨k + 1, by omega, by go_num, by rw [E2.out], (HR2.out.drewN nq).at_ (a + 1 + (k + 1)) _ (by have := HQ.out; omega), only_setCell (only_drewN HG.out nq) (.inl rfl) _⟩
              · obtain rfl : k = s := by omega
                obtain ⟨z, hz⟩ := Int.eq_ofNat_of_zero_le (beV_nn l k)
                have hzl := beV_lt l k
                rw [hz] at E1 hzl ⊢
                have hr2 : Rd wr p (.slice (some ⟨bb, bo, none⟩) B.length bc) (a + (1 + k)) st cnt := by rw [← Nat.add_assoc]; exact hr
                have c0 := hr.c0; have c1 := hr.c1; have c2 := hr.c2
                have HR2 := Lib.hid hr2; have HG := Lib.hid hg
                have HZ := Lib.hid hz; have HZL := Lib.hid hzl
                clear hr hg hr2 hz hzl q1
                cases st with
                | false =>
                  have E : Hid (sizeP l opn false = .ok ((z : Int), 1 + k)) := by rw [E1.out, if_neg (by simp)]; rfl
                  go_wp2_with fail
                  go_ret2
                  exact NumOut.yes E.out HR2.out HG.out
                | true =>
                  by_cases h6 : z < 128
                  · have E : Hid (sizeP l opn true = .error 5) := by rw [E1.out, if_pos ⟨rfl, .inl (by omega)⟩]; rfl
                    go_wp2_with fail
                    go_ret2
                    exact NumOut.no E.out _ HR2.out HG.out
                  · have d6 : decide ((z : Int) < 128) = false := by simp; omega
                    obtain rfl | rfl | rfl | rfl : k = 1 ∨ k = 2 ∨ k = 3 ∨ k = 4 := by omega
                    · have E : Hid (sizeP l opn true = .ok ((z : Int), 1 + 1)) := by rw [E1.out, if_neg (by omega)]; rfl
                      have z0 : ((z : Int) == 0) = false := by simp; omega
                      go_wp2_with fail
                      go_ret2
                      exact NumOut.yes E.out HR2.out HG.out
                    · have tp := top_byte2 l z HZ.out
                      by_cases h7 : (z : Int) / 256 = 0
                      · have z0 : ((z : Int) / 256 == 0) = true := by simp [h7]
                        have E : Hid (sizeP l opn true = .error 5) := by rw [E1.out, if_pos ⟨rfl, .inr ⟨by omega, tp.1 h7⟩⟩]; rfl
                        clear tp h7
                        go_wp2_with fail
                        go_ret2
                        exact NumOut.no E.out _ HR2.out HG.out
                      · have z0 : ((z : Int) / 256 == 0) = false := by simp [h7]
                        have E : Hid (sizeP l opn true = .ok ((z : Int), 1 + 2)) := by rw [E1.out, if_neg (fun h => h.2.elim (by omega) fun h => h7 (tp.2 h.2))]; rfl
                        clear tp h7
                        go_wp2_with fail
                        go_ret2
                        exact NumOut.yes E.out HR2.out HG.out
                    · have tp := top_byte3 l z HZ.out
                      by_cases h7 : (z : Int) / 65536 = 0
                      · have z0 : ((z : Int) / 65536 == 0) = true := by simp [h7]
                        have E : Hid (sizeP l opn true = .error 5) := by rw [E1.out, if_pos ⟨rfl, .inr ⟨by omega, tp.1 h7⟩⟩]; rfl
                        clear tp h7
                        go_wp2_with fail
                        go_ret2
                        exact NumOut.no E.out _ HR2.out HG.out
                      · have z0 : ((z : Int) / 65536 == 0) = false := by simp [h7]
                        have E : Hid (sizeP l opn true = .ok ((z : Int), 1 + 3)) := by rw [E1.out, if_neg (fun h => h.2.elim (by omega) fun h => h7 (tp.2 h.2))]; rfl
                        clear tp h7
                        go_wp2_with fail
                        go_ret2
                        exact NumOut.yes E.out HR2.out HG.out
                    · have tp := top_byte4 l z HZ.out
                      by_cases h7 : (z : Int) / 16777216 = 0
                      · have z0 : ((z : Int) / 16777216 == 0) = true := by simp [h7]
                        have E : Hid (sizeP l opn true = .error 5) := by rw [E1.out, if_pos ⟨rfl, .inr ⟨by omega, tp.1 h7⟩⟩]; rfl
                        clear tp h7
                        go_wp2_with fail
                        go_ret2
                        exact NumOut.no E.out _ HR2.out HG.out
                      · have z0 : ((z : Int) / 16777216 == 0) = false := by simp [h7]
                        have E : Hid (sizeP l opn true = .ok ((z : Int), 1 + 4)) := by rw [E1.out, if_neg (fun h => h.2.elim (by omega) fun h => h7 (tp.2 h.2))]; rfl
                        clear tp h7
                        go_wp2_with fail
                        go_ret2
                        exact NumOut.yes E.out HR2.out HG.out
end Go.Proofs.Ytljalnfjneeieaa
